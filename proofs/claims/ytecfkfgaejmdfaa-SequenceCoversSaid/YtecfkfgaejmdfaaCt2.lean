/- Contracts of the program's functions, for every argument that meets the conditions that each theorem names. -/
import Derived.Test.YtecfkfgaejmdfaaCt1
import Derived.Test.YtecfkfgaejmdfaaAm5
section
set_option linter.unusedVariables false
set_option linter.unusedSimpArgs false
set_option maxRecDepth 20000
namespace Go.Am
open Go.Proofs

abbrev int (n : Int) : AV := .val (.int .i64 n)
noncomputable def EE : Env := ⟨Try.prog, fun _ => .undef⟩
def Short {α : Type} (l : List α) : Prop := l.length < 1152921504606846976
theorem int_closed (n : Int) : (int n).closed = true := rfl

/-- two numbers: a punctuation, an interval -/
structure Pt where
  a : Int
  b : Int
  deriving DecidableEq
structure Trk where
  next : Int
  bey : List Int
  pts : List Pt
  mark : Int
  deriving DecidableEq
def Pt.enc (p : Pt) : AV := .agg [int p.a, int p.b]
theorem Pt.closed (p : Pt) : p.enc.closed = true := rfl
noncomputable def Trk.enc (t : Trk) : AV := .agg [int t.next, .isl 1 (mapE int t.bey), .isl 2 (mapE Pt.enc t.pts), int t.mark]
theorem closedI (l : List Int) : (AV.isl 1 (mapE int l)).closed = true := by simp [AV.closed, closed_mapE int_closed]
theorem closedP (l : List Pt) : (AV.isl 2 (mapE Pt.enc l)).closed = true := by simp [AV.closed, closed_mapE Pt.closed]
theorem Trk.closed (t : Trk) : t.enc.closed = true := by simp [Trk.enc, AV.closed, AV.closedL, closed_mapE int_closed, closed_mapE Pt.closed]
structure Trk.Fine (t : Trk) : Prop where
  bey : Short t.bey
  pts : Short t.pts

def fewT (t : Trk) : Bool := decide (t.bey.length ≤ 300) && decide (t.pts.length ≤ 300)

theorem P10 (t : Trk) : PCall EE 10 [t.enc] (.val (.bool (fewT t))) := by
  unfold Trk.enc fewT
  have h1 : (mapE int t.bey).length = t.bey.length := mapE_len _ _
  have h2 : (mapE Pt.enc t.pts).length = t.pts.length := mapE_len _ _
  generalize mapE int t.bey = eb at *
  generalize mapE Pt.enc t.pts = ep at *
  rw [← h1, ← h2]
  generalize t.next = tn
  generalize t.mark = tk
  refine words fun iLt iLe iEq iNe iAdd iSub iMul iQuo iRem iShr iNeg iCvt iMax iMin bNot bEq bNe bAnd bOr sEq sNe sLen sCat sCut sAt lenA lenN iOf natOf atA atN cutA partA dropA catA setA repA putA idxN addN subN minN lenCut hX e_iLt e_iLe e_iEq e_iNe e_iAdd e_iSub e_iMul e_iQuo e_iRem e_iShr e_iNeg e_iCvt e_iMax e_iMin e_bNot e_bEq e_bNe e_bAnd e_bOr e_sEq e_sNe e_sLen e_sCat e_sCut e_sAt e_lenA e_lenN e_iOf e_natOf e_atA e_atN e_cutA e_partA e_dropA e_catA e_setA e_repA e_putA e_idxN e_addN e_subN e_minN e_lenCut ee => ?_
  refine fn_body (fn := Try.f10) (n := 13) (ac := Tryc10) (rvs := [.t 2]) rfl (by decide) Tryp10 rfl rfl rfl ?_
  refine go rfl hX 60 (by conv => lhs; cbv) ?_ ?_
  · first | exact trivial | (simp only [Cd.ok, ee]; and_intros <;> first | omega | rfl | (simp <;> omega))
  refine fn_ret rfl rfl (.val ?_)
  (congr 1; rw [Bool.eq_iff_iff]; simp [ee]; omega)


theorem P30 (xs ys : List Int) (hx : Short xs) : PCall EE 30 [.isl 1 (mapE int xs), .isl 1 (mapE int ys)] (.val (.bool (decide (xs = ys)))) := by
  unfold Short at hx
  refine words fun iLt iLe iEq iNe iAdd iSub iMul iQuo iRem iShr iNeg iCvt iMax iMin bNot bEq bNe bAnd bOr sEq sNe sLen sCat sCut sAt lenA lenN iOf natOf atA atN cutA partA dropA catA setA repA putA idxN addN subN minN lenCut hX e_iLt e_iLe e_iEq e_iNe e_iAdd e_iSub e_iMul e_iQuo e_iRem e_iShr e_iNeg e_iCvt e_iMax e_iMin e_bNot e_bEq e_bNe e_bAnd e_bOr e_sEq e_sNe e_sLen e_sCat e_sCut e_sAt e_lenA e_lenN e_iOf e_natOf e_atA e_atN e_cutA e_partA e_dropA e_catA e_setA e_repA e_putA e_idxN e_addN e_subN e_minN e_lenCut ee => ?_
  generalize hex : mapE int xs = ex
  generalize hey : mapE int ys = ey
  have hxl : ex.length = xs.length := by rw [← hex, mapE_len]
  have hyl : ey.length = ys.length := by rw [← hey, mapE_len]
  have hcx : (AV.isl 1 ex).closed = true := by rw [← hex]; exact closedI xs
  have hcy : (AV.isl 1 ey).closed = true := by rw [← hey]; exact closedI ys
  refine fn_body (fn := Try.f30) (n := 26) (ac := Tryc30) (rvs := [.t 4]) rfl (by decide) Tryp30 rfl rfl rfl ?_
  by_cases hl : xs.length = ys.length
  · have hne : iNe (lenA ex) (lenA ey) = false := by simp [ee]; omega
    refine go rfl hX 0 (by conv => lhs; cbv; try simp only [hne]; cbv; try simp only [hne]; cbv; try simp only [hne]; cbv; try simp only [hne]; cbv) ?_ ?_
    · first | exact trivial | (simp only [Cd.ok, ee]; and_intros <;> first | omega | rfl | (simp <;> omega))
    refine go rfl hX 60 (by conv => lhs; cbv) ?_ ?_
    · first | exact trivial | (simp only [Cd.ok, ee]; and_intros <;> first | omega | rfl | (simp <;> omega))
    refine on_loopP (ι := List Int × List Int × List Int × Int) (fun p => ([(5, int p.2.2.2), (0, .isl 1 ex), (1, .isl 1 ey), (4, .val (.bool false))], []))
      (fun p => xs = p.1 ++ p.2.1 ∧ ys = p.1 ++ p.2.2.1 ∧ p.2.2.2 = p.1.length) (fun p => p.2.1.length) ([], xs, ys, 0) ⟨rfl, rfl, rfl⟩ (ent_fw ⟨.refl _, .refl _, .refl _, .refl _, trivial⟩) ?_
    rintro ⟨d, r, r2, i⟩ ⟨h1, h2, hi⟩
    dsimp only at h1 h2 hi ⊢
    have hrl : r.length = r2.length := by
      have a := congrArg List.length h1
      have b := congrArg List.length h2
      rw [List.length_append] at a b
      omega
    cases r with
    | nil =>
      have hr2 : r2 = [] := by cases r2 with | nil => rfl | cons _ _ => simp at hrl
      subst hr2
      have heq : xs = ys := by rw [h1, h2]
      have L1 := len_split h1
      try simp only [List.length_cons, List.length_nil] at L1
      have hc : iLt i (lenA ex) = false := lt_f e_iLt e_lenA (by omega)
      refine go rfl hX 0 (by conv => lhs; cbv; try simp only [hc]; cbv; try simp only [hc]; cbv; try simp only [hc]; cbv; try simp only [hc]; cbv) ?_ ?_
      · first | exact trivial | (simp only [Cd.ok, ee]; and_intros <;> first | omega | rfl | (simp <;> omega))
      refine go rfl hX 60 (by conv => lhs; cbv) ?_ ?_
      · first | exact trivial | (simp only [Cd.ok, ee]; and_intros <;> first | omega | rfl | (simp <;> omega))
      refine loopP_exit ?_
      refine go rfl hX 60 (by conv => lhs; cbv) ?_ ?_
      · first | exact trivial | (simp only [Cd.ok, ee]; and_intros <;> first | omega | rfl | (simp <;> omega))
      refine fn_ret rfl rfl (.val ?_)
      simp [heq]
    | cons x r =>
      cases r2 with
      | nil => simp at hrl
      | cons y r2 =>
        have L1 := len_split h1
        try simp only [List.length_cons, List.length_nil] at L1
        have L2 := len_split h2
        try simp only [List.length_cons, List.length_nil] at L2
        have hc : iLt i (lenA ex) = true := lt_t e_iLt e_lenA (by omega)
        have hax := el_at e_atA hex h1 hi
        have hay := el_at e_atA hey h2 hi
        have hi' : iAdd .i64 i 1 = ((d ++ [x] : List Int).length : Int) := by
          simp only [List.length_append, List.length_cons, List.length_nil]; exact inc_w e_iAdd hi (by omega)
        have hneq : ¬ x = y → ¬ xs = ys := by
          intro hxy h
          rw [h1, h2] at h
          simp at h
          exact hxy h.1
        skip
        by_cases hxy : x = y
        · have hb : iNe x y = false := by simp [ee]; exact hxy
          refine go rfl hX 0 (by conv => lhs; cbv; try simp only [hc, hax, hay, hb]; cbv; try simp only [hc, hax, hay, hb]; cbv; try simp only [hc, hax, hay, hb]; cbv; try simp only [hc, hax, hay, hb]; cbv) ?_ ?_
          · first | exact trivial | (simp only [Cd.ok, ee]; and_intros <;> first | omega | rfl | (simp <;> omega))
          refine go rfl hX 1 (by conv => lhs; cbv; try simp only [hc, hax, hay, hb]; cbv; try simp only [hc, hax, hay, hb]; cbv; try simp only [hc, hax, hay, hb]; cbv; try simp only [hc, hax, hay, hb]; cbv) ?_ ?_
          · first | exact trivial | (simp only [Cd.ok, ee]; and_intros <;> first | omega | rfl | (simp <;> omega))
          refine go rfl hX 60 (by conv => lhs; cbv) ?_ ?_
          · first | exact trivial | (simp only [Cd.ok, ee]; and_intros <;> first | omega | rfl | (simp <;> omega))
          refine loopP_next (d ++ [x], r, r2, iAdd .i64 i 1) ⟨by simp [h1], by simp [h2, hxy], hi'⟩ (by simp) (ent_fw ⟨.refl _, .refl _, .refl _, .refl _, trivial⟩)
        · have hb : iNe x y = true := by simp [ee]; exact hxy
          have hne2 : ¬ xs = ys := hneq (by exact hxy)
          refine go rfl hX 0 (by conv => lhs; cbv; try simp only [hc, hax, hay, hb]; cbv; try simp only [hc, hax, hay, hb]; cbv; try simp only [hc, hax, hay, hb]; cbv; try simp only [hc, hax, hay, hb]; cbv) ?_ ?_
          · first | exact trivial | (simp only [Cd.ok, ee]; and_intros <;> first | omega | rfl | (simp <;> omega))
          refine go rfl hX 1 (by conv => lhs; cbv; try simp only [hc, hax, hay, hb]; cbv; try simp only [hc, hax, hay, hb]; cbv; try simp only [hc, hax, hay, hb]; cbv; try simp only [hc, hax, hay, hb]; cbv) ?_ ?_
          · first | exact trivial | (simp only [Cd.ok, ee]; and_intros <;> first | omega | rfl | (simp <;> omega))
          refine go rfl hX 60 (by conv => lhs; cbv) ?_ ?_
          · first | exact trivial | (simp only [Cd.ok, ee]; and_intros <;> first | omega | rfl | (simp <;> omega))
          refine loopP_ret ?_
          refine go rfl hX 60 (by conv => lhs; cbv) ?_ ?_
          · first | exact trivial | (simp only [Cd.ok, ee]; and_intros <;> first | omega | rfl | (simp <;> omega))
          refine fn_ret rfl rfl (.val ?_)
          simp [hne2]
  · have hne : iNe (lenA ex) (lenA ey) = true := by simp [ee]; omega
    have hne2 : ¬ xs = ys := by rintro rfl; exact hl rfl
    refine go rfl hX 0 (by conv => lhs; cbv; try simp only [hne]; cbv; try simp only [hne]; cbv; try simp only [hne]; cbv; try simp only [hne]; cbv) ?_ ?_
    · first | exact trivial | (simp only [Cd.ok, ee]; and_intros <;> first | omega | rfl | (simp <;> omega))
    refine go rfl hX 60 (by conv => lhs; cbv) ?_ ?_
    · first | exact trivial | (simp only [Cd.ok, ee]; and_intros <;> first | omega | rfl | (simp <;> omega))
    refine fn_ret rfl rfl (.val ?_)
    simp [hne2]


theorem P21 (xs ys : List Pt) (hx : Short xs) : PCall EE 21 [.isl 2 (mapE Pt.enc xs), .isl 2 (mapE Pt.enc ys)] (.val (.bool (decide (xs = ys)))) := by
  unfold Short at hx
  refine words fun iLt iLe iEq iNe iAdd iSub iMul iQuo iRem iShr iNeg iCvt iMax iMin bNot bEq bNe bAnd bOr sEq sNe sLen sCat sCut sAt lenA lenN iOf natOf atA atN cutA partA dropA catA setA repA putA idxN addN subN minN lenCut hX e_iLt e_iLe e_iEq e_iNe e_iAdd e_iSub e_iMul e_iQuo e_iRem e_iShr e_iNeg e_iCvt e_iMax e_iMin e_bNot e_bEq e_bNe e_bAnd e_bOr e_sEq e_sNe e_sLen e_sCat e_sCut e_sAt e_lenA e_lenN e_iOf e_natOf e_atA e_atN e_cutA e_partA e_dropA e_catA e_setA e_repA e_putA e_idxN e_addN e_subN e_minN e_lenCut ee => ?_
  generalize hex : mapE Pt.enc xs = ex
  generalize hey : mapE Pt.enc ys = ey
  have hxl : ex.length = xs.length := by rw [← hex, mapE_len]
  have hyl : ey.length = ys.length := by rw [← hey, mapE_len]
  have hcx : (AV.isl 2 ex).closed = true := by rw [← hex]; exact closedP xs
  have hcy : (AV.isl 2 ey).closed = true := by rw [← hey]; exact closedP ys
  refine fn_body (fn := Try.f21) (n := 26) (ac := Tryc21) (rvs := [.t 4]) rfl (by decide) Tryp21 rfl rfl rfl ?_
  by_cases hl : xs.length = ys.length
  · have hne : iNe (lenA ex) (lenA ey) = false := by simp [ee]; omega
    refine go rfl hX 0 (by conv => lhs; cbv; try simp only [hne]; cbv; try simp only [hne]; cbv; try simp only [hne]; cbv; try simp only [hne]; cbv) ?_ ?_
    · first | exact trivial | (simp only [Cd.ok, ee]; and_intros <;> first | omega | rfl | (simp <;> omega))
    refine go rfl hX 60 (by conv => lhs; cbv) ?_ ?_
    · first | exact trivial | (simp only [Cd.ok, ee]; and_intros <;> first | omega | rfl | (simp <;> omega))
    refine on_loopP (ι := List Pt × List Pt × List Pt × Int) (fun p => ([(5, int p.2.2.2), (0, .isl 2 ex), (1, .isl 2 ey), (4, .val (.bool false))], []))
      (fun p => xs = p.1 ++ p.2.1 ∧ ys = p.1 ++ p.2.2.1 ∧ p.2.2.2 = p.1.length) (fun p => p.2.1.length) ([], xs, ys, 0) ⟨rfl, rfl, rfl⟩ (ent_fw ⟨.refl _, .refl _, .refl _, .refl _, trivial⟩) ?_
    rintro ⟨d, r, r2, i⟩ ⟨h1, h2, hi⟩
    dsimp only at h1 h2 hi ⊢
    have hrl : r.length = r2.length := by
      have a := congrArg List.length h1
      have b := congrArg List.length h2
      rw [List.length_append] at a b
      omega
    cases r with
    | nil =>
      have hr2 : r2 = [] := by cases r2 with | nil => rfl | cons _ _ => simp at hrl
      subst hr2
      have heq : xs = ys := by rw [h1, h2]
      have L1 := len_split h1
      try simp only [List.length_cons, List.length_nil] at L1
      have hc : iLt i (lenA ex) = false := lt_f e_iLt e_lenA (by omega)
      refine go rfl hX 0 (by conv => lhs; cbv; try simp only [hc]; cbv; try simp only [hc]; cbv; try simp only [hc]; cbv; try simp only [hc]; cbv) ?_ ?_
      · first | exact trivial | (simp only [Cd.ok, ee]; and_intros <;> first | omega | rfl | (simp <;> omega))
      refine go rfl hX 60 (by conv => lhs; cbv) ?_ ?_
      · first | exact trivial | (simp only [Cd.ok, ee]; and_intros <;> first | omega | rfl | (simp <;> omega))
      refine loopP_exit ?_
      refine go rfl hX 60 (by conv => lhs; cbv) ?_ ?_
      · first | exact trivial | (simp only [Cd.ok, ee]; and_intros <;> first | omega | rfl | (simp <;> omega))
      refine fn_ret rfl rfl (.val ?_)
      simp [heq]
    | cons x r =>
      cases r2 with
      | nil => simp at hrl
      | cons y r2 =>
        have L1 := len_split h1
        try simp only [List.length_cons, List.length_nil] at L1
        have L2 := len_split h2
        try simp only [List.length_cons, List.length_nil] at L2
        have hc : iLt i (lenA ex) = true := lt_t e_iLt e_lenA (by omega)
        have hax := el_at e_atA hex h1 hi
        have hay := el_at e_atA hey h2 hi
        have hi' : iAdd .i64 i 1 = ((d ++ [x] : List Pt).length : Int) := by
          simp only [List.length_append, List.length_cons, List.length_nil]; exact inc_w e_iAdd hi (by omega)
        have hneq : ¬ x = y → ¬ xs = ys := by
          intro hxy h
          rw [h1, h2] at h
          simp at h
          exact hxy h.1
        obtain ⟨x1, x2⟩ := x
        obtain ⟨y1, y2⟩ := y
        dsimp only [Pt.enc] at hax hay
        by_cases hxy : (x1 = y1 ∧ x2 = y2)
        · have hb : bNot (bAnd (iEq x1 y1) (bAnd (iEq x2 y2) true)) = false := by simp [ee]; simp [hxy]
          refine go rfl hX 0 (by conv => lhs; cbv; try simp only [hc, hax, hay, hb]; cbv; try simp only [hc, hax, hay, hb]; cbv; try simp only [hc, hax, hay, hb]; cbv; try simp only [hc, hax, hay, hb]; cbv) ?_ ?_
          · first | exact trivial | (simp only [Cd.ok, ee]; and_intros <;> first | omega | rfl | (simp <;> omega))
          refine go rfl hX 1 (by conv => lhs; cbv; try simp only [hc, hax, hay, hb]; cbv; try simp only [hc, hax, hay, hb]; cbv; try simp only [hc, hax, hay, hb]; cbv; try simp only [hc, hax, hay, hb]; cbv) ?_ ?_
          · first | exact trivial | (simp only [Cd.ok, ee]; and_intros <;> first | omega | rfl | (simp <;> omega))
          refine go rfl hX 60 (by conv => lhs; cbv) ?_ ?_
          · first | exact trivial | (simp only [Cd.ok, ee]; and_intros <;> first | omega | rfl | (simp <;> omega))
          refine loopP_next (d ++ [⟨x1, x2⟩], r, r2, iAdd .i64 i 1) ⟨by simp [h1], by simp [h2, hxy], hi'⟩ (by simp) (ent_fw ⟨.refl _, .refl _, .refl _, .refl _, trivial⟩)
        · have hb : bNot (bAnd (iEq x1 y1) (bAnd (iEq x2 y2) true)) = true := by simp [ee]; omega
          have hne2 : ¬ xs = ys := hneq (by intro h; cases h; exact hxy ⟨rfl, rfl⟩)
          refine go rfl hX 0 (by conv => lhs; cbv; try simp only [hc, hax, hay, hb]; cbv; try simp only [hc, hax, hay, hb]; cbv; try simp only [hc, hax, hay, hb]; cbv; try simp only [hc, hax, hay, hb]; cbv) ?_ ?_
          · first | exact trivial | (simp only [Cd.ok, ee]; and_intros <;> first | omega | rfl | (simp <;> omega))
          refine go rfl hX 1 (by conv => lhs; cbv; try simp only [hc, hax, hay, hb]; cbv; try simp only [hc, hax, hay, hb]; cbv; try simp only [hc, hax, hay, hb]; cbv; try simp only [hc, hax, hay, hb]; cbv) ?_ ?_
          · first | exact trivial | (simp only [Cd.ok, ee]; and_intros <;> first | omega | rfl | (simp <;> omega))
          refine go rfl hX 60 (by conv => lhs; cbv) ?_ ?_
          · first | exact trivial | (simp only [Cd.ok, ee]; and_intros <;> first | omega | rfl | (simp <;> omega))
          refine loopP_ret ?_
          refine go rfl hX 60 (by conv => lhs; cbv) ?_ ?_
          · first | exact trivial | (simp only [Cd.ok, ee]; and_intros <;> first | omega | rfl | (simp <;> omega))
          refine fn_ret rfl rfl (.val ?_)
          simp [hne2]
  · have hne : iNe (lenA ex) (lenA ey) = true := by simp [ee]; omega
    have hne2 : ¬ xs = ys := by rintro rfl; exact hl rfl
    refine go rfl hX 0 (by conv => lhs; cbv; try simp only [hne]; cbv; try simp only [hne]; cbv; try simp only [hne]; cbv; try simp only [hne]; cbv) ?_ ?_
    · first | exact trivial | (simp only [Cd.ok, ee]; and_intros <;> first | omega | rfl | (simp <;> omega))
    refine go rfl hX 60 (by conv => lhs; cbv) ?_ ?_
    · first | exact trivial | (simp only [Cd.ok, ee]; and_intros <;> first | omega | rfl | (simp <;> omega))
    refine fn_ret rfl rfl (.val ?_)
    simp [hne2]

end Go.Am
end
section
set_option linter.unusedVariables false
set_option linter.unusedSimpArgs false
set_option maxRecDepth 20000
namespace Go.Am
open Go.Proofs

/-- the error of numbers behind 'last' -/
def ordF (last : Int) : List Int → Int
  | [] => 0
  | n :: r => if n < 0 ∨ n > 1099511627776 then 2 else if n ≤ last then 14 else ordF n r
def checkT (t : Trk) : Int := if t.next < 0 ∨ t.next > 1099511627777 then 2 else if 256 < t.bey.length then 5 else ordF t.next t.bey

theorem P16 (t : Trk) (hf : t.Fine) : PCall EE 16 [t.enc] (int (checkT t)) := by
  obtain ⟨hs, _⟩ := hf
  unfold Short at hs
  unfold Trk.enc checkT
  obtain ⟨tn, bey, pts, tk⟩ := t
  dsimp only at hs ⊢
  have hcb := closedI bey
  have hcp := closedP pts
  refine words fun iLt iLe iEq iNe iAdd iSub iMul iQuo iRem iShr iNeg iCvt iMax iMin bNot bEq bNe bAnd bOr sEq sNe sLen sCat sCut sAt lenA lenN iOf natOf atA atN cutA partA dropA catA setA repA putA idxN addN subN minN lenCut hX e_iLt e_iLe e_iEq e_iNe e_iAdd e_iSub e_iMul e_iQuo e_iRem e_iShr e_iNeg e_iCvt e_iMax e_iMin e_bNot e_bEq e_bNe e_bAnd e_bOr e_sEq e_sNe e_sLen e_sCat e_sCut e_sAt e_lenA e_lenN e_iOf e_natOf e_atA e_atN e_cutA e_partA e_dropA e_catA e_setA e_repA e_putA e_idxN e_addN e_subN e_minN e_lenCut ee => ?_
  generalize heb : mapE int bey = eb at *
  generalize mapE Pt.enc pts = ep at *
  have hbl : eb.length = bey.length := by rw [← heb, mapE_len]
  refine fn_body (fn := Try.f16) (n := 42) (ac := Tryc16) (rvs := [.t 2]) rfl (by decide) Tryp16 rfl rfl rfl ?_
  by_cases h0 : tn < 0 ∨ tn > 1099511627777
  · rw [if_pos h0]
    have hb : bOr (iLt tn 0) (iLt 1099511627777 tn) = true := by simp [ee]; omega
    refine go rfl hX 0 (by conv => lhs; cbv; try simp only [hb]; cbv; try simp only [hb]; cbv; try simp only [hb]; cbv; try simp only [hb]; cbv) ?_ ?_
    · first | exact trivial | (simp only [Cd.ok, ee]; and_intros <;> first | omega | rfl | (simp <;> omega))
    refine go rfl hX 60 (by conv => lhs; cbv) ?_ ?_
    · first | exact trivial | (simp only [Cd.ok, ee]; and_intros <;> first | omega | rfl | (simp <;> omega))
    refine fn_ret rfl rfl (.val ?_)
    rfl
  rw [if_neg h0]
  have hb0 : bOr (iLt tn 0) (iLt 1099511627777 tn) = false := by simp [ee]; omega
  by_cases h1 : 256 < bey.length
  · rw [if_pos h1]
    have hb : iLt 256 (lenA eb) = true := by simp [ee]; omega
    refine go rfl hX 0 (by conv => lhs; cbv; try simp only [hb0, hb]; cbv; try simp only [hb0, hb]; cbv; try simp only [hb0, hb]; cbv; try simp only [hb0, hb]; cbv) ?_ ?_
    · first | exact trivial | (simp only [Cd.ok, ee]; and_intros <;> first | omega | rfl | (simp <;> omega))
    refine go rfl hX 1 (by conv => lhs; cbv; try simp only [hb0, hb]; cbv; try simp only [hb0, hb]; cbv; try simp only [hb0, hb]; cbv; try simp only [hb0, hb]; cbv) ?_ ?_
    · first | exact trivial | (simp only [Cd.ok, ee]; and_intros <;> first | omega | rfl | (simp <;> omega))
    refine go rfl hX 60 (by conv => lhs; cbv) ?_ ?_
    · first | exact trivial | (simp only [Cd.ok, ee]; and_intros <;> first | omega | rfl | (simp <;> omega))
    refine fn_ret rfl rfl (.val ?_)
    rfl
  rw [if_neg h1]
  have hb1 : iLt 256 (lenA eb) = false := by simp [ee]; omega
  refine go rfl hX 0 (by conv => lhs; cbv; try simp only [hb0, hb1]; cbv; try simp only [hb0, hb1]; cbv; try simp only [hb0, hb1]; cbv; try simp only [hb0, hb1]; cbv) ?_ ?_
  · first | exact trivial | (simp only [Cd.ok, ee]; and_intros <;> first | omega | rfl | (simp <;> omega))
  refine go rfl hX 1 (by conv => lhs; cbv; try simp only [hb0, hb1]; cbv; try simp only [hb0, hb1]; cbv; try simp only [hb0, hb1]; cbv; try simp only [hb0, hb1]; cbv) ?_ ?_
  · first | exact trivial | (simp only [Cd.ok, ee]; and_intros <;> first | omega | rfl | (simp <;> omega))
  refine go rfl hX 60 (by conv => lhs; cbv) ?_ ?_
  · first | exact trivial | (simp only [Cd.ok, ee]; and_intros <;> first | omega | rfl | (simp <;> omega))
  refine on_loopP (ι := List Int × List Int × Int × Int) (fun p => ([(4, int p.2.2.1), (3, int p.2.2.2), (1, .ptr 0 0), (2, int 0)], [.cells [int tn, .isl 1 eb, .isl 2 ep, int tk]]))
    (fun p => bey = p.1 ++ p.2.1 ∧ p.2.2.1 = p.1.length ∧ ordF tn bey = ordF p.2.2.2 p.2.1) (fun p => p.2.1.length) ([], bey, 0, tn) ⟨rfl, rfl, rfl⟩ (ent_fw ⟨.refl _, .refl _, .refl _, .refl _, trivial⟩) ?_
  rintro ⟨d, r, i, last⟩ ⟨k1, hi, h2⟩
  dsimp only at k1 hi h2 ⊢
  rw [h2]
  cases r with
  | nil =>
    have L1 := len_split k1
    try simp only [List.length_cons, List.length_nil] at L1
    have hc : iLt i (lenA eb) = false := lt_f e_iLt e_lenA (by omega)
    refine go rfl hX 0 (by conv => lhs; cbv; try simp only [hc]; cbv; try simp only [hc]; cbv; try simp only [hc]; cbv; try simp only [hc]; cbv) ?_ ?_
    · first | exact trivial | (simp only [Cd.ok, ee]; and_intros <;> first | omega | rfl | (simp <;> omega))
    refine go rfl hX 60 (by conv => lhs; cbv) ?_ ?_
    · first | exact trivial | (simp only [Cd.ok, ee]; and_intros <;> first | omega | rfl | (simp <;> omega))
    refine loopP_exit ?_
    refine go rfl hX 60 (by conv => lhs; cbv) ?_ ?_
    · first | exact trivial | (simp only [Cd.ok, ee]; and_intros <;> first | omega | rfl | (simp <;> omega))
    refine fn_ret rfl rfl (.val ?_)
    rfl
  | cons n r =>
    have L1 := len_split k1
    try simp only [List.length_cons, List.length_nil] at L1
    have hc : iLt i (lenA eb) = true := lt_t e_iLt e_lenA (by omega)
    have hat := el_at e_atA heb k1 hi
    have hi' : iAdd .i64 i 1 = ((d ++ [n] : List Int).length : Int) := by
      simp only [List.length_append, List.length_cons, List.length_nil]; exact inc_w e_iAdd hi (by omega)
    rw [ordF] at h2 ⊢
    by_cases h3 : n < 0 ∨ n > 1099511627776
    · rw [if_pos h3]
      have hb : bOr (iLt n 0) (iLt 1099511627776 n) = true := by simp [ee]; omega
      refine go rfl hX 0 (by conv => lhs; cbv; try simp only [hc, hat, hb]; cbv; try simp only [hc, hat, hb]; cbv; try simp only [hc, hat, hb]; cbv; try simp only [hc, hat, hb]; cbv) ?_ ?_
      · first | exact trivial | (simp only [Cd.ok, ee]; and_intros <;> first | omega | rfl | (simp <;> omega))
      refine go rfl hX 1 (by conv => lhs; cbv; try simp only [hc, hat, hb]; cbv; try simp only [hc, hat, hb]; cbv; try simp only [hc, hat, hb]; cbv; try simp only [hc, hat, hb]; cbv) ?_ ?_
      · first | exact trivial | (simp only [Cd.ok, ee]; and_intros <;> first | omega | rfl | (simp <;> omega))
      refine go rfl hX 60 (by conv => lhs; cbv) ?_ ?_
      · first | exact trivial | (simp only [Cd.ok, ee]; and_intros <;> first | omega | rfl | (simp <;> omega))
      refine loopP_ret ?_
      refine go rfl hX 60 (by conv => lhs; cbv) ?_ ?_
      · first | exact trivial | (simp only [Cd.ok, ee]; and_intros <;> first | omega | rfl | (simp <;> omega))
      refine fn_ret rfl rfl (.val ?_)
      rfl
    rw [if_neg h3] at h2 ⊢
    have hb2 : bOr (iLt n 0) (iLt 1099511627776 n) = false := by simp [ee]; omega
    by_cases h4 : n ≤ last
    · rw [if_pos h4]
      have hb : iLe n last = true := by simp [ee]; omega
      refine go rfl hX 0 (by conv => lhs; cbv; try simp only [hc, hat, hb2, hb]; cbv; try simp only [hc, hat, hb2, hb]; cbv; try simp only [hc, hat, hb2, hb]; cbv; try simp only [hc, hat, hb2, hb]; cbv) ?_ ?_
      · first | exact trivial | (simp only [Cd.ok, ee]; and_intros <;> first | omega | rfl | (simp <;> omega))
      refine go rfl hX 1 (by conv => lhs; cbv; try simp only [hc, hat, hb2, hb]; cbv; try simp only [hc, hat, hb2, hb]; cbv; try simp only [hc, hat, hb2, hb]; cbv; try simp only [hc, hat, hb2, hb]; cbv) ?_ ?_
      · first | exact trivial | (simp only [Cd.ok, ee]; and_intros <;> first | omega | rfl | (simp <;> omega))
      refine go rfl hX 1 (by conv => lhs; cbv; try simp only [hc, hat, hb2, hb]; cbv; try simp only [hc, hat, hb2, hb]; cbv; try simp only [hc, hat, hb2, hb]; cbv; try simp only [hc, hat, hb2, hb]; cbv) ?_ ?_
      · first | exact trivial | (simp only [Cd.ok, ee]; and_intros <;> first | omega | rfl | (simp <;> omega))
      refine go rfl hX 60 (by conv => lhs; cbv) ?_ ?_
      · first | exact trivial | (simp only [Cd.ok, ee]; and_intros <;> first | omega | rfl | (simp <;> omega))
      refine loopP_ret ?_
      refine go rfl hX 60 (by conv => lhs; cbv) ?_ ?_
      · first | exact trivial | (simp only [Cd.ok, ee]; and_intros <;> first | omega | rfl | (simp <;> omega))
      refine fn_ret rfl rfl (.val ?_)
      rfl
    · rw [if_neg h4] at h2 ⊢
      have hb : iLe n last = false := by simp [ee]; omega
      rw [← h2]
      refine go rfl hX 0 (by conv => lhs; cbv; try simp only [hc, hat, hb2, hb]; cbv; try simp only [hc, hat, hb2, hb]; cbv; try simp only [hc, hat, hb2, hb]; cbv; try simp only [hc, hat, hb2, hb]; cbv) ?_ ?_
      · first | exact trivial | (simp only [Cd.ok, ee]; and_intros <;> first | omega | rfl | (simp <;> omega))
      refine go rfl hX 1 (by conv => lhs; cbv; try simp only [hc, hat, hb2, hb]; cbv; try simp only [hc, hat, hb2, hb]; cbv; try simp only [hc, hat, hb2, hb]; cbv; try simp only [hc, hat, hb2, hb]; cbv) ?_ ?_
      · first | exact trivial | (simp only [Cd.ok, ee]; and_intros <;> first | omega | rfl | (simp <;> omega))
      refine go rfl hX 1 (by conv => lhs; cbv; try simp only [hc, hat, hb2, hb]; cbv; try simp only [hc, hat, hb2, hb]; cbv; try simp only [hc, hat, hb2, hb]; cbv; try simp only [hc, hat, hb2, hb]; cbv) ?_ ?_
      · first | exact trivial | (simp only [Cd.ok, ee]; and_intros <;> first | omega | rfl | (simp <;> omega))
      refine go rfl hX 60 (by conv => lhs; cbv) ?_ ?_
      · first | exact trivial | (simp only [Cd.ok, ee]; and_intros <;> first | omega | rfl | (simp <;> omega))
      refine loopP_next (d ++ [n], r, iAdd .i64 i 1, n) ⟨by simp [k1], hi', h2⟩ (by simp) (ent_fw ⟨.refl _, .refl _, .refl _, .refl _, trivial⟩)

theorem P15 (t : Trk) (hf : t.Fine) : PCall EE 15 [t.enc] (int (checkT t)) := by
  obtain ⟨hs, _⟩ := hf
  unfold Short at hs
  unfold Trk.enc checkT
  obtain ⟨tn, bey, pts, tk⟩ := t
  dsimp only at hs ⊢
  have hcb := closedI bey
  have hcp := closedP pts
  refine words fun iLt iLe iEq iNe iAdd iSub iMul iQuo iRem iShr iNeg iCvt iMax iMin bNot bEq bNe bAnd bOr sEq sNe sLen sCat sCut sAt lenA lenN iOf natOf atA atN cutA partA dropA catA setA repA putA idxN addN subN minN lenCut hX e_iLt e_iLe e_iEq e_iNe e_iAdd e_iSub e_iMul e_iQuo e_iRem e_iShr e_iNeg e_iCvt e_iMax e_iMin e_bNot e_bEq e_bNe e_bAnd e_bOr e_sEq e_sNe e_sLen e_sCat e_sCut e_sAt e_lenA e_lenN e_iOf e_natOf e_atA e_atN e_cutA e_partA e_dropA e_catA e_setA e_repA e_putA e_idxN e_addN e_subN e_minN e_lenCut ee => ?_
  generalize heb : mapE int bey = eb at *
  generalize mapE Pt.enc pts = ep at *
  have hbl : eb.length = bey.length := by rw [← heb, mapE_len]
  refine fn_body (fn := Try.f15) (n := 42) (ac := Tryc15) (rvs := [.t 2]) rfl (by decide) Tryp15 rfl rfl rfl ?_
  by_cases h0 : tn < 0 ∨ tn > 1099511627777
  · rw [if_pos h0]
    have hb : bOr (iLt tn 0) (iLt 1099511627777 tn) = true := by simp [ee]; omega
    refine go rfl hX 0 (by conv => lhs; cbv; try simp only [hb]; cbv; try simp only [hb]; cbv; try simp only [hb]; cbv; try simp only [hb]; cbv) ?_ ?_
    · first | exact trivial | (simp only [Cd.ok, ee]; and_intros <;> first | omega | rfl | (simp <;> omega))
    refine go rfl hX 60 (by conv => lhs; cbv) ?_ ?_
    · first | exact trivial | (simp only [Cd.ok, ee]; and_intros <;> first | omega | rfl | (simp <;> omega))
    refine fn_ret rfl rfl (.val ?_)
    rfl
  rw [if_neg h0]
  have hb0 : bOr (iLt tn 0) (iLt 1099511627777 tn) = false := by simp [ee]; omega
  by_cases h1 : 256 < bey.length
  · rw [if_pos h1]
    have hb : iLt 256 (lenA eb) = true := by simp [ee]; omega
    refine go rfl hX 0 (by conv => lhs; cbv; try simp only [hb0, hb]; cbv; try simp only [hb0, hb]; cbv; try simp only [hb0, hb]; cbv; try simp only [hb0, hb]; cbv) ?_ ?_
    · first | exact trivial | (simp only [Cd.ok, ee]; and_intros <;> first | omega | rfl | (simp <;> omega))
    refine go rfl hX 1 (by conv => lhs; cbv; try simp only [hb0, hb]; cbv; try simp only [hb0, hb]; cbv; try simp only [hb0, hb]; cbv; try simp only [hb0, hb]; cbv) ?_ ?_
    · first | exact trivial | (simp only [Cd.ok, ee]; and_intros <;> first | omega | rfl | (simp <;> omega))
    refine go rfl hX 60 (by conv => lhs; cbv) ?_ ?_
    · first | exact trivial | (simp only [Cd.ok, ee]; and_intros <;> first | omega | rfl | (simp <;> omega))
    refine fn_ret rfl rfl (.val ?_)
    rfl
  rw [if_neg h1]
  have hb1 : iLt 256 (lenA eb) = false := by simp [ee]; omega
  refine go rfl hX 0 (by conv => lhs; cbv; try simp only [hb0, hb1]; cbv; try simp only [hb0, hb1]; cbv; try simp only [hb0, hb1]; cbv; try simp only [hb0, hb1]; cbv) ?_ ?_
  · first | exact trivial | (simp only [Cd.ok, ee]; and_intros <;> first | omega | rfl | (simp <;> omega))
  refine go rfl hX 1 (by conv => lhs; cbv; try simp only [hb0, hb1]; cbv; try simp only [hb0, hb1]; cbv; try simp only [hb0, hb1]; cbv; try simp only [hb0, hb1]; cbv) ?_ ?_
  · first | exact trivial | (simp only [Cd.ok, ee]; and_intros <;> first | omega | rfl | (simp <;> omega))
  refine go rfl hX 60 (by conv => lhs; cbv) ?_ ?_
  · first | exact trivial | (simp only [Cd.ok, ee]; and_intros <;> first | omega | rfl | (simp <;> omega))
  refine on_loopP (ι := List Int × List Int × Int × Int) (fun p => ([(25, int p.2.2.1), (24, int (lenA eb)), (23, .isl 1 eb), (3, int p.2.2.2), (1, .ptr 0 0), (2, int 0)], [.cells [int tn, .isl 1 eb, .isl 2 ep, int tk]]))
    (fun p => bey = p.1 ++ p.2.1 ∧ p.2.2.1 = p.1.length ∧ ordF tn bey = ordF p.2.2.2 p.2.1) (fun p => p.2.1.length) ([], bey, 0, tn) ⟨rfl, rfl, rfl⟩ (ent_fw ⟨.refl _, .refl _, .refl _, .refl _, .refl _, .refl _, trivial⟩) ?_
  rintro ⟨d, r, i, last⟩ ⟨k1, hi, h2⟩
  dsimp only at k1 hi h2 ⊢
  rw [h2]
  cases r with
  | nil =>
    have L1 := len_split k1
    try simp only [List.length_cons, List.length_nil] at L1
    have hc : iLt i (lenA eb) = false := lt_f e_iLt e_lenA (by omega)
    refine go rfl hX 0 (by conv => lhs; cbv; try simp only [hc]; cbv; try simp only [hc]; cbv; try simp only [hc]; cbv; try simp only [hc]; cbv) ?_ ?_
    · first | exact trivial | (simp only [Cd.ok, ee]; and_intros <;> first | omega | rfl | (simp <;> omega))
    refine go rfl hX 60 (by conv => lhs; cbv) ?_ ?_
    · first | exact trivial | (simp only [Cd.ok, ee]; and_intros <;> first | omega | rfl | (simp <;> omega))
    refine loopP_exit ?_
    refine go rfl hX 60 (by conv => lhs; cbv) ?_ ?_
    · first | exact trivial | (simp only [Cd.ok, ee]; and_intros <;> first | omega | rfl | (simp <;> omega))
    refine fn_ret rfl rfl (.val ?_)
    rfl
  | cons n r =>
    have L1 := len_split k1
    try simp only [List.length_cons, List.length_nil] at L1
    have hc : iLt i (lenA eb) = true := lt_t e_iLt e_lenA (by omega)
    have hat := el_at e_atA heb k1 hi
    have hi' : iAdd .i64 i 1 = ((d ++ [n] : List Int).length : Int) := by
      simp only [List.length_append, List.length_cons, List.length_nil]; exact inc_w e_iAdd hi (by omega)
    rw [ordF] at h2 ⊢
    by_cases h3 : n < 0 ∨ n > 1099511627776
    · rw [if_pos h3]
      have hb : bOr (iLt n 0) (iLt 1099511627776 n) = true := by simp [ee]; omega
      refine go rfl hX 0 (by conv => lhs; cbv; try simp only [hc, hat, hb]; cbv; try simp only [hc, hat, hb]; cbv; try simp only [hc, hat, hb]; cbv; try simp only [hc, hat, hb]; cbv) ?_ ?_
      · first | exact trivial | (simp only [Cd.ok, ee]; and_intros <;> first | omega | rfl | (simp <;> omega))
      refine go rfl hX 1 (by conv => lhs; cbv; try simp only [hc, hat, hb]; cbv; try simp only [hc, hat, hb]; cbv; try simp only [hc, hat, hb]; cbv; try simp only [hc, hat, hb]; cbv) ?_ ?_
      · first | exact trivial | (simp only [Cd.ok, ee]; and_intros <;> first | omega | rfl | (simp <;> omega))
      refine go rfl hX 60 (by conv => lhs; cbv) ?_ ?_
      · first | exact trivial | (simp only [Cd.ok, ee]; and_intros <;> first | omega | rfl | (simp <;> omega))
      refine loopP_ret ?_
      refine go rfl hX 60 (by conv => lhs; cbv) ?_ ?_
      · first | exact trivial | (simp only [Cd.ok, ee]; and_intros <;> first | omega | rfl | (simp <;> omega))
      refine fn_ret rfl rfl (.val ?_)
      rfl
    rw [if_neg h3] at h2 ⊢
    have hb2 : bOr (iLt n 0) (iLt 1099511627776 n) = false := by simp [ee]; omega
    by_cases h4 : n ≤ last
    · rw [if_pos h4]
      have hb : iLe n last = true := by simp [ee]; omega
      refine go rfl hX 0 (by conv => lhs; cbv; try simp only [hc, hat, hb2, hb]; cbv; try simp only [hc, hat, hb2, hb]; cbv; try simp only [hc, hat, hb2, hb]; cbv; try simp only [hc, hat, hb2, hb]; cbv) ?_ ?_
      · first | exact trivial | (simp only [Cd.ok, ee]; and_intros <;> first | omega | rfl | (simp <;> omega))
      refine go rfl hX 1 (by conv => lhs; cbv; try simp only [hc, hat, hb2, hb]; cbv; try simp only [hc, hat, hb2, hb]; cbv; try simp only [hc, hat, hb2, hb]; cbv; try simp only [hc, hat, hb2, hb]; cbv) ?_ ?_
      · first | exact trivial | (simp only [Cd.ok, ee]; and_intros <;> first | omega | rfl | (simp <;> omega))
      refine go rfl hX 1 (by conv => lhs; cbv; try simp only [hc, hat, hb2, hb]; cbv; try simp only [hc, hat, hb2, hb]; cbv; try simp only [hc, hat, hb2, hb]; cbv; try simp only [hc, hat, hb2, hb]; cbv) ?_ ?_
      · first | exact trivial | (simp only [Cd.ok, ee]; and_intros <;> first | omega | rfl | (simp <;> omega))
      refine go rfl hX 60 (by conv => lhs; cbv) ?_ ?_
      · first | exact trivial | (simp only [Cd.ok, ee]; and_intros <;> first | omega | rfl | (simp <;> omega))
      refine loopP_ret ?_
      refine go rfl hX 60 (by conv => lhs; cbv) ?_ ?_
      · first | exact trivial | (simp only [Cd.ok, ee]; and_intros <;> first | omega | rfl | (simp <;> omega))
      refine fn_ret rfl rfl (.val ?_)
      rfl
    · rw [if_neg h4] at h2 ⊢
      have hb : iLe n last = false := by simp [ee]; omega
      rw [← h2]
      refine go rfl hX 0 (by conv => lhs; cbv; try simp only [hc, hat, hb2, hb]; cbv; try simp only [hc, hat, hb2, hb]; cbv; try simp only [hc, hat, hb2, hb]; cbv; try simp only [hc, hat, hb2, hb]; cbv) ?_ ?_
      · first | exact trivial | (simp only [Cd.ok, ee]; and_intros <;> first | omega | rfl | (simp <;> omega))
      refine go rfl hX 1 (by conv => lhs; cbv; try simp only [hc, hat, hb2, hb]; cbv; try simp only [hc, hat, hb2, hb]; cbv; try simp only [hc, hat, hb2, hb]; cbv; try simp only [hc, hat, hb2, hb]; cbv) ?_ ?_
      · first | exact trivial | (simp only [Cd.ok, ee]; and_intros <;> first | omega | rfl | (simp <;> omega))
      refine go rfl hX 1 (by conv => lhs; cbv; try simp only [hc, hat, hb2, hb]; cbv; try simp only [hc, hat, hb2, hb]; cbv; try simp only [hc, hat, hb2, hb]; cbv; try simp only [hc, hat, hb2, hb]; cbv) ?_ ?_
      · first | exact trivial | (simp only [Cd.ok, ee]; and_intros <;> first | omega | rfl | (simp <;> omega))
      refine go rfl hX 60 (by conv => lhs; cbv) ?_ ?_
      · first | exact trivial | (simp only [Cd.ok, ee]; and_intros <;> first | omega | rfl | (simp <;> omega))
      refine loopP_next (d ++ [n], r, iAdd .i64 i 1, n) ⟨by simp [k1], hi', h2⟩ (by simp) (ent_fw ⟨.refl _, .refl _, .refl _, .refl _, .refl _, .refl _, trivial⟩)


def Trk0 : Trk := ⟨0, [], [], 0⟩
def TrkB : Trk := ⟨0, [], [], -1⟩

end Go.Am
end
section
set_option linter.unusedVariables false
set_option linter.unusedSimpArgs false
set_option maxRecDepth 20000
namespace Go.Am
open Go.Proofs

theorem fitL {α : Type} {k : Nat} {enc : α → AV} (h : ∀ x, fitB k [enc x] = true) (l : List α) : fitB k (mapE enc l) = true := by
  rw [mapE_eq, fitB, List.all_map, List.all_eq_true]
  intro x _
  have := h x
  simpa [fitB] using this

theorem fitI (n : Int) : fitB 1 [int n] = true := rfl
theorem fitP (p : Pt) : fitB 2 [p.enc] = true := rfl

theorem P32 (l : List Int) (hl : l.length < 500000000000) : OCall EE 32 [.isl 1 (mapE int l)] (.sl 0 1 0 l.length) [.arr 1 (mapE int l)] := by
  refine words fun iLt iLe iEq iNe iAdd iSub iMul iQuo iRem iShr iNeg iCvt iMax iMin bNot bEq bNe bAnd bOr sEq sNe sLen sCat sCut sAt lenA lenN iOf natOf atA atN cutA partA dropA catA setA repA putA idxN addN subN minN lenCut hX e_iLt e_iLe e_iEq e_iNe e_iAdd e_iSub e_iMul e_iQuo e_iRem e_iShr e_iNeg e_iCvt e_iMax e_iMin e_bNot e_bEq e_bNe e_bAnd e_bOr e_sEq e_sNe e_sLen e_sCat e_sCut e_sAt e_lenA e_lenN e_iOf e_natOf e_atA e_atN e_cutA e_partA e_dropA e_catA e_setA e_repA e_putA e_idxN e_addN e_subN e_minN e_lenCut ee => ?_
  have hcl : AV.closedL (mapE int l) = true := closed_mapE int_closed _
  have hfit := fitL (k := 1) (enc := int) fitI l
  generalize hes : mapE int l = es at *
  have hel : es.length = l.length := by rw [← hes, mapE_len]
  generalize hn : l.length = n at *
  refine ocall_body (fn := Try.f32) (n := 8) (ac := Tryc32) (rvs := [.t 2]) rfl (by decide) Tryp32 rfl rfl rfl ?_
  refine go rfl hX 0 (by conv => lhs; cbv) ?_ ?_
  · first | exact trivial | (simp only [Cd.ok, ee]; and_intros <;> first | omega | rfl | (simp <;> omega))
  refine on_eqnilI rfl rfl rfl rfl (fun t ht => ?_)
  refine go rfl hX 0 (by conv => lhs; cbv) ?_ ?_
  · first | exact trivial | (simp only [Cd.ok, ee]; and_intros <;> first | omega | rfl | (simp <;> omega))
  refine on_cond rfl (fun h1 => ?_) (fun h1 => ?_)
  · have he := ht h1
    subst he
    simp at hel
    subst hel
    refine go rfl hX 0 (by conv => lhs; cbv) ?_ ?_
    · first | exact trivial | (simp only [Cd.ok, ee]; and_intros <;> first | omega | rfl | (simp <;> omega))
    exact o_ret (F2 := [(2, .sl 0 1 0 0)]) (H2 := [.arr 1 []]) (ent_sub [] [none] trivial ⟨.none 1 rfl, trivial⟩ ⟨.nilS 0 1 0 (by simp), trivial⟩) rfl ⟨rfl, rfl⟩
  · refine go rfl hX 0 (by conv => lhs; cbv) ?_ ?_
    · simp only [Cd.ok, ee]; (and_intros <;> first | omega | rfl | exact hfit | simp [fitB])
    refine o_ret (F2 := [(2, .sl 0 1 0 n)]) (H2 := [.arr 1 es]) (ent_sub [.gone, .to 0] [some 1] ⟨trivial, ⟨by simp, rfl⟩, trivial⟩ ⟨osrc_arr (b := 1) rfl rfl rfl ?_ hcl, trivial⟩ ⟨.of ?_, trivial⟩) rfl ⟨rfl, rfl⟩
    · simp [ee]
    · simp only [ee]
      show AV.sl 0 1 0 (0 + es.length) = _
      rw [Nat.zero_add, hel]

theorem P33 (l : List Pt) (hl : l.length < 500000000000) : OCall EE 33 [.isl 2 (mapE Pt.enc l)] (.sl 0 2 0 l.length) [.arr 2 (mapE Pt.enc l)] := by
  refine words fun iLt iLe iEq iNe iAdd iSub iMul iQuo iRem iShr iNeg iCvt iMax iMin bNot bEq bNe bAnd bOr sEq sNe sLen sCat sCut sAt lenA lenN iOf natOf atA atN cutA partA dropA catA setA repA putA idxN addN subN minN lenCut hX e_iLt e_iLe e_iEq e_iNe e_iAdd e_iSub e_iMul e_iQuo e_iRem e_iShr e_iNeg e_iCvt e_iMax e_iMin e_bNot e_bEq e_bNe e_bAnd e_bOr e_sEq e_sNe e_sLen e_sCat e_sCut e_sAt e_lenA e_lenN e_iOf e_natOf e_atA e_atN e_cutA e_partA e_dropA e_catA e_setA e_repA e_putA e_idxN e_addN e_subN e_minN e_lenCut ee => ?_
  have hcl : AV.closedL (mapE Pt.enc l) = true := closed_mapE Pt.closed _
  have hfit := fitL (k := 2) (enc := Pt.enc) fitP l
  generalize hes : mapE Pt.enc l = es at *
  have hel : es.length = l.length := by rw [← hes, mapE_len]
  generalize hn : l.length = n at *
  refine ocall_body (fn := Try.f33) (n := 8) (ac := Tryc33) (rvs := [.t 2]) rfl (by decide) Tryp33 rfl rfl rfl ?_
  refine go rfl hX 0 (by conv => lhs; cbv) ?_ ?_
  · first | exact trivial | (simp only [Cd.ok, ee]; and_intros <;> first | omega | rfl | (simp <;> omega))
  refine on_eqnilI rfl rfl rfl rfl (fun t ht => ?_)
  refine go rfl hX 0 (by conv => lhs; cbv) ?_ ?_
  · first | exact trivial | (simp only [Cd.ok, ee]; and_intros <;> first | omega | rfl | (simp <;> omega))
  refine on_cond rfl (fun h1 => ?_) (fun h1 => ?_)
  · have he := ht h1
    subst he
    simp at hel
    subst hel
    refine go rfl hX 0 (by conv => lhs; cbv) ?_ ?_
    · first | exact trivial | (simp only [Cd.ok, ee]; and_intros <;> first | omega | rfl | (simp <;> omega))
    exact o_ret (F2 := [(2, .sl 0 2 0 0)]) (H2 := [.arr 2 []]) (ent_sub [] [none] trivial ⟨.none 2 rfl, trivial⟩ ⟨.nilS 0 2 0 (by simp), trivial⟩) rfl ⟨rfl, rfl⟩
  · refine go rfl hX 0 (by conv => lhs; cbv) ?_ ?_
    · simp only [Cd.ok, ee]; (and_intros <;> first | omega | rfl | exact hfit | simp [fitB])
    refine o_ret (F2 := [(2, .sl 0 2 0 n)]) (H2 := [.arr 2 es]) (ent_sub [.gone, .to 0] [some 1] ⟨trivial, ⟨by simp, rfl⟩, trivial⟩ ⟨osrc_arr (b := 1) rfl rfl rfl ?_ hcl, trivial⟩ ⟨.of ?_, trivial⟩) rfl ⟨rfl, rfl⟩
    · simp [ee]
    · simp only [ee]
      show AV.sl 0 2 0 (0 + es.length) = _
      rw [Nat.zero_add, hel]
end Go.Am
end
section
set_option linter.unusedVariables false
set_option linter.unusedSimpArgs false
set_option maxRecDepth 20000
namespace Go.Am
open Go.Proofs

theorem closed1 {v : AV} (h : v.closed = true) : AV.closedL [v] = true := by simp [AV.closedL, h]
theorem closedL_app2 : ∀ {a b : List AV}, AV.closedL (a ++ b) = true → AV.closedL a = true ∧ AV.closedL b = true
  | [], b, h => ⟨rfl, h⟩
  | x :: a, b, h => by
    simp only [List.cons_append, AV.closedL, Bool.and_eq_true] at h ⊢
    have := closedL_app2 h.2
    exact ⟨⟨h.1, this.1⟩, this.2⟩
theorem ov50 {H : AHeap} {ea eb : List AV} {x0 x1 : AV} (h0 : SlOf 1 1 x0) (h1 : SlOf 0 1 x1) (hka : H[1]? = some (.arr 1 ea)) (hkb : H[0]? = some (.arr 1 eb)) :
    ∀ K w ys, HRep EE K w H → VReps K H.length w [x0, x1] ys → ∃ y, (callFunc 50 ys.toArray).run EE.P w = .ok (.value y) w ∧ VRep K H.length w (.val (.bool false)) y :=
  overlaps_own (fn := Try.f50) (tS := 22) (tR := 4) rfl (by decide) rfl (by rfl) (by rfl) rfl rfl h0 h1 (by decide) hka hkb (by decide)

set_option maxHeartbeats 2000000 in
theorem P43 (es : List AV) (x : AV) (i : Nat) (hi : i ≤ es.length) (hn : es.length < 500000000000) (hce : AV.closedL es = true) (hcx : x.closed = true) (hfe : fitB 1 es = true) (hfx : fitB 1 [x] = true) :
    ACall EE 43 [.sl 0 1 0 es.length, int i, .sl 1 1 0 1] [.arr 1 es, .arr 1 [x]] fun v' H' => v' = .sl 2 1 0 (es.length + 1) ∧ H' = [.dead, .dead, .arr 1 (es.take i ++ x :: es.drop i)] := by
  refine words fun iLt iLe iEq iNe iAdd iSub iMul iQuo iRem iShr iNeg iCvt iMax iMin bNot bEq bNe bAnd bOr sEq sNe sLen sCat sCut sAt lenA lenN iOf natOf atA atN cutA partA dropA catA setA repA putA idxN addN subN minN lenCut hX e_iLt e_iLe e_iEq e_iNe e_iAdd e_iSub e_iMul e_iQuo e_iRem e_iShr e_iNeg e_iCvt e_iMax e_iMin e_bNot e_bEq e_bNe e_bAnd e_bOr e_sEq e_sNe e_sLen e_sCat e_sCut e_sAt e_lenA e_lenN e_iOf e_natOf e_atA e_atN e_cutA e_partA e_dropA e_catA e_setA e_repA e_putA e_idxN e_addN e_subN e_minN e_lenCut ee => ?_
  generalize hnl : es.length = n at *
  generalize hiI : (i : Int) = iI
  refine rcall_body (fn := Try.f43) (n := 95) (ac := Tryc43) (rvs := [.t 6]) rfl Tryp43 rfl rfl rfl ?_
  refine go rfl hX 0 (by conv => lhs; cbv) ?_ ?_
  · first | exact trivial | (simp only [Cd.ok, ee]; and_intros <;> first | omega | rfl | (simp <;> omega))
  refine on_cond rfl (fun h1 => ?_) (fun h1 => ?_)
  · exfalso
    simp [ee, decide_eq_true_eq, decide_eq_false_iff_not, Bool.and_eq_true, Bool.or_eq_true, Bool.not_eq_true', Bool.not_eq_false', Bool.and_eq_false_iff, Bool.or_eq_false_iff, bne_iff_ne, beq_iff_eq, beq_eq_false_iff_ne, bne_eq_false_iff_eq, ne_eq, Int.not_lt, Int.not_le, Decidable.not_not] at h1
  refine go rfl hX 0 (by conv => lhs; cbv) ?_ ?_
  · first | exact trivial | (simp only [Cd.ok, ee]; and_intros <;> first | omega | rfl | (simp <;> omega))
  refine on_cond rfl (fun h2 => ?_) (fun h2 => ?_)
  · simp [ee, decide_eq_true_eq, decide_eq_false_iff_not, Bool.and_eq_true, Bool.or_eq_true, Bool.not_eq_true', Bool.not_eq_false', Bool.and_eq_false_iff, Bool.or_eq_false_iff, bne_iff_ne, beq_iff_eq, beq_eq_false_iff_ne, bne_eq_false_iff_eq, ne_eq, Int.not_lt, Int.not_le, Decidable.not_not] at h2
    refine go rfl hX 0 (by conv => lhs; cbv) ?_ ?_
    · first | exact trivial | (simp only [Cd.ok, ee]; and_intros <;> first | omega | rfl | (simp <;> omega))
    have hin : i = n := by omega
    refine o_ret (F2 := [(6, .sl 2 1 0 (n + 1))]) (H2 := [.dead, .dead, .arr 1 (es ++ [x])]) (ent_subN [.gone, .gone, .to 2] [some 0, some 1, some 2] ⟨rfl, rfl, trivial⟩ (by simp) (by simp) ⟨trivial, trivial, ⟨by simp, rfl⟩, trivial⟩ ⟨.dead, .dead, osrc_arr (b := 2) rfl rfl rfl ?_ ?_, trivial⟩ ⟨.of ?_, trivial⟩) rfl ⟨rfl, ?_⟩
    · simp [ee]
    · exact closedL_append hce (closed1 hcx)
    · simp only [ee]
      rfl
    · rw [hin, ← hnl]; simp
  simp [ee, decide_eq_true_eq, decide_eq_false_iff_not, Bool.and_eq_true, Bool.or_eq_true, Bool.not_eq_true', Bool.not_eq_false', Bool.and_eq_false_iff, Bool.or_eq_false_iff, bne_iff_ne, beq_iff_eq, beq_eq_false_iff_ne, bne_eq_false_iff_eq, ne_eq, Int.not_lt, Int.not_le, Decidable.not_not] at h2
  have hlt : i < n := by omega
  refine on_cap 0 0 1 0 n rfl rfl (by omega) (by omega) (by simp) (fun c hc => ?_)
  have hJl : (es ++ List.replicate (c - n) (junkE 1)).length = c := by simp [hnl]; omega
  have hJt : (es ++ List.replicate (c - n) (junkE 1)).take n = es := by rw [← hnl, List.take_left' rfl]
  have hcJ : AV.closedL (es ++ List.replicate (c - n) (junkE 1)) = true := by
    refine closedL_append hce ?_
    generalize c - n = q
    induction q with
    | zero => rfl
    | succ q ih => rw [List.replicate_succ]; exact closedL_append (a := [junkE 1]) rfl ih
  generalize es ++ List.replicate (c - n) (junkE 1) = J at hJl hJt hcJ
  have hs1 : iAdd .i64 (iOf n) (iOf 1) = (n : Int) + 1 := by rw [e_iOf]; exact add_w e_iAdd (by simp [Wd.iOf]; omega) (by simp [Wd.iOf]; omega)
  have hs3 : iAdd .i64 iI (iOf 1) = iI + 1 := by rw [e_iOf]; exact add_w e_iAdd (by simp [Wd.iOf]; omega) (by simp [Wd.iOf]; omega)
  have hs2 : iSub .i64 ((n : Int) + 1) iI = (n : Int) + 1 - iI := by rw [e_iSub]; simp [Wd.iSub, IntKind.wrap_i64]; omega
  generalize hn1 : (n : Int) + 1 = n1 at hs1 hs2
  generalize hi1 : iI + 1 = i1 at hs3
  generalize hr : n1 - iI = r at hs2
  have hr2 : r = ((n + 1 - i : Nat) : Int) := by omega
  have f1 : idxN 0 0 = 0 := by simp [ee]
  have f2 : lenCut 0 iI = i := by simp [ee]; omega
  have f3 : addN i (natOf r) = n + 1 := by simp [ee]; omega
  have f4 : idxN 0 iI = i := by simp [ee]; omega
  have f5 : lenCut iI (iOf (n + 1)) = n + 1 - i := by simp [ee]; omega
  have f5b : lenCut iI n1 = n + 1 - i := by simp [ee]; omega
  have f6 : partA [x] 0 1 = [x] := by simp [ee]
  have f6b : lenN [x] = 1 := by simp [ee]
  have f7 : minN 1 (n + 1 - i) = 1 := by simp [ee]; omega
  have f8 : idxN 0 i1 = i + 1 := by simp [ee]; omega
  have f9 : lenCut i1 (iOf (n + 1)) = n - i := by simp [ee]; omega
  have f10 : lenCut iI (iOf n) = n - i := by simp [ee]; omega
  have f13 : lenCut 0 n1 = n + 1 := by simp [ee]; omega
  have f14 : subN c 0 = c := by simp [ee]
  have hdl : (es.drop i).length = n - i := by simp [hnl]
  have f11 : partA J i (n - i) = es.drop i := by
    simp only [ee]
    rw [← hJt, List.drop_take]
  have f15 : partA J 0 i = es.take i := by
    simp only [ee]
    rw [← hJt, List.drop_zero, List.take_take, Nat.min_eq_left hi]
  have f11b : lenN (es.drop i) = n - i := by simp [ee]; omega
  have f12 : minN (n - i) (n - i) = n - i := by simp [ee]
  have hfd : fitB 1 (es.drop i) = true := by
    rw [fitB, List.all_eq_true] at hfe ⊢
    exact fun y hy => hfe y (List.mem_of_mem_drop hy)
  have hft : fitB 1 (es.take i) = true := by
    rw [fitB, List.all_eq_true] at hfe ⊢
    exact fun y hy => hfe y (List.mem_of_mem_take hy)
  obtain ⟨z, hz⟩ : ∃ z, z = AV.val (.int .i64 0) := ⟨_, rfl⟩
  have htl : (es.take i).length = i := by simp [hnl]; omega
  have hcB : AV.closedL (es.take i ++ x :: es.drop i) = true := by
    rw [show es.take i ++ x :: es.drop i = es.take i ++ [x] ++ es.drop i by simp]
    have hc2 := hce
    rw [← List.take_append_drop i es] at hc2
    refine closedL_append (closedL_append ?_ (closed1 hcx)) ?_
    · exact (closedL_app2 hc2).1
    · exact (closedL_app2 hc2).2
  have hA1 : putA (catA (es.take i) (repA r z)) i 1 [x] = es.take i ++ x :: List.replicate (n - i) z := by
    simp only [ee, putE]
    have hrn : r.toNat = n - i + 1 := by omega
    rw [hrn, List.take_left' htl, List.replicate_succ, List.append_assoc, ← List.drop_drop, List.drop_left' htl]
    rfl
  have hA2 : putA (es.take i ++ x :: List.replicate (n - i) z) (i + 1) (n - i) (es.drop i) = es.take i ++ x :: es.drop i := by
    simp only [ee, putE]
    have g1 : ((es.take i ++ [x]) ++ List.replicate (n - i) z).drop (i + 1 + (n - i)) = [] := List.drop_of_length_le (by simp only [List.length_append, htl, List.length_replicate, List.length_cons, List.length_nil]; omega)
    have g2 : ((es.take i ++ [x]) ++ List.replicate (n - i) z).take (i + 1) = es.take i ++ [x] := List.take_left' (by simp [htl])
    rw [show es.take i ++ x :: List.replicate (n - i) z = (es.take i ++ [x]) ++ List.replicate (n - i) z by simp, g1, g2, List.take_of_length_le (Nat.le_of_eq hdl)]
    simp
  have hB1l : (es.take i ++ x :: List.replicate (n - i) z).length = n + 1 := by simp [hnl]; omega
  have hK : ∃ K, partA J i (n + 1 - i) = K ∧ K.take (n - i) = es.drop i ∧ (n + 1 ≤ c → K.length = n + 1 - i) := by
    refine ⟨_, rfl, ?_⟩
    simp only [ee]
    refine ⟨?_, fun hnc => by simp; omega⟩
    rw [List.take_take, Nat.min_eq_left (by omega), ← hJt, List.drop_take]
  obtain ⟨K, hK1, hK2, hK3⟩ := hK
  have f18 : minN (n + 1 - i) (n - i) = n - i := by simp [ee]; omega
  have hfK : fitB 1 (K.take (n - i)) = true := by rw [hK2]; exact hfd
  have hA3 : ∃ G, putA J (i + 1) (n - i) K = G ∧ (n + 1 ≤ c → G.length = c ∧ (putA G i 1 [x]).take (n + 1) = es.take i ++ x :: es.drop i) := by
    refine ⟨_, rfl, fun hnc => ?_⟩
    simp only [ee, putE]
    have h5 : (J.take (i + 1)).length = i + 1 := by simp; omega
    have h6 : (J.drop (i + 1 + (n - i))).length = c - (n + 1) := by simp; omega
    rw [hK2]
    refine ⟨by simp only [List.length_append, h5, h6, hdl]; omega, ?_⟩
    have h8 : (J.take (i + 1) ++ es.drop i ++ J.drop (i + 1 + (n - i))).take i = es.take i := by
      rw [List.append_assoc, List.take_append_of_le_length (by rw [h5]; omega), List.take_take, Nat.min_eq_left (by omega), ← hJt, List.take_take, Nat.min_eq_left (by omega)]
    have h9 : (J.take (i + 1) ++ es.drop i ++ J.drop (i + 1 + (n - i))).drop (i + 1) = es.drop i ++ J.drop (i + 1 + (n - i)) := by
      rw [List.append_assoc, List.drop_left' h5]
    rw [h8, h9]
    rw [show es.take i ++ List.take 1 [x] ++ (es.drop i ++ J.drop (i + 1 + (n - i))) = (es.take i ++ x :: es.drop i) ++ J.drop (i + 1 + (n - i)) by simp]
    exact List.take_left' (by simp [hnl]; omega)
  obtain ⟨G, hG, hG2⟩ := hA3
  have hB2l : (es.take i ++ x :: es.drop i).length = n + 1 := by simp [hnl]; omega
  generalize hB2 : es.take i ++ x :: es.drop i = B2 at hA2 hG2 hB2l hcB ⊢
  have ge1 : (es.drop i).take (n - i) = es.drop i := List.take_of_length_le (Nat.le_of_eq hdl)
  generalize es.drop i = ed at *
  generalize es.take i = et at *
  generalize hm : n + 1 = m at f3 f5 f7 f9 f13 f5b f18 hK1 hK3 hB1l hB2l hG2 ⊢
  generalize hq : m - i = q at f5 f7 f5b f18 hK1 hK3
  generalize hq2 : n - i = q2 at f9 f10 f11 f11b f12 hA1 hA2 hB1l hG hdl ge1 hK2 f18 hfK
  generalize hie : i + 1 = ie at f8 hA2 hG
  generalize hB1 : et ++ x :: List.replicate q2 z = B1 at hA1 hA2 hB1l
  rw [hz] at hA1
  refine go rfl hX 0 (by conv => lhs; cbv; simp only [hs1]; cbv) ?_ ?_
  · first | exact trivial | (simp only [Cd.ok, ee]; and_intros <;> first | omega | rfl | (simp <;> omega))
  refine on_cond rfl (fun h3 => ?_) (fun h3 => ?_)
  · simp [ee, decide_eq_true_eq, decide_eq_false_iff_not, Bool.and_eq_true, Bool.or_eq_true, Bool.not_eq_true', Bool.not_eq_false', Bool.and_eq_false_iff, Bool.or_eq_false_iff, bne_iff_ne, beq_iff_eq, beq_eq_false_iff_ne, bne_eq_false_iff_eq, ne_eq, Int.not_lt, Int.not_le, Decidable.not_not] at h3
    refine go rfl hX 0 (by conv => lhs; cbv; simp only [hs1,hs2,f1,f2,f3,f4,f5,f6,f6b,f7,f15,hA1,hs1,hs2,f1,f2,f3,f4,f5,f6,f6b,f7,f15,hA1]; cbv; simp only [hs1,hs2,f1,f2,f3,f4,f5,f6,f6b,f7,f15,hA1,hs1,hs2,f1,f2,f3,f4,f5,f6,f6b,f7,f15,hA1]; cbv) ?_ ?_
    · simp only [Cd.ok, ee]; (and_intros <;> first | omega | rfl | (simp only [List.drop_zero, ge1]; assumption) | (simp only [List.drop_zero]; assumption) | (simp only [List.length_append, List.length_replicate, htl]; omega) | skip)
    refine tr_drawB rfl (by conv => lhs; cbv) rfl ?_
    refine tr_go hX (by conv => lhs; cbv; simp only [hs3,f8,f9,f10,f4,f11,f11b,f12,hA2,hs3,f8,f9,f10,f4,f11,f11b,f12,hA2]; cbv; simp only [hs3,f8,f9,f10,f4,f11,f11b,f12,hA2,hs3,f8,f9,f10,f4,f11,f11b,f12,hA2]; cbv) ?_ ?_
    · simp only [Cd.ok, ee]; (and_intros <;> first | omega | rfl | (simp only [List.drop_zero, ge1]; assumption) | (simp only [List.drop_zero]; assumption) | (simp only [List.length_append, List.length_replicate, htl]; omega) | skip)
    refine tr_nil ⟨rfl, ?_, ?_⟩
    · simp [LooksL, lookAll]
    refine go rfl hX 0 (by conv => lhs; cbv) ?_ ?_
    · first | exact trivial | (simp only [Cd.ok, ee]; and_intros <;> first | omega | rfl | (simp <;> omega))
    refine o_ret (F2 := [(6, .sl 2 1 0 m)]) (H2 := [.dead, .dead, .arr 1 B2]) (ent_subN [.gone, .gone, .to 2] [some 0, some 1, some 2] ⟨rfl, rfl, trivial⟩ (by simp) (by simp) ⟨trivial, trivial, ⟨by simp, rfl⟩, trivial⟩ ⟨.dead, .dead, osrc_arr (b := 2) rfl rfl rfl rfl hcB, trivial⟩ ⟨.refl _, trivial⟩) rfl ⟨rfl, rfl⟩
  · simp [ee, decide_eq_true_eq, decide_eq_false_iff_not, Bool.and_eq_true, Bool.or_eq_true, Bool.not_eq_true', Bool.not_eq_false', Bool.and_eq_false_iff, Bool.or_eq_false_iff, bne_iff_ne, beq_iff_eq, beq_eq_false_iff_ne, bne_eq_false_iff_eq, ne_eq, Int.not_lt, Int.not_le, Decidable.not_not] at h3
    refine go rfl hX 0 (by conv => lhs; cbv; simp only [hs1,hs3,f1,f8,f9,f13,f14,hs1,hs3,f1,f8,f9,f13,f14]; cbv; simp only [hs1,hs3,f1,f8,f9,f13,f14,hs1,hs3,f1,f8,f9,f13,f14]; cbv) ?_ ?_
    · simp only [Cd.ok, ee]; (and_intros <;> first | omega | rfl | (simp only [List.drop_zero, ge1]; assumption) | (simp only [List.drop_zero]; assumption) | (simp only [List.length_append, List.length_replicate, htl]; omega) | skip)
    obtain ⟨hGl, hG2⟩ := hG2 (by omega)
    have hK3 := hK3 (by omega)
    have f17 : lenN K = q := by simp [ee]; omega
    refine on_ext rfl rfl rfl (ov50 (.sl _ _) (.slc _ _ _) rfl rfl) ?_
    have hbn : bNot false = true := by simp [ee]
    refine go rfl hX 1 (by conv => lhs; cbv; simp only [hbn,hbn]; cbv; simp only [hbn,hbn]; cbv) ?_ ?_
    · first | exact trivial | (simp only [Cd.ok, ee]; and_intros <;> first | omega | rfl | (simp <;> omega))
    refine tr_drawB rfl (by conv => lhs; cbv) rfl ?_
    refine tr_go hX (by conv => lhs; cbv; simp only [f1,hs3,f8,f9,f4,f5,hK1,f17,f18,hG,f1,hs3,f8,f9,f4,f5,hK1,f17,f18,hG]; cbv; simp only [f1,hs3,f8,f9,f4,f5,hK1,f17,f18,hG,f1,hs3,f8,f9,f4,f5,hK1,f17,f18,hG]; cbv) ?_ ?_
    · simp only [Cd.ok, ee]; (and_intros <;> first | omega | rfl | (simp only [List.drop_zero, ge1]; assumption) | (simp only [List.drop_zero]; assumption) | (simp only [List.length_append, List.length_replicate, htl]; omega) | skip)
    refine tr_nil ⟨rfl, ?_, ?_⟩
    · simp [LooksL, lookAll]
    refine go rfl hX 0 (by conv => lhs; cbv; simp only [f1,hs3,f8,f9,f4,f5,hK1,f17,f18,hG,f6,f6b,f7,f1,hs3,f8,f9,f4,f5,hK1,f17,f18,hG,f6,f6b,f7]; cbv; simp only [f1,hs3,f8,f9,f4,f5,hK1,f17,f18,hG,f6,f6b,f7,f1,hs3,f8,f9,f4,f5,hK1,f17,f18,hG,f6,f6b,f7]; cbv) ?_ ?_
    · simp only [Cd.ok, ee]; (and_intros <;> first | omega | rfl | (simp only [List.drop_zero, ge1]; assumption) | (simp only [List.drop_zero]; assumption) | (simp only [List.length_append, List.length_replicate, htl]; omega) | skip)
    refine o_ret (F2 := [(6, .sl 2 1 0 m)]) (H2 := [.dead, .dead, .arr 1 B2]) (.trans (ent_unslc 6 rfl) (.trans (ent_trunc (b := 0) (m := m) rfl (by simp)) (ent_subN [.to 2, .gone] [some 0, some 1, some 0] ⟨rfl, rfl, trivial⟩ (by simp) (by simp) ⟨⟨by simp, rfl⟩, trivial, trivial⟩ ⟨.dead, .dead, osrc_arr (b := 0) rfl rfl rfl hG2 hcB, trivial⟩ ⟨.refl _, trivial⟩))) rfl ⟨rfl, rfl⟩
end Go.Am
end
section
set_option linter.unusedVariables false
set_option linter.unusedSimpArgs false
set_option maxRecDepth 20000
namespace Go.Am
open Go.Proofs

theorem wk_nilt (M : Nat) (k : Int) : Wk M (.agg [int 0, .val (.slice none 0 0), .val (.slice none 0 0), int k]) (.agg [int 0, .isl 1 [], .isl 2 [], int k]) := by
  refine .agg _ _ rfl fun i c c' h h' => ?_
  match i, h, h' with
  | 0, h, h' => simp at h h'; subst h; subst h'; exact .refl _
  | 1, h, h' => simp at h h'; subst h; subst h'; exact .nilI _
  | 2, h, h' => simp at h h'; subst h; subst h'; exact .nilI _
  | 3, h, h' => simp at h h'; subst h; subst h'; exact .refl _

theorem fz_nilt {H : AHeap} {k : Int} : Fz H (.agg [int 0, .val (.slice none 0 0), .val (.slice none 0 0), int k]) (Trk.enc ⟨0, [], [], k⟩) := by
  have : Trk.enc ⟨0, [], [], k⟩ = .agg [int 0, .isl 1 [], .isl 2 [], int k] := by simp [Trk.enc, mapE_eq]
  rw [this]
  exact Fz.none (wk_nilt 0 k)

theorem P18 : PCall EE 18 [] TrkB.enc := by
  refine words fun iLt iLe iEq iNe iAdd iSub iMul iQuo iRem iShr iNeg iCvt iMax iMin bNot bEq bNe bAnd bOr sEq sNe sLen sCat sCut sAt lenA lenN iOf natOf atA atN cutA partA dropA catA setA repA putA idxN addN subN minN lenCut hX e_iLt e_iLe e_iEq e_iNe e_iAdd e_iSub e_iMul e_iQuo e_iRem e_iShr e_iNeg e_iCvt e_iMax e_iMin e_bNot e_bEq e_bNe e_bAnd e_bOr e_sEq e_sNe e_sLen e_sCat e_sCut e_sAt e_lenA e_lenN e_iOf e_natOf e_atA e_atN e_cutA e_partA e_dropA e_catA e_setA e_repA e_putA e_idxN e_addN e_subN e_minN e_lenCut ee => ?_
  refine fn_body (fn := Try.f18) (n := 2) (ac := Tryc18) (rvs := [.cell 0 4 true]) rfl (by decide) Tryp18 rfl rfl rfl ?_
  refine go rfl hX 60 (by conv => lhs; cbv) ?_ ?_
  · first | exact trivial | (simp only [Cd.ok, ee]; and_intros <;> first | omega | rfl | (simp <;> omega))
  refine fn_ret rfl rfl ?_
  exact fz_nilt
theorem P17 : PCall EE 17 [] TrkB.enc := by
  refine words fun iLt iLe iEq iNe iAdd iSub iMul iQuo iRem iShr iNeg iCvt iMax iMin bNot bEq bNe bAnd bOr sEq sNe sLen sCat sCut sAt lenA lenN iOf natOf atA atN cutA partA dropA catA setA repA putA idxN addN subN minN lenCut hX e_iLt e_iLe e_iEq e_iNe e_iAdd e_iSub e_iMul e_iQuo e_iRem e_iShr e_iNeg e_iCvt e_iMax e_iMin e_bNot e_bEq e_bNe e_bAnd e_bOr e_sEq e_sNe e_sLen e_sCat e_sCut e_sAt e_lenA e_lenN e_iOf e_natOf e_atA e_atN e_cutA e_partA e_dropA e_catA e_setA e_repA e_putA e_idxN e_addN e_subN e_minN e_lenCut ee => ?_
  refine fn_body (fn := Try.f17) (n := 2) (ac := Tryc17) (rvs := [.cell 0 4 true]) rfl (by decide) Tryp17 rfl rfl rfl ?_
  refine go rfl hX 60 (by conv => lhs; cbv) ?_ ?_
  · first | exact trivial | (simp only [Cd.ok, ee]; and_intros <;> first | omega | rfl | (simp <;> omega))
  refine fn_ret rfl rfl ?_
  exact fz_nilt

def contF (t : Trk) (n : Int) : Bool := if n < t.next then decide (0 ≤ n) else decide (n ∈ t.bey)

theorem P35 (t : Trk) (n : Int) (hf : t.Fine) : PCall EE 35 [t.enc, int n] (.val (.bool (contF t n))) := by
  obtain ⟨hs, _⟩ := hf
  unfold Short at hs
  unfold Trk.enc contF
  obtain ⟨tn, bey, pts, tk⟩ := t
  dsimp only at hs ⊢
  have hcb := closedI bey
  have hcp := closedP pts
  refine words fun iLt iLe iEq iNe iAdd iSub iMul iQuo iRem iShr iNeg iCvt iMax iMin bNot bEq bNe bAnd bOr sEq sNe sLen sCat sCut sAt lenA lenN iOf natOf atA atN cutA partA dropA catA setA repA putA idxN addN subN minN lenCut hX e_iLt e_iLe e_iEq e_iNe e_iAdd e_iSub e_iMul e_iQuo e_iRem e_iShr e_iNeg e_iCvt e_iMax e_iMin e_bNot e_bEq e_bNe e_bAnd e_bOr e_sEq e_sNe e_sLen e_sCat e_sCut e_sAt e_lenA e_lenN e_iOf e_natOf e_atA e_atN e_cutA e_partA e_dropA e_catA e_setA e_repA e_putA e_idxN e_addN e_subN e_minN e_lenCut ee => ?_
  generalize heb : mapE int bey = eb at *
  generalize mapE Pt.enc pts = ep at *
  have hbl : eb.length = bey.length := by rw [← heb, mapE_len]
  refine fn_body (fn := Try.f35) (n := 26) (ac := Tryc35) (rvs := [.t 4]) rfl (by decide) Tryp35 rfl rfl rfl ?_
  by_cases h0 : n < tn
  · rw [if_pos h0]
    have hb : iLt n tn = true := by simp [ee]; omega
    refine go rfl hX 0 (by conv => lhs; cbv; try simp only [hb]; cbv; try simp only [hb]; cbv; try simp only [hb]; cbv; try simp only [hb]; cbv) ?_ ?_
    · first | exact trivial | (simp only [Cd.ok, ee]; and_intros <;> first | omega | rfl | (simp <;> omega))
    refine go rfl hX 60 (by conv => lhs; cbv) ?_ ?_
    · first | exact trivial | (simp only [Cd.ok, ee]; and_intros <;> first | omega | rfl | (simp <;> omega))
    refine fn_ret rfl rfl (.val ?_)
    (simp only [ee])
  rw [if_neg h0]
  have hb0 : iLt n tn = false := by simp [ee]; omega
  refine go rfl hX 0 (by conv => lhs; cbv) ?_ ?_
  · first | exact trivial | (simp only [Cd.ok, ee]; and_intros <;> first | omega | rfl | (simp <;> omega))
  refine go rfl hX 1 (by conv => lhs; cbv; try simp only [hb0]; cbv; try simp only [hb0]; cbv; try simp only [hb0]; cbv; try simp only [hb0]; cbv) ?_ ?_
  · first | exact trivial | (simp only [Cd.ok, ee]; and_intros <;> first | omega | rfl | (simp <;> omega))
  refine go rfl hX 60 (by conv => lhs; cbv) ?_ ?_
  · first | exact trivial | (simp only [Cd.ok, ee]; and_intros <;> first | omega | rfl | (simp <;> omega))
  refine on_loopP (ι := List Int × List Int × Int) (fun p => ([(5, int p.2.2), (2, .ptr 0 0), (1, int n), (4, .val (.bool false))], [.cells [int tn, .isl 1 eb, .isl 2 ep, int tk]]))
    (fun p => bey = p.1 ++ p.2.1 ∧ p.2.2 = p.1.length ∧ n ∉ p.1) (fun p => p.2.1.length) ([], bey, 0) ⟨rfl, rfl, by simp⟩ (ent_fw ⟨.refl _, .refl _, .refl _, .refl _, trivial⟩) ?_
  rintro ⟨d, r, i⟩ ⟨k1, hi, h2⟩
  dsimp only at k1 hi h2 ⊢
  cases r with
  | nil =>
    have L1 := len_split k1
    try simp only [List.length_cons, List.length_nil] at L1
    have hc : iLt i (lenA eb) = false := lt_f e_iLt e_lenA (by omega)
    have hnm : n ∉ bey := by rw [k1, List.append_nil]; exact h2
    refine go rfl hX 0 (by conv => lhs; cbv; try simp only [hc]; cbv; try simp only [hc]; cbv; try simp only [hc]; cbv; try simp only [hc]; cbv) ?_ ?_
    · first | exact trivial | (simp only [Cd.ok, ee]; and_intros <;> first | omega | rfl | (simp <;> omega))
    refine go rfl hX 60 (by conv => lhs; cbv) ?_ ?_
    · first | exact trivial | (simp only [Cd.ok, ee]; and_intros <;> first | omega | rfl | (simp <;> omega))
    refine loopP_exit ?_
    refine go rfl hX 60 (by conv => lhs; cbv) ?_ ?_
    · first | exact trivial | (simp only [Cd.ok, ee]; and_intros <;> first | omega | rfl | (simp <;> omega))
    refine fn_ret rfl rfl (.val ?_)
    simp [hnm]
  | cons m r =>
    have L1 := len_split k1
    try simp only [List.length_cons, List.length_nil] at L1
    have hc : iLt i (lenA eb) = true := lt_t e_iLt e_lenA (by omega)
    have hat := el_at e_atA heb k1 hi
    have hi' : iAdd .i64 i 1 = ((d ++ [m] : List Int).length : Int) := by
      simp only [List.length_append, List.length_cons, List.length_nil]; exact inc_w e_iAdd hi (by omega)
    by_cases h3 : m = n
    · have hb : iEq m n = true := by simp [ee]; exact h3
      have hnm : n ∈ bey := by rw [k1, h3]; simp
      refine go rfl hX 0 (by conv => lhs; cbv; try simp only [hc, hat, hb]; cbv; try simp only [hc, hat, hb]; cbv; try simp only [hc, hat, hb]; cbv; try simp only [hc, hat, hb]; cbv) ?_ ?_
      · first | exact trivial | (simp only [Cd.ok, ee]; and_intros <;> first | omega | rfl | (simp <;> omega))
      refine go rfl hX 1 (by conv => lhs; cbv; try simp only [hc, hat, hb]; cbv; try simp only [hc, hat, hb]; cbv; try simp only [hc, hat, hb]; cbv; try simp only [hc, hat, hb]; cbv) ?_ ?_
      · first | exact trivial | (simp only [Cd.ok, ee]; and_intros <;> first | omega | rfl | (simp <;> omega))
      refine go rfl hX 60 (by conv => lhs; cbv) ?_ ?_
      · first | exact trivial | (simp only [Cd.ok, ee]; and_intros <;> first | omega | rfl | (simp <;> omega))
      refine loopP_ret ?_
      refine go rfl hX 60 (by conv => lhs; cbv) ?_ ?_
      · first | exact trivial | (simp only [Cd.ok, ee]; and_intros <;> first | omega | rfl | (simp <;> omega))
      refine fn_ret rfl rfl (.val ?_)
      simp [hnm]
    · have hb : iEq m n = false := by simp [ee]; exact h3
      have hnd : n ∉ d ++ [m] := by simp [h2]; exact fun h => h3 h.symm
      refine go rfl hX 0 (by conv => lhs; cbv; try simp only [hc, hat, hb]; cbv; try simp only [hc, hat, hb]; cbv; try simp only [hc, hat, hb]; cbv; try simp only [hc, hat, hb]; cbv) ?_ ?_
      · first | exact trivial | (simp only [Cd.ok, ee]; and_intros <;> first | omega | rfl | (simp <;> omega))
      refine go rfl hX 1 (by conv => lhs; cbv; try simp only [hc, hat, hb]; cbv; try simp only [hc, hat, hb]; cbv; try simp only [hc, hat, hb]; cbv; try simp only [hc, hat, hb]; cbv) ?_ ?_
      · first | exact trivial | (simp only [Cd.ok, ee]; and_intros <;> first | omega | rfl | (simp <;> omega))
      refine go rfl hX 60 (by conv => lhs; cbv) ?_ ?_
      · first | exact trivial | (simp only [Cd.ok, ee]; and_intros <;> first | omega | rfl | (simp <;> omega))
      refine loopP_next (d ++ [m], r, iAdd .i64 i 1) ⟨by simp [k1], hi', hnd⟩ (by simp) (ent_fw ⟨.refl _, .refl _, .refl _, .refl _, trivial⟩)

noncomputable def hasT (t : Trk) (n : Int) : Bool × Int := if checkT t ≠ 0 then (false, checkT t) else (contF t n, 0)
theorem P27 (t : Trk) (n : Int) (hf : t.Fine) : PCall EE 27 [t.enc, int n] (.tup [.val (.bool (hasT t n).1), int (hasT t n).2]) := by
  have P16c := P16 t hf
  have P35c := P35 t n hf
  have hcl := Trk.closed t
  unfold hasT
  unfold Trk.enc at *
  generalize checkT t = ck at *
  generalize contF t n = cf at *
  generalize mapE int t.bey = eb at *
  generalize mapE Pt.enc t.pts = ep at *
  generalize t.next = tn at *
  generalize t.mark = tk at *
  refine words fun iLt iLe iEq iNe iAdd iSub iMul iQuo iRem iShr iNeg iCvt iMax iMin bNot bEq bNe bAnd bOr sEq sNe sLen sCat sCut sAt lenA lenN iOf natOf atA atN cutA partA dropA catA setA repA putA idxN addN subN minN lenCut hX e_iLt e_iLe e_iEq e_iNe e_iAdd e_iSub e_iMul e_iQuo e_iRem e_iShr e_iNeg e_iCvt e_iMax e_iMin e_bNot e_bEq e_bNe e_bAnd e_bOr e_sEq e_sNe e_sLen e_sCat e_sCut e_sAt e_lenA e_lenN e_iOf e_natOf e_atA e_atN e_cutA e_partA e_dropA e_catA e_setA e_repA e_putA e_idxN e_addN e_subN e_minN e_lenCut ee => ?_
  refine fn_body (fn := Try.f27) (n := 15) (ac := Tryc27) (rvs := [.t 4, .t 5]) rfl (by decide) Tryp27 rfl rfl rfl ?_
  by_cases h0 : ck = 0
  · subst h0
    rw [if_neg (by simp)]
    have hb : iNe 0 0 = false := by simp [ee]
    refine go rfl hX 60 (by conv => lhs; cbv) ?_ ?_
    · first | exact trivial | (simp only [Cd.ok, ee]; and_intros <;> first | omega | rfl | (simp <;> omega))
    refine on_pcall (args := [AV.agg [int tn, AV.isl 1 eb, AV.isl 2 ep, int tk]]) rfl rfl rfl P16c (by simp [AV.closedL, closed_v, closed_agg, hcl]) ?_
    refine go rfl hX 0 (by conv => lhs; cbv; try simp only [hb]; cbv; try simp only [hb]; cbv; try simp only [hb]; cbv; try simp only [hb]; cbv) ?_ ?_
    · first | exact trivial | (simp only [Cd.ok, ee]; and_intros <;> first | omega | rfl | (simp <;> omega))
    refine go rfl hX 60 (by conv => lhs; cbv) ?_ ?_
    · first | exact trivial | (simp only [Cd.ok, ee]; and_intros <;> first | omega | rfl | (simp <;> omega))
    refine on_pcall (args := [AV.agg [int tn, AV.isl 1 eb, AV.isl 2 ep, int tk], int n]) rfl rfl rfl P35c (by simp [AV.closedL, closed_v, closed_agg, hcl]) ?_
    refine go rfl hX 60 (by conv => lhs; cbv) ?_ ?_
    · first | exact trivial | (simp only [Cd.ok, ee]; and_intros <;> first | omega | rfl | (simp <;> omega))
    refine fn_ret rfl rfl ?_
    exact Fz.none (.refl _)
  · rw [if_pos h0]
    have hb : iNe ck 0 = true := by simp [ee]; exact h0
    refine go rfl hX 60 (by conv => lhs; cbv) ?_ ?_
    · first | exact trivial | (simp only [Cd.ok, ee]; and_intros <;> first | omega | rfl | (simp <;> omega))
    refine on_pcall (args := [AV.agg [int tn, AV.isl 1 eb, AV.isl 2 ep, int tk]]) rfl rfl rfl P16c (by simp [AV.closedL, closed_v, closed_agg, hcl]) ?_
    refine go rfl hX 0 (by conv => lhs; cbv; try simp only [hb]; cbv; try simp only [hb]; cbv; try simp only [hb]; cbv; try simp only [hb]; cbv) ?_ ?_
    · first | exact trivial | (simp only [Cd.ok, ee]; and_intros <;> first | omega | rfl | (simp <;> omega))
    refine go rfl hX 60 (by conv => lhs; cbv) ?_ ?_
    · first | exact trivial | (simp only [Cd.ok, ee]; and_intros <;> first | omega | rfl | (simp <;> omega))
    refine fn_ret rfl rfl ?_
    exact Fz.none (.refl _)
end Go.Am
end
section
set_option linter.unusedVariables false
set_option linter.unusedSimpArgs false
set_option maxRecDepth 20000
namespace Go.Am
open Go.Proofs

theorem ord_all : ∀ (l : List Int) (last : Int), ordF last l = 0 → ∀ n ∈ l, 0 ≤ n ∧ n ≤ 1099511627776
  | [], _, _, n, h => by simp at h
  | m :: r, last, h, n, hn => by
    rw [ordF] at h
    split at h
    · simp at h
    rename_i h1
    split at h
    · simp at h
    rcases List.mem_cons.1 hn with rfl | hn
    · omega
    · exact ord_all r m h n hn
theorem check_ok {t : Trk} (h : checkT t = 0) : 0 ≤ t.next ∧ t.next ≤ 1099511627777 ∧ t.bey.length ≤ 256 ∧ ordF t.next t.bey = 0 := by
  unfold checkT at h
  split at h
  · simp at h
  split at h
  · simp at h
  exact ⟨by omega, by omega, by omega, h⟩

def holesF (f : Int) : List Int → List Pt
  | [] => []
  | n :: r => (if f < n then [⟨f, n - 1⟩] else []) ++ holesF (n + 1) r
theorem mapP_snoc (d : List Pt) (a b : Int) : mapE Pt.enc d ++ [AV.agg [int a, int b]] = mapE Pt.enc (d ++ [⟨a, b⟩]) := by simp [mapE_eq, Pt.enc]

theorem P39 (t : Trk) (h0 : checkT t = 0) : PCall EE 39 [t.enc] (.isl 2 (mapE Pt.enc (holesF t.next t.bey))) := by
  have hok := check_ok h0
  have hall := ord_all _ _ hok.2.2.2
  unfold Trk.enc
  obtain ⟨tn, bey, pts, tk⟩ := t
  dsimp only at hok hall ⊢
  have hcb := closedI bey
  have hcp := closedP pts
  refine words fun iLt iLe iEq iNe iAdd iSub iMul iQuo iRem iShr iNeg iCvt iMax iMin bNot bEq bNe bAnd bOr sEq sNe sLen sCat sCut sAt lenA lenN iOf natOf atA atN cutA partA dropA catA setA repA putA idxN addN subN minN lenCut hX e_iLt e_iLe e_iEq e_iNe e_iAdd e_iSub e_iMul e_iQuo e_iRem e_iShr e_iNeg e_iCvt e_iMax e_iMin e_bNot e_bEq e_bNe e_bAnd e_bOr e_sEq e_sNe e_sLen e_sCat e_sCut e_sAt e_lenA e_lenN e_iOf e_natOf e_atA e_atN e_cutA e_partA e_dropA e_catA e_setA e_repA e_putA e_idxN e_addN e_subN e_minN e_lenCut ee => ?_
  generalize heb : mapE int bey = eb at *
  generalize mapE Pt.enc pts = ep at *
  have hbl : eb.length = bey.length := by rw [← heb, mapE_len]
  refine fn_body (fn := Try.f39) (n := 40) (ac := Tryc39) (rvs := [.t 2]) rfl (by decide) Tryp39 rfl rfl rfl ?_
  refine go rfl hX 60 (by conv => lhs; cbv) ?_ ?_
  · first | exact trivial | (simp only [Cd.ok, ee]; and_intros <;> first | omega | rfl | (simp <;> omega))
  refine on_loopP (ι := List Int × List Int × Int × Int × Nat × List AV × List Pt)
    (fun p => ([(5, int p.2.2.1), (4, int p.2.2.2.1), (3, .sl 1 2 0 p.2.2.2.2.1), (1, .ptr 0 0)], [.cells [int tn, .isl 1 eb, .isl 2 ep, int tk], .arr 2 p.2.2.2.2.2.1]))
    (fun p => bey = p.1 ++ p.2.1 ∧ p.2.2.1 = p.1.length ∧ (0 ≤ p.2.2.2.1 ∧ p.2.2.2.1 ≤ 1099511627777) ∧ p.2.2.2.2.1 = p.2.2.2.2.2.1.length ∧ p.2.2.2.2.2.1 = mapE Pt.enc p.2.2.2.2.2.2 ∧ p.2.2.2.2.2.2.length ≤ p.1.length ∧ holesF tn bey = p.2.2.2.2.2.2 ++ holesF p.2.2.2.1 p.2.1) (fun p => p.2.1.length) ([], bey, 0, tn, 0, [], []) ⟨rfl, rfl, ⟨hok.1, hok.2.1⟩, rfl, by simp [mapE_eq], by simp, rfl⟩
    (ent_sub [.to 0] [some 0, none] ⟨⟨by simp, rfl⟩, trivial⟩ ⟨osrc_cells (b := 0) rfl rfl rfl ⟨.refl _, .cl hcb, .cl hcp, .refl _, trivial⟩, .none 2 rfl, trivial⟩ ⟨.refl _, .refl _, .nilS 1 2 0 (by simp), .refl _, trivial⟩) ?_
  rintro ⟨d, r, i, f, ln, w, x⟩ ⟨k1, hi, hf, kn, kw, kx, h2⟩
  dsimp only at k1 hi hf kn kw kx h2 ⊢
  have hcw : AV.closedL w = true := by rw [kw]; exact closed_mapE Pt.closed _
  have hwl : w.length ≤ d.length := by rw [kw, mapE_len]; exact kx
  cases r with
  | nil =>
    have L1 := len_split k1
    try simp only [List.length_cons, List.length_nil] at L1
    have hc : iLt i (lenA eb) = false := lt_f e_iLt e_lenA (by omega)
    rw [h2]
    simp only [holesF, List.append_nil]
    rw [← kw]
    refine go rfl hX 0 (by conv => lhs; cbv; try simp only [hc]; cbv; try simp only [hc]; cbv; try simp only [hc]; cbv; try simp only [hc]; cbv) ?_ ?_
    · first | exact trivial | (simp only [Cd.ok, ee]; and_intros <;> first | omega | rfl | (simp <;> omega))
    refine go rfl hX 60 (by conv => lhs; cbv) ?_ ?_
    · first | exact trivial | (simp only [Cd.ok, ee]; and_intros <;> first | omega | rfl | (simp <;> omega))
    refine loopP_exit ?_
    refine go rfl hX 60 (by conv => lhs; cbv) ?_ ?_
    · first | exact trivial | (simp only [Cd.ok, ee]; and_intros <;> first | omega | rfl | (simp <;> omega))
    refine fn_ret rfl rfl ?_
    exact ⟨[.gone, .isl 2 w], ⟨trivial, ⟨_, rfl, (subL_closed _ hcw).symm⟩, trivial⟩, .of (sub_whole rfl kn)⟩
  | cons n r =>
    have L1 := len_split k1
    try simp only [List.length_cons, List.length_nil] at L1
    have hc : iLt i (lenA eb) = true := lt_t e_iLt e_lenA (by omega)
    have hat := el_at e_atA heb k1 hi
    have hn := hall n (by rw [k1]; simp)
    have hi' : iAdd .i64 i 1 = ((d ++ [n] : List Int).length : Int) := by
      simp only [List.length_append, List.length_cons, List.length_nil]; exact inc_w e_iAdd hi (by omega)
    have hs1 : iSub .i64 n 1 = n - 1 := by simp only [ee]; exact wrap64 (by omega) (by omega)
    have ha1 : iAdd .i64 n 1 = n + 1 := by simp only [ee]; exact wrap64 (by omega) (by omega)
    have hf2 : 0 ≤ n + 1 ∧ n + 1 ≤ 1099511627777 := by omega
    have hx2 : x.length ≤ (d ++ [n]).length := by simp; omega
    have hx3 : (x ++ [(⟨f, n - 1⟩ : Pt)]).length ≤ (d ++ [n]).length := by simp; omega
    rw [holesF] at h2
    by_cases h3 : f < n
    · rw [if_pos h3, ← List.append_assoc] at h2
      have hb : iLt f n = true := by simp [ee]; omega
      have kw2 : w ++ [AV.agg [int f, int (n - 1)]] = mapE Pt.enc (x ++ [⟨f, n - 1⟩]) := by rw [kw, mapP_snoc]
      have hcw2 : AV.closedL (w ++ [AV.agg [int f, int (n - 1)]]) = true := closedL_append hcw rfl
      refine go rfl hX 0 (by conv => lhs; cbv; try simp only [hc, hat, hb, hs1, ha1]; cbv; try simp only [hc, hat, hb, hs1, ha1]; cbv; try simp only [hc, hat, hb, hs1, ha1]; cbv; try simp only [hc, hat, hb, hs1, ha1]; cbv) ?_ ?_
      · first | exact trivial | (simp only [Cd.ok, ee]; and_intros <;> first | omega | rfl | (simp <;> omega))
      refine go rfl hX 1 (by conv => lhs; cbv; try simp only [hc, hat, hb, hs1, ha1]; cbv; try simp only [hc, hat, hb, hs1, ha1]; cbv; try simp only [hc, hat, hb, hs1, ha1]; cbv; try simp only [hc, hat, hb, hs1, ha1]; cbv) ?_ ?_
      · first | exact trivial | (simp only [Cd.ok, ee]; and_intros <;> first | omega | rfl | (simp <;> omega))
      refine go rfl hX 1 (by conv => lhs; cbv; try simp only [hc, hat, hb, hs1, ha1]; cbv; try simp only [hc, hat, hb, hs1, ha1]; cbv; try simp only [hc, hat, hb, hs1, ha1]; cbv; try simp only [hc, hat, hb, hs1, ha1]; cbv) ?_ ?_
      · first | exact trivial | (simp only [Cd.ok, ee]; and_intros <;> first | omega | rfl | (simp <;> omega))
      refine loopP_next (d ++ [n], r, iAdd .i64 i 1, n + 1, ln + 1, w ++ [AV.agg [int f, int (n - 1)]], x ++ [⟨f, n - 1⟩]) ⟨by simp [k1], hi', hf2, by simp [kn], kw2, hx3, h2⟩ (by simp) (ent_sub [.to 0, .gone, .gone, .to 1] [some 0, some 3] ⟨⟨by simp, rfl⟩, trivial, trivial, ⟨by simp, rfl⟩, trivial⟩ ⟨osrc_cells (b := 0) rfl rfl rfl ⟨.refl _, .cl hcb, .cl hcp, .refl _, trivial⟩, osrc_arr rfl rfl rfl (by simp [ee, kn]) hcw2, trivial⟩ ⟨.refl _, .refl _, .of (by simp only [ee]; rfl), .refl _, trivial⟩)
    · rw [if_neg h3, List.nil_append] at h2
      have hb : iLt f n = false := by simp [ee]; omega
      refine go rfl hX 0 (by conv => lhs; cbv; try simp only [hc, hat, hb, ha1]; cbv; try simp only [hc, hat, hb, ha1]; cbv; try simp only [hc, hat, hb, ha1]; cbv; try simp only [hc, hat, hb, ha1]; cbv) ?_ ?_
      · first | exact trivial | (simp only [Cd.ok, ee]; and_intros <;> first | omega | rfl | (simp <;> omega))
      refine go rfl hX 1 (by conv => lhs; cbv; try simp only [hc, hat, hb, ha1]; cbv; try simp only [hc, hat, hb, ha1]; cbv; try simp only [hc, hat, hb, ha1]; cbv; try simp only [hc, hat, hb, ha1]; cbv) ?_ ?_
      · first | exact trivial | (simp only [Cd.ok, ee]; and_intros <;> first | omega | rfl | (simp <;> omega))
      refine go rfl hX 1 (by conv => lhs; cbv; try simp only [hc, hat, hb, ha1]; cbv; try simp only [hc, hat, hb, ha1]; cbv; try simp only [hc, hat, hb, ha1]; cbv; try simp only [hc, hat, hb, ha1]; cbv) ?_ ?_
      · first | exact trivial | (simp only [Cd.ok, ee]; and_intros <;> first | omega | rfl | (simp <;> omega))
      refine loopP_next (d ++ [n], r, iAdd .i64 i 1, n + 1, ln, w, x) ⟨by simp [k1], hi', hf2, kn, kw, hx2, h2⟩ (by simp) (ent_sub [.to 0, .to 1] [some 0, some 1] ⟨⟨by simp, rfl⟩, ⟨by simp, rfl⟩, trivial⟩ ⟨osrc_cells (b := 0) rfl rfl rfl ⟨.refl _, .cl hcb, .cl hcp, .refl _, trivial⟩, osrc_arr rfl rfl rfl rfl hcw, trivial⟩ ⟨.refl _, .refl _, .refl _, .refl _, trivial⟩)

theorem wk_tupn {k : Nat} {M : Nat} (ck : Int) : Wk M (.tup [.val (.slice none 0 0), int ck]) (.tup [.isl k [], int ck]) := by
  refine .tup _ _ rfl fun i c c' h h' => ?_
  match i, h, h' with
  | 0, h, h' => simp at h h'; subst h; subst h'; exact .nilI _
  | 1, h, h' => simp at h h'; subst h; subst h'; exact .refl _

theorem fz_cl {H : AHeap} {u v : AV} (h : u = v) (hc : v.closed = true) : Fz H u v := by subst h; exact Fz.none (.cl hc)

def gapsT (t : Trk) : List Pt × Int := if checkT t ≠ 0 then ([], checkT t) else (holesF t.next t.bey, 0)
theorem P20 (t : Trk) (hf : t.Fine) : PCall EE 20 [t.enc] (.tup [.isl 2 (mapE Pt.enc (gapsT t).1), int (gapsT t).2]) := by
  have P16c := P16 t hf
  have P39c := fun h => P39 t h
  have hcl := Trk.closed t
  have hcg := closedP (holesF t.next t.bey)
  have hm0 : mapE Pt.enc ([] : List Pt) = [] := by simp [mapE_eq]
  unfold gapsT
  unfold Trk.enc at *
  generalize checkT t = ck at *
  generalize hge : mapE Pt.enc (holesF t.next t.bey) = eg at *
  generalize mapE int t.bey = eb at *
  generalize mapE Pt.enc t.pts = ep at *
  by_cases h0 : ck = 0
  · rw [if_neg (by simp [h0])]
    have P39d := P39c h0
    clear P39c
    subst h0
    dsimp only
    rw [hge]
    clear hge
    generalize t.next = tn at *
    generalize t.mark = tk at *
    refine words fun iLt iLe iEq iNe iAdd iSub iMul iQuo iRem iShr iNeg iCvt iMax iMin bNot bEq bNe bAnd bOr sEq sNe sLen sCat sCut sAt lenA lenN iOf natOf atA atN cutA partA dropA catA setA repA putA idxN addN subN minN lenCut hX e_iLt e_iLe e_iEq e_iNe e_iAdd e_iSub e_iMul e_iQuo e_iRem e_iShr e_iNeg e_iCvt e_iMax e_iMin e_bNot e_bEq e_bNe e_bAnd e_bOr e_sEq e_sNe e_sLen e_sCat e_sCut e_sAt e_lenA e_lenN e_iOf e_natOf e_atA e_atN e_cutA e_partA e_dropA e_catA e_setA e_repA e_putA e_idxN e_addN e_subN e_minN e_lenCut ee => ?_
    refine fn_body (fn := Try.f20) (n := 12) (ac := Tryc20) (rvs := [.t 2, .t 3]) rfl (by decide) Tryp20 rfl rfl rfl ?_
    have hb : iNe 0 0 = false := by simp [ee]
    have hct : (AV.tup [.isl 2 eg, int 0]).closed = true := by
      show AV.closedL [.isl 2 eg, int 0] = true
      simp [AV.closedL, closed_v, hcg]
    refine go rfl hX 60 (by conv => lhs; cbv) ?_ ?_
    · first | exact trivial | (simp only [Cd.ok, ee]; and_intros <;> first | omega | rfl | (simp <;> omega))
    refine on_pcall (args := [AV.agg [int tn, AV.isl 1 eb, AV.isl 2 ep, int tk]]) rfl rfl rfl P16c (by simp [AV.closedL, closed_v, closed_agg, hcl]) ?_
    refine go rfl hX 0 (by conv => lhs; cbv; try simp only [hb]; cbv; try simp only [hb]; cbv; try simp only [hb]; cbv; try simp only [hb]; cbv) ?_ ?_
    · first | exact trivial | (simp only [Cd.ok, ee]; and_intros <;> first | omega | rfl | (simp <;> omega))
    refine go rfl hX 60 (by conv => lhs; cbv) ?_ ?_
    · first | exact trivial | (simp only [Cd.ok, ee]; and_intros <;> first | omega | rfl | (simp <;> omega))
    refine on_pcall (args := [AV.agg [int tn, AV.isl 1 eb, AV.isl 2 ep, int tk]]) rfl rfl rfl P39d (by simp [AV.closedL, closed_v, closed_agg, hcl]) ?_
    refine go rfl hX 60 (by conv => lhs; cbv) ?_ ?_
    · first | exact trivial | (simp only [Cd.ok, ee]; and_intros <;> first | omega | rfl | (simp <;> omega))
    refine fn_ret rfl rfl ?_
    exact fz_cl (show packRV _ = AV.tup [.isl 2 eg, int 0] from rfl) hct
  · rw [if_pos h0]
    clear P39c hge
    dsimp only
    rw [hm0]
    generalize t.next = tn at *
    generalize t.mark = tk at *
    refine words fun iLt iLe iEq iNe iAdd iSub iMul iQuo iRem iShr iNeg iCvt iMax iMin bNot bEq bNe bAnd bOr sEq sNe sLen sCat sCut sAt lenA lenN iOf natOf atA atN cutA partA dropA catA setA repA putA idxN addN subN minN lenCut hX e_iLt e_iLe e_iEq e_iNe e_iAdd e_iSub e_iMul e_iQuo e_iRem e_iShr e_iNeg e_iCvt e_iMax e_iMin e_bNot e_bEq e_bNe e_bAnd e_bOr e_sEq e_sNe e_sLen e_sCat e_sCut e_sAt e_lenA e_lenN e_iOf e_natOf e_atA e_atN e_cutA e_partA e_dropA e_catA e_setA e_repA e_putA e_idxN e_addN e_subN e_minN e_lenCut ee => ?_
    refine fn_body (fn := Try.f20) (n := 12) (ac := Tryc20) (rvs := [.t 2, .t 3]) rfl (by decide) Tryp20 rfl rfl rfl ?_
    have hb : iNe ck 0 = true := by simp [ee]; exact h0
    refine go rfl hX 60 (by conv => lhs; cbv) ?_ ?_
    · first | exact trivial | (simp only [Cd.ok, ee]; and_intros <;> first | omega | rfl | (simp <;> omega))
    refine on_pcall (args := [AV.agg [int tn, AV.isl 1 eb, AV.isl 2 ep, int tk]]) rfl rfl rfl P16c (by simp [AV.closedL, closed_v, closed_agg, hcl]) ?_
    refine go rfl hX 0 (by conv => lhs; cbv; try simp only [hb]; cbv; try simp only [hb]; cbv; try simp only [hb]; cbv; try simp only [hb]; cbv) ?_ ?_
    · first | exact trivial | (simp only [Cd.ok, ee]; and_intros <;> first | omega | rfl | (simp <;> omega))
    refine go rfl hX 60 (by conv => lhs; cbv) ?_ ?_
    · first | exact trivial | (simp only [Cd.ok, ee]; and_intros <;> first | omega | rfl | (simp <;> omega))
    refine fn_ret rfl rfl ?_
    exact Fz.none (show Wk 0 (.tup [.val (.slice none 0 0), int ck]) (.tup [.isl 2 [], int ck]) from wk_tupn _)
end Go.Am
end
section
set_option linter.unusedVariables false
set_option linter.unusedSimpArgs false
set_option maxRecDepth 20000
namespace Go.Am
open Go.Proofs

def insF (n : Int) : List Int → List Int
  | [] => [n]
  | a :: r => if n < a then n :: a :: r else a :: insF n r
def collF (x : Int) : List Int → Int × List Int
  | [] => (x, [])
  | a :: r => if a = x then collF (x + 1) r else (x, a :: r)
def addT (t : Trk) (n : Int) : Trk := ⟨(collF t.next (insF n t.bey)).1, (collF t.next (insF n t.bey)).2, t.pts, t.mark⟩
def withT (t : Trk) (n : Int) : Trk := if contF t n then t else addT t n
theorem ins_len (n : Int) : ∀ l : List Int, (insF n l).length = l.length + 1
  | [] => rfl
  | a :: r => by unfold insF; split <;> simp [ins_len n r]
theorem mapI_snoc (d : List Int) (a : Int) : mapE int d ++ [int a] = mapE int (d ++ [a]) := by simp [mapE_eq]
theorem sub_part {σ : Nat → Sub} {b k lo n : Nat} {es es' : List AV} (hs : σ b = .isl k es) (hn : lo + n ≤ es.length) (he : (es.drop lo).take n = es') : (AV.sl b k lo n).sub σ = .isl k es' := by
  simp only [AV.sub, hs, Nat.beq_refl, Bool.true_and]
  rw [Nat.ble_eq_true_of_le hn, cond_true, he]

set_option maxHeartbeats 4000000 in
theorem P36 (t : Trk) (n : Int) (hf : t.Fine) (hn : -4611686018427387904 ≤ t.next ∧ t.next ≤ 4611686018427387904) (hl : t.bey.length < 500000000000) : PCall EE 36 [t.enc, int n] (withT t n).enc := by
  have P35c := P35 t n hf
  have hcl := Trk.closed t
  unfold withT
  by_cases hct : contF t n = true
  · rw [if_pos hct]
    rw [hct] at P35c
    unfold Trk.enc at *
    generalize mapE int t.bey = eb at *
    generalize mapE Pt.enc t.pts = ep at *
    generalize t.next = tn at *
    generalize t.mark = tk at *
    refine words fun iLt iLe iEq iNe iAdd iSub iMul iQuo iRem iShr iNeg iCvt iMax iMin bNot bEq bNe bAnd bOr sEq sNe sLen sCat sCut sAt lenA lenN iOf natOf atA atN cutA partA dropA catA setA repA putA idxN addN subN minN lenCut hX e_iLt e_iLe e_iEq e_iNe e_iAdd e_iSub e_iMul e_iQuo e_iRem e_iShr e_iNeg e_iCvt e_iMax e_iMin e_bNot e_bEq e_bNe e_bAnd e_bOr e_sEq e_sNe e_sLen e_sCat e_sCut e_sAt e_lenA e_lenN e_iOf e_natOf e_atA e_atN e_cutA e_partA e_dropA e_catA e_setA e_repA e_putA e_idxN e_addN e_subN e_minN e_lenCut ee => ?_
    refine fn_body (fn := Try.f36) (n := 70) (ac := Tryc36) (rvs := [.cell 4 4 true]) rfl (by decide) Tryp36 rfl rfl rfl ?_
    refine go rfl hX 60 (by conv => lhs; cbv) ?_ ?_
    · first | exact trivial | (simp only [Cd.ok, ee]; and_intros <;> first | omega | rfl | (simp <;> omega))
    refine on_pcall (args := [AV.agg [int tn, AV.isl 1 eb, AV.isl 2 ep, int tk], int n]) rfl rfl rfl P35c (by simp [AV.closedL, closed_v, closed_agg, hcl]) ?_
    refine go rfl hX 60 (by conv => lhs; cbv) ?_ ?_
    · first | exact trivial | (simp only [Cd.ok, ee]; and_intros <;> first | omega | rfl | (simp <;> omega))
    refine fn_ret rfl rfl ?_
    exact fz_cl rfl hcl
  rw [if_neg hct]
  simp only [Bool.not_eq_true] at hct
  rw [hct] at P35c
  have hil := ins_len n t.bey
  have hca := Trk.closed (addT t n)
  unfold addT at *
  unfold Trk.enc at *
  obtain ⟨tn, bey, pts, tk⟩ := t
  dsimp only at *
  have hcb := closedI bey
  have hcp := closedP pts
  have hcI : ∀ x : List Int, AV.closedL (mapE int x) = true := fun x => closed_mapE int_closed _
  refine words fun iLt iLe iEq iNe iAdd iSub iMul iQuo iRem iShr iNeg iCvt iMax iMin bNot bEq bNe bAnd bOr sEq sNe sLen sCat sCut sAt lenA lenN iOf natOf atA atN cutA partA dropA catA setA repA putA idxN addN subN minN lenCut hX e_iLt e_iLe e_iEq e_iNe e_iAdd e_iSub e_iMul e_iQuo e_iRem e_iShr e_iNeg e_iCvt e_iMax e_iMin e_bNot e_bEq e_bNe e_bAnd e_bOr e_sEq e_sNe e_sLen e_sCat e_sCut e_sAt e_lenA e_lenN e_iOf e_natOf e_atA e_atN e_cutA e_partA e_dropA e_catA e_setA e_repA e_putA e_idxN e_addN e_subN e_minN e_lenCut ee => ?_
  generalize heb : mapE int bey = eb at *
  generalize mapE Pt.enc pts = ep at *
  have hbl : eb.length = bey.length := by rw [← heb, mapE_len]
  generalize hal : insF n bey = al at *
  refine fn_body (fn := Try.f36) (n := 70) (ac := Tryc36) (rvs := [.cell 4 4 true]) rfl (by decide) Tryp36 rfl rfl rfl ?_
  refine go rfl hX 60 (by conv => lhs; cbv) ?_ ?_
  · first | exact trivial | (simp only [Cd.ok, ee]; and_intros <;> first | omega | rfl | (simp <;> omega))
  refine on_pcall (args := [AV.agg [int tn, AV.isl 1 eb, AV.isl 2 ep, int tk], int n]) rfl rfl rfl P35c (by simp [AV.closedL, closed_v, closed_agg, hcl]) ?_
  refine go rfl hX 60 (by conv => lhs; cbv) ?_ ?_
  · first | exact trivial | (simp only [Cd.ok, ee]; and_intros <;> first | omega | rfl | (simp <;> omega))
  refine go rfl hX 1 (by conv => lhs; cbv) ?_ ?_
  · first | exact trivial | (simp only [Cd.ok, ee]; and_intros <;> first | omega | rfl | (simp <;> omega))
  refine go rfl hX 60 (by conv => lhs; cbv) ?_ ?_
  · first | exact trivial | (simp only [Cd.ok, ee]; and_intros <;> first | omega | rfl | (simp <;> omega))
  refine on_loopP (ι := List Int × List Int × Int × Bool × Nat × List AV × List Int)
    (fun p => ([(7, int p.2.2.1), (6, .val (.bool p.2.2.2.1)), (5, .sl 2 1 0 p.2.2.2.2.1), (4, .ptr 1 0), (2, .ptr 0 0), (1, int n)], [.cells [int tn, .isl 1 eb, .isl 2 ep, int tk], .cells [int 0, .val (.slice none 0 0), .val (.slice none 0 0), int 0], .arr 1 p.2.2.2.2.2.1]))
    (fun p => bey = p.1 ++ p.2.1 ∧ p.2.2.1 = p.1.length ∧ p.2.2.2.2.1 = p.2.2.2.2.2.1.length ∧ p.2.2.2.2.2.1 = mapE int p.2.2.2.2.2.2 ∧ p.2.2.2.2.2.2.length ≤ p.1.length + 1 ∧ al = p.2.2.2.2.2.2 ++ (if p.2.2.2.1 then p.2.1 else insF n p.2.1)) (fun p => p.2.1.length) ([], bey, 0, false, 0, [], []) ⟨rfl, rfl, rfl, by simp [mapE_eq], by simp, by simp [hal]⟩
    (ent_sub [.to 0, .to 1] [some 0, some 1, none] ⟨⟨by simp, rfl⟩, ⟨by simp, rfl⟩, trivial⟩ ⟨osrc_cells (b := 0) rfl rfl rfl ⟨.refl _, .cl hcb, .cl hcp, .refl _, trivial⟩, osrc_cells (b := 1) rfl rfl rfl ⟨.refl _, .refl _, .refl _, .refl _, trivial⟩, .none 1 rfl, trivial⟩ ⟨.refl _, .refl _, .nilS 2 1 0 (by simp), .refl _, .refl _, .refl _, trivial⟩) ?_
  rintro ⟨d, r, i, pt, ln, w, x⟩ ⟨k1, hi, kn, kw, kx, h2⟩
  dsimp only at k1 hi kn kw kx h2 ⊢
  have hcw : AV.closedL w = true := by rw [kw]; exact closed_mapE int_closed _
  have hwl : w.length = x.length := by rw [kw, mapE_len]
  cases r with
  | cons a r =>
    have L1 := len_split k1
    try simp only [List.length_cons, List.length_nil] at L1
    have hc : iLt i (lenA eb) = true := lt_t e_iLt e_lenA (by omega)
    have hat := el_at e_atA heb k1 hi
    have hi' : iAdd .i64 i 1 = ((d ++ [a] : List Int).length : Int) := by
      simp only [List.length_append, List.length_cons, List.length_nil]; exact inc_w e_iAdd hi (by omega)
    have hx2 : (x ++ [a]).length ≤ (d ++ [a]).length + 1 := by simp; omega
    have kw1 : w ++ [int a] = mapE int (x ++ [a]) := by rw [kw, mapI_snoc]
    have hcw1 : AV.closedL (w ++ [int a]) = true := closedL_append hcw rfl
    have hntt : bNot true = false := by simp [ee]
    have hntf : bNot false = true := by simp [ee]
    cases pt with
    | true =>
      rw [if_pos rfl] at h2
      refine go rfl hX 0 (by conv => lhs; cbv; try simp only [hc, hat, hntt]; cbv; try simp only [hc, hat, hntt]; cbv; try simp only [hc, hat, hntt]; cbv; try simp only [hc, hat, hntt]; cbv) ?_ ?_
      · first | exact trivial | (simp only [Cd.ok, ee]; and_intros <;> first | omega | rfl | (simp <;> omega))
      refine go rfl hX 1 (by conv => lhs; cbv; try simp only [hc, hat, hntt]; cbv; try simp only [hc, hat, hntt]; cbv; try simp only [hc, hat, hntt]; cbv; try simp only [hc, hat, hntt]; cbv) ?_ ?_
      · first | exact trivial | (simp only [Cd.ok, ee]; and_intros <;> first | omega | rfl | (simp <;> omega))
      refine on_cond rfl (fun c1 => ?_) (fun c1 => ?_)
      ·
        simp [ee, decide_eq_true_eq, decide_eq_false_iff_not, Bool.and_eq_true, Bool.or_eq_true, Bool.not_eq_true', Bool.not_eq_false', Bool.and_eq_false_iff, Bool.or_eq_false_iff, bne_iff_ne, beq_iff_eq, beq_eq_false_iff_ne, bne_eq_false_iff_eq, ne_eq, Int.not_lt, Int.not_le, Decidable.not_not] at c1
      ·
        simp [ee, decide_eq_true_eq, decide_eq_false_iff_not, Bool.and_eq_true, Bool.or_eq_true, Bool.not_eq_true', Bool.not_eq_false', Bool.and_eq_false_iff, Bool.or_eq_false_iff, bne_iff_ne, beq_iff_eq, beq_eq_false_iff_ne, bne_eq_false_iff_eq, ne_eq, Int.not_lt, Int.not_le, Decidable.not_not] at c1
        refine go rfl hX 0 (by conv => lhs; cbv; try simp only [hc, hat, hntt]; cbv; try simp only [hc, hat, hntt]; cbv; try simp only [hc, hat, hntt]; cbv; try simp only [hc, hat, hntt]; cbv) ?_ ?_
        · first | exact trivial | (simp only [Cd.ok, ee]; and_intros <;> first | omega | rfl | (simp <;> omega))
        refine loopP_next (d ++ [a], r, iAdd .i64 i 1, true, ln + 1, w ++ [int a], x ++ [a]) ⟨by simp [k1], hi', by simp [kn], kw1, hx2, by simp [h2]⟩ (by simp) (ent_sub [.to 0, .to 1, .gone, .gone, .to 2] [some 0, some 1, some 4] ⟨⟨by simp, rfl⟩, ⟨by simp, rfl⟩, trivial, trivial, ⟨by simp, rfl⟩, trivial⟩ ⟨osrc_cells (b := 0) rfl rfl rfl ⟨.refl _, .cl hcb, .cl hcp, .refl _, trivial⟩, osrc_cells (b := 1) rfl rfl rfl ⟨.refl _, .refl _, .refl _, .refl _, trivial⟩, osrc_arr rfl rfl rfl (by simp [ee, kn]) hcw1, trivial⟩ ⟨.refl _, .refl _, .of (by simp only [ee]; rfl), .refl _, .refl _, .refl _, trivial⟩)
    | false =>
      rw [if_neg (by simp), insF] at h2
      by_cases h3 : n < a
      · rw [if_pos h3] at h2
        have hb : iLt n a = true := by simp [ee]; omega
        have hxd : x.length ≤ d.length := by
          have := congrArg List.length h2
          simp at this; omega
        have hx3 : (x ++ [n, a]).length ≤ (d ++ [a]).length + 1 := by simp; omega
        have kw2 : (w ++ [int n]) ++ [int a] = mapE int (x ++ [n, a]) := by rw [kw, mapI_snoc, mapI_snoc]; simp
        have hcw2 : AV.closedL ((w ++ [int n]) ++ [int a]) = true := closedL_append (closedL_append hcw rfl) rfl
        refine go rfl hX 0 (by conv => lhs; cbv; try simp only [hc, hat, hntf, hb]; cbv; try simp only [hc, hat, hntf, hb]; cbv; try simp only [hc, hat, hntf, hb]; cbv; try simp only [hc, hat, hntf, hb]; cbv) ?_ ?_
        · first | exact trivial | (simp only [Cd.ok, ee]; and_intros <;> first | omega | rfl | (simp <;> omega))
        refine go rfl hX 1 (by conv => lhs; cbv; try simp only [hc, hat, hntf, hb]; cbv; try simp only [hc, hat, hntf, hb]; cbv; try simp only [hc, hat, hntf, hb]; cbv; try simp only [hc, hat, hntf, hb]; cbv) ?_ ?_
        · first | exact trivial | (simp only [Cd.ok, ee]; and_intros <;> first | omega | rfl | (simp <;> omega))
        refine on_cond rfl (fun c1 => ?_) (fun c1 => ?_)
        ·
          simp [ee, decide_eq_true_eq, decide_eq_false_iff_not, Bool.and_eq_true, Bool.or_eq_true, Bool.not_eq_true', Bool.not_eq_false', Bool.and_eq_false_iff, Bool.or_eq_false_iff, bne_iff_ne, beq_iff_eq, beq_eq_false_iff_ne, bne_eq_false_iff_eq, ne_eq, Int.not_lt, Int.not_le, Decidable.not_not] at c1
          refine go rfl hX 0 (by conv => lhs; cbv; try simp only [hc, hat, hntf, hb]; cbv; try simp only [hc, hat, hntf, hb]; cbv; try simp only [hc, hat, hntf, hb]; cbv; try simp only [hc, hat, hntf, hb]; cbv) ?_ ?_
          · first | exact trivial | (simp only [Cd.ok, ee]; and_intros <;> first | omega | rfl | (simp <;> omega))
          refine loopP_next (d ++ [a], r, iAdd .i64 i 1, true, ln + 1 + 1, (w ++ [int n]) ++ [int a], x ++ [n, a]) ⟨by simp [k1], hi', by simp [kn], kw2, hx3, by simp [h2]⟩ (by simp) (ent_sub [.to 0, .to 1, .gone, .gone, .gone, .gone, .to 2] [some 0, some 1, some 6] ⟨⟨by simp, rfl⟩, ⟨by simp, rfl⟩, trivial, trivial, trivial, trivial, ⟨by simp, rfl⟩, trivial⟩ ⟨osrc_cells (b := 0) rfl rfl rfl ⟨.refl _, .cl hcb, .cl hcp, .refl _, trivial⟩, osrc_cells (b := 1) rfl rfl rfl ⟨.refl _, .refl _, .refl _, .refl _, trivial⟩, osrc_arr rfl rfl rfl (by simp [ee, kn]) hcw2, trivial⟩ ⟨.refl _, .refl _, .of (by simp only [ee]; rfl), .refl _, .refl _, .refl _, trivial⟩)
        ·
          simp [ee, decide_eq_true_eq, decide_eq_false_iff_not, Bool.and_eq_true, Bool.or_eq_true, Bool.not_eq_true', Bool.not_eq_false', Bool.and_eq_false_iff, Bool.or_eq_false_iff, bne_iff_ne, beq_iff_eq, beq_eq_false_iff_ne, bne_eq_false_iff_eq, ne_eq, Int.not_lt, Int.not_le, Decidable.not_not] at c1
      · rw [if_neg h3] at h2
        have hb : iLt n a = false := by simp [ee]; omega
        refine go rfl hX 0 (by conv => lhs; cbv; try simp only [hc, hat, hntf, hb]; cbv; try simp only [hc, hat, hntf, hb]; cbv; try simp only [hc, hat, hntf, hb]; cbv; try simp only [hc, hat, hntf, hb]; cbv) ?_ ?_
        · first | exact trivial | (simp only [Cd.ok, ee]; and_intros <;> first | omega | rfl | (simp <;> omega))
        refine go rfl hX 1 (by conv => lhs; cbv; try simp only [hc, hat, hntf, hb]; cbv; try simp only [hc, hat, hntf, hb]; cbv; try simp only [hc, hat, hntf, hb]; cbv; try simp only [hc, hat, hntf, hb]; cbv) ?_ ?_
        · first | exact trivial | (simp only [Cd.ok, ee]; and_intros <;> first | omega | rfl | (simp <;> omega))
        refine on_cond rfl (fun c1 => ?_) (fun c1 => ?_)
        ·
          simp [ee, decide_eq_true_eq, decide_eq_false_iff_not, Bool.and_eq_true, Bool.or_eq_true, Bool.not_eq_true', Bool.not_eq_false', Bool.and_eq_false_iff, Bool.or_eq_false_iff, bne_iff_ne, beq_iff_eq, beq_eq_false_iff_ne, bne_eq_false_iff_eq, ne_eq, Int.not_lt, Int.not_le, Decidable.not_not] at c1
        ·
          simp [ee, decide_eq_true_eq, decide_eq_false_iff_not, Bool.and_eq_true, Bool.or_eq_true, Bool.not_eq_true', Bool.not_eq_false', Bool.and_eq_false_iff, Bool.or_eq_false_iff, bne_iff_ne, beq_iff_eq, beq_eq_false_iff_ne, bne_eq_false_iff_eq, ne_eq, Int.not_lt, Int.not_le, Decidable.not_not] at c1
          refine go rfl hX 0 (by conv => lhs; cbv; try simp only [hc, hat, hntf, hb]; cbv; try simp only [hc, hat, hntf, hb]; cbv; try simp only [hc, hat, hntf, hb]; cbv; try simp only [hc, hat, hntf, hb]; cbv) ?_ ?_
          · first | exact trivial | (simp only [Cd.ok, ee]; and_intros <;> first | omega | rfl | (simp <;> omega))
          refine loopP_next (d ++ [a], r, iAdd .i64 i 1, false, ln + 1, w ++ [int a], x ++ [a]) ⟨by simp [k1], hi', by simp [kn], kw1, hx2, by simp [h2]⟩ (by simp) (ent_sub [.to 0, .to 1, .gone, .gone, .to 2] [some 0, some 1, some 4] ⟨⟨by simp, rfl⟩, ⟨by simp, rfl⟩, trivial, trivial, ⟨by simp, rfl⟩, trivial⟩ ⟨osrc_cells (b := 0) rfl rfl rfl ⟨.refl _, .cl hcb, .cl hcp, .refl _, trivial⟩, osrc_cells (b := 1) rfl rfl rfl ⟨.refl _, .refl _, .refl _, .refl _, trivial⟩, osrc_arr rfl rfl rfl (by simp [ee, kn]) hcw1, trivial⟩ ⟨.refl _, .refl _, .of (by simp only [ee]; rfl), .refl _, .refl _, .refl _, trivial⟩)
  | nil =>
    have L1 := len_split k1
    try simp only [List.length_cons, List.length_nil] at L1
    have hc : iLt i (lenA eb) = false := lt_f e_iLt e_lenA (by omega)
    have hil2 := congrArg List.length h2
    refine go rfl hX 0 (by conv => lhs; cbv; try simp only [hc]; cbv; try simp only [hc]; cbv; try simp only [hc]; cbv; try simp only [hc]; cbv) ?_ ?_
    · first | exact trivial | (simp only [Cd.ok, ee]; and_intros <;> first | omega | rfl | (simp <;> omega))
    refine go rfl hX 60 (by conv => lhs; cbv) ?_ ?_
    · first | exact trivial | (simp only [Cd.ok, ee]; and_intros <;> first | omega | rfl | (simp <;> omega))
    refine loopP_exit ?_
    generalize hcR : collF tn al = cR at *
    obtain ⟨es, hes⟩ : ∃ es, mapE int al = es := ⟨_, rfl⟩
    have hces : AV.closedL es = true := by rw [← hes]; exact hcI al
    have hesl : es.length = al.length := by rw [← hes, mapE_len]
    have hntt : bNot true = false := by simp [ee]
    have hntf : bNot false = true := by simp [ee]
    cases pt with
    | true =>
      rw [if_pos rfl, List.append_nil] at h2
      have hes0 : es = w := by rw [← hes, kw, h2]
      subst hes0
      have hln : ln = al.length := by rw [kn, hesl]
      refine go rfl hX 0 (by conv => lhs; cbv; try simp only [hntt]; cbv; try simp only [hntt]; cbv; try simp only [hntt]; cbv; try simp only [hntt]; cbv) ?_ ?_
      · first | exact trivial | (simp only [Cd.ok, ee]; and_intros <;> first | omega | rfl | (simp <;> omega))
      refine go rfl hX 1 (by conv => lhs; cbv; try simp only [hntt]; cbv; try simp only [hntt]; cbv; try simp only [hntt]; cbv; try simp only [hntt]; cbv) ?_ ?_
      · first | exact trivial | (simp only [Cd.ok, ee]; and_intros <;> first | omega | rfl | (simp <;> omega))
      refine on_loopP (ι := List Int × List Int × Int × Nat × Nat)
        (fun p => ([(5, .sl 2 1 p.2.2.2.1 p.2.2.2.2), (8, .ptr 1 0), (4, .ptr 0 0)], [.cells [int 0, .val (.slice none 0 0), .val (.slice none 0 0), int 0], .cells [int p.2.2.1, .isl 1 eb, .isl 2 ep, int tk], .arr 1 es]))
        (fun p => al = p.1 ++ p.2.1 ∧ p.2.2.2.1 = p.1.length ∧ p.2.2.2.2 = p.2.1.length ∧ cR = collF p.2.2.1 p.2.1 ∧ tn ≤ p.2.2.1 ∧ p.2.2.1 ≤ tn + p.2.2.2.1) (fun p => p.2.1.length) ([], al, tn, 0, al.length) ⟨rfl, rfl, rfl, hcR.symm, by simp, by simp⟩
        (ent_sub [.gone, .to 0, .to 2, .to 1] [some 1, some 3, some 2] ⟨trivial, ⟨by simp, rfl⟩, ⟨by simp, rfl⟩, ⟨by simp, rfl⟩, trivial⟩ ⟨osrc_cells (b := 1) rfl rfl rfl ⟨.refl _, .refl _, .refl _, .refl _, trivial⟩, osrc_cells (b := 3) rfl rfl rfl ⟨.refl _, .cl hcb, .cl hcp, .refl _, trivial⟩, osrc_arr rfl rfl rfl rfl hces, trivial⟩ ⟨.of (by rw [← hln]; rfl), .refl _, .refl _, trivial⟩) ?_
      rintro ⟨d2, r2, nx, k, m⟩ ⟨j1, hk, hm, hco, hx1, hx2⟩
      dsimp only at j1 hk hm hco hx1 hx2 ⊢
      have hsplit : es.drop k = mapE int r2 := by rw [← hes, j1, mapE_eq, List.map_append, hk, ← List.length_map (f := int), List.drop_left, ← mapE_eq]
      have hkm : k + m = es.length := by rw [hesl, j1, List.length_append, hk, hm]
      have hmm : m ≤ 500000000001 := by have := congrArg List.length j1; simp at this; omega
      cases r2 with
      | nil =>
        have hm0 : m = 0 := by simpa using hm
        have hb : iLt 0 (iOf m) = false := by simp [ee]; omega
        subst hm0
        rw [hco, collF]
        have hix : idxN k 0 = k := by simp [ee]
        have hatu : atN es k = .undef := by
          simp only [ee]
          rw [List.getD_eq_getElem?_getD, List.getElem?_eq_none (by omega)]; rfl
        refine go rfl hX 0 (by conv => lhs; cbv; try simp only [hb, hix, hatu]; cbv; try simp only [hb, hix, hatu]; cbv; try simp only [hb, hix, hatu]; cbv; try simp only [hb, hix, hatu]; cbv) ?_ ?_
        · first | exact trivial | (simp only [Cd.ok, ee]; and_intros <;> first | omega | rfl | (simp <;> omega))
        refine tr_drawB rfl (by conv => lhs; cbv) rfl ?_
        refine tr_go hX (by conv => lhs; cbv; simp only [hb, hix, hatu]; cbv) ?_ ?_
        · first | exact trivial | (simp only [Cd.ok, ee]; and_intros <;> first | omega | rfl | (simp <;> omega))
        refine tr_skip rfl ?_
        refine tr_skip rfl ?_
        refine tr_skip rfl ?_
        refine tr_skip rfl ?_
        refine tr_skip rfl ?_
        refine tr_skip rfl ?_
        refine tr_go hX (by conv => lhs; cbv) ?_ ?_
        · first | exact trivial | (simp only [Cd.ok, ee]; and_intros <;> first | omega | rfl | (simp <;> omega))
        refine tr_nil ⟨rfl, by simp [LooksL, lookAll], ?_⟩
        refine go rfl hX 60 (by conv => lhs; cbv) ?_ ?_
        · first | exact trivial | (simp only [Cd.ok, ee]; and_intros <;> first | omega | rfl | (simp <;> omega))
        refine loopP_exit ?_
        refine go rfl hX 60 (by conv => lhs; cbv) ?_ ?_
        · first | exact trivial | (simp only [Cd.ok, ee]; and_intros <;> first | omega | rfl | (simp <;> omega))
        refine fn_ret rfl rfl ?_
        exact ⟨[.gone, .gone, .isl 1 es], ⟨trivial, trivial, ⟨es, rfl, (subL_closed _ hces).symm⟩, trivial⟩, .agg' ⟨.refl _, .of (sub_part rfl (Nat.le_of_eq hkm) (by simp [mapE_eq])), .cl hcp, .refl _, trivial⟩⟩
      | cons b r2 =>
        have hm0 : m = r2.length + 1 := by simpa using hm
        have hb : iLt 0 (iOf m) = true := by simp [ee]; omega
        have hix : idxN k 0 = k := by simp [ee]
        have hat2 : atN es k = int b := by
          simp only [ee]
          have := congrArg (fun l => l[0]?) hsplit
          simp [mapE_eq] at this
          rw [List.getD_eq_getElem?_getD, this]; rfl
        have hand : bAnd true true = true := by simp [ee]
        have ha1 : iAdd .i64 nx 1 = nx + 1 := by simp only [ee]; exact wrap64 (by omega) (by omega)
        have hs1 : idxN k 1 = k + 1 := by simp [ee]
        by_cases h4 : b = nx
        · have hb4 : iEq b nx = true := by simp [ee]; exact h4
          refine go rfl hX 0 (by conv => lhs; cbv; try simp only [hb, hix, hat2, hb4, hand, ha1, hs1]; cbv; try simp only [hb, hix, hat2, hb4, hand, ha1, hs1]; cbv; try simp only [hb, hix, hat2, hb4, hand, ha1, hs1]; cbv; try simp only [hb, hix, hat2, hb4, hand, ha1, hs1]; cbv) ?_ ?_
          · first | exact trivial | (simp only [Cd.ok, ee]; and_intros <;> first | omega | rfl | (simp <;> omega))
          refine go rfl hX 60 (by conv => lhs; cbv) ?_ ?_
          · first | exact trivial | (simp only [Cd.ok, ee]; and_intros <;> first | omega | rfl | (simp <;> omega))
          refine loopP_next (d2 ++ [b], r2, nx + 1, k + 1, r2.length) ⟨by simp [j1], by simp [hk], rfl, by rw [hco, collF, if_pos h4], by show tn ≤ nx + 1; omega, by show nx + 1 ≤ tn + ((k + 1 : Nat) : Int); omega⟩ (by simp) (ent_sub [.to 0, .to 1, .to 2] [some 0, some 1, some 2] ⟨⟨by simp, rfl⟩, ⟨by simp, rfl⟩, ⟨by simp, rfl⟩, trivial⟩ ⟨osrc_cells (b := 0) rfl rfl rfl ⟨.refl _, .refl _, .refl _, .refl _, trivial⟩, osrc_cells (b := 1) rfl rfl rfl ⟨.of (congrArg int ha1), .cl hcb, .cl hcp, .refl _, trivial⟩, osrc_arr rfl rfl rfl rfl hces, trivial⟩ ⟨.of (by subst hm0; simp only [ee]; rfl), .refl _, .refl _, trivial⟩)
        · have hb4 : iEq b nx = false := by simp [ee]; exact h4
          have hcol : collF nx (b :: r2) = (nx, b :: r2) := by rw [collF, if_neg h4]
          rw [hco, hcol]
          dsimp only
          have htk : (es.drop k).take m = mapE int (b :: r2) := by
            rw [hsplit]; exact List.take_of_length_le (by rw [mapE_len]; omega)
          have hkm2 : k + m ≤ es.length := by omega
          refine go rfl hX 0 (by conv => lhs; cbv; try simp only [hb, hix, hat2, hb4, hand, ha1, hs1]; cbv; try simp only [hb, hix, hat2, hb4, hand, ha1, hs1]; cbv; try simp only [hb, hix, hat2, hb4, hand, ha1, hs1]; cbv; try simp only [hb, hix, hat2, hb4, hand, ha1, hs1]; cbv) ?_ ?_
          · first | exact trivial | (simp only [Cd.ok, ee]; and_intros <;> first | omega | rfl | (simp <;> omega))
          refine on_cond rfl (fun c1 => ?_) (fun c1 => ?_)
          ·
            simp [ee, decide_eq_true_eq, decide_eq_false_iff_not, Bool.and_eq_true, Bool.or_eq_true, Bool.not_eq_true', Bool.not_eq_false', Bool.and_eq_false_iff, Bool.or_eq_false_iff, bne_iff_ne, beq_iff_eq, beq_eq_false_iff_ne, bne_eq_false_iff_eq, ne_eq, Int.not_lt, Int.not_le, Decidable.not_not] at c1
          ·
            simp [ee, decide_eq_true_eq, decide_eq_false_iff_not, Bool.and_eq_true, Bool.or_eq_true, Bool.not_eq_true', Bool.not_eq_false', Bool.and_eq_false_iff, Bool.or_eq_false_iff, bne_iff_ne, beq_iff_eq, beq_eq_false_iff_ne, bne_eq_false_iff_eq, ne_eq, Int.not_lt, Int.not_le, Decidable.not_not] at c1
            refine go rfl hX 60 (by conv => lhs; cbv) ?_ ?_
            · first | exact trivial | (simp only [Cd.ok, ee]; and_intros <;> first | omega | rfl | (simp <;> omega))
            refine loopP_exit ?_
            refine go rfl hX 60 (by conv => lhs; cbv) ?_ ?_
            · first | exact trivial | (simp only [Cd.ok, ee]; and_intros <;> first | omega | rfl | (simp <;> omega))
            refine fn_ret rfl rfl ?_
            exact ⟨[.gone, .gone, .isl 1 es], ⟨trivial, trivial, ⟨es, rfl, (subL_closed _ hces).symm⟩, trivial⟩, .agg' ⟨.refl _, .of (sub_part rfl hkm2 htk), .cl hcp, .refl _, trivial⟩⟩
    | false =>
      rw [if_neg (by simp), insF] at h2
      have hes0 : w ++ [int n] = es := by rw [← hes, kw, h2, mapI_snoc]
      have hln : ln + 1 = al.length := by rw [kn, ← List.length_singleton (a := int n), ← List.length_append, hes0, hesl]
      refine go rfl hX 0 (by conv => lhs; cbv; try simp only [hntf]; cbv; try simp only [hntf]; cbv; try simp only [hntf]; cbv; try simp only [hntf]; cbv) ?_ ?_
      · first | exact trivial | (simp only [Cd.ok, ee]; and_intros <;> first | omega | rfl | (simp <;> omega))
      refine go rfl hX 1 (by conv => lhs; cbv; try simp only [hntf]; cbv; try simp only [hntf]; cbv; try simp only [hntf]; cbv; try simp only [hntf]; cbv) ?_ ?_
      · first | exact trivial | (simp only [Cd.ok, ee]; and_intros <;> first | omega | rfl | (simp <;> omega))
      refine on_loopP (ι := List Int × List Int × Int × Nat × Nat)
        (fun p => ([(5, .sl 2 1 p.2.2.2.1 p.2.2.2.2), (8, .ptr 1 0), (4, .ptr 0 0)], [.cells [int 0, .val (.slice none 0 0), .val (.slice none 0 0), int 0], .cells [int p.2.2.1, .isl 1 eb, .isl 2 ep, int tk], .arr 1 es]))
        (fun p => al = p.1 ++ p.2.1 ∧ p.2.2.2.1 = p.1.length ∧ p.2.2.2.2 = p.2.1.length ∧ cR = collF p.2.2.1 p.2.1 ∧ tn ≤ p.2.2.1 ∧ p.2.2.1 ≤ tn + p.2.2.2.1) (fun p => p.2.1.length) ([], al, tn, 0, al.length) ⟨rfl, rfl, rfl, hcR.symm, by simp, by simp⟩
        (ent_sub [.gone, .to 0, .gone, .gone, .to 2, .to 1] [some 1, some 5, some 4] ⟨trivial, ⟨by simp, rfl⟩, trivial, trivial, ⟨by simp, rfl⟩, ⟨by simp, rfl⟩, trivial⟩ ⟨osrc_cells (b := 1) rfl rfl rfl ⟨.refl _, .refl _, .refl _, .refl _, trivial⟩, osrc_cells (b := 5) rfl rfl rfl ⟨.refl _, .cl hcb, .cl hcp, .refl _, trivial⟩, osrc_arr rfl rfl rfl (by simp [ee, kn, hes0]) hces, trivial⟩ ⟨.of (by simp only [ee]; rw [← hln]; rfl), .refl _, .refl _, trivial⟩) ?_
      rintro ⟨d2, r2, nx, k, m⟩ ⟨j1, hk, hm, hco, hx1, hx2⟩
      dsimp only at j1 hk hm hco hx1 hx2 ⊢
      have hsplit : es.drop k = mapE int r2 := by rw [← hes, j1, mapE_eq, List.map_append, hk, ← List.length_map (f := int), List.drop_left, ← mapE_eq]
      have hkm : k + m = es.length := by rw [hesl, j1, List.length_append, hk, hm]
      have hmm : m ≤ 500000000001 := by have := congrArg List.length j1; simp at this; omega
      cases r2 with
      | nil =>
        have hm0 : m = 0 := by simpa using hm
        have hb : iLt 0 (iOf m) = false := by simp [ee]; omega
        subst hm0
        rw [hco, collF]
        have hix : idxN k 0 = k := by simp [ee]
        have hatu : atN es k = .undef := by
          simp only [ee]
          rw [List.getD_eq_getElem?_getD, List.getElem?_eq_none (by omega)]; rfl
        refine go rfl hX 0 (by conv => lhs; cbv; try simp only [hb, hix, hatu]; cbv; try simp only [hb, hix, hatu]; cbv; try simp only [hb, hix, hatu]; cbv; try simp only [hb, hix, hatu]; cbv) ?_ ?_
        · first | exact trivial | (simp only [Cd.ok, ee]; and_intros <;> first | omega | rfl | (simp <;> omega))
        refine tr_drawB rfl (by conv => lhs; cbv) rfl ?_
        refine tr_go hX (by conv => lhs; cbv; simp only [hb, hix, hatu]; cbv) ?_ ?_
        · first | exact trivial | (simp only [Cd.ok, ee]; and_intros <;> first | omega | rfl | (simp <;> omega))
        refine tr_skip rfl ?_
        refine tr_skip rfl ?_
        refine tr_skip rfl ?_
        refine tr_skip rfl ?_
        refine tr_skip rfl ?_
        refine tr_skip rfl ?_
        refine tr_go hX (by conv => lhs; cbv) ?_ ?_
        · first | exact trivial | (simp only [Cd.ok, ee]; and_intros <;> first | omega | rfl | (simp <;> omega))
        refine tr_nil ⟨rfl, by simp [LooksL, lookAll], ?_⟩
        refine go rfl hX 60 (by conv => lhs; cbv) ?_ ?_
        · first | exact trivial | (simp only [Cd.ok, ee]; and_intros <;> first | omega | rfl | (simp <;> omega))
        refine loopP_exit ?_
        refine go rfl hX 60 (by conv => lhs; cbv) ?_ ?_
        · first | exact trivial | (simp only [Cd.ok, ee]; and_intros <;> first | omega | rfl | (simp <;> omega))
        refine fn_ret rfl rfl ?_
        exact ⟨[.gone, .gone, .isl 1 es], ⟨trivial, trivial, ⟨es, rfl, (subL_closed _ hces).symm⟩, trivial⟩, .agg' ⟨.refl _, .of (sub_part rfl (Nat.le_of_eq hkm) (by simp [mapE_eq])), .cl hcp, .refl _, trivial⟩⟩
      | cons b r2 =>
        have hm0 : m = r2.length + 1 := by simpa using hm
        have hb : iLt 0 (iOf m) = true := by simp [ee]; omega
        have hix : idxN k 0 = k := by simp [ee]
        have hat2 : atN es k = int b := by
          simp only [ee]
          have := congrArg (fun l => l[0]?) hsplit
          simp [mapE_eq] at this
          rw [List.getD_eq_getElem?_getD, this]; rfl
        have hand : bAnd true true = true := by simp [ee]
        have ha1 : iAdd .i64 nx 1 = nx + 1 := by simp only [ee]; exact wrap64 (by omega) (by omega)
        have hs1 : idxN k 1 = k + 1 := by simp [ee]
        by_cases h4 : b = nx
        · have hb4 : iEq b nx = true := by simp [ee]; exact h4
          refine go rfl hX 0 (by conv => lhs; cbv; try simp only [hb, hix, hat2, hb4, hand, ha1, hs1]; cbv; try simp only [hb, hix, hat2, hb4, hand, ha1, hs1]; cbv; try simp only [hb, hix, hat2, hb4, hand, ha1, hs1]; cbv; try simp only [hb, hix, hat2, hb4, hand, ha1, hs1]; cbv) ?_ ?_
          · first | exact trivial | (simp only [Cd.ok, ee]; and_intros <;> first | omega | rfl | (simp <;> omega))
          refine go rfl hX 60 (by conv => lhs; cbv) ?_ ?_
          · first | exact trivial | (simp only [Cd.ok, ee]; and_intros <;> first | omega | rfl | (simp <;> omega))
          refine loopP_next (d2 ++ [b], r2, nx + 1, k + 1, r2.length) ⟨by simp [j1], by simp [hk], rfl, by rw [hco, collF, if_pos h4], by show tn ≤ nx + 1; omega, by show nx + 1 ≤ tn + ((k + 1 : Nat) : Int); omega⟩ (by simp) (ent_sub [.to 0, .to 1, .to 2] [some 0, some 1, some 2] ⟨⟨by simp, rfl⟩, ⟨by simp, rfl⟩, ⟨by simp, rfl⟩, trivial⟩ ⟨osrc_cells (b := 0) rfl rfl rfl ⟨.refl _, .refl _, .refl _, .refl _, trivial⟩, osrc_cells (b := 1) rfl rfl rfl ⟨.of (congrArg int ha1), .cl hcb, .cl hcp, .refl _, trivial⟩, osrc_arr rfl rfl rfl rfl hces, trivial⟩ ⟨.of (by subst hm0; simp only [ee]; rfl), .refl _, .refl _, trivial⟩)
        · have hb4 : iEq b nx = false := by simp [ee]; exact h4
          have hcol : collF nx (b :: r2) = (nx, b :: r2) := by rw [collF, if_neg h4]
          rw [hco, hcol]
          dsimp only
          have htk : (es.drop k).take m = mapE int (b :: r2) := by
            rw [hsplit]; exact List.take_of_length_le (by rw [mapE_len]; omega)
          have hkm2 : k + m ≤ es.length := by omega
          refine go rfl hX 0 (by conv => lhs; cbv; try simp only [hb, hix, hat2, hb4, hand, ha1, hs1]; cbv; try simp only [hb, hix, hat2, hb4, hand, ha1, hs1]; cbv; try simp only [hb, hix, hat2, hb4, hand, ha1, hs1]; cbv; try simp only [hb, hix, hat2, hb4, hand, ha1, hs1]; cbv) ?_ ?_
          · first | exact trivial | (simp only [Cd.ok, ee]; and_intros <;> first | omega | rfl | (simp <;> omega))
          refine on_cond rfl (fun c1 => ?_) (fun c1 => ?_)
          ·
            simp [ee, decide_eq_true_eq, decide_eq_false_iff_not, Bool.and_eq_true, Bool.or_eq_true, Bool.not_eq_true', Bool.not_eq_false', Bool.and_eq_false_iff, Bool.or_eq_false_iff, bne_iff_ne, beq_iff_eq, beq_eq_false_iff_ne, bne_eq_false_iff_eq, ne_eq, Int.not_lt, Int.not_le, Decidable.not_not] at c1
          ·
            simp [ee, decide_eq_true_eq, decide_eq_false_iff_not, Bool.and_eq_true, Bool.or_eq_true, Bool.not_eq_true', Bool.not_eq_false', Bool.and_eq_false_iff, Bool.or_eq_false_iff, bne_iff_ne, beq_iff_eq, beq_eq_false_iff_ne, bne_eq_false_iff_eq, ne_eq, Int.not_lt, Int.not_le, Decidable.not_not] at c1
            refine go rfl hX 60 (by conv => lhs; cbv) ?_ ?_
            · first | exact trivial | (simp only [Cd.ok, ee]; and_intros <;> first | omega | rfl | (simp <;> omega))
            refine loopP_exit ?_
            refine go rfl hX 60 (by conv => lhs; cbv) ?_ ?_
            · first | exact trivial | (simp only [Cd.ok, ee]; and_intros <;> first | omega | rfl | (simp <;> omega))
            refine fn_ret rfl rfl ?_
            exact ⟨[.gone, .gone, .isl 1 es], ⟨trivial, trivial, ⟨es, rfl, (subL_closed _ hces).symm⟩, trivial⟩, .agg' ⟨.refl _, .of (sub_part rfl hkm2 htk), .cl hcp, .refl _, trivial⟩⟩
end Go.Am
end
section
set_option linter.unusedVariables false
set_option linter.unusedSimpArgs false
set_option maxRecDepth 20000
namespace Go.Am
open Go.Proofs

def T0 : Trk := ⟨0, [], [], 0⟩
def recvT (t : Trk) (n : Int) : Trk × Bool × Int :=
  if checkT t ≠ 0 then (T0, false, checkT t)
  else if n < 0 ∨ 1099511627776 < n then (T0, false, 2)
  else if contF t n then (t, false, 0)
  else if 256 < (addT t n).bey.length then (T0, false, 5)
  else (addT t n, true, 0)
theorem T0_enc : T0.enc = .agg [int 0, .isl 1 [], .isl 2 [], int 0] := by simp [Trk.enc, T0, mapE_eq]
theorem fz_recv0 {H : AHeap} (b : Bool) (k : Int) : Fz H (.tup [.agg [int 0, .val (.slice none 0 0), .val (.slice none 0 0), int 0], .val (.bool b), int k]) (.tup [T0.enc, .val (.bool b), int k]) := by
  rw [T0_enc]
  exact Fz.none (.tup' ⟨wk_nilt _ _, .refl _, .refl _, trivial⟩)

set_option maxHeartbeats 1000000 in
theorem P13 (t : Trk) (n : Int) (hf : t.Fine) : PCall EE 13 [t.enc, int n] (.tup [(recvT t n).1.enc, .val (.bool (recvT t n).2.1), int (recvT t n).2.2]) := by
  have P16c := P16 t hf
  have P35c := P35 t n hf
  have P36c := fun h : checkT t = 0 => P36 t n hf (by have := check_ok h; omega) (by have := check_ok h; omega)
  have hcl := Trk.closed t
  have hca := Trk.closed (addT t n)
  unfold withT at P36c
  unfold recvT
  have he1 : t.enc = .agg [int t.next, .isl 1 (mapE int t.bey), .isl 2 (mapE Pt.enc t.pts), int t.mark] := rfl
  have he2 : (addT t n).enc = .agg [int (addT t n).next, .isl 1 (mapE int (addT t n).bey), .isl 2 (mapE Pt.enc (addT t n).pts), int (addT t n).mark] := rfl
  have hll : (mapE int (addT t n).bey).length = (addT t n).bey.length := mapE_len _ _
  generalize checkT t = ck at *
  generalize contF t n = cf at *
  by_cases h0 : ck = 0
  rotate_left
  · rw [if_pos h0]
    clear P36c
    rw [he1] at P16c P35c hcl ⊢
    clear he1 he2 hca hll
    generalize mapE int t.bey = eb at *
    generalize mapE Pt.enc t.pts = ep at *
    generalize t.next = tn at *
    generalize t.mark = tk at *
    refine words fun iLt iLe iEq iNe iAdd iSub iMul iQuo iRem iShr iNeg iCvt iMax iMin bNot bEq bNe bAnd bOr sEq sNe sLen sCat sCut sAt lenA lenN iOf natOf atA atN cutA partA dropA catA setA repA putA idxN addN subN minN lenCut hX e_iLt e_iLe e_iEq e_iNe e_iAdd e_iSub e_iMul e_iQuo e_iRem e_iShr e_iNeg e_iCvt e_iMax e_iMin e_bNot e_bEq e_bNe e_bAnd e_bOr e_sEq e_sNe e_sLen e_sCat e_sCut e_sAt e_lenA e_lenN e_iOf e_natOf e_atA e_atN e_cutA e_partA e_dropA e_catA e_setA e_repA e_putA e_idxN e_addN e_subN e_minN e_lenCut ee => ?_
    have hb : iNe ck 0 = true := by simp [ee]; exact h0
    refine fn_body (fn := Try.f13) (n := 35) (ac := Tryc13) (rvs := [.cell 4 4 true, .t 5, .t 6]) rfl (by decide) Tryp13 rfl rfl rfl ?_
    refine go rfl hX 60 (by conv => lhs; cbv) ?_ ?_
    · first | exact trivial | (simp only [Cd.ok, ee]; and_intros <;> first | omega | rfl | (simp <;> omega))
    refine on_pcall (args := [AV.agg [int tn, AV.isl 1 eb, AV.isl 2 ep, int tk]]) rfl rfl rfl P16c (by simp [AV.closedL, closed_v, closed_agg, hcl]) ?_
    refine go rfl hX 0 (by conv => lhs; cbv; try simp only [hb]; cbv; try simp only [hb]; cbv; try simp only [hb]; cbv; try simp only [hb]; cbv) ?_ ?_
    · first | exact trivial | (simp only [Cd.ok, ee]; and_intros <;> first | omega | rfl | (simp <;> omega))
    refine go rfl hX 60 (by conv => lhs; cbv) ?_ ?_
    · first | exact trivial | (simp only [Cd.ok, ee]; and_intros <;> first | omega | rfl | (simp <;> omega))
    refine fn_ret rfl rfl ?_
    exact fz_recv0 _ _
  rw [if_neg (by simp [h0])]
  replace P36c := P36c h0
  subst h0
  by_cases h1 : n < 0 ∨ 1099511627776 < n
  · rw [if_pos h1]
    clear P36c
    rw [he1] at P16c P35c hcl ⊢
    clear he1 he2 hca hll
    generalize mapE int t.bey = eb at *
    generalize mapE Pt.enc t.pts = ep at *
    generalize t.next = tn at *
    generalize t.mark = tk at *
    refine words fun iLt iLe iEq iNe iAdd iSub iMul iQuo iRem iShr iNeg iCvt iMax iMin bNot bEq bNe bAnd bOr sEq sNe sLen sCat sCut sAt lenA lenN iOf natOf atA atN cutA partA dropA catA setA repA putA idxN addN subN minN lenCut hX e_iLt e_iLe e_iEq e_iNe e_iAdd e_iSub e_iMul e_iQuo e_iRem e_iShr e_iNeg e_iCvt e_iMax e_iMin e_bNot e_bEq e_bNe e_bAnd e_bOr e_sEq e_sNe e_sLen e_sCat e_sCut e_sAt e_lenA e_lenN e_iOf e_natOf e_atA e_atN e_cutA e_partA e_dropA e_catA e_setA e_repA e_putA e_idxN e_addN e_subN e_minN e_lenCut ee => ?_
    have hb0 : iNe 0 0 = false := by simp [ee]
    have hb : bOr (iLt n 0) (iLt 1099511627776 n) = true := by simp [ee]; omega
    refine fn_body (fn := Try.f13) (n := 35) (ac := Tryc13) (rvs := [.cell 4 4 true, .t 5, .t 6]) rfl (by decide) Tryp13 rfl rfl rfl ?_
    refine go rfl hX 60 (by conv => lhs; cbv) ?_ ?_
    · first | exact trivial | (simp only [Cd.ok, ee]; and_intros <;> first | omega | rfl | (simp <;> omega))
    refine on_pcall (args := [AV.agg [int tn, AV.isl 1 eb, AV.isl 2 ep, int tk]]) rfl rfl rfl P16c (by simp [AV.closedL, closed_v, closed_agg, hcl]) ?_
    refine go rfl hX 0 (by conv => lhs; cbv; try simp only [hb0, hb]; cbv; try simp only [hb0, hb]; cbv; try simp only [hb0, hb]; cbv; try simp only [hb0, hb]; cbv) ?_ ?_
    · first | exact trivial | (simp only [Cd.ok, ee]; and_intros <;> first | omega | rfl | (simp <;> omega))
    refine go rfl hX 1 (by conv => lhs; cbv; try simp only [hb0, hb]; cbv; try simp only [hb0, hb]; cbv; try simp only [hb0, hb]; cbv; try simp only [hb0, hb]; cbv) ?_ ?_
    · first | exact trivial | (simp only [Cd.ok, ee]; and_intros <;> first | omega | rfl | (simp <;> omega))
    refine go rfl hX 60 (by conv => lhs; cbv) ?_ ?_
    · first | exact trivial | (simp only [Cd.ok, ee]; and_intros <;> first | omega | rfl | (simp <;> omega))
    refine fn_ret rfl rfl ?_
    exact fz_recv0 _ _
  rw [if_neg h1]
  cases cf with
  | true =>
    rw [if_pos rfl]
    clear P36c
    rw [he1] at P16c P35c hcl ⊢
    clear he1 he2 hca hll
    have hct : ∀ b k, (AV.tup [AV.agg [int t.next, .isl 1 (mapE int t.bey), .isl 2 (mapE Pt.enc t.pts), int t.mark], .val (.bool b), int k]).closed = true := by
      intro b k; show AV.closedL [_, _, _] = true; simp only [AV.closedL, hcl, closed_v]; rfl
    generalize mapE int t.bey = eb at *
    generalize mapE Pt.enc t.pts = ep at *
    generalize t.next = tn at *
    generalize t.mark = tk at *
    refine words fun iLt iLe iEq iNe iAdd iSub iMul iQuo iRem iShr iNeg iCvt iMax iMin bNot bEq bNe bAnd bOr sEq sNe sLen sCat sCut sAt lenA lenN iOf natOf atA atN cutA partA dropA catA setA repA putA idxN addN subN minN lenCut hX e_iLt e_iLe e_iEq e_iNe e_iAdd e_iSub e_iMul e_iQuo e_iRem e_iShr e_iNeg e_iCvt e_iMax e_iMin e_bNot e_bEq e_bNe e_bAnd e_bOr e_sEq e_sNe e_sLen e_sCat e_sCut e_sAt e_lenA e_lenN e_iOf e_natOf e_atA e_atN e_cutA e_partA e_dropA e_catA e_setA e_repA e_putA e_idxN e_addN e_subN e_minN e_lenCut ee => ?_
    have hb0 : iNe 0 0 = false := by simp [ee]
    have hb : bOr (iLt n 0) (iLt 1099511627776 n) = false := by simp [ee]; omega
    refine fn_body (fn := Try.f13) (n := 35) (ac := Tryc13) (rvs := [.cell 4 4 true, .t 5, .t 6]) rfl (by decide) Tryp13 rfl rfl rfl ?_
    refine go rfl hX 60 (by conv => lhs; cbv) ?_ ?_
    · first | exact trivial | (simp only [Cd.ok, ee]; and_intros <;> first | omega | rfl | (simp <;> omega))
    refine on_pcall (args := [AV.agg [int tn, AV.isl 1 eb, AV.isl 2 ep, int tk]]) rfl rfl rfl P16c (by simp [AV.closedL, closed_v, closed_agg, hcl]) ?_
    refine go rfl hX 0 (by conv => lhs; cbv; try simp only [hb0, hb]; cbv; try simp only [hb0, hb]; cbv; try simp only [hb0, hb]; cbv; try simp only [hb0, hb]; cbv) ?_ ?_
    · first | exact trivial | (simp only [Cd.ok, ee]; and_intros <;> first | omega | rfl | (simp <;> omega))
    refine go rfl hX 1 (by conv => lhs; cbv; try simp only [hb0, hb]; cbv; try simp only [hb0, hb]; cbv; try simp only [hb0, hb]; cbv; try simp only [hb0, hb]; cbv) ?_ ?_
    · first | exact trivial | (simp only [Cd.ok, ee]; and_intros <;> first | omega | rfl | (simp <;> omega))
    refine go rfl hX 60 (by conv => lhs; cbv) ?_ ?_
    · first | exact trivial | (simp only [Cd.ok, ee]; and_intros <;> first | omega | rfl | (simp <;> omega))
    refine on_pcall (args := [AV.agg [int tn, AV.isl 1 eb, AV.isl 2 ep, int tk], int n]) rfl rfl rfl P35c (by simp [AV.closedL, closed_v, closed_agg, hcl]) ?_
    refine go rfl hX 60 (by conv => lhs; cbv) ?_ ?_
    · first | exact trivial | (simp only [Cd.ok, ee]; and_intros <;> first | omega | rfl | (simp <;> omega))
    refine fn_ret rfl rfl ?_
    exact fz_cl rfl (hct _ _)
  | false =>
    rw [if_neg (by simp)]
    rw [if_neg (by simp)] at P36c
    rw [he1] at P16c P35c hcl P36c ⊢
    rw [he2] at P36c hca
    clear he1
    have hct : ∀ b k, (AV.tup [AV.agg [int (addT t n).next, .isl 1 (mapE int (addT t n).bey), .isl 2 (mapE Pt.enc (addT t n).pts), int (addT t n).mark], .val (.bool b), int k]).closed = true := by
      intro b k; show AV.closedL [_, _, _] = true; simp only [AV.closedL, hca, closed_v]; rfl
    generalize mapE int t.bey = eb at *
    generalize mapE Pt.enc t.pts = ep at *
    generalize t.next = tn at *
    generalize t.mark = tk at *
    generalize hab : mapE int (addT t n).bey = ab at *
    generalize mapE Pt.enc (addT t n).pts = ap at *
    generalize (addT t n).next = an at *
    generalize (addT t n).mark = ak at *
    refine words fun iLt iLe iEq iNe iAdd iSub iMul iQuo iRem iShr iNeg iCvt iMax iMin bNot bEq bNe bAnd bOr sEq sNe sLen sCat sCut sAt lenA lenN iOf natOf atA atN cutA partA dropA catA setA repA putA idxN addN subN minN lenCut hX e_iLt e_iLe e_iEq e_iNe e_iAdd e_iSub e_iMul e_iQuo e_iRem e_iShr e_iNeg e_iCvt e_iMax e_iMin e_bNot e_bEq e_bNe e_bAnd e_bOr e_sEq e_sNe e_sLen e_sCat e_sCut e_sAt e_lenA e_lenN e_iOf e_natOf e_atA e_atN e_cutA e_partA e_dropA e_catA e_setA e_repA e_putA e_idxN e_addN e_subN e_minN e_lenCut ee => ?_
    have hb0 : iNe 0 0 = false := by simp [ee]
    have hb : bOr (iLt n 0) (iLt 1099511627776 n) = false := by simp [ee]; omega
    refine fn_body (fn := Try.f13) (n := 35) (ac := Tryc13) (rvs := [.cell 4 4 true, .t 5, .t 6]) rfl (by decide) Tryp13 rfl rfl rfl ?_
    by_cases h2 : 256 < (addT t n).bey.length
    · rw [if_pos h2]
      have hb2 : iLt 256 (lenA ab) = true := by simp [ee]; omega
      refine go rfl hX 60 (by conv => lhs; cbv) ?_ ?_
      · first | exact trivial | (simp only [Cd.ok, ee]; and_intros <;> first | omega | rfl | (simp <;> omega))
      refine on_pcall (args := [AV.agg [int tn, AV.isl 1 eb, AV.isl 2 ep, int tk]]) rfl rfl rfl P16c (by simp [AV.closedL, closed_v, closed_agg, hcl]) ?_
      refine go rfl hX 0 (by conv => lhs; cbv; try simp only [hb0, hb, hb2]; cbv; try simp only [hb0, hb, hb2]; cbv; try simp only [hb0, hb, hb2]; cbv; try simp only [hb0, hb, hb2]; cbv) ?_ ?_
      · first | exact trivial | (simp only [Cd.ok, ee]; and_intros <;> first | omega | rfl | (simp <;> omega))
      refine go rfl hX 1 (by conv => lhs; cbv; try simp only [hb0, hb, hb2]; cbv; try simp only [hb0, hb, hb2]; cbv; try simp only [hb0, hb, hb2]; cbv; try simp only [hb0, hb, hb2]; cbv) ?_ ?_
      · first | exact trivial | (simp only [Cd.ok, ee]; and_intros <;> first | omega | rfl | (simp <;> omega))
      refine go rfl hX 60 (by conv => lhs; cbv) ?_ ?_
      · first | exact trivial | (simp only [Cd.ok, ee]; and_intros <;> first | omega | rfl | (simp <;> omega))
      refine on_pcall (args := [AV.agg [int tn, AV.isl 1 eb, AV.isl 2 ep, int tk], int n]) rfl rfl rfl P35c (by simp [AV.closedL, closed_v, closed_agg, hcl]) ?_
      refine go rfl hX 60 (by conv => lhs; cbv) ?_ ?_
      · first | exact trivial | (simp only [Cd.ok, ee]; and_intros <;> first | omega | rfl | (simp <;> omega))
      refine on_pcall (args := [AV.agg [int tn, AV.isl 1 eb, AV.isl 2 ep, int tk], int n]) rfl rfl rfl P36c (by simp [AV.closedL, closed_v, closed_agg, hcl]) ?_
      refine go rfl hX 0 (by conv => lhs; cbv; try simp only [hb0, hb, hb2]; cbv; try simp only [hb0, hb, hb2]; cbv; try simp only [hb0, hb, hb2]; cbv; try simp only [hb0, hb, hb2]; cbv) ?_ ?_
      · first | exact trivial | (simp only [Cd.ok, ee]; and_intros <;> first | omega | rfl | (simp <;> omega))
      refine go rfl hX 60 (by conv => lhs; cbv) ?_ ?_
      · first | exact trivial | (simp only [Cd.ok, ee]; and_intros <;> first | omega | rfl | (simp <;> omega))
      refine fn_ret rfl rfl ?_
      exact fz_recv0 _ _
    · rw [if_neg h2]
      dsimp only
      rw [he2]
      have hb2 : iLt 256 (lenA ab) = false := by simp [ee]; omega
      refine go rfl hX 60 (by conv => lhs; cbv) ?_ ?_
      · first | exact trivial | (simp only [Cd.ok, ee]; and_intros <;> first | omega | rfl | (simp <;> omega))
      refine on_pcall (args := [AV.agg [int tn, AV.isl 1 eb, AV.isl 2 ep, int tk]]) rfl rfl rfl P16c (by simp [AV.closedL, closed_v, closed_agg, hcl]) ?_
      refine go rfl hX 0 (by conv => lhs; cbv; try simp only [hb0, hb, hb2]; cbv; try simp only [hb0, hb, hb2]; cbv; try simp only [hb0, hb, hb2]; cbv; try simp only [hb0, hb, hb2]; cbv) ?_ ?_
      · first | exact trivial | (simp only [Cd.ok, ee]; and_intros <;> first | omega | rfl | (simp <;> omega))
      refine go rfl hX 1 (by conv => lhs; cbv; try simp only [hb0, hb, hb2]; cbv; try simp only [hb0, hb, hb2]; cbv; try simp only [hb0, hb, hb2]; cbv; try simp only [hb0, hb, hb2]; cbv) ?_ ?_
      · first | exact trivial | (simp only [Cd.ok, ee]; and_intros <;> first | omega | rfl | (simp <;> omega))
      refine go rfl hX 60 (by conv => lhs; cbv) ?_ ?_
      · first | exact trivial | (simp only [Cd.ok, ee]; and_intros <;> first | omega | rfl | (simp <;> omega))
      refine on_pcall (args := [AV.agg [int tn, AV.isl 1 eb, AV.isl 2 ep, int tk], int n]) rfl rfl rfl P35c (by simp [AV.closedL, closed_v, closed_agg, hcl]) ?_
      refine go rfl hX 60 (by conv => lhs; cbv) ?_ ?_
      · first | exact trivial | (simp only [Cd.ok, ee]; and_intros <;> first | omega | rfl | (simp <;> omega))
      refine on_pcall (args := [AV.agg [int tn, AV.isl 1 eb, AV.isl 2 ep, int tk], int n]) rfl rfl rfl P36c (by simp [AV.closedL, closed_v, closed_agg, hcl]) ?_
      refine go rfl hX 0 (by conv => lhs; cbv; try simp only [hb0, hb, hb2]; cbv; try simp only [hb0, hb, hb2]; cbv; try simp only [hb0, hb, hb2]; cbv; try simp only [hb0, hb, hb2]; cbv) ?_ ?_
      · first | exact trivial | (simp only [Cd.ok, ee]; and_intros <;> first | omega | rfl | (simp <;> omega))
      refine go rfl hX 60 (by conv => lhs; cbv) ?_ ?_
      · first | exact trivial | (simp only [Cd.ok, ee]; and_intros <;> first | omega | rfl | (simp <;> omega))
      refine fn_ret rfl rfl ?_
      exact fz_cl rfl (hct _ _)
end Go.Am
end
section
set_option linter.unusedVariables false
set_option linter.unusedSimpArgs false
set_option maxRecDepth 20000
namespace Go.Am
open Go.Proofs

def belowF (n : Int) (l : List Int) : Int := ((l.filter fun m => decide (m < n)).length : Nat)
theorem below_snoc (n m : Int) (l : List Int) : belowF n (l ++ [m]) = belowF n l + (if m < n then 1 else 0) := by
  unfold belowF
  by_cases h : m < n <;> simp [List.filter_append, h]
theorem below_le (n : Int) (l : List Int) : 0 ≤ belowF n l ∧ belowF n l ≤ l.length := by
  unfold belowF
  have := List.length_filter_le (fun m => decide (m < n)) l
  omega
noncomputable def missT (t : Trk) (n : Int) : Int × Int :=
  if checkT t ≠ 0 then (0, checkT t) else if n < 0 ∨ 1099511627777 < n then (0, 2) else (max 0 (n - t.next) - belowF n t.bey, 0)

theorem P29 (t : Trk) (n : Int) (hf : t.Fine) : PCall EE 29 [t.enc, int n] (.tup [int (missT t n).1, int (missT t n).2]) := by
  have P16c := P16 t hf
  have hcl := Trk.closed t
  have hok := fun h : checkT t = 0 => check_ok h
  unfold missT
  unfold Trk.enc at *
  obtain ⟨tn, bey, pts, tk⟩ := t
  dsimp only at *
  have hcb := closedI bey
  have hcp := closedP pts
  generalize checkT ⟨tn, bey, pts, tk⟩ = ck at *
  generalize heb : mapE int bey = eb at *
  generalize mapE Pt.enc pts = ep at *
  have hbl : eb.length = bey.length := by rw [← heb, mapE_len]
  refine words fun iLt iLe iEq iNe iAdd iSub iMul iQuo iRem iShr iNeg iCvt iMax iMin bNot bEq bNe bAnd bOr sEq sNe sLen sCat sCut sAt lenA lenN iOf natOf atA atN cutA partA dropA catA setA repA putA idxN addN subN minN lenCut hX e_iLt e_iLe e_iEq e_iNe e_iAdd e_iSub e_iMul e_iQuo e_iRem e_iShr e_iNeg e_iCvt e_iMax e_iMin e_bNot e_bEq e_bNe e_bAnd e_bOr e_sEq e_sNe e_sLen e_sCat e_sCut e_sAt e_lenA e_lenN e_iOf e_natOf e_atA e_atN e_cutA e_partA e_dropA e_catA e_setA e_repA e_putA e_idxN e_addN e_subN e_minN e_lenCut ee => ?_
  refine fn_body (fn := Try.f29) (n := 42) (ac := Tryc29) (rvs := [.t 4, .t 5]) rfl (by decide) Tryp29 rfl rfl rfl ?_
  by_cases h0 : ck = 0
  rotate_left
  · rw [if_pos h0]
    have hb : iNe ck 0 = true := by simp [ee]; exact h0
    refine go rfl hX 60 (by conv => lhs; cbv) ?_ ?_
    · first | exact trivial | (simp only [Cd.ok, ee]; and_intros <;> first | omega | rfl | (simp <;> omega))
    refine on_pcall (args := [AV.agg [int tn, AV.isl 1 eb, AV.isl 2 ep, int tk]]) rfl rfl rfl P16c (by simp [AV.closedL, closed_v, closed_agg, hcl]) ?_
    refine go rfl hX 0 (by conv => lhs; cbv; try simp only [hb]; cbv; try simp only [hb]; cbv; try simp only [hb]; cbv; try simp only [hb]; cbv) ?_ ?_
    · first | exact trivial | (simp only [Cd.ok, ee]; and_intros <;> first | omega | rfl | (simp <;> omega))
    refine go rfl hX 60 (by conv => lhs; cbv) ?_ ?_
    · first | exact trivial | (simp only [Cd.ok, ee]; and_intros <;> first | omega | rfl | (simp <;> omega))
    refine fn_ret rfl rfl ?_
    exact Fz.none (.refl _)
  have hok := hok h0
  subst h0
  rw [if_neg (by simp)]
  have hb0 : iNe 0 0 = false := by simp [ee]
  by_cases h1 : n < 0 ∨ 1099511627777 < n
  · rw [if_pos h1]
    have hb : bOr (iLt n 0) (iLt 1099511627777 n) = true := by simp [ee]; omega
    refine go rfl hX 60 (by conv => lhs; cbv) ?_ ?_
    · first | exact trivial | (simp only [Cd.ok, ee]; and_intros <;> first | omega | rfl | (simp <;> omega))
    refine on_pcall (args := [AV.agg [int tn, AV.isl 1 eb, AV.isl 2 ep, int tk]]) rfl rfl rfl P16c (by simp [AV.closedL, closed_v, closed_agg, hcl]) ?_
    refine go rfl hX 0 (by conv => lhs; cbv; try simp only [hb0, hb]; cbv; try simp only [hb0, hb]; cbv; try simp only [hb0, hb]; cbv; try simp only [hb0, hb]; cbv) ?_ ?_
    · first | exact trivial | (simp only [Cd.ok, ee]; and_intros <;> first | omega | rfl | (simp <;> omega))
    refine go rfl hX 1 (by conv => lhs; cbv; try simp only [hb0, hb]; cbv; try simp only [hb0, hb]; cbv; try simp only [hb0, hb]; cbv; try simp only [hb0, hb]; cbv) ?_ ?_
    · first | exact trivial | (simp only [Cd.ok, ee]; and_intros <;> first | omega | rfl | (simp <;> omega))
    refine go rfl hX 60 (by conv => lhs; cbv) ?_ ?_
    · first | exact trivial | (simp only [Cd.ok, ee]; and_intros <;> first | omega | rfl | (simp <;> omega))
    refine fn_ret rfl rfl ?_
    exact Fz.none (.refl _)
  rw [if_neg h1]
  have hb : bOr (iLt n 0) (iLt 1099511627777 n) = false := by simp [ee]; omega
  have hmx : iMax 0 (iSub .i64 n tn) = max 0 (n - tn) := by
    simp only [ee]
    rw [wrap64 (by omega) (by omega)]
    split <;> omega
  refine go rfl hX 60 (by conv => lhs; cbv) ?_ ?_
  · first | exact trivial | (simp only [Cd.ok, ee]; and_intros <;> first | omega | rfl | (simp <;> omega))
  refine on_pcall (args := [AV.agg [int tn, AV.isl 1 eb, AV.isl 2 ep, int tk]]) rfl rfl rfl P16c (by simp [AV.closedL, closed_v, closed_agg, hcl]) ?_
  refine go rfl hX 0 (by conv => lhs; cbv; try simp only [hb0, hb, hmx]; cbv; try simp only [hb0, hb, hmx]; cbv; try simp only [hb0, hb, hmx]; cbv; try simp only [hb0, hb, hmx]; cbv) ?_ ?_
  · first | exact trivial | (simp only [Cd.ok, ee]; and_intros <;> first | omega | rfl | (simp <;> omega))
  refine go rfl hX 1 (by conv => lhs; cbv; try simp only [hb0, hb, hmx]; cbv; try simp only [hb0, hb, hmx]; cbv; try simp only [hb0, hb, hmx]; cbv; try simp only [hb0, hb, hmx]; cbv) ?_ ?_
  · first | exact trivial | (simp only [Cd.ok, ee]; and_intros <;> first | omega | rfl | (simp <;> omega))
  refine go rfl hX 60 (by conv => lhs; cbv) ?_ ?_
  · first | exact trivial | (simp only [Cd.ok, ee]; and_intros <;> first | omega | rfl | (simp <;> omega))
  generalize hmm : max 0 (n - tn) = mm at *
  have hmb : 0 ≤ mm ∧ mm ≤ 1099511627777 := by rw [← hmm]; omega
  refine on_loopP (ι := List Int × List Int × Int × Int) (fun p => ([(8, int p.2.2.1), (7, int p.2.2.2), (2, .ptr 0 0), (1, int n)], [.cells [int tn, .isl 1 eb, .isl 2 ep, int tk]]))
    (fun p => bey = p.1 ++ p.2.1 ∧ p.2.2.1 = p.1.length ∧ p.2.2.2 = mm - belowF n p.1) (fun p => p.2.1.length) ([], bey, 0, mm) ⟨rfl, rfl, by simp [belowF]⟩ (ent_fw ⟨.refl _, .int hmx, .refl _, .refl _, trivial⟩) ?_
  rintro ⟨d, r, i, m⟩ ⟨k1, hi, h2⟩
  dsimp only at k1 hi h2 ⊢
  have hbd := below_le n d
  cases r with
  | nil =>
    have L1 := len_split k1
    try simp only [List.length_cons, List.length_nil] at L1
    have hc : iLt i (lenA eb) = false := lt_f e_iLt e_lenA (by omega)
    have hd : d = bey := by rw [k1, List.append_nil]
    rw [hd] at h2
    rw [← h2]
    refine go rfl hX 0 (by conv => lhs; cbv; try simp only [hc]; cbv; try simp only [hc]; cbv; try simp only [hc]; cbv; try simp only [hc]; cbv) ?_ ?_
    · first | exact trivial | (simp only [Cd.ok, ee]; and_intros <;> first | omega | rfl | (simp <;> omega))
    refine go rfl hX 60 (by conv => lhs; cbv) ?_ ?_
    · first | exact trivial | (simp only [Cd.ok, ee]; and_intros <;> first | omega | rfl | (simp <;> omega))
    refine loopP_exit ?_
    refine go rfl hX 60 (by conv => lhs; cbv) ?_ ?_
    · first | exact trivial | (simp only [Cd.ok, ee]; and_intros <;> first | omega | rfl | (simp <;> omega))
    refine fn_ret rfl rfl ?_
    exact Fz.none (.refl _)
  | cons x r =>
    have L1 := len_split k1
    try simp only [List.length_cons, List.length_nil] at L1
    have hc : iLt i (lenA eb) = true := lt_t e_iLt e_lenA (by omega)
    have hat := el_at e_atA heb k1 hi
    have hi' : iAdd .i64 i 1 = ((d ++ [x] : List Int).length : Int) := by
      simp only [List.length_append, List.length_cons, List.length_nil]; exact inc_w e_iAdd hi (by omega)
    have hbs := below_snoc n x d
    by_cases h3 : x < n
    · rw [if_pos h3] at hbs
      have hb4 : iLt x n = true := by simp [ee]; omega
      have hs1 : iSub .i64 m 1 = mm - belowF n (d ++ [x]) := by
        simp only [ee]
        rw [wrap64 (by omega) (by omega)]; omega
      refine go rfl hX 0 (by conv => lhs; cbv; try simp only [hc, hat, hb4]; cbv; try simp only [hc, hat, hb4]; cbv; try simp only [hc, hat, hb4]; cbv; try simp only [hc, hat, hb4]; cbv) ?_ ?_
      · first | exact trivial | (simp only [Cd.ok, ee]; and_intros <;> first | omega | rfl | (simp <;> omega))
      refine go rfl hX 1 (by conv => lhs; cbv; try simp only [hc, hat, hb4]; cbv; try simp only [hc, hat, hb4]; cbv; try simp only [hc, hat, hb4]; cbv; try simp only [hc, hat, hb4]; cbv) ?_ ?_
      · first | exact trivial | (simp only [Cd.ok, ee]; and_intros <;> first | omega | rfl | (simp <;> omega))
      refine go rfl hX 60 (by conv => lhs; cbv) ?_ ?_
      · first | exact trivial | (simp only [Cd.ok, ee]; and_intros <;> first | omega | rfl | (simp <;> omega))
      refine loopP_next (d ++ [x], r, iAdd .i64 i 1, iSub .i64 m 1) ⟨by simp [k1], hi', hs1⟩ (by simp) (ent_fw ⟨.refl _, .refl _, .refl _, .refl _, trivial⟩)
    · rw [if_neg h3] at hbs
      have hb4 : iLt x n = false := by simp [ee]; omega
      have hm1 : m = mm - belowF n (d ++ [x]) := by rw [hbs, h2]; omega
      refine go rfl hX 0 (by conv => lhs; cbv; try simp only [hc, hat, hb4]; cbv; try simp only [hc, hat, hb4]; cbv; try simp only [hc, hat, hb4]; cbv; try simp only [hc, hat, hb4]; cbv) ?_ ?_
      · first | exact trivial | (simp only [Cd.ok, ee]; and_intros <;> first | omega | rfl | (simp <;> omega))
      refine go rfl hX 1 (by conv => lhs; cbv; try simp only [hc, hat, hb4]; cbv; try simp only [hc, hat, hb4]; cbv; try simp only [hc, hat, hb4]; cbv; try simp only [hc, hat, hb4]; cbv) ?_ ?_
      · first | exact trivial | (simp only [Cd.ok, ee]; and_intros <;> first | omega | rfl | (simp <;> omega))
      refine go rfl hX 60 (by conv => lhs; cbv) ?_ ?_
      · first | exact trivial | (simp only [Cd.ok, ee]; and_intros <;> first | omega | rfl | (simp <;> omega))
      refine loopP_next (d ++ [x], r, iAdd .i64 i 1, m) ⟨by simp [k1], hi', hm1⟩ (by simp) (ent_fw ⟨.refl _, .refl _, .refl _, .refl _, trivial⟩)
end Go.Am
end
