/- Contracts of the program's functions, for every argument that meets the conditions that each theorem names. -/
import Derived.Test.YtecfkfgaejmdfaaCt5
import Derived.Test.YtecfkfgaejmdfaaAm6
section
set_option linter.unusedVariables false
set_option linter.unusedSimpArgs false
set_option maxRecDepth 20000
namespace Go.Am
open Go.Proofs

set_option maxHeartbeats 8000000 in
theorem P9 (l : List Int) (h8 : ∀ n ∈ l, 0 ≤ n ∧ n ≤ 255) (hs : Short l) : PCall EE 9 [.isl 1 (mapE u8 l)] (.val (.bool true)) := by
  have P11c := P11
  have hc0 : (AV.isl 1 (mapE u8 l)).closed = true := by simp [AV.closed, closed_mapE u8_closed]
  have hl0 : (mapE u8 l).length = l.length := mapE_len _ _
  by_cases hq : 30 < l.length
  · clear h8 hs
    generalize mapE u8 l = e0 at *
    refine words fun iLt iLe iEq iNe iAdd iSub iMul iQuo iRem iShr iNeg iCvt iMax iMin bNot bEq bNe bAnd bOr sEq sNe sLen sCat sCut sAt lenA lenN iOf natOf atA atN cutA partA dropA catA setA repA putA idxN addN subN minN lenCut hX e_iLt e_iLe e_iEq e_iNe e_iAdd e_iSub e_iMul e_iQuo e_iRem e_iShr e_iNeg e_iCvt e_iMax e_iMin e_bNot e_bEq e_bNe e_bAnd e_bOr e_sEq e_sNe e_sLen e_sCat e_sCut e_sAt e_lenA e_lenN e_iOf e_natOf e_atA e_atN e_cutA e_partA e_dropA e_catA e_setA e_repA e_putA e_idxN e_addN e_subN e_minN e_lenCut ee => ?_
    have hb : iLt 30 (lenA e0) = true := by simp [ee]; omega
    refine fn_body (fn := Try.f9) (n := 188) (ac := Tryc9) (rvs := [.t 2]) rfl (by decide) Tryp9 rfl rfl rfl ?_
    refine go rfl hX 0 (by conv => lhs; cbv; try simp only [hb]; cbv; try simp only [hb]; cbv; try simp only [hb]; cbv; try simp only [hb]; cbv) ?_ ?_
    · first | exact trivial | (simp only [Cd.ok, ee]; and_intros <;> first | omega | rfl | (simp <;> omega))
    refine go rfl hX 60 (by conv => lhs; cbv) ?_ ?_
    · first | exact trivial | (simp only [Cd.ok, ee]; and_intros <;> first | omega | rfl | (simp <;> omega))
    refine on_pcall (args := []) rfl rfl rfl P11c rfl ?_
    refine go rfl hX 60 (by conv => lhs; cbv) ?_ ?_
    · first | exact trivial | (simp only [Cd.ok, ee]; and_intros <;> first | omega | rfl | (simp <;> omega))
    refine fn_ret rfl rfl (.val ?_)
    rfl
  have r0 := small_range l h8
  have P25c := P25 l h8 (by omega)
  have z0 : (smallF l).length = l.length := by simp [smallF]
  generalize smallF l = n at *
  have P24a := P24 n (by omega)
  rw [(all_small _ _ t20_begin r0).1] at P24a
  change PCall EE 24 _ (.tup [(ofL20 n).enc, _]) at P24a
  have h20 := of_t20 r0
  generalize ofL20 n = t at *
  have P19c := P19 t h20.sml.fine
  rw [gaps_of h20] at P19c
  have P26c := fun v => P26 t v h20.sml.fine
  simp only [has_cont h20] at P26c
  have P28c : ∀ v : Int, 0 ≤ v ∧ v ≤ 100 → PCall EE 28 [t.enc, int v] (.tup [int (misF t v), int 0]) := fun v hv => by
    have := P28 t v h20.sml.fine
    rw [miss_of h20 hv] at this
    exact this
  have hcT := Trk.closed t
  have hce := closedI n
  have hgl : (holesF t.next t.bey).length ≤ 20 := Nat.le_trans (holes_le _ _) h20.len
  have hgo := holes_ord t.bey t.next h20.nrm.asc fun n hn => by have := h20.nrm.gt n hn; omega
  have hgi := fun v hv => in_most h20.nrm v hv
  have hgr := holes_range t.bey t.next h20.nrm.pos h20.next fun n hn => ⟨by have := h20.nrm.gt n hn; have := h20.nrm.pos; omega, h20.bey n hn⟩
  have hmz := mis_zero t h20.nrm
  have hms := mis_step t h20.nrm
  have hmr := mis_range h20
  have hnx := h20.next
  have hnp := h20.nrm.pos
  have hmo : (t.bey = [] ∧ mostF t = t.next) ∨ ∃ m, t.bey.getLast? = some m ∧ mostF t = m := by
    unfold mostF
    cases hl : t.bey.getLast? with
    | none => exact .inl ⟨List.getLast?_eq_none_iff.1 hl, rfl⟩
    | some m => exact .inr ⟨m, rfl, rfl⟩
  have hcg := closedP (holesF t.next t.bey)
  have hcb := closedI t.bey
  have hcp := closedP t.pts
  have heg : (mapE Pt.enc (holesF t.next t.bey)).length = (holesF t.next t.bey).length := mapE_len _ _
  have hbl := h20.len
  have hebl : (mapE int t.bey).length = t.bey.length := mapE_len _ _
  unfold Trk.enc at P24a P19c P26c P28c hcT
  dsimp only at P19c P26c
  generalize hgs : holesF t.next t.bey = gs at *
  generalize hE1 : mapE int t.bey = eT at *
  generalize hE2 : mapE Pt.enc t.pts = epT at *
  generalize t.next = tn at *
  generalize t.mark = tk at *
  generalize mostF t = ms at *
  generalize hmf : misF t = mf at *
  generalize hcf : contF t = cf at *
  generalize hG : mapE Pt.enc gs = eg at *
  refine words fun iLt iLe iEq iNe iAdd iSub iMul iQuo iRem iShr iNeg iCvt iMax iMin bNot bEq bNe bAnd bOr sEq sNe sLen sCat sCut sAt lenA lenN iOf natOf atA atN cutA partA dropA catA setA repA putA idxN addN subN minN lenCut hX e_iLt e_iLe e_iEq e_iNe e_iAdd e_iSub e_iMul e_iQuo e_iRem e_iShr e_iNeg e_iCvt e_iMax e_iMin e_bNot e_bEq e_bNe e_bAnd e_bOr e_sEq e_sNe e_sLen e_sCat e_sCut e_sAt e_lenA e_lenN e_iOf e_natOf e_atA e_atN e_cutA e_partA e_dropA e_catA e_setA e_repA e_putA e_idxN e_addN e_subN e_minN e_lenCut ee => ?_
  generalize mapE u8 l = e0 at *
  generalize hes : mapE int n = en at *
  have hb : iLt 30 (lenA e0) = false := by simp [ee]; omega
  have hnt : bNot true = false := by simp [ee]
  have hnf : bNot false = true := by simp [ee]
  have hn0 : iNe 0 0 = false := by simp [ee]
  have hof : bOr false false = false := by simp [ee]
  have hg20 : iLt 20 (lenA eg) = false := by simp [ee]; omega
  refine fn_body (fn := Try.f9) (n := 188) (ac := Tryc9) (rvs := [.t 2]) rfl (by decide) Tryp9 rfl rfl rfl ?_
  refine go rfl hX 0 (by conv => lhs; cbv; try simp only [hb]; cbv; try simp only [hb]; cbv; try simp only [hb]; cbv; try simp only [hb]; cbv) ?_ ?_
  · first | exact trivial | (simp only [Cd.ok, ee]; and_intros <;> first | omega | rfl | (simp <;> omega))
  refine go rfl hX 1 (by conv => lhs; cbv; simp only [hb]; cbv) ?_ ?_
  · first | exact trivial | (simp only [Cd.ok, ee]; and_intros <;> first | omega | rfl | (simp <;> omega))
  refine on_pcall (args := [AV.isl 1 e0]) rfl rfl rfl P25c (by simp [AV.closedL, hc0]) ?_
  refine go rfl hX 60 (by conv => lhs; cbv) ?_ ?_
  · first | exact trivial | (simp only [Cd.ok, ee]; and_intros <;> first | omega | rfl | (simp <;> omega))
  refine on_pcall (args := [AV.isl 1 en]) rfl rfl rfl P24a (by simp [AV.closedL, hce]) ?_
  refine go rfl hX 60 (by conv => lhs; cbv) ?_ ?_
  · first | exact trivial | (simp only [Cd.ok, ee]; and_intros <;> first | omega | rfl | (simp <;> omega))
  refine on_pcall (args := [AV.agg [int tn, AV.isl 1 eT, AV.isl 2 epT, int tk]]) rfl rfl rfl P19c (by simp [AV.closedL, closed_v, closed_agg, hcT]) ?_
  refine go rfl hX 0 (by conv => lhs; cbv; try simp only [hnt, hn0, hof, hg20]; cbv; try simp only [hnt, hn0, hof, hg20]; cbv; try simp only [hnt, hn0, hof, hg20]; cbv; try simp only [hnt, hn0, hof, hg20]; cbv) ?_ ?_
  · first | exact trivial | (simp only [Cd.ok, ee]; and_intros <;> first | omega | rfl | (simp <;> omega))
  refine go rfl hX 1 (by conv => lhs; cbv; try simp only [hnt, hn0, hof, hg20]; cbv; try simp only [hnt, hn0, hof, hg20]; cbv; try simp only [hnt, hn0, hof, hg20]; cbv; try simp only [hnt, hn0, hof, hg20]; cbv) ?_ ?_
  · first | exact trivial | (simp only [Cd.ok, ee]; and_intros <;> first | omega | rfl | (simp <;> omega))
  obtain ⟨lI, hlI⟩ : ∃ lI : Int, lenA eT = lI := ⟨_, rfl⟩
  have hlI2 : lI = (t.bey.length : Int) := by rw [← hlI]; simp [ee, hebl]
  refine go rfl hX 0 (by conv => lhs; cbv; try simp only [hlI]; cbv; try simp only [hlI]; cbv; try simp only [hlI]; cbv; try simp only [hlI]; cbv) ?_ ?_
  · first | exact trivial | (simp only [Cd.ok, ee]; and_intros <;> first | omega | rfl | (simp <;> omega))
  refine on_condJ [(7, int ms), (5, .isl 2 eg), (3, .ptr 0 0)] [.cells [int tn, .isl 1 eT, .isl 2 epT, int tk]] rfl (fun hc => ?_) (fun hc => ?_) ?_
  · have hne : t.bey ≠ [] := by
      intro h
      have : lI = 0 := by rw [hlI2, h]; rfl
      subst this
      simp [ee] at hc
    obtain ⟨m, hm1, hm2⟩ := hmo.resolve_left fun h => hne h.1
    have hlp : 0 < t.bey.length := List.length_pos_iff.2 hne
    have hsub : iSub .i64 lI 1 = lI - 1 := by simp only [ee]; exact wrap64 (by omega) (by omega)
    obtain ⟨jI, hjI⟩ : ∃ jI, lI - 1 = jI := ⟨_, rfl⟩
    rw [hjI] at hsub
    have hat : atA eT jI = int ms := by
      simp only [ee]
      rw [← hE1, mapE_eq, List.getD_eq_getElem?_getD, show jI.toNat = t.bey.length - 1 by omega, List.getElem?_map, ← List.getLast?_eq_getElem?, hm1, hm2]; rfl
    have hjl : 0 ≤ jI ∧ jI < (eT.length : Int) := by omega
    refine go rfl hX 0 (by conv => lhs; cbv; try simp only [hsub, hat]; cbv; try simp only [hsub, hat]; cbv; try simp only [hsub, hat]; cbv; try simp only [hsub, hat]; cbv) ?_ ?_
    · first | exact trivial | (simp only [Cd.ok, ee]; and_intros <;> first | omega | rfl | (simp <;> omega))
    exact ⟨rfl, (ent_sub [.to 0] [some 0] ⟨⟨by simp, rfl⟩, trivial⟩ ⟨osrc_cells (b := 0) rfl rfl rfl ⟨.refl _, .cl hcb, .cl hcp, .refl _, trivial⟩, trivial⟩ ⟨.refl _, .cl hcg, .refl _, trivial⟩)⟩
  · have hne : t.bey = [] := by
      have : ¬ 0 < lI := by simpa [ee] using hc
      exact List.eq_nil_of_length_eq_zero (by omega)
    have hm : ms = tn := by
      rcases hmo with h | ⟨m, h, _⟩
      · exact h.2
      · rw [hne] at h; simp at h
    refine go rfl hX 60 (by conv => lhs; cbv) ?_ ?_
    · first | exact trivial | (simp only [Cd.ok, ee]; and_intros <;> first | omega | rfl | (simp <;> omega))
    exact ⟨rfl, (ent_sub [.to 0] [some 0] ⟨⟨by simp, rfl⟩, trivial⟩ ⟨osrc_cells (b := 0) rfl rfl rfl ⟨.refl _, .cl hcb, .cl hcp, .refl _, trivial⟩, trivial⟩ ⟨.of (by rw [hm]; rfl), .cl hcg, .refl _, trivial⟩)⟩
  clear hlI hlI2
  have hm0 := hmz 0 (by omega)
  refine go rfl hX 60 (by conv => lhs; cbv) ?_ ?_
  · first | exact trivial | (simp only [Cd.ok, ee]; and_intros <;> first | omega | rfl | (simp <;> omega))
  refine on_loopP (ι := Nat)
    (fun p => ([(10, int (p : Int)), (9, int (mf (p : Int))), (7, int ms), (5, .isl 2 eg), (3, .ptr 0 0)], [.cells [int tn, .isl 1 eT, .isl 2 epT, int tk]]))
    (fun p => p ≤ 25) (fun p => 25 - p) 0 (by simp)
    (ent_sub [.to 0] [some 0] ⟨⟨by simp, rfl⟩, trivial⟩ ⟨osrc_cells (b := 0) rfl rfl rfl ⟨.refl _, .cl hcb, .cl hcp, .refl _, trivial⟩, trivial⟩ ⟨.refl _, .of (congrArg int (by show (0 : Int) = mf ((0 : Nat) : Int); rw [← hm0]; rfl)), .refl _, .cl hcg, .refl _, trivial⟩) ?_
  rintro v hv
  dsimp only at hv ⊢
  obtain ⟨vI, hvI⟩ : ∃ vI : Int, (v : Int) = vI := ⟨_, rfl⟩
  rw [hvI]
  have hB1 : ∀ a b, bAnd a b = (a && b) := by simp [ee]
  have hB2 : ∀ a b, bOr a b = (a || b) := by simp [ee]
  have hB3 : ∀ a, bNot a = !a := by simp [ee]
  have he0 : iEq 0 0 = true := by simp [ee]
  by_cases hv25 : v = 25
  · have hlt : iLt vI 25 = false := by simp [ee]; omega
    have P28d := P28c tn (by omega)
    rw [hmz tn (by omega)] at P28d
    generalize mf vI = cv at *
    refine go rfl hX 0 (by conv => lhs; cbv; try simp only [hlt, he0, hB1]; cbv; try simp only [hlt, he0, hB1]; cbv; try simp only [hlt, he0, hB1]; cbv; try simp only [hlt, he0, hB1]; cbv) ?_ ?_
    · first | exact trivial | (simp only [Cd.ok, ee]; and_intros <;> first | omega | rfl | (simp <;> omega))
    refine go rfl hX 60 (by conv => lhs; cbv) ?_ ?_
    · first | exact trivial | (simp only [Cd.ok, ee]; and_intros <;> first | omega | rfl | (simp <;> omega))
    refine loopP_exit ?_
    refine go rfl hX 60 (by conv => lhs; cbv) ?_ ?_
    · first | exact trivial | (simp only [Cd.ok, ee]; and_intros <;> first | omega | rfl | (simp <;> omega))
    refine on_pcall (args := [AV.agg [int tn, AV.isl 1 eT, AV.isl 2 epT, int tk], int tn]) rfl rfl rfl P28d (by simp [AV.closedL, closed_v, closed_agg, hcT]) ?_
    refine go rfl hX 60 (by conv => lhs; cbv) ?_ ?_
    · first | exact trivial | (simp only [Cd.ok, ee]; and_intros <;> first | omega | rfl | (simp <;> omega))
    refine on_pcall (args := []) rfl rfl rfl P11c rfl ?_
    refine go rfl hX 60 (by conv => lhs; cbv) ?_ ?_
    · first | exact trivial | (simp only [Cd.ok, ee]; and_intros <;> first | omega | rfl | (simp <;> omega))
    refine fn_ret rfl rfl (.val ?_)
    simp only [he0, hB1]; rfl
  · have hlt : iLt vI 25 = true := by simp [ee]; omega
    have hv0 : 0 ≤ vI ∧ vI < 25 := by omega
    have P28d := P28c vI (by omega)
    have P26d := P26c vI
    have hgi2 := hgi vI hv0.1
    have hms2 := hms vI hv0.1
    have hmr2 := hmr vI (by omega)
    have hmr3 := hmr (vI + 1) (by omega)
    have hv1 : iAdd .i64 vI 1 = ((v + 1 : Nat) : Int) := by simp only [ee]; rw [wrap64 (by omega) (by omega)]; omega
    have hvv : ((v + 1 : Nat) : Int) = vI + 1 := by omega
    rw [← hvv] at hms2 hmr3
    generalize mf vI = cv at *
    generalize hcw : mf ((v + 1 : Nat) : Int) = cw at *
    generalize cf vI = hb at *
    refine go rfl hX 0 (by conv => lhs; cbv; try simp only [hlt]; cbv; try simp only [hlt]; cbv; try simp only [hlt]; cbv; try simp only [hlt]; cbv) ?_ ?_
    · first | exact trivial | (simp only [Cd.ok, ee]; and_intros <;> first | omega | rfl | (simp <;> omega))
    refine go rfl hX 60 (by conv => lhs; cbv) ?_ ?_
    · first | exact trivial | (simp only [Cd.ok, ee]; and_intros <;> first | omega | rfl | (simp <;> omega))
    refine on_loopP (ι := List Pt × List Pt × Int × Int)
      (fun p => ([(12, int p.2.2.1), (11, int (inF vI p.1 : Nat)), (10, int vI), (9, int cv), (7, int ms), (5, .isl 2 eg), (3, .ptr 0 0)], [.cells [int tn, .isl 1 eT, .isl 2 epT, int tk]]))
      (fun p => gs = p.1 ++ p.2.1 ∧ p.2.2.1 = p.1.length ∧ ordG p.2.2.2 p.2.1 ∧ ∀ q, p.1.getLast? = some q → q.b + 2 ≤ p.2.2.2) (fun p => p.2.1.length) ([], gs, 0, tn) ⟨rfl, rfl, hgo, by simp⟩
      (ent_sub [.to 0] [some 0] ⟨⟨by simp, rfl⟩, trivial⟩ ⟨osrc_cells (b := 0) rfl rfl rfl ⟨.refl _, .cl hcb, .cl hcp, .refl _, trivial⟩, trivial⟩ ⟨.refl _, .of (by simp [inF]; rfl), .refl _, .refl _, .refl _, .cl hcg, .refl _, trivial⟩) ?_
    rintro ⟨d, r, i, b⟩ ⟨j1, hi, ho, hq2⟩
    dsimp only at j1 hi ho hq2 ⊢
    have hcl : inF vI d ≤ 20 := by
      have h1 : inF vI d ≤ d.length := List.length_filter_le _ _
      have := congrArg List.length j1
      simp at this; omega
    cases r with
    | nil =>
      have L1 := len_split j1
      try simp only [List.length_cons, List.length_nil] at L1
      have hc : iLt i (lenA eg) = false := lt_f e_iLt e_lenA (by omega)
      have hd : d = gs := by rw [j1]; simp
      rw [hd, hgi2]
      have hz0 : iNe 1 0 = true := by simp [ee]
      have he1 : iEq 1 0 = false := by simp [ee]
      have hcc : iNe cv cv = false := by simp [ee]
      have hl1 : iLt vI ms = decide (vI < ms) := by simp [ee]
      have hl2 : iLe ms vI = !decide (vI < ms) := by
        simp only [ee]
        by_cases h : vI < ms
        · simp [h]
        · simp [h]; omega
      have hcv1 : hb = false → iAdd .i64 cv 1 = cw := by
        intro h; rw [h] at hms2; simp at hms2
        simp only [ee]; rw [wrap64 (by omega) (by omega)]; omega
      have hcv0 : hb = true → cv = cw := by intro h; rw [h] at hms2; simp at hms2; omega
      generalize decide (vI < ms) = lm at *
      cases hb with
      | true =>
        have hcv0 := hcv0 rfl
        have hin : (((if (!true && lm) = true then 1 else 0) : Nat) : Int) = 0 := by simp
        rw [hin]
        cases lm with
        | true =>
          refine go rfl hX 0 (by conv => lhs; cbv; try simp only [hc, hn0, he0, hcc, hl1, hl2, hB1, hB2, hB3]; cbv; try simp only [hc, hn0, he0, hcc, hl1, hl2, hB1, hB2, hB3]; cbv; try simp only [hc, hn0, he0, hcc, hl1, hl2, hB1, hB2, hB3]; cbv; try simp only [hc, hn0, he0, hcc, hl1, hl2, hB1, hB2, hB3]; cbv) ?_ ?_
          · first | exact trivial | (simp only [Cd.ok, ee]; and_intros <;> first | omega | rfl | (simp <;> omega))
          refine go rfl hX 60 (by conv => lhs; cbv) ?_ ?_
          · first | exact trivial | (simp only [Cd.ok, ee]; and_intros <;> first | omega | rfl | (simp <;> omega))
          refine loopP_exit ?_
          refine go rfl hX 60 (by conv => lhs; cbv) ?_ ?_
          · first | exact trivial | (simp only [Cd.ok, ee]; and_intros <;> first | omega | rfl | (simp <;> omega))
          refine on_pcall (args := [AV.agg [int tn, AV.isl 1 eT, AV.isl 2 epT, int tk], int vI]) rfl rfl rfl P26d (by simp [AV.closedL, closed_v, closed_agg, hcT]) ?_
          refine go rfl hX 60 (by conv => lhs; cbv) ?_ ?_
          · first | exact trivial | (simp only [Cd.ok, ee]; and_intros <;> first | omega | rfl | (simp <;> omega))
          refine on_pcall (args := [AV.agg [int tn, AV.isl 1 eT, AV.isl 2 epT, int tk], int vI]) rfl rfl rfl P28d (by simp [AV.closedL, closed_v, closed_agg, hcT]) ?_
          refine go rfl hX 0 (by conv => lhs; cbv; try simp only [hc, hn0, he0, hcc, hl1, hl2, hB1, hB2, hB3]; cbv; try simp only [hc, hn0, he0, hcc, hl1, hl2, hB1, hB2, hB3]; cbv; try simp only [hc, hn0, he0, hcc, hl1, hl2, hB1, hB2, hB3]; cbv; try simp only [hc, hn0, he0, hcc, hl1, hl2, hB1, hB2, hB3]; cbv) ?_ ?_
          · first | exact trivial | (simp only [Cd.ok, ee]; and_intros <;> first | omega | rfl | (simp <;> omega))
          refine go rfl hX 1 (by conv => lhs; cbv; try simp only [hc, hn0, he0, hcc, hl1, hl2, hB1, hB2, hB3]; cbv; try simp only [hc, hn0, he0, hcc, hl1, hl2, hB1, hB2, hB3]; cbv; try simp only [hc, hn0, he0, hcc, hl1, hl2, hB1, hB2, hB3]; cbv; try simp only [hc, hn0, he0, hcc, hl1, hl2, hB1, hB2, hB3]; cbv) ?_ ?_
          · first | exact trivial | (simp only [Cd.ok, ee]; and_intros <;> first | omega | rfl | (simp <;> omega))
          refine go rfl hX 1 (by conv => lhs; cbv; try simp only [hc, hn0, he0, hcc, hl1, hl2, hB1, hB2, hB3]; cbv; try simp only [hc, hn0, he0, hcc, hl1, hl2, hB1, hB2, hB3]; cbv; try simp only [hc, hn0, he0, hcc, hl1, hl2, hB1, hB2, hB3]; cbv; try simp only [hc, hn0, he0, hcc, hl1, hl2, hB1, hB2, hB3]; cbv) ?_ ?_
          · first | exact trivial | (simp only [Cd.ok, ee]; and_intros <;> first | omega | rfl | (simp <;> omega))
          refine go rfl hX 1 (by conv => lhs; cbv; try simp only [hc, hn0, he0, hcc, hl1, hl2, hB1, hB2, hB3]; cbv; try simp only [hc, hn0, he0, hcc, hl1, hl2, hB1, hB2, hB3]; cbv; try simp only [hc, hn0, he0, hcc, hl1, hl2, hB1, hB2, hB3]; cbv; try simp only [hc, hn0, he0, hcc, hl1, hl2, hB1, hB2, hB3]; cbv) ?_ ?_
          · first | exact trivial | (simp only [Cd.ok, ee]; and_intros <;> first | omega | rfl | (simp <;> omega))
          refine go rfl hX 1 (by conv => lhs; cbv; try simp only [hc, hn0, he0, hcc, hl1, hl2, hB1, hB2, hB3]; cbv; try simp only [hc, hn0, he0, hcc, hl1, hl2, hB1, hB2, hB3]; cbv; try simp only [hc, hn0, he0, hcc, hl1, hl2, hB1, hB2, hB3]; cbv; try simp only [hc, hn0, he0, hcc, hl1, hl2, hB1, hB2, hB3]; cbv) ?_ ?_
          · first | exact trivial | (simp only [Cd.ok, ee]; and_intros <;> first | omega | rfl | (simp <;> omega))
          refine go rfl hX 1 (by conv => lhs; cbv; try simp only [hc, hn0, he0, hcc, hl1, hl2, hB1, hB2, hB3]; cbv; try simp only [hc, hn0, he0, hcc, hl1, hl2, hB1, hB2, hB3]; cbv; try simp only [hc, hn0, he0, hcc, hl1, hl2, hB1, hB2, hB3]; cbv; try simp only [hc, hn0, he0, hcc, hl1, hl2, hB1, hB2, hB3]; cbv) ?_ ?_
          · first | exact trivial | (simp only [Cd.ok, ee]; and_intros <;> first | omega | rfl | (simp <;> omega))
          refine go rfl hX 1 (by conv => lhs; cbv; try simp only [hc, hn0, he0, hcc, hl1, hl2, hB1, hB2, hB3]; cbv; try simp only [hc, hn0, he0, hcc, hl1, hl2, hB1, hB2, hB3]; cbv; try simp only [hc, hn0, he0, hcc, hl1, hl2, hB1, hB2, hB3]; cbv; try simp only [hc, hn0, he0, hcc, hl1, hl2, hB1, hB2, hB3]; cbv) ?_ ?_
          · first | exact trivial | (simp only [Cd.ok, ee]; and_intros <;> first | omega | rfl | (simp <;> omega))
          refine go rfl hX 1 (by conv => lhs; cbv; try simp only [hc, hn0, he0, hcc, hl1, hl2, hB1, hB2, hB3]; cbv; try simp only [hc, hn0, he0, hcc, hl1, hl2, hB1, hB2, hB3]; cbv; try simp only [hc, hn0, he0, hcc, hl1, hl2, hB1, hB2, hB3]; cbv; try simp only [hc, hn0, he0, hcc, hl1, hl2, hB1, hB2, hB3]; cbv) ?_ ?_
          · first | exact trivial | (simp only [Cd.ok, ee]; and_intros <;> first | omega | rfl | (simp <;> omega))
          refine go rfl hX 1 (by conv => lhs; cbv; try simp only [hc, hn0, he0, hcc, hl1, hl2, hB1, hB2, hB3]; cbv; try simp only [hc, hn0, he0, hcc, hl1, hl2, hB1, hB2, hB3]; cbv; try simp only [hc, hn0, he0, hcc, hl1, hl2, hB1, hB2, hB3]; cbv; try simp only [hc, hn0, he0, hcc, hl1, hl2, hB1, hB2, hB3]; cbv) ?_ ?_
          · first | exact trivial | (simp only [Cd.ok, ee]; and_intros <;> first | omega | rfl | (simp <;> omega))
          refine go rfl hX 1 (by conv => lhs; cbv; try simp only [hc, hn0, he0, hcc, hl1, hl2, hB1, hB2, hB3]; cbv; try simp only [hc, hn0, he0, hcc, hl1, hl2, hB1, hB2, hB3]; cbv; try simp only [hc, hn0, he0, hcc, hl1, hl2, hB1, hB2, hB3]; cbv; try simp only [hc, hn0, he0, hcc, hl1, hl2, hB1, hB2, hB3]; cbv) ?_ ?_
          · first | exact trivial | (simp only [Cd.ok, ee]; and_intros <;> first | omega | rfl | (simp <;> omega))
          refine go rfl hX 1 (by conv => lhs; cbv; try simp only [hc, hn0, he0, hcc, hl1, hl2, hB1, hB2, hB3]; cbv; try simp only [hc, hn0, he0, hcc, hl1, hl2, hB1, hB2, hB3]; cbv; try simp only [hc, hn0, he0, hcc, hl1, hl2, hB1, hB2, hB3]; cbv; try simp only [hc, hn0, he0, hcc, hl1, hl2, hB1, hB2, hB3]; cbv) ?_ ?_
          · first | exact trivial | (simp only [Cd.ok, ee]; and_intros <;> first | omega | rfl | (simp <;> omega))
          refine go rfl hX 1 (by conv => lhs; cbv; try simp only [hc, hn0, he0, hcc, hl1, hl2, hB1, hB2, hB3]; cbv; try simp only [hc, hn0, he0, hcc, hl1, hl2, hB1, hB2, hB3]; cbv; try simp only [hc, hn0, he0, hcc, hl1, hl2, hB1, hB2, hB3]; cbv; try simp only [hc, hn0, he0, hcc, hl1, hl2, hB1, hB2, hB3]; cbv) ?_ ?_
          · first | exact trivial | (simp only [Cd.ok, ee]; and_intros <;> first | omega | rfl | (simp <;> omega))
          refine go rfl hX 1 (by conv => lhs; cbv; try simp only [hc, hn0, he0, hcc, hl1, hl2, hB1, hB2, hB3]; cbv; try simp only [hc, hn0, he0, hcc, hl1, hl2, hB1, hB2, hB3]; cbv; try simp only [hc, hn0, he0, hcc, hl1, hl2, hB1, hB2, hB3]; cbv; try simp only [hc, hn0, he0, hcc, hl1, hl2, hB1, hB2, hB3]; cbv) ?_ ?_
          · first | exact trivial | (simp only [Cd.ok, ee]; and_intros <;> first | omega | rfl | (simp <;> omega))
          refine go rfl hX 1 (by conv => lhs; cbv; try simp only [hc, hn0, he0, hcc, hl1, hl2, hB1, hB2, hB3]; cbv; try simp only [hc, hn0, he0, hcc, hl1, hl2, hB1, hB2, hB3]; cbv; try simp only [hc, hn0, he0, hcc, hl1, hl2, hB1, hB2, hB3]; cbv; try simp only [hc, hn0, he0, hcc, hl1, hl2, hB1, hB2, hB3]; cbv) ?_ ?_
          · first | exact trivial | (simp only [Cd.ok, ee]; and_intros <;> first | omega | rfl | (simp <;> omega))
          refine go rfl hX 1 (by conv => lhs; cbv; try simp only [hc, hn0, he0, hcc, hl1, hl2, hB1, hB2, hB3]; cbv; try simp only [hc, hn0, he0, hcc, hl1, hl2, hB1, hB2, hB3]; cbv; try simp only [hc, hn0, he0, hcc, hl1, hl2, hB1, hB2, hB3]; cbv; try simp only [hc, hn0, he0, hcc, hl1, hl2, hB1, hB2, hB3]; cbv) ?_ ?_
          · first | exact trivial | (simp only [Cd.ok, ee]; and_intros <;> first | omega | rfl | (simp <;> omega))
          refine go rfl hX 1 (by conv => lhs; cbv; try simp only [hc, hn0, he0, hcc, hl1, hl2, hB1, hB2, hB3]; cbv; try simp only [hc, hn0, he0, hcc, hl1, hl2, hB1, hB2, hB3]; cbv; try simp only [hc, hn0, he0, hcc, hl1, hl2, hB1, hB2, hB3]; cbv; try simp only [hc, hn0, he0, hcc, hl1, hl2, hB1, hB2, hB3]; cbv) ?_ ?_
          · first | exact trivial | (simp only [Cd.ok, ee]; and_intros <;> first | omega | rfl | (simp <;> omega))
          refine go rfl hX 1 (by conv => lhs; cbv; try simp only [hc, hn0, he0, hcc, hl1, hl2, hB1, hB2, hB3]; cbv; try simp only [hc, hn0, he0, hcc, hl1, hl2, hB1, hB2, hB3]; cbv; try simp only [hc, hn0, he0, hcc, hl1, hl2, hB1, hB2, hB3]; cbv; try simp only [hc, hn0, he0, hcc, hl1, hl2, hB1, hB2, hB3]; cbv) ?_ ?_
          · first | exact trivial | (simp only [Cd.ok, ee]; and_intros <;> first | omega | rfl | (simp <;> omega))
          refine go rfl hX 1 (by conv => lhs; cbv; try simp only [hc, hn0, he0, hcc, hl1, hl2, hB1, hB2, hB3]; cbv; try simp only [hc, hn0, he0, hcc, hl1, hl2, hB1, hB2, hB3]; cbv; try simp only [hc, hn0, he0, hcc, hl1, hl2, hB1, hB2, hB3]; cbv; try simp only [hc, hn0, he0, hcc, hl1, hl2, hB1, hB2, hB3]; cbv) ?_ ?_
          · first | exact trivial | (simp only [Cd.ok, ee]; and_intros <;> first | omega | rfl | (simp <;> omega))
          refine go rfl hX 1 (by conv => lhs; cbv; try simp only [hc, hn0, he0, hcc, hl1, hl2, hB1, hB2, hB3]; cbv; try simp only [hc, hn0, he0, hcc, hl1, hl2, hB1, hB2, hB3]; cbv; try simp only [hc, hn0, he0, hcc, hl1, hl2, hB1, hB2, hB3]; cbv; try simp only [hc, hn0, he0, hcc, hl1, hl2, hB1, hB2, hB3]; cbv) ?_ ?_
          · first | exact trivial | (simp only [Cd.ok, ee]; and_intros <;> first | omega | rfl | (simp <;> omega))
          refine go rfl hX 1 (by conv => lhs; cbv; try simp only [hc, hn0, he0, hcc, hl1, hl2, hB1, hB2, hB3]; cbv; try simp only [hc, hn0, he0, hcc, hl1, hl2, hB1, hB2, hB3]; cbv; try simp only [hc, hn0, he0, hcc, hl1, hl2, hB1, hB2, hB3]; cbv; try simp only [hc, hn0, he0, hcc, hl1, hl2, hB1, hB2, hB3]; cbv) ?_ ?_
          · first | exact trivial | (simp only [Cd.ok, ee]; and_intros <;> first | omega | rfl | (simp <;> omega))
          refine go rfl hX 1 (by conv => lhs; cbv; try simp only [hc, hn0, he0, hcc, hl1, hl2, hB1, hB2, hB3]; cbv; try simp only [hc, hn0, he0, hcc, hl1, hl2, hB1, hB2, hB3]; cbv; try simp only [hc, hn0, he0, hcc, hl1, hl2, hB1, hB2, hB3]; cbv; try simp only [hc, hn0, he0, hcc, hl1, hl2, hB1, hB2, hB3]; cbv) ?_ ?_
          · first | exact trivial | (simp only [Cd.ok, ee]; and_intros <;> first | omega | rfl | (simp <;> omega))
          refine go rfl hX 1 (by conv => lhs; cbv; try simp only [hc, hn0, he0, hcc, hl1, hl2, hB1, hB2, hB3]; cbv; try simp only [hc, hn0, he0, hcc, hl1, hl2, hB1, hB2, hB3]; cbv; try simp only [hc, hn0, he0, hcc, hl1, hl2, hB1, hB2, hB3]; cbv; try simp only [hc, hn0, he0, hcc, hl1, hl2, hB1, hB2, hB3]; cbv) ?_ ?_
          · first | exact trivial | (simp only [Cd.ok, ee]; and_intros <;> first | omega | rfl | (simp <;> omega))
          refine go rfl hX 60 (by conv => lhs; cbv) ?_ ?_
          · first | exact trivial | (simp only [Cd.ok, ee]; and_intros <;> first | omega | rfl | (simp <;> omega))
          refine loopP_next (v + 1) (by show v + 1 ≤ 25; omega) (show 25 - (v + 1) < 25 - v by omega) (by (try dsimp only); rw [hcw]; exact (ent_sub [.to 0] [some 0] ⟨⟨by simp, rfl⟩, trivial⟩ ⟨osrc_cells (b := 0) rfl rfl rfl ⟨.refl _, .cl hcb, .cl hcp, .refl _, trivial⟩, trivial⟩ ⟨.of (congrArg int hv1), .of (congrArg int hcv0), .refl _, .cl hcg, .refl _, trivial⟩))
        | false =>
          refine go rfl hX 0 (by conv => lhs; cbv; try simp only [hc, hn0, he0, hcc, hl1, hl2, hB1, hB2, hB3]; cbv; try simp only [hc, hn0, he0, hcc, hl1, hl2, hB1, hB2, hB3]; cbv; try simp only [hc, hn0, he0, hcc, hl1, hl2, hB1, hB2, hB3]; cbv; try simp only [hc, hn0, he0, hcc, hl1, hl2, hB1, hB2, hB3]; cbv) ?_ ?_
          · first | exact trivial | (simp only [Cd.ok, ee]; and_intros <;> first | omega | rfl | (simp <;> omega))
          refine go rfl hX 60 (by conv => lhs; cbv) ?_ ?_
          · first | exact trivial | (simp only [Cd.ok, ee]; and_intros <;> first | omega | rfl | (simp <;> omega))
          refine loopP_exit ?_
          refine go rfl hX 60 (by conv => lhs; cbv) ?_ ?_
          · first | exact trivial | (simp only [Cd.ok, ee]; and_intros <;> first | omega | rfl | (simp <;> omega))
          refine on_pcall (args := [AV.agg [int tn, AV.isl 1 eT, AV.isl 2 epT, int tk], int vI]) rfl rfl rfl P26d (by simp [AV.closedL, closed_v, closed_agg, hcT]) ?_
          refine go rfl hX 60 (by conv => lhs; cbv) ?_ ?_
          · first | exact trivial | (simp only [Cd.ok, ee]; and_intros <;> first | omega | rfl | (simp <;> omega))
          refine on_pcall (args := [AV.agg [int tn, AV.isl 1 eT, AV.isl 2 epT, int tk], int vI]) rfl rfl rfl P28d (by simp [AV.closedL, closed_v, closed_agg, hcT]) ?_
          refine go rfl hX 0 (by conv => lhs; cbv; try simp only [hc, hn0, he0, hcc, hl1, hl2, hB1, hB2, hB3]; cbv; try simp only [hc, hn0, he0, hcc, hl1, hl2, hB1, hB2, hB3]; cbv; try simp only [hc, hn0, he0, hcc, hl1, hl2, hB1, hB2, hB3]; cbv; try simp only [hc, hn0, he0, hcc, hl1, hl2, hB1, hB2, hB3]; cbv) ?_ ?_
          · first | exact trivial | (simp only [Cd.ok, ee]; and_intros <;> first | omega | rfl | (simp <;> omega))
          refine go rfl hX 1 (by conv => lhs; cbv; try simp only [hc, hn0, he0, hcc, hl1, hl2, hB1, hB2, hB3]; cbv; try simp only [hc, hn0, he0, hcc, hl1, hl2, hB1, hB2, hB3]; cbv; try simp only [hc, hn0, he0, hcc, hl1, hl2, hB1, hB2, hB3]; cbv; try simp only [hc, hn0, he0, hcc, hl1, hl2, hB1, hB2, hB3]; cbv) ?_ ?_
          · first | exact trivial | (simp only [Cd.ok, ee]; and_intros <;> first | omega | rfl | (simp <;> omega))
          refine go rfl hX 1 (by conv => lhs; cbv; try simp only [hc, hn0, he0, hcc, hl1, hl2, hB1, hB2, hB3]; cbv; try simp only [hc, hn0, he0, hcc, hl1, hl2, hB1, hB2, hB3]; cbv; try simp only [hc, hn0, he0, hcc, hl1, hl2, hB1, hB2, hB3]; cbv; try simp only [hc, hn0, he0, hcc, hl1, hl2, hB1, hB2, hB3]; cbv) ?_ ?_
          · first | exact trivial | (simp only [Cd.ok, ee]; and_intros <;> first | omega | rfl | (simp <;> omega))
          refine go rfl hX 1 (by conv => lhs; cbv; try simp only [hc, hn0, he0, hcc, hl1, hl2, hB1, hB2, hB3]; cbv; try simp only [hc, hn0, he0, hcc, hl1, hl2, hB1, hB2, hB3]; cbv; try simp only [hc, hn0, he0, hcc, hl1, hl2, hB1, hB2, hB3]; cbv; try simp only [hc, hn0, he0, hcc, hl1, hl2, hB1, hB2, hB3]; cbv) ?_ ?_
          · first | exact trivial | (simp only [Cd.ok, ee]; and_intros <;> first | omega | rfl | (simp <;> omega))
          refine go rfl hX 1 (by conv => lhs; cbv; try simp only [hc, hn0, he0, hcc, hl1, hl2, hB1, hB2, hB3]; cbv; try simp only [hc, hn0, he0, hcc, hl1, hl2, hB1, hB2, hB3]; cbv; try simp only [hc, hn0, he0, hcc, hl1, hl2, hB1, hB2, hB3]; cbv; try simp only [hc, hn0, he0, hcc, hl1, hl2, hB1, hB2, hB3]; cbv) ?_ ?_
          · first | exact trivial | (simp only [Cd.ok, ee]; and_intros <;> first | omega | rfl | (simp <;> omega))
          refine go rfl hX 1 (by conv => lhs; cbv; try simp only [hc, hn0, he0, hcc, hl1, hl2, hB1, hB2, hB3]; cbv; try simp only [hc, hn0, he0, hcc, hl1, hl2, hB1, hB2, hB3]; cbv; try simp only [hc, hn0, he0, hcc, hl1, hl2, hB1, hB2, hB3]; cbv; try simp only [hc, hn0, he0, hcc, hl1, hl2, hB1, hB2, hB3]; cbv) ?_ ?_
          · first | exact trivial | (simp only [Cd.ok, ee]; and_intros <;> first | omega | rfl | (simp <;> omega))
          refine go rfl hX 1 (by conv => lhs; cbv; try simp only [hc, hn0, he0, hcc, hl1, hl2, hB1, hB2, hB3]; cbv; try simp only [hc, hn0, he0, hcc, hl1, hl2, hB1, hB2, hB3]; cbv; try simp only [hc, hn0, he0, hcc, hl1, hl2, hB1, hB2, hB3]; cbv; try simp only [hc, hn0, he0, hcc, hl1, hl2, hB1, hB2, hB3]; cbv) ?_ ?_
          · first | exact trivial | (simp only [Cd.ok, ee]; and_intros <;> first | omega | rfl | (simp <;> omega))
          refine go rfl hX 1 (by conv => lhs; cbv; try simp only [hc, hn0, he0, hcc, hl1, hl2, hB1, hB2, hB3]; cbv; try simp only [hc, hn0, he0, hcc, hl1, hl2, hB1, hB2, hB3]; cbv; try simp only [hc, hn0, he0, hcc, hl1, hl2, hB1, hB2, hB3]; cbv; try simp only [hc, hn0, he0, hcc, hl1, hl2, hB1, hB2, hB3]; cbv) ?_ ?_
          · first | exact trivial | (simp only [Cd.ok, ee]; and_intros <;> first | omega | rfl | (simp <;> omega))
          refine go rfl hX 1 (by conv => lhs; cbv; try simp only [hc, hn0, he0, hcc, hl1, hl2, hB1, hB2, hB3]; cbv; try simp only [hc, hn0, he0, hcc, hl1, hl2, hB1, hB2, hB3]; cbv; try simp only [hc, hn0, he0, hcc, hl1, hl2, hB1, hB2, hB3]; cbv; try simp only [hc, hn0, he0, hcc, hl1, hl2, hB1, hB2, hB3]; cbv) ?_ ?_
          · first | exact trivial | (simp only [Cd.ok, ee]; and_intros <;> first | omega | rfl | (simp <;> omega))
          refine go rfl hX 1 (by conv => lhs; cbv; try simp only [hc, hn0, he0, hcc, hl1, hl2, hB1, hB2, hB3]; cbv; try simp only [hc, hn0, he0, hcc, hl1, hl2, hB1, hB2, hB3]; cbv; try simp only [hc, hn0, he0, hcc, hl1, hl2, hB1, hB2, hB3]; cbv; try simp only [hc, hn0, he0, hcc, hl1, hl2, hB1, hB2, hB3]; cbv) ?_ ?_
          · first | exact trivial | (simp only [Cd.ok, ee]; and_intros <;> first | omega | rfl | (simp <;> omega))
          refine go rfl hX 1 (by conv => lhs; cbv; try simp only [hc, hn0, he0, hcc, hl1, hl2, hB1, hB2, hB3]; cbv; try simp only [hc, hn0, he0, hcc, hl1, hl2, hB1, hB2, hB3]; cbv; try simp only [hc, hn0, he0, hcc, hl1, hl2, hB1, hB2, hB3]; cbv; try simp only [hc, hn0, he0, hcc, hl1, hl2, hB1, hB2, hB3]; cbv) ?_ ?_
          · first | exact trivial | (simp only [Cd.ok, ee]; and_intros <;> first | omega | rfl | (simp <;> omega))
          refine go rfl hX 1 (by conv => lhs; cbv; try simp only [hc, hn0, he0, hcc, hl1, hl2, hB1, hB2, hB3]; cbv; try simp only [hc, hn0, he0, hcc, hl1, hl2, hB1, hB2, hB3]; cbv; try simp only [hc, hn0, he0, hcc, hl1, hl2, hB1, hB2, hB3]; cbv; try simp only [hc, hn0, he0, hcc, hl1, hl2, hB1, hB2, hB3]; cbv) ?_ ?_
          · first | exact trivial | (simp only [Cd.ok, ee]; and_intros <;> first | omega | rfl | (simp <;> omega))
          refine go rfl hX 1 (by conv => lhs; cbv; try simp only [hc, hn0, he0, hcc, hl1, hl2, hB1, hB2, hB3]; cbv; try simp only [hc, hn0, he0, hcc, hl1, hl2, hB1, hB2, hB3]; cbv; try simp only [hc, hn0, he0, hcc, hl1, hl2, hB1, hB2, hB3]; cbv; try simp only [hc, hn0, he0, hcc, hl1, hl2, hB1, hB2, hB3]; cbv) ?_ ?_
          · first | exact trivial | (simp only [Cd.ok, ee]; and_intros <;> first | omega | rfl | (simp <;> omega))
          refine go rfl hX 1 (by conv => lhs; cbv; try simp only [hc, hn0, he0, hcc, hl1, hl2, hB1, hB2, hB3]; cbv; try simp only [hc, hn0, he0, hcc, hl1, hl2, hB1, hB2, hB3]; cbv; try simp only [hc, hn0, he0, hcc, hl1, hl2, hB1, hB2, hB3]; cbv; try simp only [hc, hn0, he0, hcc, hl1, hl2, hB1, hB2, hB3]; cbv) ?_ ?_
          · first | exact trivial | (simp only [Cd.ok, ee]; and_intros <;> first | omega | rfl | (simp <;> omega))
          refine go rfl hX 1 (by conv => lhs; cbv; try simp only [hc, hn0, he0, hcc, hl1, hl2, hB1, hB2, hB3]; cbv; try simp only [hc, hn0, he0, hcc, hl1, hl2, hB1, hB2, hB3]; cbv; try simp only [hc, hn0, he0, hcc, hl1, hl2, hB1, hB2, hB3]; cbv; try simp only [hc, hn0, he0, hcc, hl1, hl2, hB1, hB2, hB3]; cbv) ?_ ?_
          · first | exact trivial | (simp only [Cd.ok, ee]; and_intros <;> first | omega | rfl | (simp <;> omega))
          refine go rfl hX 1 (by conv => lhs; cbv; try simp only [hc, hn0, he0, hcc, hl1, hl2, hB1, hB2, hB3]; cbv; try simp only [hc, hn0, he0, hcc, hl1, hl2, hB1, hB2, hB3]; cbv; try simp only [hc, hn0, he0, hcc, hl1, hl2, hB1, hB2, hB3]; cbv; try simp only [hc, hn0, he0, hcc, hl1, hl2, hB1, hB2, hB3]; cbv) ?_ ?_
          · first | exact trivial | (simp only [Cd.ok, ee]; and_intros <;> first | omega | rfl | (simp <;> omega))
          refine go rfl hX 1 (by conv => lhs; cbv; try simp only [hc, hn0, he0, hcc, hl1, hl2, hB1, hB2, hB3]; cbv; try simp only [hc, hn0, he0, hcc, hl1, hl2, hB1, hB2, hB3]; cbv; try simp only [hc, hn0, he0, hcc, hl1, hl2, hB1, hB2, hB3]; cbv; try simp only [hc, hn0, he0, hcc, hl1, hl2, hB1, hB2, hB3]; cbv) ?_ ?_
          · first | exact trivial | (simp only [Cd.ok, ee]; and_intros <;> first | omega | rfl | (simp <;> omega))
          refine go rfl hX 1 (by conv => lhs; cbv; try simp only [hc, hn0, he0, hcc, hl1, hl2, hB1, hB2, hB3]; cbv; try simp only [hc, hn0, he0, hcc, hl1, hl2, hB1, hB2, hB3]; cbv; try simp only [hc, hn0, he0, hcc, hl1, hl2, hB1, hB2, hB3]; cbv; try simp only [hc, hn0, he0, hcc, hl1, hl2, hB1, hB2, hB3]; cbv) ?_ ?_
          · first | exact trivial | (simp only [Cd.ok, ee]; and_intros <;> first | omega | rfl | (simp <;> omega))
          refine go rfl hX 1 (by conv => lhs; cbv; try simp only [hc, hn0, he0, hcc, hl1, hl2, hB1, hB2, hB3]; cbv; try simp only [hc, hn0, he0, hcc, hl1, hl2, hB1, hB2, hB3]; cbv; try simp only [hc, hn0, he0, hcc, hl1, hl2, hB1, hB2, hB3]; cbv; try simp only [hc, hn0, he0, hcc, hl1, hl2, hB1, hB2, hB3]; cbv) ?_ ?_
          · first | exact trivial | (simp only [Cd.ok, ee]; and_intros <;> first | omega | rfl | (simp <;> omega))
          refine go rfl hX 1 (by conv => lhs; cbv; try simp only [hc, hn0, he0, hcc, hl1, hl2, hB1, hB2, hB3]; cbv; try simp only [hc, hn0, he0, hcc, hl1, hl2, hB1, hB2, hB3]; cbv; try simp only [hc, hn0, he0, hcc, hl1, hl2, hB1, hB2, hB3]; cbv; try simp only [hc, hn0, he0, hcc, hl1, hl2, hB1, hB2, hB3]; cbv) ?_ ?_
          · first | exact trivial | (simp only [Cd.ok, ee]; and_intros <;> first | omega | rfl | (simp <;> omega))
          refine go rfl hX 1 (by conv => lhs; cbv; try simp only [hc, hn0, he0, hcc, hl1, hl2, hB1, hB2, hB3]; cbv; try simp only [hc, hn0, he0, hcc, hl1, hl2, hB1, hB2, hB3]; cbv; try simp only [hc, hn0, he0, hcc, hl1, hl2, hB1, hB2, hB3]; cbv; try simp only [hc, hn0, he0, hcc, hl1, hl2, hB1, hB2, hB3]; cbv) ?_ ?_
          · first | exact trivial | (simp only [Cd.ok, ee]; and_intros <;> first | omega | rfl | (simp <;> omega))
          refine go rfl hX 1 (by conv => lhs; cbv; try simp only [hc, hn0, he0, hcc, hl1, hl2, hB1, hB2, hB3]; cbv; try simp only [hc, hn0, he0, hcc, hl1, hl2, hB1, hB2, hB3]; cbv; try simp only [hc, hn0, he0, hcc, hl1, hl2, hB1, hB2, hB3]; cbv; try simp only [hc, hn0, he0, hcc, hl1, hl2, hB1, hB2, hB3]; cbv) ?_ ?_
          · first | exact trivial | (simp only [Cd.ok, ee]; and_intros <;> first | omega | rfl | (simp <;> omega))
          refine go rfl hX 60 (by conv => lhs; cbv) ?_ ?_
          · first | exact trivial | (simp only [Cd.ok, ee]; and_intros <;> first | omega | rfl | (simp <;> omega))
          refine loopP_next (v + 1) (by show v + 1 ≤ 25; omega) (show 25 - (v + 1) < 25 - v by omega) (by (try dsimp only); rw [hcw]; exact (ent_sub [.to 0] [some 0] ⟨⟨by simp, rfl⟩, trivial⟩ ⟨osrc_cells (b := 0) rfl rfl rfl ⟨.refl _, .cl hcb, .cl hcp, .refl _, trivial⟩, trivial⟩ ⟨.of (congrArg int hv1), .of (congrArg int hcv0), .refl _, .cl hcg, .refl _, trivial⟩))
      | false =>
        have hcv1 := hcv1 rfl
        cases lm with
        | true =>
          have hin : (((if (!false && true) = true then 1 else 0) : Nat) : Int) = 1 := by simp
          rw [hin]
          refine go rfl hX 0 (by conv => lhs; cbv; try simp only [hc, hn0, he0, hcc, hl1, hl2, hB1, hB2, hB3, hz0, he1]; cbv; try simp only [hc, hn0, he0, hcc, hl1, hl2, hB1, hB2, hB3, hz0, he1]; cbv; try simp only [hc, hn0, he0, hcc, hl1, hl2, hB1, hB2, hB3, hz0, he1]; cbv; try simp only [hc, hn0, he0, hcc, hl1, hl2, hB1, hB2, hB3, hz0, he1]; cbv) ?_ ?_
          · first | exact trivial | (simp only [Cd.ok, ee]; and_intros <;> first | omega | rfl | (simp <;> omega))
          refine go rfl hX 60 (by conv => lhs; cbv) ?_ ?_
          · first | exact trivial | (simp only [Cd.ok, ee]; and_intros <;> first | omega | rfl | (simp <;> omega))
          refine loopP_exit ?_
          refine go rfl hX 60 (by conv => lhs; cbv) ?_ ?_
          · first | exact trivial | (simp only [Cd.ok, ee]; and_intros <;> first | omega | rfl | (simp <;> omega))
          refine on_pcall (args := [AV.agg [int tn, AV.isl 1 eT, AV.isl 2 epT, int tk], int vI]) rfl rfl rfl P26d (by simp [AV.closedL, closed_v, closed_agg, hcT]) ?_
          refine go rfl hX 60 (by conv => lhs; cbv) ?_ ?_
          · first | exact trivial | (simp only [Cd.ok, ee]; and_intros <;> first | omega | rfl | (simp <;> omega))
          refine on_pcall (args := [AV.agg [int tn, AV.isl 1 eT, AV.isl 2 epT, int tk], int vI]) rfl rfl rfl P28d (by simp [AV.closedL, closed_v, closed_agg, hcT]) ?_
          refine go rfl hX 0 (by conv => lhs; cbv; try simp only [hc, hn0, he0, hcc, hl1, hl2, hB1, hB2, hB3, hz0, he1]; cbv; try simp only [hc, hn0, he0, hcc, hl1, hl2, hB1, hB2, hB3, hz0, he1]; cbv; try simp only [hc, hn0, he0, hcc, hl1, hl2, hB1, hB2, hB3, hz0, he1]; cbv; try simp only [hc, hn0, he0, hcc, hl1, hl2, hB1, hB2, hB3, hz0, he1]; cbv) ?_ ?_
          · first | exact trivial | (simp only [Cd.ok, ee]; and_intros <;> first | omega | rfl | (simp <;> omega))
          refine go rfl hX 1 (by conv => lhs; cbv; try simp only [hc, hn0, he0, hcc, hl1, hl2, hB1, hB2, hB3, hz0, he1]; cbv; try simp only [hc, hn0, he0, hcc, hl1, hl2, hB1, hB2, hB3, hz0, he1]; cbv; try simp only [hc, hn0, he0, hcc, hl1, hl2, hB1, hB2, hB3, hz0, he1]; cbv; try simp only [hc, hn0, he0, hcc, hl1, hl2, hB1, hB2, hB3, hz0, he1]; cbv) ?_ ?_
          · first | exact trivial | (simp only [Cd.ok, ee]; and_intros <;> first | omega | rfl | (simp <;> omega))
          refine go rfl hX 1 (by conv => lhs; cbv; try simp only [hc, hn0, he0, hcc, hl1, hl2, hB1, hB2, hB3, hz0, he1]; cbv; try simp only [hc, hn0, he0, hcc, hl1, hl2, hB1, hB2, hB3, hz0, he1]; cbv; try simp only [hc, hn0, he0, hcc, hl1, hl2, hB1, hB2, hB3, hz0, he1]; cbv; try simp only [hc, hn0, he0, hcc, hl1, hl2, hB1, hB2, hB3, hz0, he1]; cbv) ?_ ?_
          · first | exact trivial | (simp only [Cd.ok, ee]; and_intros <;> first | omega | rfl | (simp <;> omega))
          refine go rfl hX 1 (by conv => lhs; cbv; try simp only [hc, hn0, he0, hcc, hl1, hl2, hB1, hB2, hB3, hz0, he1]; cbv; try simp only [hc, hn0, he0, hcc, hl1, hl2, hB1, hB2, hB3, hz0, he1]; cbv; try simp only [hc, hn0, he0, hcc, hl1, hl2, hB1, hB2, hB3, hz0, he1]; cbv; try simp only [hc, hn0, he0, hcc, hl1, hl2, hB1, hB2, hB3, hz0, he1]; cbv) ?_ ?_
          · first | exact trivial | (simp only [Cd.ok, ee]; and_intros <;> first | omega | rfl | (simp <;> omega))
          refine go rfl hX 1 (by conv => lhs; cbv; try simp only [hc, hn0, he0, hcc, hl1, hl2, hB1, hB2, hB3, hz0, he1]; cbv; try simp only [hc, hn0, he0, hcc, hl1, hl2, hB1, hB2, hB3, hz0, he1]; cbv; try simp only [hc, hn0, he0, hcc, hl1, hl2, hB1, hB2, hB3, hz0, he1]; cbv; try simp only [hc, hn0, he0, hcc, hl1, hl2, hB1, hB2, hB3, hz0, he1]; cbv) ?_ ?_
          · first | exact trivial | (simp only [Cd.ok, ee]; and_intros <;> first | omega | rfl | (simp <;> omega))
          refine go rfl hX 1 (by conv => lhs; cbv; try simp only [hc, hn0, he0, hcc, hl1, hl2, hB1, hB2, hB3, hz0, he1]; cbv; try simp only [hc, hn0, he0, hcc, hl1, hl2, hB1, hB2, hB3, hz0, he1]; cbv; try simp only [hc, hn0, he0, hcc, hl1, hl2, hB1, hB2, hB3, hz0, he1]; cbv; try simp only [hc, hn0, he0, hcc, hl1, hl2, hB1, hB2, hB3, hz0, he1]; cbv) ?_ ?_
          · first | exact trivial | (simp only [Cd.ok, ee]; and_intros <;> first | omega | rfl | (simp <;> omega))
          refine go rfl hX 1 (by conv => lhs; cbv; try simp only [hc, hn0, he0, hcc, hl1, hl2, hB1, hB2, hB3, hz0, he1]; cbv; try simp only [hc, hn0, he0, hcc, hl1, hl2, hB1, hB2, hB3, hz0, he1]; cbv; try simp only [hc, hn0, he0, hcc, hl1, hl2, hB1, hB2, hB3, hz0, he1]; cbv; try simp only [hc, hn0, he0, hcc, hl1, hl2, hB1, hB2, hB3, hz0, he1]; cbv) ?_ ?_
          · first | exact trivial | (simp only [Cd.ok, ee]; and_intros <;> first | omega | rfl | (simp <;> omega))
          refine go rfl hX 1 (by conv => lhs; cbv; try simp only [hc, hn0, he0, hcc, hl1, hl2, hB1, hB2, hB3, hz0, he1]; cbv; try simp only [hc, hn0, he0, hcc, hl1, hl2, hB1, hB2, hB3, hz0, he1]; cbv; try simp only [hc, hn0, he0, hcc, hl1, hl2, hB1, hB2, hB3, hz0, he1]; cbv; try simp only [hc, hn0, he0, hcc, hl1, hl2, hB1, hB2, hB3, hz0, he1]; cbv) ?_ ?_
          · first | exact trivial | (simp only [Cd.ok, ee]; and_intros <;> first | omega | rfl | (simp <;> omega))
          refine go rfl hX 1 (by conv => lhs; cbv; try simp only [hc, hn0, he0, hcc, hl1, hl2, hB1, hB2, hB3, hz0, he1]; cbv; try simp only [hc, hn0, he0, hcc, hl1, hl2, hB1, hB2, hB3, hz0, he1]; cbv; try simp only [hc, hn0, he0, hcc, hl1, hl2, hB1, hB2, hB3, hz0, he1]; cbv; try simp only [hc, hn0, he0, hcc, hl1, hl2, hB1, hB2, hB3, hz0, he1]; cbv) ?_ ?_
          · first | exact trivial | (simp only [Cd.ok, ee]; and_intros <;> first | omega | rfl | (simp <;> omega))
          refine go rfl hX 1 (by conv => lhs; cbv; try simp only [hc, hn0, he0, hcc, hl1, hl2, hB1, hB2, hB3, hz0, he1]; cbv; try simp only [hc, hn0, he0, hcc, hl1, hl2, hB1, hB2, hB3, hz0, he1]; cbv; try simp only [hc, hn0, he0, hcc, hl1, hl2, hB1, hB2, hB3, hz0, he1]; cbv; try simp only [hc, hn0, he0, hcc, hl1, hl2, hB1, hB2, hB3, hz0, he1]; cbv) ?_ ?_
          · first | exact trivial | (simp only [Cd.ok, ee]; and_intros <;> first | omega | rfl | (simp <;> omega))
          refine go rfl hX 1 (by conv => lhs; cbv; try simp only [hc, hn0, he0, hcc, hl1, hl2, hB1, hB2, hB3, hz0, he1]; cbv; try simp only [hc, hn0, he0, hcc, hl1, hl2, hB1, hB2, hB3, hz0, he1]; cbv; try simp only [hc, hn0, he0, hcc, hl1, hl2, hB1, hB2, hB3, hz0, he1]; cbv; try simp only [hc, hn0, he0, hcc, hl1, hl2, hB1, hB2, hB3, hz0, he1]; cbv) ?_ ?_
          · first | exact trivial | (simp only [Cd.ok, ee]; and_intros <;> first | omega | rfl | (simp <;> omega))
          refine go rfl hX 1 (by conv => lhs; cbv; try simp only [hc, hn0, he0, hcc, hl1, hl2, hB1, hB2, hB3, hz0, he1]; cbv; try simp only [hc, hn0, he0, hcc, hl1, hl2, hB1, hB2, hB3, hz0, he1]; cbv; try simp only [hc, hn0, he0, hcc, hl1, hl2, hB1, hB2, hB3, hz0, he1]; cbv; try simp only [hc, hn0, he0, hcc, hl1, hl2, hB1, hB2, hB3, hz0, he1]; cbv) ?_ ?_
          · first | exact trivial | (simp only [Cd.ok, ee]; and_intros <;> first | omega | rfl | (simp <;> omega))
          refine go rfl hX 1 (by conv => lhs; cbv; try simp only [hc, hn0, he0, hcc, hl1, hl2, hB1, hB2, hB3, hz0, he1]; cbv; try simp only [hc, hn0, he0, hcc, hl1, hl2, hB1, hB2, hB3, hz0, he1]; cbv; try simp only [hc, hn0, he0, hcc, hl1, hl2, hB1, hB2, hB3, hz0, he1]; cbv; try simp only [hc, hn0, he0, hcc, hl1, hl2, hB1, hB2, hB3, hz0, he1]; cbv) ?_ ?_
          · first | exact trivial | (simp only [Cd.ok, ee]; and_intros <;> first | omega | rfl | (simp <;> omega))
          refine go rfl hX 1 (by conv => lhs; cbv; try simp only [hc, hn0, he0, hcc, hl1, hl2, hB1, hB2, hB3, hz0, he1]; cbv; try simp only [hc, hn0, he0, hcc, hl1, hl2, hB1, hB2, hB3, hz0, he1]; cbv; try simp only [hc, hn0, he0, hcc, hl1, hl2, hB1, hB2, hB3, hz0, he1]; cbv; try simp only [hc, hn0, he0, hcc, hl1, hl2, hB1, hB2, hB3, hz0, he1]; cbv) ?_ ?_
          · first | exact trivial | (simp only [Cd.ok, ee]; and_intros <;> first | omega | rfl | (simp <;> omega))
          refine go rfl hX 1 (by conv => lhs; cbv; try simp only [hc, hn0, he0, hcc, hl1, hl2, hB1, hB2, hB3, hz0, he1]; cbv; try simp only [hc, hn0, he0, hcc, hl1, hl2, hB1, hB2, hB3, hz0, he1]; cbv; try simp only [hc, hn0, he0, hcc, hl1, hl2, hB1, hB2, hB3, hz0, he1]; cbv; try simp only [hc, hn0, he0, hcc, hl1, hl2, hB1, hB2, hB3, hz0, he1]; cbv) ?_ ?_
          · first | exact trivial | (simp only [Cd.ok, ee]; and_intros <;> first | omega | rfl | (simp <;> omega))
          refine go rfl hX 1 (by conv => lhs; cbv; try simp only [hc, hn0, he0, hcc, hl1, hl2, hB1, hB2, hB3, hz0, he1]; cbv; try simp only [hc, hn0, he0, hcc, hl1, hl2, hB1, hB2, hB3, hz0, he1]; cbv; try simp only [hc, hn0, he0, hcc, hl1, hl2, hB1, hB2, hB3, hz0, he1]; cbv; try simp only [hc, hn0, he0, hcc, hl1, hl2, hB1, hB2, hB3, hz0, he1]; cbv) ?_ ?_
          · first | exact trivial | (simp only [Cd.ok, ee]; and_intros <;> first | omega | rfl | (simp <;> omega))
          refine go rfl hX 1 (by conv => lhs; cbv; try simp only [hc, hn0, he0, hcc, hl1, hl2, hB1, hB2, hB3, hz0, he1]; cbv; try simp only [hc, hn0, he0, hcc, hl1, hl2, hB1, hB2, hB3, hz0, he1]; cbv; try simp only [hc, hn0, he0, hcc, hl1, hl2, hB1, hB2, hB3, hz0, he1]; cbv; try simp only [hc, hn0, he0, hcc, hl1, hl2, hB1, hB2, hB3, hz0, he1]; cbv) ?_ ?_
          · first | exact trivial | (simp only [Cd.ok, ee]; and_intros <;> first | omega | rfl | (simp <;> omega))
          refine go rfl hX 1 (by conv => lhs; cbv; try simp only [hc, hn0, he0, hcc, hl1, hl2, hB1, hB2, hB3, hz0, he1]; cbv; try simp only [hc, hn0, he0, hcc, hl1, hl2, hB1, hB2, hB3, hz0, he1]; cbv; try simp only [hc, hn0, he0, hcc, hl1, hl2, hB1, hB2, hB3, hz0, he1]; cbv; try simp only [hc, hn0, he0, hcc, hl1, hl2, hB1, hB2, hB3, hz0, he1]; cbv) ?_ ?_
          · first | exact trivial | (simp only [Cd.ok, ee]; and_intros <;> first | omega | rfl | (simp <;> omega))
          refine go rfl hX 1 (by conv => lhs; cbv; try simp only [hc, hn0, he0, hcc, hl1, hl2, hB1, hB2, hB3, hz0, he1]; cbv; try simp only [hc, hn0, he0, hcc, hl1, hl2, hB1, hB2, hB3, hz0, he1]; cbv; try simp only [hc, hn0, he0, hcc, hl1, hl2, hB1, hB2, hB3, hz0, he1]; cbv; try simp only [hc, hn0, he0, hcc, hl1, hl2, hB1, hB2, hB3, hz0, he1]; cbv) ?_ ?_
          · first | exact trivial | (simp only [Cd.ok, ee]; and_intros <;> first | omega | rfl | (simp <;> omega))
          refine go rfl hX 1 (by conv => lhs; cbv; try simp only [hc, hn0, he0, hcc, hl1, hl2, hB1, hB2, hB3, hz0, he1]; cbv; try simp only [hc, hn0, he0, hcc, hl1, hl2, hB1, hB2, hB3, hz0, he1]; cbv; try simp only [hc, hn0, he0, hcc, hl1, hl2, hB1, hB2, hB3, hz0, he1]; cbv; try simp only [hc, hn0, he0, hcc, hl1, hl2, hB1, hB2, hB3, hz0, he1]; cbv) ?_ ?_
          · first | exact trivial | (simp only [Cd.ok, ee]; and_intros <;> first | omega | rfl | (simp <;> omega))
          refine go rfl hX 1 (by conv => lhs; cbv; try simp only [hc, hn0, he0, hcc, hl1, hl2, hB1, hB2, hB3, hz0, he1]; cbv; try simp only [hc, hn0, he0, hcc, hl1, hl2, hB1, hB2, hB3, hz0, he1]; cbv; try simp only [hc, hn0, he0, hcc, hl1, hl2, hB1, hB2, hB3, hz0, he1]; cbv; try simp only [hc, hn0, he0, hcc, hl1, hl2, hB1, hB2, hB3, hz0, he1]; cbv) ?_ ?_
          · first | exact trivial | (simp only [Cd.ok, ee]; and_intros <;> first | omega | rfl | (simp <;> omega))
          refine go rfl hX 1 (by conv => lhs; cbv; try simp only [hc, hn0, he0, hcc, hl1, hl2, hB1, hB2, hB3, hz0, he1]; cbv; try simp only [hc, hn0, he0, hcc, hl1, hl2, hB1, hB2, hB3, hz0, he1]; cbv; try simp only [hc, hn0, he0, hcc, hl1, hl2, hB1, hB2, hB3, hz0, he1]; cbv; try simp only [hc, hn0, he0, hcc, hl1, hl2, hB1, hB2, hB3, hz0, he1]; cbv) ?_ ?_
          · first | exact trivial | (simp only [Cd.ok, ee]; and_intros <;> first | omega | rfl | (simp <;> omega))
          refine go rfl hX 60 (by conv => lhs; cbv) ?_ ?_
          · first | exact trivial | (simp only [Cd.ok, ee]; and_intros <;> first | omega | rfl | (simp <;> omega))
          refine loopP_next (v + 1) (by show v + 1 ≤ 25; omega) (show 25 - (v + 1) < 25 - v by omega) (by (try dsimp only); rw [hcw]; exact (ent_sub [.to 0] [some 0] ⟨⟨by simp, rfl⟩, trivial⟩ ⟨osrc_cells (b := 0) rfl rfl rfl ⟨.refl _, .cl hcb, .cl hcp, .refl _, trivial⟩, trivial⟩ ⟨.of (congrArg int hv1), .of (congrArg int hcv1), .refl _, .cl hcg, .refl _, trivial⟩))
        | false =>
          have hin : (((if (!false && false) = true then 1 else 0) : Nat) : Int) = 0 := by simp
          rw [hin]
          refine go rfl hX 0 (by conv => lhs; cbv; try simp only [hc, hn0, he0, hcc, hl1, hl2, hB1, hB2, hB3]; cbv; try simp only [hc, hn0, he0, hcc, hl1, hl2, hB1, hB2, hB3]; cbv; try simp only [hc, hn0, he0, hcc, hl1, hl2, hB1, hB2, hB3]; cbv; try simp only [hc, hn0, he0, hcc, hl1, hl2, hB1, hB2, hB3]; cbv) ?_ ?_
          · first | exact trivial | (simp only [Cd.ok, ee]; and_intros <;> first | omega | rfl | (simp <;> omega))
          refine go rfl hX 60 (by conv => lhs; cbv) ?_ ?_
          · first | exact trivial | (simp only [Cd.ok, ee]; and_intros <;> first | omega | rfl | (simp <;> omega))
          refine loopP_exit ?_
          refine go rfl hX 60 (by conv => lhs; cbv) ?_ ?_
          · first | exact trivial | (simp only [Cd.ok, ee]; and_intros <;> first | omega | rfl | (simp <;> omega))
          refine on_pcall (args := [AV.agg [int tn, AV.isl 1 eT, AV.isl 2 epT, int tk], int vI]) rfl rfl rfl P26d (by simp [AV.closedL, closed_v, closed_agg, hcT]) ?_
          refine go rfl hX 60 (by conv => lhs; cbv) ?_ ?_
          · first | exact trivial | (simp only [Cd.ok, ee]; and_intros <;> first | omega | rfl | (simp <;> omega))
          refine on_pcall (args := [AV.agg [int tn, AV.isl 1 eT, AV.isl 2 epT, int tk], int vI]) rfl rfl rfl P28d (by simp [AV.closedL, closed_v, closed_agg, hcT]) ?_
          refine go rfl hX 0 (by conv => lhs; cbv; try simp only [hc, hn0, he0, hcc, hl1, hl2, hB1, hB2, hB3]; cbv; try simp only [hc, hn0, he0, hcc, hl1, hl2, hB1, hB2, hB3]; cbv; try simp only [hc, hn0, he0, hcc, hl1, hl2, hB1, hB2, hB3]; cbv; try simp only [hc, hn0, he0, hcc, hl1, hl2, hB1, hB2, hB3]; cbv) ?_ ?_
          · first | exact trivial | (simp only [Cd.ok, ee]; and_intros <;> first | omega | rfl | (simp <;> omega))
          refine go rfl hX 1 (by conv => lhs; cbv; try simp only [hc, hn0, he0, hcc, hl1, hl2, hB1, hB2, hB3]; cbv; try simp only [hc, hn0, he0, hcc, hl1, hl2, hB1, hB2, hB3]; cbv; try simp only [hc, hn0, he0, hcc, hl1, hl2, hB1, hB2, hB3]; cbv; try simp only [hc, hn0, he0, hcc, hl1, hl2, hB1, hB2, hB3]; cbv) ?_ ?_
          · first | exact trivial | (simp only [Cd.ok, ee]; and_intros <;> first | omega | rfl | (simp <;> omega))
          refine go rfl hX 1 (by conv => lhs; cbv; try simp only [hc, hn0, he0, hcc, hl1, hl2, hB1, hB2, hB3]; cbv; try simp only [hc, hn0, he0, hcc, hl1, hl2, hB1, hB2, hB3]; cbv; try simp only [hc, hn0, he0, hcc, hl1, hl2, hB1, hB2, hB3]; cbv; try simp only [hc, hn0, he0, hcc, hl1, hl2, hB1, hB2, hB3]; cbv) ?_ ?_
          · first | exact trivial | (simp only [Cd.ok, ee]; and_intros <;> first | omega | rfl | (simp <;> omega))
          refine go rfl hX 1 (by conv => lhs; cbv; try simp only [hc, hn0, he0, hcc, hl1, hl2, hB1, hB2, hB3]; cbv; try simp only [hc, hn0, he0, hcc, hl1, hl2, hB1, hB2, hB3]; cbv; try simp only [hc, hn0, he0, hcc, hl1, hl2, hB1, hB2, hB3]; cbv; try simp only [hc, hn0, he0, hcc, hl1, hl2, hB1, hB2, hB3]; cbv) ?_ ?_
          · first | exact trivial | (simp only [Cd.ok, ee]; and_intros <;> first | omega | rfl | (simp <;> omega))
          refine go rfl hX 1 (by conv => lhs; cbv; try simp only [hc, hn0, he0, hcc, hl1, hl2, hB1, hB2, hB3]; cbv; try simp only [hc, hn0, he0, hcc, hl1, hl2, hB1, hB2, hB3]; cbv; try simp only [hc, hn0, he0, hcc, hl1, hl2, hB1, hB2, hB3]; cbv; try simp only [hc, hn0, he0, hcc, hl1, hl2, hB1, hB2, hB3]; cbv) ?_ ?_
          · first | exact trivial | (simp only [Cd.ok, ee]; and_intros <;> first | omega | rfl | (simp <;> omega))
          refine go rfl hX 1 (by conv => lhs; cbv; try simp only [hc, hn0, he0, hcc, hl1, hl2, hB1, hB2, hB3]; cbv; try simp only [hc, hn0, he0, hcc, hl1, hl2, hB1, hB2, hB3]; cbv; try simp only [hc, hn0, he0, hcc, hl1, hl2, hB1, hB2, hB3]; cbv; try simp only [hc, hn0, he0, hcc, hl1, hl2, hB1, hB2, hB3]; cbv) ?_ ?_
          · first | exact trivial | (simp only [Cd.ok, ee]; and_intros <;> first | omega | rfl | (simp <;> omega))
          refine go rfl hX 1 (by conv => lhs; cbv; try simp only [hc, hn0, he0, hcc, hl1, hl2, hB1, hB2, hB3]; cbv; try simp only [hc, hn0, he0, hcc, hl1, hl2, hB1, hB2, hB3]; cbv; try simp only [hc, hn0, he0, hcc, hl1, hl2, hB1, hB2, hB3]; cbv; try simp only [hc, hn0, he0, hcc, hl1, hl2, hB1, hB2, hB3]; cbv) ?_ ?_
          · first | exact trivial | (simp only [Cd.ok, ee]; and_intros <;> first | omega | rfl | (simp <;> omega))
          refine go rfl hX 1 (by conv => lhs; cbv; try simp only [hc, hn0, he0, hcc, hl1, hl2, hB1, hB2, hB3]; cbv; try simp only [hc, hn0, he0, hcc, hl1, hl2, hB1, hB2, hB3]; cbv; try simp only [hc, hn0, he0, hcc, hl1, hl2, hB1, hB2, hB3]; cbv; try simp only [hc, hn0, he0, hcc, hl1, hl2, hB1, hB2, hB3]; cbv) ?_ ?_
          · first | exact trivial | (simp only [Cd.ok, ee]; and_intros <;> first | omega | rfl | (simp <;> omega))
          refine go rfl hX 1 (by conv => lhs; cbv; try simp only [hc, hn0, he0, hcc, hl1, hl2, hB1, hB2, hB3]; cbv; try simp only [hc, hn0, he0, hcc, hl1, hl2, hB1, hB2, hB3]; cbv; try simp only [hc, hn0, he0, hcc, hl1, hl2, hB1, hB2, hB3]; cbv; try simp only [hc, hn0, he0, hcc, hl1, hl2, hB1, hB2, hB3]; cbv) ?_ ?_
          · first | exact trivial | (simp only [Cd.ok, ee]; and_intros <;> first | omega | rfl | (simp <;> omega))
          refine go rfl hX 1 (by conv => lhs; cbv; try simp only [hc, hn0, he0, hcc, hl1, hl2, hB1, hB2, hB3]; cbv; try simp only [hc, hn0, he0, hcc, hl1, hl2, hB1, hB2, hB3]; cbv; try simp only [hc, hn0, he0, hcc, hl1, hl2, hB1, hB2, hB3]; cbv; try simp only [hc, hn0, he0, hcc, hl1, hl2, hB1, hB2, hB3]; cbv) ?_ ?_
          · first | exact trivial | (simp only [Cd.ok, ee]; and_intros <;> first | omega | rfl | (simp <;> omega))
          refine go rfl hX 1 (by conv => lhs; cbv; try simp only [hc, hn0, he0, hcc, hl1, hl2, hB1, hB2, hB3]; cbv; try simp only [hc, hn0, he0, hcc, hl1, hl2, hB1, hB2, hB3]; cbv; try simp only [hc, hn0, he0, hcc, hl1, hl2, hB1, hB2, hB3]; cbv; try simp only [hc, hn0, he0, hcc, hl1, hl2, hB1, hB2, hB3]; cbv) ?_ ?_
          · first | exact trivial | (simp only [Cd.ok, ee]; and_intros <;> first | omega | rfl | (simp <;> omega))
          refine go rfl hX 1 (by conv => lhs; cbv; try simp only [hc, hn0, he0, hcc, hl1, hl2, hB1, hB2, hB3]; cbv; try simp only [hc, hn0, he0, hcc, hl1, hl2, hB1, hB2, hB3]; cbv; try simp only [hc, hn0, he0, hcc, hl1, hl2, hB1, hB2, hB3]; cbv; try simp only [hc, hn0, he0, hcc, hl1, hl2, hB1, hB2, hB3]; cbv) ?_ ?_
          · first | exact trivial | (simp only [Cd.ok, ee]; and_intros <;> first | omega | rfl | (simp <;> omega))
          refine go rfl hX 1 (by conv => lhs; cbv; try simp only [hc, hn0, he0, hcc, hl1, hl2, hB1, hB2, hB3]; cbv; try simp only [hc, hn0, he0, hcc, hl1, hl2, hB1, hB2, hB3]; cbv; try simp only [hc, hn0, he0, hcc, hl1, hl2, hB1, hB2, hB3]; cbv; try simp only [hc, hn0, he0, hcc, hl1, hl2, hB1, hB2, hB3]; cbv) ?_ ?_
          · first | exact trivial | (simp only [Cd.ok, ee]; and_intros <;> first | omega | rfl | (simp <;> omega))
          refine go rfl hX 1 (by conv => lhs; cbv; try simp only [hc, hn0, he0, hcc, hl1, hl2, hB1, hB2, hB3]; cbv; try simp only [hc, hn0, he0, hcc, hl1, hl2, hB1, hB2, hB3]; cbv; try simp only [hc, hn0, he0, hcc, hl1, hl2, hB1, hB2, hB3]; cbv; try simp only [hc, hn0, he0, hcc, hl1, hl2, hB1, hB2, hB3]; cbv) ?_ ?_
          · first | exact trivial | (simp only [Cd.ok, ee]; and_intros <;> first | omega | rfl | (simp <;> omega))
          refine go rfl hX 1 (by conv => lhs; cbv; try simp only [hc, hn0, he0, hcc, hl1, hl2, hB1, hB2, hB3]; cbv; try simp only [hc, hn0, he0, hcc, hl1, hl2, hB1, hB2, hB3]; cbv; try simp only [hc, hn0, he0, hcc, hl1, hl2, hB1, hB2, hB3]; cbv; try simp only [hc, hn0, he0, hcc, hl1, hl2, hB1, hB2, hB3]; cbv) ?_ ?_
          · first | exact trivial | (simp only [Cd.ok, ee]; and_intros <;> first | omega | rfl | (simp <;> omega))
          refine go rfl hX 1 (by conv => lhs; cbv; try simp only [hc, hn0, he0, hcc, hl1, hl2, hB1, hB2, hB3]; cbv; try simp only [hc, hn0, he0, hcc, hl1, hl2, hB1, hB2, hB3]; cbv; try simp only [hc, hn0, he0, hcc, hl1, hl2, hB1, hB2, hB3]; cbv; try simp only [hc, hn0, he0, hcc, hl1, hl2, hB1, hB2, hB3]; cbv) ?_ ?_
          · first | exact trivial | (simp only [Cd.ok, ee]; and_intros <;> first | omega | rfl | (simp <;> omega))
          refine go rfl hX 1 (by conv => lhs; cbv; try simp only [hc, hn0, he0, hcc, hl1, hl2, hB1, hB2, hB3]; cbv; try simp only [hc, hn0, he0, hcc, hl1, hl2, hB1, hB2, hB3]; cbv; try simp only [hc, hn0, he0, hcc, hl1, hl2, hB1, hB2, hB3]; cbv; try simp only [hc, hn0, he0, hcc, hl1, hl2, hB1, hB2, hB3]; cbv) ?_ ?_
          · first | exact trivial | (simp only [Cd.ok, ee]; and_intros <;> first | omega | rfl | (simp <;> omega))
          refine go rfl hX 1 (by conv => lhs; cbv; try simp only [hc, hn0, he0, hcc, hl1, hl2, hB1, hB2, hB3]; cbv; try simp only [hc, hn0, he0, hcc, hl1, hl2, hB1, hB2, hB3]; cbv; try simp only [hc, hn0, he0, hcc, hl1, hl2, hB1, hB2, hB3]; cbv; try simp only [hc, hn0, he0, hcc, hl1, hl2, hB1, hB2, hB3]; cbv) ?_ ?_
          · first | exact trivial | (simp only [Cd.ok, ee]; and_intros <;> first | omega | rfl | (simp <;> omega))
          refine go rfl hX 1 (by conv => lhs; cbv; try simp only [hc, hn0, he0, hcc, hl1, hl2, hB1, hB2, hB3]; cbv; try simp only [hc, hn0, he0, hcc, hl1, hl2, hB1, hB2, hB3]; cbv; try simp only [hc, hn0, he0, hcc, hl1, hl2, hB1, hB2, hB3]; cbv; try simp only [hc, hn0, he0, hcc, hl1, hl2, hB1, hB2, hB3]; cbv) ?_ ?_
          · first | exact trivial | (simp only [Cd.ok, ee]; and_intros <;> first | omega | rfl | (simp <;> omega))
          refine go rfl hX 1 (by conv => lhs; cbv; try simp only [hc, hn0, he0, hcc, hl1, hl2, hB1, hB2, hB3]; cbv; try simp only [hc, hn0, he0, hcc, hl1, hl2, hB1, hB2, hB3]; cbv; try simp only [hc, hn0, he0, hcc, hl1, hl2, hB1, hB2, hB3]; cbv; try simp only [hc, hn0, he0, hcc, hl1, hl2, hB1, hB2, hB3]; cbv) ?_ ?_
          · first | exact trivial | (simp only [Cd.ok, ee]; and_intros <;> first | omega | rfl | (simp <;> omega))
          refine go rfl hX 1 (by conv => lhs; cbv; try simp only [hc, hn0, he0, hcc, hl1, hl2, hB1, hB2, hB3]; cbv; try simp only [hc, hn0, he0, hcc, hl1, hl2, hB1, hB2, hB3]; cbv; try simp only [hc, hn0, he0, hcc, hl1, hl2, hB1, hB2, hB3]; cbv; try simp only [hc, hn0, he0, hcc, hl1, hl2, hB1, hB2, hB3]; cbv) ?_ ?_
          · first | exact trivial | (simp only [Cd.ok, ee]; and_intros <;> first | omega | rfl | (simp <;> omega))
          refine go rfl hX 1 (by conv => lhs; cbv; try simp only [hc, hn0, he0, hcc, hl1, hl2, hB1, hB2, hB3]; cbv; try simp only [hc, hn0, he0, hcc, hl1, hl2, hB1, hB2, hB3]; cbv; try simp only [hc, hn0, he0, hcc, hl1, hl2, hB1, hB2, hB3]; cbv; try simp only [hc, hn0, he0, hcc, hl1, hl2, hB1, hB2, hB3]; cbv) ?_ ?_
          · first | exact trivial | (simp only [Cd.ok, ee]; and_intros <;> first | omega | rfl | (simp <;> omega))
          refine go rfl hX 60 (by conv => lhs; cbv) ?_ ?_
          · first | exact trivial | (simp only [Cd.ok, ee]; and_intros <;> first | omega | rfl | (simp <;> omega))
          refine loopP_next (v + 1) (by show v + 1 ≤ 25; omega) (show 25 - (v + 1) < 25 - v by omega) (by (try dsimp only); rw [hcw]; exact (ent_sub [.to 0] [some 0] ⟨⟨by simp, rfl⟩, trivial⟩ ⟨osrc_cells (b := 0) rfl rfl rfl ⟨.refl _, .cl hcb, .cl hcp, .refl _, trivial⟩, trivial⟩ ⟨.of (congrArg int hv1), .of (congrArg int hcv1), .refl _, .cl hcg, .refl _, trivial⟩))
    | cons p r =>
      have L1 := len_split j1
      try simp only [List.length_cons, List.length_nil] at L1
      have hc : iLt i (lenA eg) = true := lt_t e_iLt e_lenA (by omega)
      have hat := el_at e_atA hG j1 hi
      dsimp only [Pt.enc] at hat
      obtain ⟨ho1, ho2, ho3⟩ := ho
      have hpr := hgr p (by rw [j1]; simp)
      have hi' : iAdd .i64 i 1 = ((d ++ [p] : List Pt).length : Int) := by
        simp only [List.length_append, List.length_cons, List.length_nil]; exact inc_w e_iAdd hi (by omega)
      have hin := in_snoc vI d p
      have hq3 : ∀ q, (d ++ [p]).getLast? = some q → q.b + 2 ≤ p.b + 2 := by
        intro q h
        rw [List.getLast?_concat] at h
        cases h; omega
      have hb1 : iLt p.b p.a = false := by simp [ee]; omega
      have hinI : ((inF vI (d ++ [p]) : Nat) : Int) = ((inF vI d : Nat) : Int) + (if inG vI p = true then 1 else 0) := by
        rw [hin]; split <;> simp
      have hcl2 : 0 ≤ ((inF vI d : Nat) : Int) ∧ ((inF vI d : Nat) : Int) ≤ 20 := by omega
      generalize ((inF vI d : Nat) : Int) = c0 at *
      generalize hc9 : ((inF vI (d ++ [p]) : Nat) : Int) = c9 at *
      have hin1 : inG vI p = true → iAdd .i64 c0 1 = c9 := by
        intro h; rw [h] at hinI; simp at hinI
        simp only [ee]; rw [wrap64 (by omega) (by omega)]; omega
      have hin0 : inG vI p = false → c0 = c9 := by intro h; rw [h] at hinI; simp at hinI; omega
      have hl1 : iLe p.a vI = decide (p.a ≤ vI) := by simp [ee]
      have hl2 : iLe vI p.b = decide (vI ≤ p.b) := by simp [ee]
      unfold inG at hin1 hin0
      -- the previous one
      have hprev : (i = 0 ∧ iLt 0 i = false) ∨ ∃ (qa qb qc im : Int), iLt 0 i = true ∧ iSub .i64 i 1 = im ∧ atA eg im = .agg [int qa, int qb] ∧ (0 ≤ im ∧ im < (eg.length : Int)) ∧ iAdd .i64 qb 1 = qc ∧ iLe p.a qc = false := by
        cases hdl : d.getLast? with
        | none =>
          have : d = [] := List.getLast?_eq_none_iff.1 hdl
          left
          have h0 : i = 0 := by rw [hi, this]; rfl
          exact ⟨h0, by rw [h0]; simp [ee]⟩
        | some q =>
          right
          have hqb := hq2 q hdl
          obtain ⟨k, rfl⟩ := List.getLast?_eq_some_iff.1 hdl
          have hqr := hgr q (by rw [j1]; simp)
          have hL : i = (k.length : Int) + 1 := by rw [hi]; simp
          refine ⟨q.a, q.b, q.b + 1, i - 1, by simp [ee]; omega, by simp only [ee]; exact wrap64 (by omega) (by omega), ?_, by omega, by simp only [ee]; exact wrap64 (by omega) (by omega), by simp [ee]; omega⟩
          simp only [ee]
          rw [← hG, mapE_eq, List.getD_eq_getElem?_getD, show (i - 1).toNat = k.length by omega, List.getElem?_map, j1]
          simp [Pt.enc]
      generalize p.a = pa at *
      generalize p.b = pb at *
      have key : (iLe pa vI = true ∧ iLe vI pb = true ∧ iAdd .i64 c0 1 = c9) ∨ (iLe pa vI = true ∧ iLe vI pb = false ∧ c0 = c9) ∨ (iLe pa vI = false ∧ c0 = c9) := by
        by_cases ha : pa ≤ vI
        · by_cases hbq : vI ≤ pb
          · exact .inl ⟨by rw [hl1]; simp [ha], by rw [hl2]; simp [hbq], hin1 (by simp [ha, hbq])⟩
          · exact .inr (.inl ⟨by rw [hl1]; simp [ha], by rw [hl2]; simp [hbq], hin0 (by simp [hbq])⟩)
        · exact .inr (.inr ⟨by rw [hl1]; simp [ha], hin0 (by simp [ha])⟩)
      rcases key with ⟨hA, hQ, hcx⟩ | ⟨hA, hQ, hcx⟩ | ⟨hA, hcx⟩
      · refine go rfl hX 0 (by conv => lhs; cbv; try simp only [hc, hat, hA, hQ, hB1]; cbv; try simp only [hc, hat, hA, hQ, hB1]; cbv; try simp only [hc, hat, hA, hQ, hB1]; cbv; try simp only [hc, hat, hA, hQ, hB1]; cbv) ?_ ?_
        · first | exact trivial | (simp only [Cd.ok, ee]; and_intros <;> first | omega | rfl | (simp <;> omega))
        refine go rfl hX 1 (by conv => lhs; cbv; try simp only [hc, hat, hA, hQ, hB1]; cbv; try simp only [hc, hat, hA, hQ, hB1]; cbv; try simp only [hc, hat, hA, hQ, hB1]; cbv; try simp only [hc, hat, hA, hQ, hB1]; cbv) ?_ ?_
        · first | exact trivial | (simp only [Cd.ok, ee]; and_intros <;> first | omega | rfl | (simp <;> omega))
        refine go rfl hX 1 (by conv => lhs; cbv; try simp only [hc, hat, hA, hQ, hB1]; cbv; try simp only [hc, hat, hA, hQ, hB1]; cbv; try simp only [hc, hat, hA, hQ, hB1]; cbv; try simp only [hc, hat, hA, hQ, hB1]; cbv) ?_ ?_
        · first | exact trivial | (simp only [Cd.ok, ee]; and_intros <;> first | omega | rfl | (simp <;> omega))
        refine on_ent (F' := [(12, int i), (11, int c9), (10, int vI), (9, int cv), (7, int ms), (5, .isl 2 eg), (3, .ptr 0 0)]) (H' := [.cells [int tn, .isl 1 eT, .isl 2 epT, int tk]]) (ent_sub [.to 0] [some 0] ⟨⟨by simp, rfl⟩, trivial⟩ ⟨osrc_cells (b := 0) rfl rfl rfl ⟨.refl _, .cl hcb, .cl hcp, .refl _, trivial⟩, trivial⟩ ⟨.refl _, .of (congrArg int hcx), .refl _, .refl _, .refl _, .cl hcg, .refl _, trivial⟩) ?_
        rcases hprev with ⟨h0, hz⟩ | ⟨qa, qb, qc, im, hz, him, hatm, himr, hqa, hle⟩
        · refine tr_drawB rfl (by conv => lhs; cbv) rfl ?_
          refine tr_go hX (by conv => lhs; cbv; simp only [hat, hb1,hat,hat]; cbv; simp only [hat, hb1,hat,hat]; cbv; simp only [hat, hb1,hat,hat]; cbv) ?_ ?_
          · first | exact trivial | (simp only [Cd.ok, ee]; and_intros <;> first | omega | rfl | (simp <;> omega))
          refine tr_ung rfl ?_
          refine tr_go hX (by conv => lhs; cbv) ?_ ?_
          · first | exact trivial | (simp only [Cd.ok, ee]; and_intros <;> first | omega | rfl | (simp <;> omega))
          refine tr_ung rfl ?_
          refine tr_go hX (by conv => lhs; cbv; simp only [hz,hz]; cbv; simp only [hz,hz]; cbv) ?_ ?_
          · first | exact trivial | (simp only [Cd.ok, ee]; and_intros <;> first | omega | rfl | (simp <;> omega))
          refine tr_ung rfl ?_
          refine tr_go hX (by conv => lhs; cbv) ?_ ?_
          · first | exact trivial | (simp only [Cd.ok, ee]; and_intros <;> first | omega | rfl | (simp <;> omega))
          refine tr_skip rfl ?_
          refine tr_skip rfl ?_
          refine tr_skip rfl ?_
          refine tr_skip rfl ?_
          refine tr_skip rfl ?_
          refine tr_skip rfl ?_
          refine tr_skip rfl ?_
          refine tr_skip rfl ?_
          refine tr_skip rfl ?_
          refine tr_skip rfl ?_
          refine tr_skip rfl ?_
          refine tr_skip rfl ?_
          refine tr_skip rfl ?_
          refine tr_ung rfl ?_
          refine tr_go hX (by conv => lhs; cbv; simp only [hB1, hB2,hB1, hB2]; cbv; simp only [hB1, hB2,hB1, hB2]; cbv) ?_ ?_
          · first | exact trivial | (simp only [Cd.ok, ee]; and_intros <;> first | omega | rfl | (simp <;> omega))
          refine tr_nil ⟨rfl, by simp [LooksL, lookAll], ?_⟩
          refine go rfl hX 60 (by conv => lhs; cbv) ?_ ?_
          · first | exact trivial | (simp only [Cd.ok, ee]; and_intros <;> first | omega | rfl | (simp <;> omega))
          refine loopP_next (d ++ [p], r, iAdd .i64 i 1, pb + 2) ⟨by simp [j1], hi', ho3, hq3⟩ (by simp) (by dsimp only; rw [hc9]; exact (ent_sub [.to 0] [some 0] ⟨⟨by simp, rfl⟩, trivial⟩ ⟨osrc_cells (b := 0) rfl rfl rfl ⟨.refl _, .cl hcb, .cl hcp, .refl _, trivial⟩, trivial⟩ ⟨.refl _, .refl _, .refl _, .refl _, .refl _, .cl hcg, .refl _, trivial⟩))
        · refine tr_drawB rfl (by conv => lhs; cbv) rfl ?_
          refine tr_go hX (by conv => lhs; cbv; simp only [hat, hb1,hat,hat]; cbv; simp only [hat, hb1,hat,hat]; cbv; simp only [hat, hb1,hat,hat]; cbv) ?_ ?_
          · first | exact trivial | (simp only [Cd.ok, ee]; and_intros <;> first | omega | rfl | (simp <;> omega))
          refine tr_ung rfl ?_
          refine tr_go hX (by conv => lhs; cbv) ?_ ?_
          · first | exact trivial | (simp only [Cd.ok, ee]; and_intros <;> first | omega | rfl | (simp <;> omega))
          refine tr_ung rfl ?_
          refine tr_go hX (by conv => lhs; cbv; simp only [hz,hz]; cbv; simp only [hz,hz]; cbv) ?_ ?_
          · first | exact trivial | (simp only [Cd.ok, ee]; and_intros <;> first | omega | rfl | (simp <;> omega))
          refine tr_ung rfl ?_
          refine tr_go hX (by conv => lhs; cbv) ?_ ?_
          · first | exact trivial | (simp only [Cd.ok, ee]; and_intros <;> first | omega | rfl | (simp <;> omega))
          refine tr_ung rfl ?_
          refine tr_go hX (by conv => lhs; cbv; simp only [hat, hatm, him, hqa, hle,hat, hatm, him, hqa, hle]; cbv; simp only [hat, hatm, him, hqa, hle,hat, hatm, him, hqa, hle]; cbv) ?_ ?_
          · first | exact trivial | (simp only [Cd.ok, ee]; and_intros <;> first | omega | rfl | (simp <;> omega))
          refine tr_ung rfl ?_
          refine tr_go hX (by conv => lhs; cbv; simp only [hat, hatm, him, hqa, hle,hat, hatm, him, hqa, hle]; cbv; simp only [hat, hatm, him, hqa, hle,hat, hatm, him, hqa, hle]; cbv) ?_ ?_
          · first | exact trivial | (simp only [Cd.ok, ee]; and_intros <;> first | omega | rfl | (simp <;> omega))
          refine tr_ung rfl ?_
          refine tr_go hX (by conv => lhs; cbv; simp only [hat, hatm, him, hqa, hle,hat, hatm, him, hqa, hle]; cbv; simp only [hat, hatm, him, hqa, hle,hat, hatm, him, hqa, hle]; cbv) ?_ ?_
          · first | exact trivial | (simp only [Cd.ok, ee]; and_intros <;> first | omega | rfl | (simp <;> omega))
          refine tr_ung rfl ?_
          refine tr_go hX (by conv => lhs; cbv; simp only [hat, hatm, him, hqa, hle,hat, hatm, him, hqa, hle]; cbv; simp only [hat, hatm, him, hqa, hle,hat, hatm, him, hqa, hle]; cbv) ?_ ?_
          · first | exact trivial | (simp only [Cd.ok, ee]; and_intros <;> first | omega | rfl | (simp <;> omega))
          refine tr_ung rfl ?_
          refine tr_go hX (by conv => lhs; cbv; simp only [hat, hatm, him, hqa, hle,hat, hatm, him, hqa, hle]; cbv; simp only [hat, hatm, him, hqa, hle,hat, hatm, him, hqa, hle]; cbv) ?_ ?_
          · first | exact trivial | (simp only [Cd.ok, ee]; and_intros <;> first | omega | rfl | (simp <;> omega))
          refine tr_ung rfl ?_
          refine tr_go hX (by conv => lhs; cbv; simp only [hat, hatm, him, hqa, hle,hat, hatm, him, hqa, hle]; cbv; simp only [hat, hatm, him, hqa, hle,hat, hatm, him, hqa, hle]; cbv) ?_ ?_
          · first | exact trivial | (simp only [Cd.ok, ee]; and_intros <;> first | omega | rfl | (simp <;> omega))
          refine tr_ung rfl ?_
          refine tr_go hX (by conv => lhs; cbv; simp only [hat, hatm, him, hqa, hle,hat, hatm, him, hqa, hle]; cbv; simp only [hat, hatm, him, hqa, hle,hat, hatm, him, hqa, hle]; cbv) ?_ ?_
          · first | exact trivial | (simp only [Cd.ok, ee]; and_intros <;> first | omega | rfl | (simp <;> omega))
          refine tr_ung rfl ?_
          refine tr_go hX (by conv => lhs; cbv; simp only [hat, hatm, him, hqa, hle,hat, hatm, him, hqa, hle]; cbv; simp only [hat, hatm, him, hqa, hle,hat, hatm, him, hqa, hle]; cbv) ?_ ?_
          · first | exact trivial | (simp only [Cd.ok, ee]; and_intros <;> first | omega | rfl | (simp <;> omega))
          refine tr_ung rfl ?_
          refine tr_go hX (by conv => lhs; cbv; simp only [hat, hatm, him, hqa, hle,hat, hatm, him, hqa, hle]; cbv; simp only [hat, hatm, him, hqa, hle,hat, hatm, him, hqa, hle]; cbv) ?_ ?_
          · first | exact trivial | (simp only [Cd.ok, ee]; and_intros <;> first | omega | rfl | (simp <;> omega))
          refine tr_ung rfl ?_
          refine tr_go hX (by conv => lhs; cbv; simp only [hat, hatm, him, hqa, hle,hat, hatm, him, hqa, hle]; cbv; simp only [hat, hatm, him, hqa, hle,hat, hatm, him, hqa, hle]; cbv) ?_ ?_
          · first | exact trivial | (simp only [Cd.ok, ee]; and_intros <;> first | omega | rfl | (simp <;> omega))
          refine tr_ung rfl ?_
          refine tr_go hX (by conv => lhs; cbv; simp only [hat, hatm, him, hqa, hle,hat, hatm, him, hqa, hle]; cbv; simp only [hat, hatm, him, hqa, hle,hat, hatm, him, hqa, hle]; cbv) ?_ ?_
          · first | exact trivial | (simp only [Cd.ok, ee]; and_intros <;> first | omega | rfl | (simp <;> omega))
          refine tr_ung rfl ?_
          refine tr_go hX (by conv => lhs; cbv; simp only [hat, hatm, him, hqa, hle,hat, hatm, him, hqa, hle]; cbv; simp only [hat, hatm, him, hqa, hle,hat, hatm, him, hqa, hle]; cbv) ?_ ?_
          · first | exact trivial | (simp only [Cd.ok, ee]; and_intros <;> first | omega | rfl | (simp <;> omega))
          refine tr_ung rfl ?_
          refine tr_go hX (by conv => lhs; cbv; simp only [hat, hatm, him, hqa, hle,hat, hatm, him, hqa, hle]; cbv; simp only [hat, hatm, him, hqa, hle,hat, hatm, him, hqa, hle]; cbv) ?_ ?_
          · first | exact trivial | (simp only [Cd.ok, ee]; and_intros <;> first | omega | rfl | (simp <;> omega))
          refine tr_ung rfl ?_
          refine tr_go hX (by conv => lhs; cbv; simp only [hB1, hB2,hB1, hB2]; cbv; simp only [hB1, hB2,hB1, hB2]; cbv) ?_ ?_
          · first | exact trivial | (simp only [Cd.ok, ee]; and_intros <;> first | omega | rfl | (simp <;> omega))
          refine tr_nil ⟨rfl, by simp [LooksL, lookAll], ?_⟩
          refine go rfl hX 60 (by conv => lhs; cbv) ?_ ?_
          · first | exact trivial | (simp only [Cd.ok, ee]; and_intros <;> first | omega | rfl | (simp <;> omega))
          refine loopP_next (d ++ [p], r, iAdd .i64 i 1, pb + 2) ⟨by simp [j1], hi', ho3, hq3⟩ (by simp) (by dsimp only; rw [hc9]; exact (ent_sub [.to 0] [some 0] ⟨⟨by simp, rfl⟩, trivial⟩ ⟨osrc_cells (b := 0) rfl rfl rfl ⟨.refl _, .cl hcb, .cl hcp, .refl _, trivial⟩, trivial⟩ ⟨.refl _, .refl _, .refl _, .refl _, .refl _, .cl hcg, .refl _, trivial⟩))
      · refine go rfl hX 0 (by conv => lhs; cbv; try simp only [hc, hat, hA, hQ, hB1]; cbv; try simp only [hc, hat, hA, hQ, hB1]; cbv; try simp only [hc, hat, hA, hQ, hB1]; cbv; try simp only [hc, hat, hA, hQ, hB1]; cbv) ?_ ?_
        · first | exact trivial | (simp only [Cd.ok, ee]; and_intros <;> first | omega | rfl | (simp <;> omega))
        refine go rfl hX 1 (by conv => lhs; cbv; try simp only [hc, hat, hA, hQ, hB1]; cbv; try simp only [hc, hat, hA, hQ, hB1]; cbv; try simp only [hc, hat, hA, hQ, hB1]; cbv; try simp only [hc, hat, hA, hQ, hB1]; cbv) ?_ ?_
        · first | exact trivial | (simp only [Cd.ok, ee]; and_intros <;> first | omega | rfl | (simp <;> omega))
        refine go rfl hX 1 (by conv => lhs; cbv; try simp only [hc, hat, hA, hQ, hB1]; cbv; try simp only [hc, hat, hA, hQ, hB1]; cbv; try simp only [hc, hat, hA, hQ, hB1]; cbv; try simp only [hc, hat, hA, hQ, hB1]; cbv) ?_ ?_
        · first | exact trivial | (simp only [Cd.ok, ee]; and_intros <;> first | omega | rfl | (simp <;> omega))
        refine on_ent (F' := [(12, int i), (11, int c9), (10, int vI), (9, int cv), (7, int ms), (5, .isl 2 eg), (3, .ptr 0 0)]) (H' := [.cells [int tn, .isl 1 eT, .isl 2 epT, int tk]]) (ent_sub [.to 0] [some 0] ⟨⟨by simp, rfl⟩, trivial⟩ ⟨osrc_cells (b := 0) rfl rfl rfl ⟨.refl _, .cl hcb, .cl hcp, .refl _, trivial⟩, trivial⟩ ⟨.refl _, .of (congrArg int hcx), .refl _, .refl _, .refl _, .cl hcg, .refl _, trivial⟩) ?_
        rcases hprev with ⟨h0, hz⟩ | ⟨qa, qb, qc, im, hz, him, hatm, himr, hqa, hle⟩
        · refine tr_drawB rfl (by conv => lhs; cbv) rfl ?_
          refine tr_go hX (by conv => lhs; cbv; simp only [hat, hb1,hat,hat]; cbv; simp only [hat, hb1,hat,hat]; cbv; simp only [hat, hb1,hat,hat]; cbv) ?_ ?_
          · first | exact trivial | (simp only [Cd.ok, ee]; and_intros <;> first | omega | rfl | (simp <;> omega))
          refine tr_ung rfl ?_
          refine tr_go hX (by conv => lhs; cbv) ?_ ?_
          · first | exact trivial | (simp only [Cd.ok, ee]; and_intros <;> first | omega | rfl | (simp <;> omega))
          refine tr_ung rfl ?_
          refine tr_go hX (by conv => lhs; cbv; simp only [hz,hz]; cbv; simp only [hz,hz]; cbv) ?_ ?_
          · first | exact trivial | (simp only [Cd.ok, ee]; and_intros <;> first | omega | rfl | (simp <;> omega))
          refine tr_ung rfl ?_
          refine tr_go hX (by conv => lhs; cbv) ?_ ?_
          · first | exact trivial | (simp only [Cd.ok, ee]; and_intros <;> first | omega | rfl | (simp <;> omega))
          refine tr_skip rfl ?_
          refine tr_skip rfl ?_
          refine tr_skip rfl ?_
          refine tr_skip rfl ?_
          refine tr_skip rfl ?_
          refine tr_skip rfl ?_
          refine tr_skip rfl ?_
          refine tr_skip rfl ?_
          refine tr_skip rfl ?_
          refine tr_skip rfl ?_
          refine tr_skip rfl ?_
          refine tr_skip rfl ?_
          refine tr_skip rfl ?_
          refine tr_ung rfl ?_
          refine tr_go hX (by conv => lhs; cbv; simp only [hB1, hB2,hB1, hB2]; cbv; simp only [hB1, hB2,hB1, hB2]; cbv) ?_ ?_
          · first | exact trivial | (simp only [Cd.ok, ee]; and_intros <;> first | omega | rfl | (simp <;> omega))
          refine tr_nil ⟨rfl, by simp [LooksL, lookAll], ?_⟩
          refine go rfl hX 60 (by conv => lhs; cbv) ?_ ?_
          · first | exact trivial | (simp only [Cd.ok, ee]; and_intros <;> first | omega | rfl | (simp <;> omega))
          refine loopP_next (d ++ [p], r, iAdd .i64 i 1, pb + 2) ⟨by simp [j1], hi', ho3, hq3⟩ (by simp) (by dsimp only; rw [hc9]; exact (ent_sub [.to 0] [some 0] ⟨⟨by simp, rfl⟩, trivial⟩ ⟨osrc_cells (b := 0) rfl rfl rfl ⟨.refl _, .cl hcb, .cl hcp, .refl _, trivial⟩, trivial⟩ ⟨.refl _, .refl _, .refl _, .refl _, .refl _, .cl hcg, .refl _, trivial⟩))
        · refine tr_drawB rfl (by conv => lhs; cbv) rfl ?_
          refine tr_go hX (by conv => lhs; cbv; simp only [hat, hb1,hat,hat]; cbv; simp only [hat, hb1,hat,hat]; cbv; simp only [hat, hb1,hat,hat]; cbv) ?_ ?_
          · first | exact trivial | (simp only [Cd.ok, ee]; and_intros <;> first | omega | rfl | (simp <;> omega))
          refine tr_ung rfl ?_
          refine tr_go hX (by conv => lhs; cbv) ?_ ?_
          · first | exact trivial | (simp only [Cd.ok, ee]; and_intros <;> first | omega | rfl | (simp <;> omega))
          refine tr_ung rfl ?_
          refine tr_go hX (by conv => lhs; cbv; simp only [hz,hz]; cbv; simp only [hz,hz]; cbv) ?_ ?_
          · first | exact trivial | (simp only [Cd.ok, ee]; and_intros <;> first | omega | rfl | (simp <;> omega))
          refine tr_ung rfl ?_
          refine tr_go hX (by conv => lhs; cbv) ?_ ?_
          · first | exact trivial | (simp only [Cd.ok, ee]; and_intros <;> first | omega | rfl | (simp <;> omega))
          refine tr_ung rfl ?_
          refine tr_go hX (by conv => lhs; cbv; simp only [hat, hatm, him, hqa, hle,hat, hatm, him, hqa, hle]; cbv; simp only [hat, hatm, him, hqa, hle,hat, hatm, him, hqa, hle]; cbv) ?_ ?_
          · first | exact trivial | (simp only [Cd.ok, ee]; and_intros <;> first | omega | rfl | (simp <;> omega))
          refine tr_ung rfl ?_
          refine tr_go hX (by conv => lhs; cbv; simp only [hat, hatm, him, hqa, hle,hat, hatm, him, hqa, hle]; cbv; simp only [hat, hatm, him, hqa, hle,hat, hatm, him, hqa, hle]; cbv) ?_ ?_
          · first | exact trivial | (simp only [Cd.ok, ee]; and_intros <;> first | omega | rfl | (simp <;> omega))
          refine tr_ung rfl ?_
          refine tr_go hX (by conv => lhs; cbv; simp only [hat, hatm, him, hqa, hle,hat, hatm, him, hqa, hle]; cbv; simp only [hat, hatm, him, hqa, hle,hat, hatm, him, hqa, hle]; cbv) ?_ ?_
          · first | exact trivial | (simp only [Cd.ok, ee]; and_intros <;> first | omega | rfl | (simp <;> omega))
          refine tr_ung rfl ?_
          refine tr_go hX (by conv => lhs; cbv; simp only [hat, hatm, him, hqa, hle,hat, hatm, him, hqa, hle]; cbv; simp only [hat, hatm, him, hqa, hle,hat, hatm, him, hqa, hle]; cbv) ?_ ?_
          · first | exact trivial | (simp only [Cd.ok, ee]; and_intros <;> first | omega | rfl | (simp <;> omega))
          refine tr_ung rfl ?_
          refine tr_go hX (by conv => lhs; cbv; simp only [hat, hatm, him, hqa, hle,hat, hatm, him, hqa, hle]; cbv; simp only [hat, hatm, him, hqa, hle,hat, hatm, him, hqa, hle]; cbv) ?_ ?_
          · first | exact trivial | (simp only [Cd.ok, ee]; and_intros <;> first | omega | rfl | (simp <;> omega))
          refine tr_ung rfl ?_
          refine tr_go hX (by conv => lhs; cbv; simp only [hat, hatm, him, hqa, hle,hat, hatm, him, hqa, hle]; cbv; simp only [hat, hatm, him, hqa, hle,hat, hatm, him, hqa, hle]; cbv) ?_ ?_
          · first | exact trivial | (simp only [Cd.ok, ee]; and_intros <;> first | omega | rfl | (simp <;> omega))
          refine tr_ung rfl ?_
          refine tr_go hX (by conv => lhs; cbv; simp only [hat, hatm, him, hqa, hle,hat, hatm, him, hqa, hle]; cbv; simp only [hat, hatm, him, hqa, hle,hat, hatm, him, hqa, hle]; cbv) ?_ ?_
          · first | exact trivial | (simp only [Cd.ok, ee]; and_intros <;> first | omega | rfl | (simp <;> omega))
          refine tr_ung rfl ?_
          refine tr_go hX (by conv => lhs; cbv; simp only [hat, hatm, him, hqa, hle,hat, hatm, him, hqa, hle]; cbv; simp only [hat, hatm, him, hqa, hle,hat, hatm, him, hqa, hle]; cbv) ?_ ?_
          · first | exact trivial | (simp only [Cd.ok, ee]; and_intros <;> first | omega | rfl | (simp <;> omega))
          refine tr_ung rfl ?_
          refine tr_go hX (by conv => lhs; cbv; simp only [hat, hatm, him, hqa, hle,hat, hatm, him, hqa, hle]; cbv; simp only [hat, hatm, him, hqa, hle,hat, hatm, him, hqa, hle]; cbv) ?_ ?_
          · first | exact trivial | (simp only [Cd.ok, ee]; and_intros <;> first | omega | rfl | (simp <;> omega))
          refine tr_ung rfl ?_
          refine tr_go hX (by conv => lhs; cbv; simp only [hat, hatm, him, hqa, hle,hat, hatm, him, hqa, hle]; cbv; simp only [hat, hatm, him, hqa, hle,hat, hatm, him, hqa, hle]; cbv) ?_ ?_
          · first | exact trivial | (simp only [Cd.ok, ee]; and_intros <;> first | omega | rfl | (simp <;> omega))
          refine tr_ung rfl ?_
          refine tr_go hX (by conv => lhs; cbv; simp only [hat, hatm, him, hqa, hle,hat, hatm, him, hqa, hle]; cbv; simp only [hat, hatm, him, hqa, hle,hat, hatm, him, hqa, hle]; cbv) ?_ ?_
          · first | exact trivial | (simp only [Cd.ok, ee]; and_intros <;> first | omega | rfl | (simp <;> omega))
          refine tr_ung rfl ?_
          refine tr_go hX (by conv => lhs; cbv; simp only [hat, hatm, him, hqa, hle,hat, hatm, him, hqa, hle]; cbv; simp only [hat, hatm, him, hqa, hle,hat, hatm, him, hqa, hle]; cbv) ?_ ?_
          · first | exact trivial | (simp only [Cd.ok, ee]; and_intros <;> first | omega | rfl | (simp <;> omega))
          refine tr_ung rfl ?_
          refine tr_go hX (by conv => lhs; cbv; simp only [hat, hatm, him, hqa, hle,hat, hatm, him, hqa, hle]; cbv; simp only [hat, hatm, him, hqa, hle,hat, hatm, him, hqa, hle]; cbv) ?_ ?_
          · first | exact trivial | (simp only [Cd.ok, ee]; and_intros <;> first | omega | rfl | (simp <;> omega))
          refine tr_ung rfl ?_
          refine tr_go hX (by conv => lhs; cbv; simp only [hB1, hB2,hB1, hB2]; cbv; simp only [hB1, hB2,hB1, hB2]; cbv) ?_ ?_
          · first | exact trivial | (simp only [Cd.ok, ee]; and_intros <;> first | omega | rfl | (simp <;> omega))
          refine tr_nil ⟨rfl, by simp [LooksL, lookAll], ?_⟩
          refine go rfl hX 60 (by conv => lhs; cbv) ?_ ?_
          · first | exact trivial | (simp only [Cd.ok, ee]; and_intros <;> first | omega | rfl | (simp <;> omega))
          refine loopP_next (d ++ [p], r, iAdd .i64 i 1, pb + 2) ⟨by simp [j1], hi', ho3, hq3⟩ (by simp) (by dsimp only; rw [hc9]; exact (ent_sub [.to 0] [some 0] ⟨⟨by simp, rfl⟩, trivial⟩ ⟨osrc_cells (b := 0) rfl rfl rfl ⟨.refl _, .cl hcb, .cl hcp, .refl _, trivial⟩, trivial⟩ ⟨.refl _, .refl _, .refl _, .refl _, .refl _, .cl hcg, .refl _, trivial⟩))
      · refine go rfl hX 0 (by conv => lhs; cbv; try simp only [hc, hat, hA, hB1]; cbv; try simp only [hc, hat, hA, hB1]; cbv; try simp only [hc, hat, hA, hB1]; cbv; try simp only [hc, hat, hA, hB1]; cbv) ?_ ?_
        · first | exact trivial | (simp only [Cd.ok, ee]; and_intros <;> first | omega | rfl | (simp <;> omega))
        refine go rfl hX 1 (by conv => lhs; cbv; try simp only [hc, hat, hA, hB1]; cbv; try simp only [hc, hat, hA, hB1]; cbv; try simp only [hc, hat, hA, hB1]; cbv; try simp only [hc, hat, hA, hB1]; cbv) ?_ ?_
        · first | exact trivial | (simp only [Cd.ok, ee]; and_intros <;> first | omega | rfl | (simp <;> omega))
        refine go rfl hX 1 (by conv => lhs; cbv; try simp only [hc, hat, hA, hB1]; cbv; try simp only [hc, hat, hA, hB1]; cbv; try simp only [hc, hat, hA, hB1]; cbv; try simp only [hc, hat, hA, hB1]; cbv) ?_ ?_
        · first | exact trivial | (simp only [Cd.ok, ee]; and_intros <;> first | omega | rfl | (simp <;> omega))
        refine on_ent (F' := [(12, int i), (11, int c9), (10, int vI), (9, int cv), (7, int ms), (5, .isl 2 eg), (3, .ptr 0 0)]) (H' := [.cells [int tn, .isl 1 eT, .isl 2 epT, int tk]]) (ent_sub [.to 0] [some 0] ⟨⟨by simp, rfl⟩, trivial⟩ ⟨osrc_cells (b := 0) rfl rfl rfl ⟨.refl _, .cl hcb, .cl hcp, .refl _, trivial⟩, trivial⟩ ⟨.refl _, .of (congrArg int hcx), .refl _, .refl _, .refl _, .cl hcg, .refl _, trivial⟩) ?_
        rcases hprev with ⟨h0, hz⟩ | ⟨qa, qb, qc, im, hz, him, hatm, himr, hqa, hle⟩
        · refine tr_drawB rfl (by conv => lhs; cbv) rfl ?_
          refine tr_go hX (by conv => lhs; cbv; simp only [hat, hb1,hat,hat]; cbv; simp only [hat, hb1,hat,hat]; cbv; simp only [hat, hb1,hat,hat]; cbv) ?_ ?_
          · first | exact trivial | (simp only [Cd.ok, ee]; and_intros <;> first | omega | rfl | (simp <;> omega))
          refine tr_ung rfl ?_
          refine tr_go hX (by conv => lhs; cbv) ?_ ?_
          · first | exact trivial | (simp only [Cd.ok, ee]; and_intros <;> first | omega | rfl | (simp <;> omega))
          refine tr_ung rfl ?_
          refine tr_go hX (by conv => lhs; cbv; simp only [hz,hz]; cbv; simp only [hz,hz]; cbv) ?_ ?_
          · first | exact trivial | (simp only [Cd.ok, ee]; and_intros <;> first | omega | rfl | (simp <;> omega))
          refine tr_ung rfl ?_
          refine tr_go hX (by conv => lhs; cbv) ?_ ?_
          · first | exact trivial | (simp only [Cd.ok, ee]; and_intros <;> first | omega | rfl | (simp <;> omega))
          refine tr_skip rfl ?_
          refine tr_skip rfl ?_
          refine tr_skip rfl ?_
          refine tr_skip rfl ?_
          refine tr_skip rfl ?_
          refine tr_skip rfl ?_
          refine tr_skip rfl ?_
          refine tr_skip rfl ?_
          refine tr_skip rfl ?_
          refine tr_skip rfl ?_
          refine tr_skip rfl ?_
          refine tr_skip rfl ?_
          refine tr_skip rfl ?_
          refine tr_ung rfl ?_
          refine tr_go hX (by conv => lhs; cbv; simp only [hB1, hB2,hB1, hB2]; cbv; simp only [hB1, hB2,hB1, hB2]; cbv) ?_ ?_
          · first | exact trivial | (simp only [Cd.ok, ee]; and_intros <;> first | omega | rfl | (simp <;> omega))
          refine tr_nil ⟨rfl, by simp [LooksL, lookAll], ?_⟩
          refine go rfl hX 60 (by conv => lhs; cbv) ?_ ?_
          · first | exact trivial | (simp only [Cd.ok, ee]; and_intros <;> first | omega | rfl | (simp <;> omega))
          refine loopP_next (d ++ [p], r, iAdd .i64 i 1, pb + 2) ⟨by simp [j1], hi', ho3, hq3⟩ (by simp) (by dsimp only; rw [hc9]; exact (ent_sub [.to 0] [some 0] ⟨⟨by simp, rfl⟩, trivial⟩ ⟨osrc_cells (b := 0) rfl rfl rfl ⟨.refl _, .cl hcb, .cl hcp, .refl _, trivial⟩, trivial⟩ ⟨.refl _, .refl _, .refl _, .refl _, .refl _, .cl hcg, .refl _, trivial⟩))
        · refine tr_drawB rfl (by conv => lhs; cbv) rfl ?_
          refine tr_go hX (by conv => lhs; cbv; simp only [hat, hb1,hat,hat]; cbv; simp only [hat, hb1,hat,hat]; cbv; simp only [hat, hb1,hat,hat]; cbv) ?_ ?_
          · first | exact trivial | (simp only [Cd.ok, ee]; and_intros <;> first | omega | rfl | (simp <;> omega))
          refine tr_ung rfl ?_
          refine tr_go hX (by conv => lhs; cbv) ?_ ?_
          · first | exact trivial | (simp only [Cd.ok, ee]; and_intros <;> first | omega | rfl | (simp <;> omega))
          refine tr_ung rfl ?_
          refine tr_go hX (by conv => lhs; cbv; simp only [hz,hz]; cbv; simp only [hz,hz]; cbv) ?_ ?_
          · first | exact trivial | (simp only [Cd.ok, ee]; and_intros <;> first | omega | rfl | (simp <;> omega))
          refine tr_ung rfl ?_
          refine tr_go hX (by conv => lhs; cbv) ?_ ?_
          · first | exact trivial | (simp only [Cd.ok, ee]; and_intros <;> first | omega | rfl | (simp <;> omega))
          refine tr_ung rfl ?_
          refine tr_go hX (by conv => lhs; cbv; simp only [hat, hatm, him, hqa, hle,hat, hatm, him, hqa, hle]; cbv; simp only [hat, hatm, him, hqa, hle,hat, hatm, him, hqa, hle]; cbv) ?_ ?_
          · first | exact trivial | (simp only [Cd.ok, ee]; and_intros <;> first | omega | rfl | (simp <;> omega))
          refine tr_ung rfl ?_
          refine tr_go hX (by conv => lhs; cbv; simp only [hat, hatm, him, hqa, hle,hat, hatm, him, hqa, hle]; cbv; simp only [hat, hatm, him, hqa, hle,hat, hatm, him, hqa, hle]; cbv) ?_ ?_
          · first | exact trivial | (simp only [Cd.ok, ee]; and_intros <;> first | omega | rfl | (simp <;> omega))
          refine tr_ung rfl ?_
          refine tr_go hX (by conv => lhs; cbv; simp only [hat, hatm, him, hqa, hle,hat, hatm, him, hqa, hle]; cbv; simp only [hat, hatm, him, hqa, hle,hat, hatm, him, hqa, hle]; cbv) ?_ ?_
          · first | exact trivial | (simp only [Cd.ok, ee]; and_intros <;> first | omega | rfl | (simp <;> omega))
          refine tr_ung rfl ?_
          refine tr_go hX (by conv => lhs; cbv; simp only [hat, hatm, him, hqa, hle,hat, hatm, him, hqa, hle]; cbv; simp only [hat, hatm, him, hqa, hle,hat, hatm, him, hqa, hle]; cbv) ?_ ?_
          · first | exact trivial | (simp only [Cd.ok, ee]; and_intros <;> first | omega | rfl | (simp <;> omega))
          refine tr_ung rfl ?_
          refine tr_go hX (by conv => lhs; cbv; simp only [hat, hatm, him, hqa, hle,hat, hatm, him, hqa, hle]; cbv; simp only [hat, hatm, him, hqa, hle,hat, hatm, him, hqa, hle]; cbv) ?_ ?_
          · first | exact trivial | (simp only [Cd.ok, ee]; and_intros <;> first | omega | rfl | (simp <;> omega))
          refine tr_ung rfl ?_
          refine tr_go hX (by conv => lhs; cbv; simp only [hat, hatm, him, hqa, hle,hat, hatm, him, hqa, hle]; cbv; simp only [hat, hatm, him, hqa, hle,hat, hatm, him, hqa, hle]; cbv) ?_ ?_
          · first | exact trivial | (simp only [Cd.ok, ee]; and_intros <;> first | omega | rfl | (simp <;> omega))
          refine tr_ung rfl ?_
          refine tr_go hX (by conv => lhs; cbv; simp only [hat, hatm, him, hqa, hle,hat, hatm, him, hqa, hle]; cbv; simp only [hat, hatm, him, hqa, hle,hat, hatm, him, hqa, hle]; cbv) ?_ ?_
          · first | exact trivial | (simp only [Cd.ok, ee]; and_intros <;> first | omega | rfl | (simp <;> omega))
          refine tr_ung rfl ?_
          refine tr_go hX (by conv => lhs; cbv; simp only [hat, hatm, him, hqa, hle,hat, hatm, him, hqa, hle]; cbv; simp only [hat, hatm, him, hqa, hle,hat, hatm, him, hqa, hle]; cbv) ?_ ?_
          · first | exact trivial | (simp only [Cd.ok, ee]; and_intros <;> first | omega | rfl | (simp <;> omega))
          refine tr_ung rfl ?_
          refine tr_go hX (by conv => lhs; cbv; simp only [hat, hatm, him, hqa, hle,hat, hatm, him, hqa, hle]; cbv; simp only [hat, hatm, him, hqa, hle,hat, hatm, him, hqa, hle]; cbv) ?_ ?_
          · first | exact trivial | (simp only [Cd.ok, ee]; and_intros <;> first | omega | rfl | (simp <;> omega))
          refine tr_ung rfl ?_
          refine tr_go hX (by conv => lhs; cbv; simp only [hat, hatm, him, hqa, hle,hat, hatm, him, hqa, hle]; cbv; simp only [hat, hatm, him, hqa, hle,hat, hatm, him, hqa, hle]; cbv) ?_ ?_
          · first | exact trivial | (simp only [Cd.ok, ee]; and_intros <;> first | omega | rfl | (simp <;> omega))
          refine tr_ung rfl ?_
          refine tr_go hX (by conv => lhs; cbv; simp only [hat, hatm, him, hqa, hle,hat, hatm, him, hqa, hle]; cbv; simp only [hat, hatm, him, hqa, hle,hat, hatm, him, hqa, hle]; cbv) ?_ ?_
          · first | exact trivial | (simp only [Cd.ok, ee]; and_intros <;> first | omega | rfl | (simp <;> omega))
          refine tr_ung rfl ?_
          refine tr_go hX (by conv => lhs; cbv; simp only [hat, hatm, him, hqa, hle,hat, hatm, him, hqa, hle]; cbv; simp only [hat, hatm, him, hqa, hle,hat, hatm, him, hqa, hle]; cbv) ?_ ?_
          · first | exact trivial | (simp only [Cd.ok, ee]; and_intros <;> first | omega | rfl | (simp <;> omega))
          refine tr_ung rfl ?_
          refine tr_go hX (by conv => lhs; cbv; simp only [hat, hatm, him, hqa, hle,hat, hatm, him, hqa, hle]; cbv; simp only [hat, hatm, him, hqa, hle,hat, hatm, him, hqa, hle]; cbv) ?_ ?_
          · first | exact trivial | (simp only [Cd.ok, ee]; and_intros <;> first | omega | rfl | (simp <;> omega))
          refine tr_ung rfl ?_
          refine tr_go hX (by conv => lhs; cbv; simp only [hB1, hB2,hB1, hB2]; cbv; simp only [hB1, hB2,hB1, hB2]; cbv) ?_ ?_
          · first | exact trivial | (simp only [Cd.ok, ee]; and_intros <;> first | omega | rfl | (simp <;> omega))
          refine tr_nil ⟨rfl, by simp [LooksL, lookAll], ?_⟩
          refine go rfl hX 60 (by conv => lhs; cbv) ?_ ?_
          · first | exact trivial | (simp only [Cd.ok, ee]; and_intros <;> first | omega | rfl | (simp <;> omega))
          refine loopP_next (d ++ [p], r, iAdd .i64 i 1, pb + 2) ⟨by simp [j1], hi', ho3, hq3⟩ (by simp) (by dsimp only; rw [hc9]; exact (ent_sub [.to 0] [some 0] ⟨⟨by simp, rfl⟩, trivial⟩ ⟨osrc_cells (b := 0) rfl rfl rfl ⟨.refl _, .cl hcb, .cl hcp, .refl _, trivial⟩, trivial⟩ ⟨.refl _, .refl _, .refl _, .refl _, .refl _, .cl hcg, .refl _, trivial⟩))
end Go.Am
end
