/- Contracts of the program's functions, for every argument that meets the conditions that each theorem names. -/
import Derived.Test.YthhgndcnfdaekaaCt4
import Derived.Test.YthhgndcnfdaekaaAm5
import Derived.Test.YthhgndcnfdaekaaAm6
import Derived.Test.YthhgndcnfdaekaaRows
section
set_option linter.unusedVariables false
set_option linter.unusedSimpArgs false
set_option maxRecDepth 20000
namespace Go.Am
open Go.Proofs

theorem enters22 : Enters EE.P 22 := enters_of (fn := Try.f22) (n := 82) (ac := Tryc22) rfl (by decide) Tryp22
theorem enters14 : Enters EE.P 14 := enters_of (fn := Try.f14) (ac := Tryc14) rfl (by decide) Tryp14
theorem fine_em (n : Int) : Short (emF n).bs := by simp [Short, emF]
theorem fine_ems {l : List Int} (h : l.length < 100) : Fine (l.map emF) := ⟨by unfold Short; simp; omega, fun c hc => by
  obtain ⟨n, _, rfl⟩ := List.mem_map.1 hc
  exact fine_em n⟩
theorem fine0 : Snk0.Fine := ⟨fine_ems (l := []) (by decide), by simp [Short, Snk0], by simp [Snk0]⟩
theorem fine1 : aw1.Fine := ⟨fine_ems (l := []) (by decide), by simp [Short, aw1], by
  intro b hb; simp [aw1] at hb; subst hb; exact fine_ems (l := [1, 2]) (by decide)⟩
theorem fine2 : aw2.Fine := ⟨fine_ems (l := []) (by decide), by simp [Short, aw2], by
  intro b hb; simp [aw2] at hb; rcases hb with rfl | rfl
  · exact fine_ems (l := [1, 2]) (by decide)
  · exact fine_ems (l := [3]) (by decide)⟩
theorem fine3 : aw3.Fine := ⟨fine_ems (l := []) (by decide), by simp [Short, aw3], by
  intro b hb; simp [aw3] at hb; rcases hb with rfl | rfl
  · exact fine_ems (l := [1, 2, 4]) (by decide)
  · exact fine_ems (l := [3]) (by decide)⟩
theorem fine4 : aw4.Fine := ⟨fine_ems (l := [1, 2, 4]) (by decide), by simp [Short, aw4], by
  intro b hb; simp [aw4] at hb; subst hb; exact fine_ems (l := [3]) (by decide)⟩
theorem fine5 : aw5.Fine := ⟨fine_ems (l := [1, 2, 4]) (by decide), by simp [Short, aw5], by
  intro b hb; simp [aw5] at hb⟩

set_option maxHeartbeats 4000000 in
theorem P11 : PCall EE 11 [] (.val (.bool true)) := by
  have P31a := P31 1
  have P31b := P31 2
  have P31c := P31 3
  have P31d := P31 4
  have P22a := P22 Snk0 1 [emF 1, emF 2] fine0 (fine_ems (l := [1, 2]) (by decide)) (by decide) (by decide)
  have P22b := P22 aw1 3 [emF 3] fine1 (fine_ems (l := [3]) (by decide)) (by decide) (by decide)
  have P22c := P22 aw2 1 [emF 4] fine2 (fine_ems (l := [4]) (by decide)) (by decide) (by decide)
  have P24a := P24 aw3 2 fine3 (by decide)
  have P22d := P22 aw4 2 [emF 1] fine4 (fine_ems (l := [1]) (by decide)) (by decide) (by decide)
  have P26a := P26 aw4 2 fine4 (by decide)
  have P24b := P24 aw5 1 fine5 (by decide)
  have P14a := P14 [emF 1, emF 2, emF 4] [emF 1, emF 2, emF 4] (fine_ems (l := [1, 2, 4]) (by decide))
  have P15a := P15 aw4 fine4 (by decide)
  have P14b := P14 [emF 3] [emF 3] (fine_ems (l := [3]) (by decide))
  have P15b := P15 aw5 fine5 (by decide)
  have P17a := P17 aw5 fine5 (by decide)
  have P19a := P19 aw5 aw5 fine5
  have P20a := P20
  rw [aw_1] at P22a
  rw [aw_2] at P22b
  rw [aw_3] at P22c
  rw [aw_4] at P24a
  rw [aw_5] at P22d
  rw [aw_6] at P26a
  rw [aw_7] at P24b
  rw [decide_eq_true rfl] at P14a P14b P19a
  rw [show pendF aw4.pend = [emF 3] from rfl] at P15a
  rw [show pendF aw5.pend = [] from rfl] at P15b
  rw [show aw5.com ++ pendF aw5.pend = [emF 1, emF 2, emF 4] from rfl] at P17a
  have n1 : mapE Chg.enc [emF 1, emF 2] = [Chg.enc (emF 1), Chg.enc (emF 2)] := by rw [mapE_eq]; rfl
  have n2 : mapE Chg.enc [emF 3] = [Chg.enc (emF 3)] := by rw [mapE_eq]; rfl
  have n3 : mapE Chg.enc [emF 4] = [Chg.enc (emF 4)] := by rw [mapE_eq]; rfl
  have n4 : mapE Chg.enc [emF 1] = [Chg.enc (emF 1)] := by rw [mapE_eq]; rfl
  have n5 : mapE Chg.enc [emF 1, emF 2, emF 4] = [Chg.enc (emF 1), Chg.enc (emF 2), Chg.enc (emF 4)] := by rw [mapE_eq]; rfl
  have n6 : mapE Chg.enc ([] : List Chg) = [] := mapE_nil _
  have c3 := closedC [emF 1, emF 2, emF 4]
  have q1 := closedB aw1.pend
  have q2 := closedB aw2.pend
  have q3 := closedB aw3.pend
  have q4 := closedB aw4.pend
  have s0 : Snk0.enc = .agg [int 0, .isl 3 (mapE Chg.enc []), .isl 2 (mapE Bat.enc [])] := rfl
  have s1 : aw1.enc = .agg [int 0, .isl 3 (mapE Chg.enc []), .isl 2 (mapE Bat.enc aw1.pend)] := rfl
  have s2 : aw2.enc = .agg [int 0, .isl 3 (mapE Chg.enc []), .isl 2 (mapE Bat.enc aw2.pend)] := rfl
  have s3 : aw3.enc = .agg [int 0, .isl 3 (mapE Chg.enc []), .isl 2 (mapE Bat.enc aw3.pend)] := rfl
  have s4 : aw4.enc = .agg [int 2, .isl 3 (mapE Chg.enc [emF 1, emF 2, emF 4]), .isl 2 (mapE Bat.enc aw4.pend)] := rfl
  have s5 : aw5.enc = .agg [int 2, .isl 3 (mapE Chg.enc [emF 1, emF 2, emF 4]), .isl 2 (mapE Bat.enc [])] := rfl
  have m0 : mapE Bat.enc ([] : List Bat) = [] := mapE_nil _
  dsimp only at *
  rw [s0, n6, m0] at P20a
  rw [s0, s1, n1, n6, m0] at P22a
  rw [s1, s2, n2, n6] at P22b
  rw [s2, s3, n3, n6] at P22c
  rw [s3, s4, n6] at P24a
  rw [s4, s0, n4, n6, m0] at P22d
  rw [s4, s5, m0] at P26a
  rw [s5, m0] at P24b
  rw [s4] at P15a
  rw [s5, n6, m0] at P15b
  rw [s5, m0] at P17a
  rw [s5, m0] at P19a
  have e1 : Chg.enc (emF 1) = .agg [int 1, int 0, .isl 4 (mapE Bnd.enc (emF 1).bs)] := rfl
  have e2 : Chg.enc (emF 2) = .agg [int 1, int 0, .isl 4 (mapE Bnd.enc (emF 2).bs)] := rfl
  have e3 : Chg.enc (emF 3) = .agg [int 1, int 0, .isl 4 (mapE Bnd.enc (emF 3).bs)] := rfl
  have e4 : Chg.enc (emF 4) = .agg [int 1, int 0, .isl 4 (mapE Bnd.enc (emF 4).bs)] := rfl
  have r1 : PCall EE 31 [int 1] (Chg.enc (emF 1)) := P31a
  have r2 : PCall EE 31 [int 2] (Chg.enc (emF 2)) := P31b
  have r3 : PCall EE 31 [int 3] (Chg.enc (emF 3)) := P31c
  have r4 : PCall EE 31 [int 4] (Chg.enc (emF 4)) := P31d
  clear P31a P31b P31c P31d
  have l5 : (mapE Chg.enc [emF 1, emF 2, emF 4]).length = 3 := by rw [mapE_len]; rfl
  have P14a : PCall EE 14 [.isl 3 (mapE Chg.enc [emF 1, emF 2, emF 4]), .isl 3 [Chg.enc (emF 1), Chg.enc (emF 2), Chg.enc (emF 4)]] (.val (.bool true)) := by rw [← n5]; exact P14a
  have P14b : PCall EE 14 [.isl 3 (mapE Chg.enc [emF 3]), .isl 3 [Chg.enc (emF 3)]] (.val (.bool true)) := by rw [← n2]; exact P14b
  have hb1 : AV.closedL (mapE Bnd.enc (emF 1).bs) = true := closed_mapE Bnd.closed _
  have hb2 : AV.closedL (mapE Bnd.enc (emF 2).bs) = true := closed_mapE Bnd.closed _
  have hb3 : AV.closedL (mapE Bnd.enc (emF 3).bs) = true := closed_mapE Bnd.closed _
  have hb4 : AV.closedL (mapE Bnd.enc (emF 4).bs) = true := closed_mapE Bnd.closed _
  have hw3 := closedC [emF 3]
  clear n1 n2 n3 n4 n5 s0 s1 s2 s3 s4 s5 n6 m0
  rw [e1] at r1
  rw [e2] at r2
  rw [e3] at r3
  rw [e4] at r4
  rw [e1, e2] at P22a
  rw [e3] at P22b
  rw [e4] at P22c
  rw [e1] at P22d
  rw [e1, e2, e4] at P14a
  rw [e3] at P14b
  clear e1 e2 e3 e4
  generalize mapE Bnd.enc (emF 1).bs = b1 at *
  generalize mapE Bnd.enc (emF 2).bs = b2 at *
  generalize mapE Bnd.enc (emF 3).bs = b3 at *
  generalize mapE Bnd.enc (emF 4).bs = b4 at *
  generalize mapE Chg.enc [emF 1, emF 2, emF 4] = kk at *
  generalize mapE Chg.enc [emF 3] = w3 at *
  generalize mapE Bat.enc aw1.pend = p1 at *
  generalize mapE Bat.enc aw2.pend = p2 at *
  generalize mapE Bat.enc aw3.pend = p3 at *
  generalize mapE Bat.enc aw4.pend = p4 at *
  have hnn : (AV.isl 3 []).closed = true := rfl
  have hnp : (AV.isl 2 []).closed = true := rfl
  have q1 : AV.closedL p1 = true := q1
  have q2 : AV.closedL p2 = true := q2
  have q3 : AV.closedL p3 = true := q3
  have q4 : AV.closedL p4 = true := q4
  have c3 : AV.closedL kk = true := c3
  have hw3 : AV.closedL w3 = true := hw3
  refine words fun iLt iLe iEq iNe iAdd iSub iMul iQuo iRem iShr iNeg iCvt iMax iMin bNot bEq bNe bAnd bOr sEq sNe sLen sCat sCut sAt lenA lenN iOf natOf atA atN cutA partA dropA catA setA repA putA idxN addN subN minN lenCut hX e_iLt e_iLe e_iEq e_iNe e_iAdd e_iSub e_iMul e_iQuo e_iRem e_iShr e_iNeg e_iCvt e_iMax e_iMin e_bNot e_bEq e_bNe e_bAnd e_bOr e_sEq e_sNe e_sLen e_sCat e_sCut e_sAt e_lenA e_lenN e_iOf e_natOf e_atA e_atN e_cutA e_partA e_dropA e_catA e_setA e_repA e_putA e_idxN e_addN e_subN e_minN e_lenCut ee => ?_
  refine fn_body (fn := Try.f11) (n := 116) (ac := Tryc11) (rvs := [.t 0]) rfl (by decide) Tryp11 rfl rfl rfl ?_
  refine go rfl hX 0 (by conv => lhs; cbv) ?_ ?_
  · first | exact trivial | (simp only [Cd.ok, ee]; and_intros <;> first | omega | rfl | (simp <;> omega))
  refine on_pcall rfl rfl rfl r1 rfl ?_
  refine go rfl hX 0 (by conv => lhs; cbv) ?_ ?_
  · first | exact trivial | (simp only [Cd.ok, ee]; and_intros <;> first | omega | rfl | (simp <;> omega))
  refine on_pcall rfl rfl rfl r2 rfl ?_
  refine go rfl hX 0 (by conv => lhs; cbv) ?_ ?_
  · first | exact trivial | (simp only [Cd.ok, ee]; and_intros <;> first | omega | rfl | (simp <;> omega))
  refine on_pcall rfl rfl rfl r3 rfl ?_
  refine go rfl hX 0 (by conv => lhs; cbv) ?_ ?_
  · first | exact trivial | (simp only [Cd.ok, ee]; and_intros <;> first | omega | rfl | (simp <;> omega))
  refine on_pcall rfl rfl rfl r4 rfl ?_
  refine go rfl hX 0 (by conv => lhs; cbv) ?_ ?_
  · first | exact trivial | (simp only [Cd.ok, ee]; and_intros <;> first | omega | rfl | (simp <;> omega))
  have hE12 : AV.closedL [AV.agg [int 1, int 0, .isl 4 b1], .agg [int 1, int 0, .isl 4 b2]] = true := by simp [AV.closedL, AV.closed, hb1, hb2, hb3, hb4]
  have hE3 : AV.closedL [AV.agg [int 1, int 0, .isl 4 b3]] = true := by simp [AV.closedL, AV.closed, hb1, hb2, hb3, hb4]
  have hE4 : AV.closedL [AV.agg [int 1, int 0, .isl 4 b4]] = true := by simp [AV.closedL, AV.closed, hb1, hb2, hb3, hb4]
  have hE1 : AV.closedL [AV.agg [int 1, int 0, .isl 4 b1]] = true := by simp [AV.closedL, AV.closed, hb1, hb2, hb3, hb4]
  have hE124 : AV.closedL [AV.agg [int 1, int 0, .isl 4 b1], .agg [int 1, int 0, .isl 4 b2], .agg [int 1, int 0, .isl 4 b4]] = true := by simp [AV.closedL, AV.closed, hb1, hb2, hb3, hb4]
  refine trp_drawE [3, 4, 8, 9] [[3, 4, 8, 9], [3, 8, 4, 9], [8, 3, 4, 9]] [(6, int 0), (5, .ptr 4 0), (1, .ptr 0 0), (2, .ptr 1 0), (3, .ptr 2 0), (4, .ptr 3 0)] [.cells [int 1, int 0, .isl 4 b1], .cells [int 1, int 0, .isl 4 b2], .cells [int 1, int 0, .isl 4 b3], .cells [int 1, int 0, .isl 4 b4], .cells [int 0, .isl 3 [], .isl 2 p1]] rfl rfl rfl (by decide) rfl ?_ ⟨⟨[0, 1, 2, 3, 4, 5, 6, 7, 8, 9, 10], rfl, ?_⟩, ⟨[0, 1, 2, 3, 8, 4, 5, 6, 7, 9, 10], rfl, ?_⟩, ⟨[8, 0, 1, 2, 3, 4, 5, 6, 7, 9, 10], rfl, ?_⟩, trivial⟩
  rotate_left
  · refine tr_go hX (by conv => lhs; cbv) ?_ ?_
    · first | exact trivial | (simp only [Cd.ok, ee]; and_intros <;> first | omega | rfl | (simp <;> omega))
    refine tr_pcall rfl rfl rfl P20a rfl ?_
    refine tr_go hX (by conv => lhs; cbv) ?_ ?_
    · first | exact trivial | (simp only [Cd.ok, ee]; and_intros <;> first | omega | rfl | (simp <;> omega))
    refine tr_ecall (args := [.agg [int 0, .isl 3 [], .isl 2 []], int 1, .sl 4 3 0 2]) rfl rfl rfl enters22 (PCall.give (args' := [.agg [int 0, .isl 3 [], .isl 2 []], int 1, .isl 3 [.agg [int 1, int 0, .isl 4 b1], .agg [int 1, int 0, .isl 4 b2]]]) (H1 := [.cells [int 1, int 0, .isl 4 b1], .cells [int 1, int 0, .isl 4 b2], .cells [int 1, int 0, .isl 4 b3], .cells [int 1, int 0, .isl 4 b4], .dead]) [.to 0, .to 1, .to 2, .to 3, .isl 3 [.agg [int 1, int 0, .isl 4 b1], .agg [int 1, int 0, .isl 4 b2]]] rfl ⟨⟨by simp, rfl⟩, ⟨by simp, rfl⟩, ⟨by simp, rfl⟩, ⟨by simp, rfl⟩, ⟨_, rfl, (subL_closed _ hE12).symm⟩, trivial⟩ ⟨osrc_cells (b := 0) rfl rfl rfl ⟨.refl _, .refl _, .cl hb1, trivial⟩, osrc_cells (b := 1) rfl rfl rfl ⟨.refl _, .refl _, .cl hb2, trivial⟩, osrc_cells (b := 2) rfl rfl rfl ⟨.refl _, .refl _, .cl hb3, trivial⟩, osrc_cells (b := 3) rfl rfl rfl ⟨.refl _, .refl _, .cl hb4, trivial⟩, .dead, trivial⟩ rfl P22a (by simp [AV.closedL, AV.closed, hb1, hb2, hb3, hb4, q1, q2, q3, q4, c3, hw3])) ?_
    refine tr_go hX (by conv => lhs; cbv) ?_ ?_
    · first | exact trivial | (simp only [Cd.ok, ee]; and_intros <;> first | omega | rfl | (simp <;> omega))
    refine tr_nil ⟨by simp [effLab], ?_, ?_⟩
    · simp only [LooksP, lookAll, List.append, List.cons_append, List.nil_append, List.append_nil]; and_intros <;> first | trivial | (intro hp; first | rfl | exact absurd (show false = true from hp) Bool.false_ne_true)
    exact (ent_sub [.to 0, .to 1, .to 2, .to 3, .gone, .to 4] [some 0, some 1, some 2, some 3, some 5] ⟨⟨by simp, rfl⟩, ⟨by simp, rfl⟩, ⟨by simp, rfl⟩, ⟨by simp, rfl⟩, trivial, ⟨by simp, rfl⟩, trivial⟩
      ⟨osrc_cells (b := 0) rfl rfl rfl ⟨.refl _, .refl _, .cl hb1, trivial⟩, osrc_cells (b := 1) rfl rfl rfl ⟨.refl _, .refl _, .cl hb2, trivial⟩, osrc_cells (b := 2) rfl rfl rfl ⟨.refl _, .refl _, .cl hb3, trivial⟩, osrc_cells (b := 3) rfl rfl rfl ⟨.refl _, .refl _, .cl hb4, trivial⟩, osrc_cells (b := 5) rfl rfl rfl ⟨.refl _, .cl hnn, .cl q1, trivial⟩, trivial⟩
      ⟨.refl _, .refl _, .refl _, .refl _, .refl _, .refl _, trivial⟩)
  · refine tr_go hX (by conv => lhs; cbv) ?_ ?_
    · first | exact trivial | (simp only [Cd.ok, ee]; and_intros <;> first | omega | rfl | (simp <;> omega))
    refine tr_pcall rfl rfl rfl P20a rfl ?_
    refine tr_go hX (by conv => lhs; cbv) ?_ ?_
    · first | exact trivial | (simp only [Cd.ok, ee]; and_intros <;> first | omega | rfl | (simp <;> omega))
    refine tr_ecall (args := [.agg [int 0, .isl 3 [], .isl 2 []], int 1, .sl 4 3 0 2]) rfl rfl rfl enters22 (PCall.give (args' := [.agg [int 0, .isl 3 [], .isl 2 []], int 1, .isl 3 [.agg [int 1, int 0, .isl 4 b1], .agg [int 1, int 0, .isl 4 b2]]]) (H1 := [.cells [int 1, int 0, .isl 4 b1], .cells [int 1, int 0, .isl 4 b2], .cells [int 1, int 0, .isl 4 b3], .cells [int 1, int 0, .isl 4 b4], .dead, .cells [int 0, .val (.slice none 0 0), .val (.slice none 0 0)]]) [.to 0, .to 1, .to 2, .to 3, .isl 3 [.agg [int 1, int 0, .isl 4 b1], .agg [int 1, int 0, .isl 4 b2]], .to 5] rfl ⟨⟨by simp, rfl⟩, ⟨by simp, rfl⟩, ⟨by simp, rfl⟩, ⟨by simp, rfl⟩, ⟨_, rfl, (subL_closed _ hE12).symm⟩, ⟨by simp, rfl⟩, trivial⟩ ⟨osrc_cells (b := 0) rfl rfl rfl ⟨.refl _, .refl _, .cl hb1, trivial⟩, osrc_cells (b := 1) rfl rfl rfl ⟨.refl _, .refl _, .cl hb2, trivial⟩, osrc_cells (b := 2) rfl rfl rfl ⟨.refl _, .refl _, .cl hb3, trivial⟩, osrc_cells (b := 3) rfl rfl rfl ⟨.refl _, .refl _, .cl hb4, trivial⟩, .dead, osrc_cells (b := 5) rfl rfl rfl ⟨.refl _, .refl _, .refl _, trivial⟩, trivial⟩ rfl P22a (by simp [AV.closedL, AV.closed, hb1, hb2, hb3, hb4, q1, q2, q3, q4, c3, hw3])) ?_
    refine tr_go hX (by conv => lhs; cbv) ?_ ?_
    · first | exact trivial | (simp only [Cd.ok, ee]; and_intros <;> first | omega | rfl | (simp <;> omega))
    refine tr_nil ⟨by simp [effLab], ?_, ?_⟩
    · simp only [LooksP, lookAll, List.append, List.cons_append, List.nil_append, List.append_nil]; and_intros <;> first | trivial | (intro hp; first | rfl | exact absurd (show false = true from hp) Bool.false_ne_true)
    exact (ent_sub [.to 0, .to 1, .to 2, .to 3, .gone, .to 4] [some 0, some 1, some 2, some 3, some 5] ⟨⟨by simp, rfl⟩, ⟨by simp, rfl⟩, ⟨by simp, rfl⟩, ⟨by simp, rfl⟩, trivial, ⟨by simp, rfl⟩, trivial⟩
      ⟨osrc_cells (b := 0) rfl rfl rfl ⟨.refl _, .refl _, .cl hb1, trivial⟩, osrc_cells (b := 1) rfl rfl rfl ⟨.refl _, .refl _, .cl hb2, trivial⟩, osrc_cells (b := 2) rfl rfl rfl ⟨.refl _, .refl _, .cl hb3, trivial⟩, osrc_cells (b := 3) rfl rfl rfl ⟨.refl _, .refl _, .cl hb4, trivial⟩, osrc_cells (b := 5) rfl rfl rfl ⟨.refl _, .cl hnn, .cl q1, trivial⟩, trivial⟩
      ⟨.refl _, .refl _, .refl _, .refl _, .refl _, .refl _, trivial⟩)
  · refine tr_go hX (by conv => lhs; cbv) ?_ ?_
    · first | exact trivial | (simp only [Cd.ok, ee]; and_intros <;> first | omega | rfl | (simp <;> omega))
    refine tr_pcall rfl rfl rfl P20a rfl ?_
    refine tr_go hX (by conv => lhs; cbv) ?_ ?_
    · first | exact trivial | (simp only [Cd.ok, ee]; and_intros <;> first | omega | rfl | (simp <;> omega))
    refine tr_ecall (args := [.agg [int 0, .isl 3 [], .isl 2 []], int 1, .sl 5 3 0 2]) rfl rfl rfl enters22 (PCall.give (args' := [.agg [int 0, .isl 3 [], .isl 2 []], int 1, .isl 3 [.agg [int 1, int 0, .isl 4 b1], .agg [int 1, int 0, .isl 4 b2]]]) (H1 := [.cells [int 1, int 0, .isl 4 b1], .cells [int 1, int 0, .isl 4 b2], .cells [int 1, int 0, .isl 4 b3], .cells [int 1, int 0, .isl 4 b4], .cells [int 0, .val (.slice none 0 0), .val (.slice none 0 0)], .dead]) [.to 0, .to 1, .to 2, .to 3, .to 4, .isl 3 [.agg [int 1, int 0, .isl 4 b1], .agg [int 1, int 0, .isl 4 b2]]] rfl ⟨⟨by simp, rfl⟩, ⟨by simp, rfl⟩, ⟨by simp, rfl⟩, ⟨by simp, rfl⟩, ⟨by simp, rfl⟩, ⟨_, rfl, (subL_closed _ hE12).symm⟩, trivial⟩ ⟨osrc_cells (b := 0) rfl rfl rfl ⟨.refl _, .refl _, .cl hb1, trivial⟩, osrc_cells (b := 1) rfl rfl rfl ⟨.refl _, .refl _, .cl hb2, trivial⟩, osrc_cells (b := 2) rfl rfl rfl ⟨.refl _, .refl _, .cl hb3, trivial⟩, osrc_cells (b := 3) rfl rfl rfl ⟨.refl _, .refl _, .cl hb4, trivial⟩, osrc_cells (b := 4) rfl rfl rfl ⟨.refl _, .refl _, .refl _, trivial⟩, .dead, trivial⟩ rfl P22a (by simp [AV.closedL, AV.closed, hb1, hb2, hb3, hb4, q1, q2, q3, q4, c3, hw3])) ?_
    refine tr_go hX (by conv => lhs; cbv) ?_ ?_
    · first | exact trivial | (simp only [Cd.ok, ee]; and_intros <;> first | omega | rfl | (simp <;> omega))
    refine tr_nil ⟨by simp [effLab], ?_, ?_⟩
    · simp only [LooksP, lookAll, List.append, List.cons_append, List.nil_append, List.append_nil]; and_intros <;> first | trivial | (intro hp; first | rfl | exact absurd (show false = true from hp) Bool.false_ne_true)
    exact (ent_sub [.to 0, .to 1, .to 2, .to 3, .to 4, .gone] [some 0, some 1, some 2, some 3, some 4] ⟨⟨by simp, rfl⟩, ⟨by simp, rfl⟩, ⟨by simp, rfl⟩, ⟨by simp, rfl⟩, ⟨by simp, rfl⟩, trivial, trivial⟩
      ⟨osrc_cells (b := 0) rfl rfl rfl ⟨.refl _, .refl _, .cl hb1, trivial⟩, osrc_cells (b := 1) rfl rfl rfl ⟨.refl _, .refl _, .cl hb2, trivial⟩, osrc_cells (b := 2) rfl rfl rfl ⟨.refl _, .refl _, .cl hb3, trivial⟩, osrc_cells (b := 3) rfl rfl rfl ⟨.refl _, .refl _, .cl hb4, trivial⟩, osrc_cells (b := 4) rfl rfl rfl ⟨.refl _, .cl hnn, .cl q1, trivial⟩, trivial⟩
      ⟨.refl _, .refl _, .refl _, .refl _, .refl _, .refl _, trivial⟩)
  have fa0 : iAdd .i64 0 0 = 0 := by simp [ee, l5]; try decide
  have fn0 : iNe 0 0 = false := by simp [ee, l5]; try decide
  have fn2 : iNe 2 2 = false := by simp [ee, l5]; try decide
  have fbt : bNot true = false := by simp [ee, l5]; try decide
  have fe29 : iEq 29 29 = true := by simp [ee, l5]; try decide
  have fe0 : iEq 0 0 = true := by simp [ee, l5]; try decide
  have fl0 : iEq (lenA []) 0 = true := by simp [ee, l5]; try decide
  have fl3 : iEq (lenA kk) 3 = true := by simp [ee, l5]; try decide
  have fba : bAnd true true = true := by simp [ee, l5]; try decide
  refine go rfl hX 0 (by conv => lhs; cbv) ?_ ?_
  · first | exact trivial | (simp only [Cd.ok, ee]; and_intros <;> first | omega | rfl | (simp <;> omega))
  refine on_entO (F' := [(25, .agg [int 0, .isl 3 [], .isl 2 p1]), (27, .isl 3 [.agg [int 1, int 0, .isl 4 b3]]), (6, int 0), (5, .ptr 4 0), (1, .ptr 0 0), (2, .ptr 1 0), (3, .ptr 2 0), (4, .ptr 3 0)]) (H' := [.cells [int 1, int 0, .isl 4 b1], .cells [int 1, int 0, .isl 4 b2], .cells [int 1, int 0, .isl 4 b3], .cells [int 1, int 0, .isl 4 b4], .cells [int 0, .isl 3 [], .isl 2 p1]]) (ent_sub [.to 0, .to 1, .to 2, .to 3, .to 4, .isl 3 [.agg [int 1, int 0, .isl 4 b3]]] [some 0, some 1, some 2, some 3, some 4] ⟨⟨by simp, rfl⟩, ⟨by simp, rfl⟩, ⟨by simp, rfl⟩, ⟨by simp, rfl⟩, ⟨by simp, rfl⟩, ⟨_, rfl, (subL_closed _ hE3).symm⟩, trivial⟩
      ⟨osrc_cells (b := 0) rfl rfl rfl ⟨.refl _, .refl _, .cl hb1, trivial⟩, osrc_cells (b := 1) rfl rfl rfl ⟨.refl _, .refl _, .cl hb2, trivial⟩, osrc_cells (b := 2) rfl rfl rfl ⟨.refl _, .refl _, .cl hb3, trivial⟩, osrc_cells (b := 3) rfl rfl rfl ⟨.refl _, .refl _, .cl hb4, trivial⟩, osrc_cells (b := 4) rfl rfl rfl ⟨.refl _, .cl hnn, .cl q1, trivial⟩, trivial⟩
      ⟨.cl (v := .agg [int 0, .isl 3 [], .isl 2 p1]) (by simp [AV.closedL, AV.closed, hb1, hb2, hb3, hb4, q1, q2, q3, q4, c3, hw3]), .of (sub_whole rfl rfl), .refl _, .refl _, .refl _, .refl _, .refl _, .refl _, trivial⟩) ?_
  refine on_pcall (args := [.agg [int 0, .isl 3 [], .isl 2 p1], int 3, .isl 3 [.agg [int 1, int 0, .isl 4 b3]]]) rfl rfl rfl P22b (by simp [AV.closedL, AV.closed, hb1, hb2, hb3, hb4, q1, q2, q3, q4, c3, hw3]) ?_
  refine go rfl hX 0 (by conv => lhs; cbv) ?_ ?_
  · first | exact trivial | (simp only [Cd.ok, ee]; and_intros <;> first | omega | rfl | (simp <;> omega))
  refine on_entO (F' := [(32, .agg [int 0, .isl 3 [], .isl 2 p2]), (34, .isl 3 [.agg [int 1, int 0, .isl 4 b4]]), (7, int 0), (6, int 0), (5, .ptr 4 0), (1, .ptr 0 0), (2, .ptr 1 0), (3, .ptr 2 0), (4, .ptr 3 0)]) (H' := [.cells [int 1, int 0, .isl 4 b1], .cells [int 1, int 0, .isl 4 b2], .cells [int 1, int 0, .isl 4 b3], .cells [int 1, int 0, .isl 4 b4], .cells [int 0, .isl 3 [], .isl 2 p2]]) (ent_sub [.to 0, .to 1, .to 2, .to 3, .to 4, .isl 3 [.agg [int 1, int 0, .isl 4 b4]]] [some 0, some 1, some 2, some 3, some 4] ⟨⟨by simp, rfl⟩, ⟨by simp, rfl⟩, ⟨by simp, rfl⟩, ⟨by simp, rfl⟩, ⟨by simp, rfl⟩, ⟨_, rfl, (subL_closed _ hE4).symm⟩, trivial⟩
      ⟨osrc_cells (b := 0) rfl rfl rfl ⟨.refl _, .refl _, .cl hb1, trivial⟩, osrc_cells (b := 1) rfl rfl rfl ⟨.refl _, .refl _, .cl hb2, trivial⟩, osrc_cells (b := 2) rfl rfl rfl ⟨.refl _, .refl _, .cl hb3, trivial⟩, osrc_cells (b := 3) rfl rfl rfl ⟨.refl _, .refl _, .cl hb4, trivial⟩, osrc_cells (b := 4) rfl rfl rfl ⟨.refl _, .cl hnn, .cl q2, trivial⟩, trivial⟩
      ⟨.cl (v := .agg [int 0, .isl 3 [], .isl 2 p2]) (by simp [AV.closedL, AV.closed, hb1, hb2, hb3, hb4, q1, q2, q3, q4, c3, hw3]), .of (sub_whole rfl rfl), .refl _, .refl _, .refl _, .refl _, .refl _, .refl _, .refl _, trivial⟩) ?_
  refine on_pcall (args := [.agg [int 0, .isl 3 [], .isl 2 p2], int 1, .isl 3 [.agg [int 1, int 0, .isl 4 b4]]]) rfl rfl rfl P22c (by simp [AV.closedL, AV.closed, hb1, hb2, hb3, hb4, q1, q2, q3, q4, c3, hw3]) ?_
  refine go rfl hX 0 (by conv => lhs; cbv) ?_ ?_
  · first | exact trivial | (simp only [Cd.ok, ee]; and_intros <;> first | omega | rfl | (simp <;> omega))
  refine on_pcall (args := [.agg [int 0, .isl 3 [], .isl 2 p3], int 2]) rfl rfl rfl P24a (by simp [AV.closedL, AV.closed, hb1, hb2, hb3, hb4, q1, q2, q3, q4, c3, hw3]) ?_
  refine go rfl hX 0 (by conv => lhs; cbv) ?_ ?_
  · first | exact trivial | (simp only [Cd.ok, ee]; and_intros <;> first | omega | rfl | (simp <;> omega))
  refine tr_drawB rfl (by conv => lhs; cbv) rfl ?_
  refine tr_go hX (by conv => lhs; cbv; simp only [fa0,fn0,fn2,fbt,fe29,fe0,fl0,fl3,fba,fa0,fn0,fn2,fbt,fe29,fe0,fl0,fl3,fba]; cbv; simp only [fa0,fn0,fn2,fbt,fe29,fe0,fl0,fl3,fba,fa0,fn0,fn2,fbt,fe29,fe0,fl0,fl3,fba]; cbv) ?_ ?_
  · first | exact trivial | (simp only [Cd.ok, ee]; and_intros <;> first | omega | rfl | (simp <;> omega))
  refine tr_ung rfl ?_
  refine tr_go hX (by conv => lhs; cbv; simp only [fa0,fn0,fn2,fbt,fe29,fe0,fl0,fl3,fba,fa0,fn0,fn2,fbt,fe29,fe0,fl0,fl3,fba]; cbv; simp only [fa0,fn0,fn2,fbt,fe29,fe0,fl0,fl3,fba,fa0,fn0,fn2,fbt,fe29,fe0,fl0,fl3,fba]; cbv) ?_ ?_
  · first | exact trivial | (simp only [Cd.ok, ee]; and_intros <;> first | omega | rfl | (simp <;> omega))
  refine tr_ung rfl ?_
  refine tr_go hX (by conv => lhs; cbv; simp only [fa0,fn0,fn2,fbt,fe29,fe0,fl0,fl3,fba,fa0,fn0,fn2,fbt,fe29,fe0,fl0,fl3,fba]; cbv; simp only [fa0,fn0,fn2,fbt,fe29,fe0,fl0,fl3,fba,fa0,fn0,fn2,fbt,fe29,fe0,fl0,fl3,fba]; cbv) ?_ ?_
  · first | exact trivial | (simp only [Cd.ok, ee]; and_intros <;> first | omega | rfl | (simp <;> omega))
  refine tr_ung rfl ?_
  refine tr_go hX (by conv => lhs; cbv; simp only [fa0,fn0,fn2,fbt,fe29,fe0,fl0,fl3,fba,fa0,fn0,fn2,fbt,fe29,fe0,fl0,fl3,fba]; cbv; simp only [fa0,fn0,fn2,fbt,fe29,fe0,fl0,fl3,fba,fa0,fn0,fn2,fbt,fe29,fe0,fl0,fl3,fba]; cbv) ?_ ?_
  · first | exact trivial | (simp only [Cd.ok, ee]; and_intros <;> first | omega | rfl | (simp <;> omega))
  refine tr_ung rfl ?_
  refine tr_go hX (by conv => lhs; cbv; simp only [fa0,fn0,fn2,fbt,fe29,fe0,fl0,fl3,fba,fa0,fn0,fn2,fbt,fe29,fe0,fl0,fl3,fba]; cbv; simp only [fa0,fn0,fn2,fbt,fe29,fe0,fl0,fl3,fba,fa0,fn0,fn2,fbt,fe29,fe0,fl0,fl3,fba]; cbv) ?_ ?_
  · first | exact trivial | (simp only [Cd.ok, ee]; and_intros <;> first | omega | rfl | (simp <;> omega))
  refine tr_ung rfl ?_
  refine tr_go hX (by conv => lhs; cbv; simp only [fa0,fn0,fn2,fbt,fe29,fe0,fl0,fl3,fba,fa0,fn0,fn2,fbt,fe29,fe0,fl0,fl3,fba]; cbv; simp only [fa0,fn0,fn2,fbt,fe29,fe0,fl0,fl3,fba,fa0,fn0,fn2,fbt,fe29,fe0,fl0,fl3,fba]; cbv) ?_ ?_
  · first | exact trivial | (simp only [Cd.ok, ee]; and_intros <;> first | omega | rfl | (simp <;> omega))
  refine tr_ung rfl ?_
  refine tr_go hX (by conv => lhs; cbv; simp only [fa0,fn0,fn2,fbt,fe29,fe0,fl0,fl3,fba,fa0,fn0,fn2,fbt,fe29,fe0,fl0,fl3,fba]; cbv; simp only [fa0,fn0,fn2,fbt,fe29,fe0,fl0,fl3,fba,fa0,fn0,fn2,fbt,fe29,fe0,fl0,fl3,fba]; cbv) ?_ ?_
  · first | exact trivial | (simp only [Cd.ok, ee]; and_intros <;> first | omega | rfl | (simp <;> omega))
  refine tr_ung rfl ?_
  refine tr_go hX (by conv => lhs; cbv; simp only [fa0,fn0,fn2,fbt,fe29,fe0,fl0,fl3,fba,fa0,fn0,fn2,fbt,fe29,fe0,fl0,fl3,fba]; cbv; simp only [fa0,fn0,fn2,fbt,fe29,fe0,fl0,fl3,fba,fa0,fn0,fn2,fbt,fe29,fe0,fl0,fl3,fba]; cbv) ?_ ?_
  · first | exact trivial | (simp only [Cd.ok, ee]; and_intros <;> first | omega | rfl | (simp <;> omega))
  refine tr_ung rfl ?_
  refine tr_go hX (by conv => lhs; cbv; simp only [fa0,fn0,fn2,fbt,fe29,fe0,fl0,fl3,fba,fa0,fn0,fn2,fbt,fe29,fe0,fl0,fl3,fba]; cbv; simp only [fa0,fn0,fn2,fbt,fe29,fe0,fl0,fl3,fba,fa0,fn0,fn2,fbt,fe29,fe0,fl0,fl3,fba]; cbv) ?_ ?_
  · first | exact trivial | (simp only [Cd.ok, ee]; and_intros <;> first | omega | rfl | (simp <;> omega))
  refine tr_ung rfl ?_
  refine tr_go hX (by conv => lhs; cbv; simp only [fa0,fn0,fn2,fbt,fe29,fe0,fl0,fl3,fba,fa0,fn0,fn2,fbt,fe29,fe0,fl0,fl3,fba]; cbv; simp only [fa0,fn0,fn2,fbt,fe29,fe0,fl0,fl3,fba,fa0,fn0,fn2,fbt,fe29,fe0,fl0,fl3,fba]; cbv) ?_ ?_
  · first | exact trivial | (simp only [Cd.ok, ee]; and_intros <;> first | omega | rfl | (simp <;> omega))
  refine tr_ung rfl ?_
  refine tr_ecall (args := [.isl 3 kk, .sl 5 3 0 3]) rfl rfl rfl enters14 (PCall.give (args' := [.isl 3 kk, .isl 3 [.agg [int 1, int 0, .isl 4 b1], .agg [int 1, int 0, .isl 4 b2], .agg [int 1, int 0, .isl 4 b4]]]) (H1 := [.cells [int 1, int 0, .isl 4 b1], .cells [int 1, int 0, .isl 4 b2], .cells [int 1, int 0, .isl 4 b3], .cells [int 1, int 0, .isl 4 b4], .cells [int 2, .isl 3 kk, .isl 2 p4], .dead]) [.to 0, .to 1, .to 2, .to 3, .to 4, .isl 3 [.agg [int 1, int 0, .isl 4 b1], .agg [int 1, int 0, .isl 4 b2], .agg [int 1, int 0, .isl 4 b4]]] rfl ⟨⟨by simp, rfl⟩, ⟨by simp, rfl⟩, ⟨by simp, rfl⟩, ⟨by simp, rfl⟩, ⟨by simp, rfl⟩, ⟨_, rfl, (subL_closed _ hE124).symm⟩, trivial⟩ ⟨osrc_cells (b := 0) rfl rfl rfl ⟨.refl _, .refl _, .cl hb1, trivial⟩, osrc_cells (b := 1) rfl rfl rfl ⟨.refl _, .refl _, .cl hb2, trivial⟩, osrc_cells (b := 2) rfl rfl rfl ⟨.refl _, .refl _, .cl hb3, trivial⟩, osrc_cells (b := 3) rfl rfl rfl ⟨.refl _, .refl _, .cl hb4, trivial⟩, osrc_cells (b := 4) rfl rfl rfl ⟨.refl _, .cl c3, .cl q4, trivial⟩, .dead, trivial⟩ (by show [AV.isl 3 (AV.subL _ kk), _] = _; rw [subL_closed _ c3]; rfl) P14a (by simp [AV.closedL, AV.closed, hb1, hb2, hb3, hb4, q1, q2, q3, q4, c3, hw3])) ?_
  refine tr_ung rfl ?_
  refine tr_go hX (by conv => lhs; cbv; simp only [fa0,fn0,fn2,fbt,fe29,fe0,fl0,fl3,fba,fa0,fn0,fn2,fbt,fe29,fe0,fl0,fl3,fba]; cbv; simp only [fa0,fn0,fn2,fbt,fe29,fe0,fl0,fl3,fba,fa0,fn0,fn2,fbt,fe29,fe0,fl0,fl3,fba]; cbv) ?_ ?_
  · first | exact trivial | (simp only [Cd.ok, ee]; and_intros <;> first | omega | rfl | (simp <;> omega))
  refine tr_ung rfl ?_
  refine tr_go hX (by conv => lhs; cbv; simp only [fa0,fn0,fn2,fbt,fe29,fe0,fl0,fl3,fba,fa0,fn0,fn2,fbt,fe29,fe0,fl0,fl3,fba]; cbv; simp only [fa0,fn0,fn2,fbt,fe29,fe0,fl0,fl3,fba,fa0,fn0,fn2,fbt,fe29,fe0,fl0,fl3,fba]; cbv) ?_ ?_
  · first | exact trivial | (simp only [Cd.ok, ee]; and_intros <;> first | omega | rfl | (simp <;> omega))
  refine tr_ung rfl ?_
  refine tr_pcall (args := [.agg [int 2, .isl 3 kk, .isl 2 p4]]) rfl rfl rfl P15a (by simp [AV.closedL, AV.closed, hb1, hb2, hb3, hb4, q1, q2, q3, q4, c3, hw3]) ?_
  refine tr_ung rfl ?_
  refine tr_go hX (by conv => lhs; cbv; simp only [fa0,fn0,fn2,fbt,fe29,fe0,fl0,fl3,fba,fa0,fn0,fn2,fbt,fe29,fe0,fl0,fl3,fba]; cbv; simp only [fa0,fn0,fn2,fbt,fe29,fe0,fl0,fl3,fba,fa0,fn0,fn2,fbt,fe29,fe0,fl0,fl3,fba]; cbv) ?_ ?_
  · first | exact trivial | (simp only [Cd.ok, ee]; and_intros <;> first | omega | rfl | (simp <;> omega))
  refine tr_ung rfl ?_
  refine tr_go hX (by conv => lhs; cbv; simp only [fa0,fn0,fn2,fbt,fe29,fe0,fl0,fl3,fba,fa0,fn0,fn2,fbt,fe29,fe0,fl0,fl3,fba]; cbv; simp only [fa0,fn0,fn2,fbt,fe29,fe0,fl0,fl3,fba,fa0,fn0,fn2,fbt,fe29,fe0,fl0,fl3,fba]; cbv) ?_ ?_
  · first | exact trivial | (simp only [Cd.ok, ee]; and_intros <;> first | omega | rfl | (simp <;> omega))
  refine tr_ung rfl ?_
  refine tr_ecall (args := [.isl 3 w3, .sl 6 3 0 1]) rfl rfl rfl enters14 (PCall.give (args' := [.isl 3 w3, .isl 3 [.agg [int 1, int 0, .isl 4 b3]]]) (H1 := [.cells [int 1, int 0, .isl 4 b1], .cells [int 1, int 0, .isl 4 b2], .cells [int 1, int 0, .isl 4 b3], .cells [int 1, int 0, .isl 4 b4], .cells [int 2, .isl 3 kk, .isl 2 p4], .dead, .dead]) [.to 0, .to 1, .to 2, .to 3, .to 4, .gone, .isl 3 [.agg [int 1, int 0, .isl 4 b3]]] rfl ⟨⟨by simp, rfl⟩, ⟨by simp, rfl⟩, ⟨by simp, rfl⟩, ⟨by simp, rfl⟩, ⟨by simp, rfl⟩, trivial, ⟨_, rfl, (subL_closed _ hE3).symm⟩, trivial⟩ ⟨osrc_cells (b := 0) rfl rfl rfl ⟨.refl _, .refl _, .cl hb1, trivial⟩, osrc_cells (b := 1) rfl rfl rfl ⟨.refl _, .refl _, .cl hb2, trivial⟩, osrc_cells (b := 2) rfl rfl rfl ⟨.refl _, .refl _, .cl hb3, trivial⟩, osrc_cells (b := 3) rfl rfl rfl ⟨.refl _, .refl _, .cl hb4, trivial⟩, osrc_cells (b := 4) rfl rfl rfl ⟨.refl _, .cl c3, .cl q4, trivial⟩, .dead, .dead, trivial⟩ (by show [AV.isl 3 (AV.subL _ w3), _] = _; rw [subL_closed _ hw3]; rfl) P14b (by simp [AV.closedL, AV.closed, hb1, hb2, hb3, hb4, q1, q2, q3, q4, c3, hw3])) ?_
  refine tr_ung rfl ?_
  refine tr_go hX (by conv => lhs; cbv; simp only [fa0,fn0,fn2,fbt,fe29,fe0,fl0,fl3,fba,fa0,fn0,fn2,fbt,fe29,fe0,fl0,fl3,fba]; cbv; simp only [fa0,fn0,fn2,fbt,fe29,fe0,fl0,fl3,fba,fa0,fn0,fn2,fbt,fe29,fe0,fl0,fl3,fba]; cbv) ?_ ?_
  · first | exact trivial | (simp only [Cd.ok, ee]; and_intros <;> first | omega | rfl | (simp <;> omega))
  refine tr_nil ⟨rfl, ?_, ?_⟩
  · simp only [LooksL, lookAll, List.append, List.cons_append, List.nil_append, List.append_nil]; and_intros <;> first | trivial | (intro hp; first | rfl | exact absurd (show false = true from hp) Bool.false_ne_true)
  refine go rfl hX 1 (by conv => lhs; cbv) ?_ ?_
  · first | exact trivial | (simp only [Cd.ok, ee]; and_intros <;> first | omega | rfl | (simp <;> omega))
  refine on_entO (F' := [(75, .agg [int 2, .isl 3 kk, .isl 2 p4]), (77, .isl 3 [.agg [int 1, int 0, .isl 4 b1]]), (6, int 0), (5, .ptr 4 0), (1, .ptr 0 0), (2, .ptr 1 0), (3, .ptr 2 0), (4, .ptr 3 0)]) (H' := [.cells [int 1, int 0, .isl 4 b1], .cells [int 1, int 0, .isl 4 b2], .cells [int 1, int 0, .isl 4 b3], .cells [int 1, int 0, .isl 4 b4], .cells [int 2, .isl 3 kk, .isl 2 p4]]) (ent_sub [.to 0, .to 1, .to 2, .to 3, .to 4, .gone, .gone, .isl 3 [.agg [int 1, int 0, .isl 4 b1]]] [some 0, some 1, some 2, some 3, some 4] ⟨⟨by simp, rfl⟩, ⟨by simp, rfl⟩, ⟨by simp, rfl⟩, ⟨by simp, rfl⟩, ⟨by simp, rfl⟩, trivial, trivial, ⟨_, rfl, (subL_closed _ hE1).symm⟩, trivial⟩
      ⟨osrc_cells (b := 0) rfl rfl rfl ⟨.refl _, .refl _, .cl hb1, trivial⟩, osrc_cells (b := 1) rfl rfl rfl ⟨.refl _, .refl _, .cl hb2, trivial⟩, osrc_cells (b := 2) rfl rfl rfl ⟨.refl _, .refl _, .cl hb3, trivial⟩, osrc_cells (b := 3) rfl rfl rfl ⟨.refl _, .refl _, .cl hb4, trivial⟩, osrc_cells (b := 4) rfl rfl rfl ⟨.refl _, .cl c3, .cl q4, trivial⟩, trivial⟩
      ⟨.cl (v := .agg [int 2, .isl 3 kk, .isl 2 p4]) (by simp [AV.closedL, AV.closed, hb1, hb2, hb3, hb4, q1, q2, q3, q4, c3, hw3]), .of (sub_whole rfl rfl), .refl _, .refl _, .refl _, .refl _, .refl _, .refl _, trivial⟩) ?_
  refine on_pcall (args := [.agg [int 2, .isl 3 kk, .isl 2 p4], int 2, .isl 3 [.agg [int 1, int 0, .isl 4 b1]]]) rfl rfl rfl P22d (by simp [AV.closedL, AV.closed, hb1, hb2, hb3, hb4, q1, q2, q3, q4, c3, hw3]) ?_
  refine go rfl hX 0 (by conv => lhs; cbv) ?_ ?_
  · first | exact trivial | (simp only [Cd.ok, ee]; and_intros <;> first | omega | rfl | (simp <;> omega))
  refine on_pcall (args := [.agg [int 2, .isl 3 kk, .isl 2 p4], int 2]) rfl rfl rfl P26a (by simp [AV.closedL, AV.closed, hb1, hb2, hb3, hb4, q1, q2, q3, q4, c3, hw3]) ?_
  refine go rfl hX 0 (by conv => lhs; cbv) ?_ ?_
  · first | exact trivial | (simp only [Cd.ok, ee]; and_intros <;> first | omega | rfl | (simp <;> omega))
  refine on_pcall (args := [.agg [int 2, .isl 3 kk, .isl 2 []], int 1]) rfl rfl rfl P24b (by simp [AV.closedL, AV.closed, hb1, hb2, hb3, hb4, q1, q2, q3, q4, c3, hw3]) ?_
  refine go rfl hX 0 (by conv => lhs; cbv; simp only [fa0,fn0,fn2,fbt,fe29,fe0,fl0,fl3,fba,fa0,fn0,fn2,fbt,fe29,fe0,fl0,fl3,fba]; cbv; simp only [fa0,fn0,fn2,fbt,fe29,fe0,fl0,fl3,fba,fa0,fn0,fn2,fbt,fe29,fe0,fl0,fl3,fba]; cbv) ?_ ?_
  · first | exact trivial | (simp only [Cd.ok, ee]; and_intros <;> first | omega | rfl | (simp <;> omega))
  refine go rfl hX 1 (by conv => lhs; cbv; simp only [fa0,fn0,fn2,fbt,fe29,fe0,fl0,fl3,fba,fa0,fn0,fn2,fbt,fe29,fe0,fl0,fl3,fba]; cbv; simp only [fa0,fn0,fn2,fbt,fe29,fe0,fl0,fl3,fba,fa0,fn0,fn2,fbt,fe29,fe0,fl0,fl3,fba]; cbv) ?_ ?_
  · first | exact trivial | (simp only [Cd.ok, ee]; and_intros <;> first | omega | rfl | (simp <;> omega))
  refine on_gpcall (args := [.agg [int 2, .isl 3 kk, .isl 2 []]]) rfl rfl rfl rfl P15b (by simp [AV.closedL, AV.closed, hb1, hb2, hb3, hb4, q1, q2, q3, q4, c3, hw3]) ?_
  refine go rfl hX 0 (by conv => lhs; cbv; simp only [fa0,fn0,fn2,fbt,fe29,fe0,fl0,fl3,fba,fa0,fn0,fn2,fbt,fe29,fe0,fl0,fl3,fba]; cbv; simp only [fa0,fn0,fn2,fbt,fe29,fe0,fl0,fl3,fba,fa0,fn0,fn2,fbt,fe29,fe0,fl0,fl3,fba]; cbv) ?_ ?_
  · first | exact trivial | (simp only [Cd.ok, ee]; and_intros <;> first | omega | rfl | (simp <;> omega))
  refine go rfl hX 1 (by conv => lhs; cbv; simp only [fa0,fn0,fn2,fbt,fe29,fe0,fl0,fl3,fba,fa0,fn0,fn2,fbt,fe29,fe0,fl0,fl3,fba]; cbv; simp only [fa0,fn0,fn2,fbt,fe29,fe0,fl0,fl3,fba,fa0,fn0,fn2,fbt,fe29,fe0,fl0,fl3,fba]; cbv) ?_ ?_
  · first | exact trivial | (simp only [Cd.ok, ee]; and_intros <;> first | omega | rfl | (simp <;> omega))
  refine on_gpcall (args := [.agg [int 2, .isl 3 kk, .isl 2 []]]) rfl rfl rfl rfl P17a (by simp [AV.closedL, AV.closed, hb1, hb2, hb3, hb4, q1, q2, q3, q4, c3, hw3]) ?_
  refine go rfl hX 0 (by conv => lhs; cbv; simp only [fa0,fn0,fn2,fbt,fe29,fe0,fl0,fl3,fba,fa0,fn0,fn2,fbt,fe29,fe0,fl0,fl3,fba]; cbv; simp only [fa0,fn0,fn2,fbt,fe29,fe0,fl0,fl3,fba,fa0,fn0,fn2,fbt,fe29,fe0,fl0,fl3,fba]; cbv) ?_ ?_
  · first | exact trivial | (simp only [Cd.ok, ee]; and_intros <;> first | omega | rfl | (simp <;> omega))
  refine go rfl hX 2 (by conv => lhs; cbv; simp only [fa0,fn0,fn2,fbt,fe29,fe0,fl0,fl3,fba,fa0,fn0,fn2,fbt,fe29,fe0,fl0,fl3,fba]; cbv; simp only [fa0,fn0,fn2,fbt,fe29,fe0,fl0,fl3,fba,fa0,fn0,fn2,fbt,fe29,fe0,fl0,fl3,fba]; cbv) ?_ ?_
  · first | exact trivial | (simp only [Cd.ok, ee]; and_intros <;> first | omega | rfl | (simp <;> omega))
  refine on_gpcall (args := [.agg [int 2, .isl 3 kk, .isl 2 []], .agg [int 2, .isl 3 kk, .isl 2 []]]) rfl rfl rfl rfl P19a (by simp [AV.closedL, AV.closed, hb1, hb2, hb3, hb4, q1, q2, q3, q4, c3, hw3]) ?_
  refine go rfl hX 0 (by conv => lhs; cbv; simp only [fa0,fn0,fn2,fbt,fe29,fe0,fl0,fl3,fba,fa0,fn0,fn2,fbt,fe29,fe0,fl0,fl3,fba]; cbv; simp only [fa0,fn0,fn2,fbt,fe29,fe0,fl0,fl3,fba,fa0,fn0,fn2,fbt,fe29,fe0,fl0,fl3,fba]; cbv) ?_ ?_
  · first | exact trivial | (simp only [Cd.ok, ee]; and_intros <;> first | omega | rfl | (simp <;> omega))
  exact fn_ret rfl rfl (.val rfl)
end Go.Am
end
section
set_option linter.unusedVariables false
set_option linter.unusedSimpArgs false
set_option maxRecDepth 20000
namespace Go.Am
open Go.Proofs

theorem few_count {s : Snk} (h : fewS s = true) : countF s < 500000000000 := by
  simp only [fewS, Bool.and_eq_true, Bool.or_eq_true, decide_eq_true_eq] at h
  obtain ⟨h1, h2, h3⟩ := h
  have hc : s.com.length ≤ 4098 := by
    rcases h3 with h3 | h3
    · simp only [fewC, Bool.and_eq_true, decide_eq_true_eq] at h3; omega
    · omega
  have hb : ∀ b ∈ s.pend, b.cs.length ≤ 30 := fun b hb => by
    have := h1 b (by rw [List.take_of_length_le h2]; exact hb)
    simp only [fewC, Bool.and_eq_true, decide_eq_true_eq] at this; omega
  have hs : ∀ l : List Bat, (∀ b ∈ l, b.cs.length ≤ 30) → sumL l ≤ 30 * l.length := by
    intro l
    induction l with
    | nil => intro _; simp [sumL]
    | cons b l ih =>
      intro h
      have h1 := h b (by simp)
      have h2 := ih fun b hb => h b (by simp [hb])
      simp only [sumL, List.length_cons]; omega
  have := hs s.pend hb
  unfold countF; omega

theorem addF_fine {s : Snk} {e : Int} {cs : List Chg} (hf : s.Fine) (hfc : Fine cs) (hcs : cs.length < 100000000000) : (addF s e cs).1.Fine := by
  unfold addF
  split
  · exact fine0
  rename_i h1
  have hok := check_ok (Decidable.not_not.1 h1)
  split
  · exact fine0
  split
  · exact fine0
  split
  · exact hf
  split
  · exact fine0
  split
  · exact fine0
  · refine fine_with hf hfc hok.2.2.1 (fun b hb => ?_) hcs
    have h6 := hok.2.2.2.2.2
    obtain ⟨d, r, hd⟩ := List.append_of_mem hb
    unfold countF at h6
    rw [hd, sumL_append] at h6
    simp [sumL] at h6
    omega

set_option maxHeartbeats 1000000 in
theorem P4 (s : Snk) (e : Int) (cs : List Chg) (hf : s.Fine) (hfc : Fine cs) : PCall EE 4 [s.enc, int e, .isl 3 (mapE Chg.enc cs)] (.val (.bool true)) := by
  have P10c := P10 s hf
  have P21c := P21 cs hfc.1
  have hfew := fun h => few_count (s := s) h
  have P11c := P11
  have hcl2 : fewC cs = true → cs.length < 100000000000 := fun h => by
    simp only [fewC, Bool.and_eq_true, decide_eq_true_eq] at h; omega
  have P22c := fun (h : fewS s = true) (h2 : fewC cs = true) => P22 s e cs hf hfc (hfew h) (hcl2 h2)
  have P23c := fun (h : fewS s = true) (h2 : fewC cs = true) => P23 s e cs hf (by have := hfew h; omega) (hcl2 h2)
  have hcl := Snk.closed s
  have hcc := closedC cs
  have P19c := fun (h2 : fewC cs = true) => P19 (addF s e cs).1 (addF s e cs).1 (addF_fine hf hfc (hcl2 h2))
  rw [decide_eq_true rfl] at P19c
  have hcr := Snk.closed (addF s e cs).1
  generalize fewS s = fs at P10c P22c P23c
  generalize fewC cs = fc at P21c P22c P23c P19c
  generalize hr : addF s e cs = r at P22c P23c P19c hcr
  clear hr
  have hse : s.enc = .agg [int s.epoch, .isl 3 (mapE Chg.enc s.com), .isl 2 (mapE Bat.enc s.pend)] := rfl
  have hre : r.1.enc = .agg [int r.1.epoch, .isl 3 (mapE Chg.enc r.1.com), .isl 2 (mapE Bat.enc r.1.pend)] := rfl
  rw [hse] at P10c P22c P23c hcl ⊢
  rw [hre] at P22c P23c P19c hcr
  clear hse hre hcl2 hfew
  generalize mapE Chg.enc s.com = ec at *
  generalize mapE Bat.enc s.pend = ep at *
  generalize mapE Chg.enc r.1.com = rc at *
  generalize mapE Bat.enc r.1.pend = rp at *
  generalize mapE Chg.enc cs = ecs at *
  generalize s.epoch = se at *
  generalize r.1.epoch = re at *
  generalize r.2 = rk at *
  refine words fun iLt iLe iEq iNe iAdd iSub iMul iQuo iRem iShr iNeg iCvt iMax iMin bNot bEq bNe bAnd bOr sEq sNe sLen sCat sCut sAt lenA lenN iOf natOf atA atN cutA partA dropA catA setA repA putA idxN addN subN minN lenCut hX e_iLt e_iLe e_iEq e_iNe e_iAdd e_iSub e_iMul e_iQuo e_iRem e_iShr e_iNeg e_iCvt e_iMax e_iMin e_bNot e_bEq e_bNe e_bAnd e_bOr e_sEq e_sNe e_sLen e_sCat e_sCut e_sAt e_lenA e_lenN e_iOf e_natOf e_atA e_atN e_cutA e_partA e_dropA e_catA e_setA e_repA e_putA e_idxN e_addN e_subN e_minN e_lenCut ee => ?_
  refine fn_body (fn := Try.f4) (n := 45) (ac := Tryc4) (rvs := [.t 6]) rfl (by decide) Tryp4 rfl rfl rfl ?_
  refine go rfl hX 0 (by conv => lhs; cbv) ?_ ?_
  · first | exact trivial | (simp only [Cd.ok, ee]; and_intros <;> first | omega | rfl | (simp <;> omega))
  refine on_pcall rfl rfl rfl P10c (closed1 hcl) ?_
  have hnt : bNot true = false := by simp [ee]
  have hnf : bNot false = true := by simp [ee]
  have hof : bOr false true = true := by simp [ee]
  have hoo : bOr false false = false := by simp [ee]
  have hat : bAnd true true = true := by simp [ee]
  have hek : iEq rk rk = true := by simp [ee]
  cases fs with
  | false =>
    refine go rfl hX 0 (by conv => lhs; cbv; simp only [hnf,hnf]; cbv; simp only [hnf,hnf]; cbv) ?_ ?_
    · first | exact trivial | (simp only [Cd.ok, ee]; and_intros <;> first | omega | rfl | (simp <;> omega))
    refine on_gskip rfl rfl ?_
    refine on_gskip rfl rfl ?_
    refine on_gskip rfl rfl ?_
    refine go rfl hX 0 (by conv => lhs; cbv) ?_ ?_
    · first | exact trivial | (simp only [Cd.ok, ee]; and_intros <;> first | omega | rfl | (simp <;> omega))
    refine go rfl hX 1 (by conv => lhs; cbv) ?_ ?_
    · first | exact trivial | (simp only [Cd.ok, ee]; and_intros <;> first | omega | rfl | (simp <;> omega))
    refine on_pcall rfl rfl rfl P11c rfl ?_
    refine go rfl hX 0 (by conv => lhs; cbv) ?_ ?_
    · first | exact trivial | (simp only [Cd.ok, ee]; and_intros <;> first | omega | rfl | (simp <;> omega))
    exact fn_ret rfl rfl (.val rfl)
  | true =>
    refine go rfl hX 0 (by conv => lhs; cbv; simp only [hnt,hnt]; cbv; simp only [hnt,hnt]; cbv) ?_ ?_
    · first | exact trivial | (simp only [Cd.ok, ee]; and_intros <;> first | omega | rfl | (simp <;> omega))
    refine go rfl hX 1 (by conv => lhs; cbv) ?_ ?_
    · first | exact trivial | (simp only [Cd.ok, ee]; and_intros <;> first | omega | rfl | (simp <;> omega))
    refine on_gpcall (args := [.isl 3 ecs]) rfl rfl rfl rfl P21c (closed1 hcc) ?_
    cases fc with
    | false =>
      refine go rfl hX 0 (by conv => lhs; cbv; simp only [hnf,hof,hnf,hof]; cbv; simp only [hnf,hof,hnf,hof]; cbv) ?_ ?_
      · first | exact trivial | (simp only [Cd.ok, ee]; and_intros <;> first | omega | rfl | (simp <;> omega))
      refine go rfl hX 1 (by conv => lhs; cbv; simp only [hnf,hof,hnf,hof]; cbv; simp only [hnf,hof,hnf,hof]; cbv) ?_ ?_
      · first | exact trivial | (simp only [Cd.ok, ee]; and_intros <;> first | omega | rfl | (simp <;> omega))
      refine on_pcall rfl rfl rfl P11c rfl ?_
      refine go rfl hX 0 (by conv => lhs; cbv) ?_ ?_
      · first | exact trivial | (simp only [Cd.ok, ee]; and_intros <;> first | omega | rfl | (simp <;> omega))
      exact fn_ret rfl rfl (.val rfl)
    | true =>
      have P22c := P22c rfl rfl
      have P23c := P23c rfl rfl
      have P19c := P19c rfl
      have hc3 : AV.closedL [.agg [int se, .isl 3 ec, .isl 2 ep], int e, .isl 3 ecs] = true := by simp only [AV.closedL, hcl, hcc]; rfl
      refine go rfl hX 0 (by conv => lhs; cbv; simp only [hnt,hoo,hnt,hoo]; cbv; simp only [hnt,hoo,hnt,hoo]; cbv) ?_ ?_
      · first | exact trivial | (simp only [Cd.ok, ee]; and_intros <;> first | omega | rfl | (simp <;> omega))
      refine go rfl hX 1 (by conv => lhs; cbv; simp only [hnt,hoo,hnt,hoo]; cbv; simp only [hnt,hoo,hnt,hoo]; cbv) ?_ ?_
      · first | exact trivial | (simp only [Cd.ok, ee]; and_intros <;> first | omega | rfl | (simp <;> omega))
      refine on_pcall (args := [.agg [int se, .isl 3 ec, .isl 2 ep], int e, .isl 3 ecs]) rfl rfl rfl P22c hc3 ?_
      refine go rfl hX 0 (by conv => lhs; cbv) ?_ ?_
      · first | exact trivial | (simp only [Cd.ok, ee]; and_intros <;> first | omega | rfl | (simp <;> omega))
      refine on_pcall (args := [.agg [int se, .isl 3 ec, .isl 2 ep], int e, .isl 3 ecs]) rfl rfl rfl P23c hc3 ?_
      refine go rfl hX 0 (by conv => lhs; cbv) ?_ ?_
      · first | exact trivial | (simp only [Cd.ok, ee]; and_intros <;> first | omega | rfl | (simp <;> omega))
      refine on_pcall rfl rfl rfl P11c rfl ?_
      refine go rfl hX 2 (by conv => lhs; cbv) ?_ ?_
      · first | exact trivial | (simp only [Cd.ok, ee]; and_intros <;> first | omega | rfl | (simp <;> omega))
      refine on_gpcall (args := [.agg [int re, .isl 3 rc, .isl 2 rp], .agg [int re, .isl 3 rc, .isl 2 rp]]) rfl rfl rfl rfl P19c (closed2 hcr hcr) ?_
      refine go rfl hX 5 (by conv => lhs; cbv; simp only [hat,hek,hat,hek]; cbv; simp only [hat,hek,hat,hek]; cbv) ?_ ?_
      · first | exact trivial | (simp only [Cd.ok, ee]; and_intros <;> first | omega | rfl | (simp <;> omega))
      exact fn_ret rfl rfl (.val rfl)
end Go.Am
end
section
set_option linter.unusedVariables false
set_option linter.unusedSimpArgs false
set_option maxRecDepth 20000
namespace Go.Am
open Go.Proofs

theorem fine_pend : ∀ (l : List Bat), (∀ b ∈ l, Fine b.cs) → ∀ c ∈ pendF l, Short c.bs
  | [], _, c, hc => by simp [pendF] at hc
  | b :: r, h, c, hc => by
    simp only [pendF, List.mem_append] at hc
    rcases hc with hc | hc
    · exact (h b (by simp)).2 c hc
    · exact fine_pend r (fun x hx => h x (by simp [hx])) c hc
theorem abortF_fine {s : Snk} {e : Int} (hf : s.Fine) : (abortF s e).1.Fine := by
  unfold abortF
  have hu : Snk.Fine ⟨s.epoch, s.com, upto e s.pend⟩ := ⟨hf.com, by
    have := hf.pend; unfold Short at *
    have h2 : (upto e s.pend).length ≤ s.pend.length := List.length_filter_le _ _
    dsimp only; omega, fun b hb => hf.bats b (List.mem_filter.1 hb).1⟩
  repeat' split
  all_goals first | exact fine0 | exact hf | exact hu
theorem commitF_fine {s : Snk} {e : Int} (hf : s.Fine) (hc : countF s < 500000000000) : (commitF s e).1.Fine := by
  unfold commitF
  have hu : Snk.Fine ⟨e, s.com ++ pendF (upto e s.pend), beyond e s.pend⟩ := ⟨⟨by
      have h1 := sumL_upto e s.pend
      unfold countF at hc
      unfold Short; dsimp only; rw [List.length_append, pendF_len]; omega, fun c hc => by
      rcases List.mem_append.1 hc with h | h
      · exact hf.com.2 c h
      · exact fine_pend _ (fun b hb => hf.bats b (List.mem_filter.1 hb).1) c h⟩, by
    have := hf.pend; unfold Short at *
    have h2 : (beyond e s.pend).length ≤ s.pend.length := List.length_filter_le _ _
    dsimp only; omega, fun b hb => hf.bats b (List.mem_filter.1 hb).1⟩
  repeat' split
  all_goals first | exact fine0 | exact hf | exact hu
end Go.Am
end
section
set_option linter.unusedVariables false
set_option linter.unusedSimpArgs false
set_option maxRecDepth 20000
namespace Go.Am
open Go.Proofs

set_option maxHeartbeats 1000000 in
theorem P5 (s : Snk) (e : Int) (hf : s.Fine) : PCall EE 5 [s.enc, int e] (.val (.bool true)) := by
  have P10c := P10 s hf
  have hfew := fun h => few_count (s := s) h
  have P11c := P11
  have P24c := fun (h : fewS s = true) => P24 s e hf (hfew h)
  have P25c := fun (h : fewS s = true) => P25 s e hf (by have := hfew h; omega)
  have P26c := fun (h : fewS s = true) => P26 s e hf (hfew h)
  have P27c := fun (h : fewS s = true) => P27 s e hf (by have := hfew h; omega)
  have hcl := Snk.closed s
  have P19c := fun (h : fewS s = true) => P19 (commitF s e).1 (commitF s e).1 (commitF_fine hf (hfew h))
  have P19d := P19 (abortF s e).1 (abortF s e).1 (abortF_fine hf)
  rw [decide_eq_true rfl] at P19c P19d
  have hcr := Snk.closed (commitF s e).1
  have hca := Snk.closed (abortF s e).1
  generalize fewS s = fs at P10c P24c P25c P26c P27c P19c
  generalize commitF s e = r at P24c P25c P19c hcr
  generalize abortF s e = a at P26c P27c P19d hca
  have hse : s.enc = .agg [int s.epoch, .isl 3 (mapE Chg.enc s.com), .isl 2 (mapE Bat.enc s.pend)] := rfl
  have hre : r.1.enc = .agg [int r.1.epoch, .isl 3 (mapE Chg.enc r.1.com), .isl 2 (mapE Bat.enc r.1.pend)] := rfl
  have hae : a.1.enc = .agg [int a.1.epoch, .isl 3 (mapE Chg.enc a.1.com), .isl 2 (mapE Bat.enc a.1.pend)] := rfl
  rw [hse] at P10c P24c P25c P26c P27c hcl ⊢
  rw [hre] at P24c P25c P19c hcr
  rw [hae] at P26c P27c P19d hca
  clear hse hre hae hfew
  generalize mapE Chg.enc s.com = ec at *
  generalize mapE Bat.enc s.pend = ep at *
  generalize mapE Chg.enc r.1.com = rc at *
  generalize mapE Bat.enc r.1.pend = rp at *
  generalize mapE Chg.enc a.1.com = ac at *
  generalize mapE Bat.enc a.1.pend = ap at *
  generalize s.epoch = se at *
  generalize r.1.epoch = re at *
  generalize r.2 = rk at *
  generalize a.1.epoch = ae at *
  generalize a.2 = ak at *
  refine words fun iLt iLe iEq iNe iAdd iSub iMul iQuo iRem iShr iNeg iCvt iMax iMin bNot bEq bNe bAnd bOr sEq sNe sLen sCat sCut sAt lenA lenN iOf natOf atA atN cutA partA dropA catA setA repA putA idxN addN subN minN lenCut hX e_iLt e_iLe e_iEq e_iNe e_iAdd e_iSub e_iMul e_iQuo e_iRem e_iShr e_iNeg e_iCvt e_iMax e_iMin e_bNot e_bEq e_bNe e_bAnd e_bOr e_sEq e_sNe e_sLen e_sCat e_sCut e_sAt e_lenA e_lenN e_iOf e_natOf e_atA e_atN e_cutA e_partA e_dropA e_catA e_setA e_repA e_putA e_idxN e_addN e_subN e_minN e_lenCut ee => ?_
  refine fn_body (fn := Try.f5) (n := 62) (ac := Tryc5) (rvs := [.t 4]) rfl (by decide) Tryp5 rfl rfl rfl ?_
  refine go rfl hX 0 (by conv => lhs; cbv) ?_ ?_
  · first | exact trivial | (simp only [Cd.ok, ee]; and_intros <;> first | omega | rfl | (simp <;> omega))
  refine on_pcall rfl rfl rfl P10c (closed1 hcl) ?_
  have hnt : bNot true = false := by simp [ee]
  have hnf : bNot false = true := by simp [ee]
  have hat : bAnd true true = true := by simp [ee]
  have hek : iEq rk rk = true := by simp [ee]
  have hea : iEq ak ak = true := by simp [ee]
  cases fs with
  | false =>
    refine go rfl hX 0 (by conv => lhs; cbv; simp only [hnf,hnf]; cbv; simp only [hnf,hnf]; cbv) ?_ ?_
    · first | exact trivial | (simp only [Cd.ok, ee]; and_intros <;> first | omega | rfl | (simp <;> omega))
    refine go rfl hX 1 (by conv => lhs; cbv; simp only [hnf,hnf]; cbv; simp only [hnf,hnf]; cbv) ?_ ?_
    · first | exact trivial | (simp only [Cd.ok, ee]; and_intros <;> first | omega | rfl | (simp <;> omega))
    refine on_pcall rfl rfl rfl P11c rfl ?_
    refine go rfl hX 0 (by conv => lhs; cbv) ?_ ?_
    · first | exact trivial | (simp only [Cd.ok, ee]; and_intros <;> first | omega | rfl | (simp <;> omega))
    exact fn_ret rfl rfl (.val rfl)
  | true =>
    have hc2 : AV.closedL [.agg [int se, .isl 3 ec, .isl 2 ep], int e] = true := by simp only [AV.closedL, hcl]; rfl
    have P24c := P24c rfl
    have P25c := P25c rfl
    have P26c := P26c rfl
    have P27c := P27c rfl
    have P19c := P19c rfl
    refine go rfl hX 0 (by conv => lhs; cbv; simp only [hnt,hnt]; cbv; simp only [hnt,hnt]; cbv) ?_ ?_
    · first | exact trivial | (simp only [Cd.ok, ee]; and_intros <;> first | omega | rfl | (simp <;> omega))
    refine go rfl hX 1 (by conv => lhs; cbv; simp only [hnt,hnt]; cbv; simp only [hnt,hnt]; cbv) ?_ ?_
    · first | exact trivial | (simp only [Cd.ok, ee]; and_intros <;> first | omega | rfl | (simp <;> omega))
    refine on_pcall (args := [.agg [int se, .isl 3 ec, .isl 2 ep], int e]) rfl rfl rfl P24c hc2 ?_
    refine go rfl hX 0 (by conv => lhs; cbv) ?_ ?_
    · first | exact trivial | (simp only [Cd.ok, ee]; and_intros <;> first | omega | rfl | (simp <;> omega))
    refine on_pcall (args := [.agg [int se, .isl 3 ec, .isl 2 ep], int e]) rfl rfl rfl P25c hc2 ?_
    refine go rfl hX 0 (by conv => lhs; cbv) ?_ ?_
    · first | exact trivial | (simp only [Cd.ok, ee]; and_intros <;> first | omega | rfl | (simp <;> omega))
    refine on_pcall (args := [.agg [int se, .isl 3 ec, .isl 2 ep], int e]) rfl rfl rfl P26c hc2 ?_
    refine go rfl hX 0 (by conv => lhs; cbv) ?_ ?_
    · first | exact trivial | (simp only [Cd.ok, ee]; and_intros <;> first | omega | rfl | (simp <;> omega))
    refine on_pcall (args := [.agg [int se, .isl 3 ec, .isl 2 ep], int e]) rfl rfl rfl P27c hc2 ?_
    refine go rfl hX 0 (by conv => lhs; cbv) ?_ ?_
    · first | exact trivial | (simp only [Cd.ok, ee]; and_intros <;> first | omega | rfl | (simp <;> omega))
    refine on_pcall rfl rfl rfl P11c rfl ?_
    refine go rfl hX 2 (by conv => lhs; cbv) ?_ ?_
    · first | exact trivial | (simp only [Cd.ok, ee]; and_intros <;> first | omega | rfl | (simp <;> omega))
    refine on_gpcall (args := [.agg [int re, .isl 3 rc, .isl 2 rp], .agg [int re, .isl 3 rc, .isl 2 rp]]) rfl rfl rfl rfl P19c (closed2 hcr hcr) ?_
    refine go rfl hX 0 (by conv => lhs; cbv; simp only [hat,hek,hat,hek]; cbv; simp only [hat,hek,hat,hek]; cbv) ?_ ?_
    · first | exact trivial | (simp only [Cd.ok, ee]; and_intros <;> first | omega | rfl | (simp <;> omega))
    refine go rfl hX 3 (by conv => lhs; cbv; simp only [hat,hek,hat,hek]; cbv; simp only [hat,hek,hat,hek]; cbv) ?_ ?_
    · first | exact trivial | (simp only [Cd.ok, ee]; and_intros <;> first | omega | rfl | (simp <;> omega))
    refine go rfl hX 2 (by conv => lhs; cbv; simp only [hat,hek,hat,hek]; cbv; simp only [hat,hek,hat,hek]; cbv) ?_ ?_
    · first | exact trivial | (simp only [Cd.ok, ee]; and_intros <;> first | omega | rfl | (simp <;> omega))
    refine on_gpcall (args := [.agg [int ae, .isl 3 ac, .isl 2 ap], .agg [int ae, .isl 3 ac, .isl 2 ap]]) rfl rfl rfl rfl P19d (closed2 hca hca) ?_
    refine go rfl hX 0 (by conv => lhs; cbv; simp only [hat,hea,hat,hea]; cbv; simp only [hat,hea,hat,hea]; cbv) ?_ ?_
    · first | exact trivial | (simp only [Cd.ok, ee]; and_intros <;> first | omega | rfl | (simp <;> omega))
    refine go rfl hX 5 (by conv => lhs; cbv; simp only [hat,hea,hat,hea]; cbv; simp only [hat,hea,hat,hea]; cbv) ?_ ?_
    · first | exact trivial | (simp only [Cd.ok, ee]; and_intros <;> first | omega | rfl | (simp <;> omega))
    exact fn_ret rfl rfl (.val rfl)
end Go.Am
end
section
set_option linter.unusedVariables false
set_option linter.unusedSimpArgs false
set_option maxRecDepth 20000
namespace Go.Am
open Go.Proofs Go.ChangeShapes Go.WideShapes Go.ChangeAt Go.RowKit

theorem cells53 : Try.prog.cellsOf 53 = 3 := by kernel_rfl
theorem cells47 : Try.prog.cellsOf 47 = 2 := by kernel_rfl
theorem cells81 : Try.prog.cellsOf 81 = 4 := by kernel_rfl
theorem bytes53 : Try.prog.bytesOf 53 = 40 := by kernel_rfl
theorem bytes47 : Try.prog.bytesOf 47 = 32 := by kernel_rfl
theorem bytes81 : Try.prog.bytesOf 81 = 32 := by kernel_rfl
theorem agg81 : aggT EE.P 81 = true := by kernel_rfl
theorem agg53 : aggT EE.P 53 = true := by kernel_rfl
theorem agg47 : aggT EE.P 47 = true := by kernel_rfl
theorem agg25 : aggT EE.P 25 = true := by kernel_rfl

theorem rdBnd {n : Nat} {x : AV} (h : El EE.P (Cl EE.P n) 81 x) : ∃ b : Bnd, x = b.enc ∧ True := by
  obtain ⟨cs, rfl, g⟩ := h.agg agg81
  obtain ⟨m, a, b, rfl, ha, a2, b2, rfl, hb, rfl⟩ := g.struct Try.underlying81
  obtain ⟨i, rfl, _⟩ := ha.int Try.underlying3
  obtain ⟨m, c1, r, rfl, h1, c2, r, rfl, h2, c3, r, rfl, h3, rfl⟩ := hb.struct Try.underlying79
  obtain ⟨i1, rfl, _⟩ := h1.int Try.underlying3
  obtain ⟨i2, rfl, _⟩ := h2.int Try.underlying3
  obtain ⟨i3, rfl, _⟩ := h3.int Try.underlying3
  exact ⟨⟨i, i1, i2, i3⟩, rfl, trivial⟩

theorem short_of {α : Type} {e : α → AV} {l : List α} {k : Nat} (h : (mapE e l).length * (k + 1) ≤ reachBytes) : Short l := by
  rw [mapE_len] at h
  exact Nat.lt_of_le_of_lt (Nat.le_trans (Nat.le_mul_of_pos_right _ (Nat.succ_pos k)) h) (by decide)

theorem rdChg {n : Nat} {x : AV} (h : El EE.P (Cl EE.P n) 53 x) : ∃ c : Chg, x = c.enc ∧ Short c.bs := by
  obtain ⟨cs, rfl, g⟩ := h.agg agg53
  obtain ⟨m, a, r, rfl, ha, b, r, rfl, hb, c, r, rfl, hc, rfl⟩ := g.struct Try.underlying53
  obtain ⟨i, rfl, _⟩ := ha.int Try.underlying3
  obtain ⟨j, rfl, _⟩ := hb.int Try.underlying3
  obtain ⟨m, d, r, rfl, hd, rfl⟩ := hc.struct Try.underlying51
  obtain ⟨m, es, rfl, hl, he⟩ := hd.slice Try.underlying49
  obtain ⟨l, rfl, _⟩ := list_enc fun x hx => rdBnd (he x hx)
  refine ⟨⟨i, j, l⟩, ?_, short_of (k := 31) (bytes81 ▸ hl)⟩
  rw [cells81]; rfl

theorem rdChgs {n : Nat} {cs : List AV} (h : Cl EE.P n 22 cs) : ∃ l : List Chg, cs = [.isl 3 (mapE Chg.enc l)] ∧ Fine l := by
  obtain ⟨m, es, rfl, hl, he⟩ := h.slice Try.underlying22
  obtain ⟨l, rfl, h2⟩ := list_enc fun x hx => rdChg (he x hx)
  exact ⟨l, by rw [cells53], short_of (k := 39) (bytes53 ▸ hl), h2⟩

theorem rdBat {n : Nat} {x : AV} (h : El EE.P (Cl EE.P n) 47 x) : ∃ b : Bat, x = b.enc ∧ Fine b.cs := by
  obtain ⟨cs, rfl, g⟩ := h.agg agg47
  obtain ⟨m, a, r, rfl, ha, b, r, rfl, hb, rfl⟩ := g.struct Try.underlying47
  obtain ⟨i, rfl, _⟩ := ha.int Try.underlying3
  obtain ⟨l, rfl, hl⟩ := rdChgs hb
  exact ⟨⟨i, l⟩, rfl, hl⟩

theorem rdSnk {n : Nat} {x : AV} (h : El EE.P (Cl EE.P n) 25 x) : ∃ s : Snk, x = s.enc ∧ s.Fine := by
  obtain ⟨cs, rfl, g⟩ := h.agg agg25
  obtain ⟨m, a, r, rfl, ha, b, r, rfl, hb, c, r, rfl, hc, rfl⟩ := g.struct Try.underlying25
  obtain ⟨i, rfl, _⟩ := ha.int Try.underlying3
  obtain ⟨l, rfl, hl⟩ := rdChgs hb
  obtain ⟨m, es, rfl, hel, he⟩ := hc.slice Try.underlying23
  obtain ⟨p, rfl, h2⟩ := list_enc fun x hx => rdBat (he x hx)
  exact ⟨⟨i, l, p⟩, by rw [cells47]; rfl, hl, short_of (k := 31) (bytes47 ▸ hel), h2⟩

theorem rdInt {n : Nat} {x : AV} (h : El EE.P (Cl EE.P n) 3 x) : ∃ i, x = int i := by
  obtain ⟨i, h, _⟩ := (h.one (by kernel_rfl)).int Try.underlying3
  exact ⟨i, by simpa using h⟩
theorem rdChgsA {n : Nat} {x : AV} (h : El EE.P (Cl EE.P n) 22 x) : ∃ l : List Chg, x = .isl 3 (mapE Chg.enc l) ∧ Fine l := by
  obtain ⟨l, h, hl⟩ := rdChgs (h.one (by kernel_rfl))
  exact ⟨l, by simpa using h, hl⟩

theorem Try.own : ownKnob Try.prog.godebug = none := by kernel_rfl
theorem Try.kids : Kids EE.P (· < EE.P.types.size) := kids_rows (by kernel_rfl) (by kernel_rfl)
theorem Try.full : ∀ t e, t < EE.P.types.size → EE.P.underlying t = some (.slice e) → 0 < EE.P.cellsOf e := slices_full_of EE.P (by kernel_rfl)
end Go.Am
end
section
set_option linter.unusedVariables false
set_option linter.unusedSimpArgs false
set_option maxRecDepth 20000
namespace Go.Am
open Go.Proofs

theorem pend_fine {s : Snk} (hf : s.Fine) (hc : countF s < 500000000000) : Fine (pendF s.pend) := by
  refine ⟨?_, fun c hc => ?_⟩
  · unfold Short; rw [pendF_len]; unfold countF at hc; omega
  · have : ∀ l : List Bat, (∀ b ∈ l, Go.Am.Fine b.cs) → ∀ c ∈ pendF l, Short c.bs := by
      intro l
      induction l with
      | nil => intro _ c hc; simp [pendF] at hc
      | cons b l ih =>
        intro h c hc
        simp only [pendF, List.mem_append] at hc
        rcases hc with hc | hc
        · exact (h b (by simp)).2 c hc
        · exact ih (fun b hb => h b (by simp [hb])) c hc
    exact this s.pend hf.bats c hc

theorem wk_nils (M : Nat) : Wk M (.agg [int 0, .val (.slice none 0 0), .val (.slice none 0 0)]) (.agg [int 0, .isl 3 [], .isl 2 []]) := by
  refine .agg _ _ rfl fun i c c' h h' => ?_
  match i, h, h' with
  | 0, h, h' => simp at h h'; subst h; subst h'; exact .refl _
  | 1, h, h' => simp at h h'; subst h; subst h'; exact .nilI _
  | 2, h, h' => simp at h h'; subst h; subst h'; exact .nilI _

theorem P14t (xs ys : List Chg) (hx : Fine xs) (h : xs = ys) : PCall EE 14 [.isl 3 (mapE Chg.enc xs), .isl 3 (mapE Chg.enc ys)] (.val (.bool true)) := by
  have := P14 xs ys hx
  rwa [decide_eq_true h] at this

set_option maxHeartbeats 1000000 in
theorem P3 (s : Snk) (hf : s.Fine) : PCall EE 3 [s.enc] (.val (.bool true)) := by
  have P10c := P10 s hf
  have hfew := fun h => few_count (s := s) h
  have P11c := P11
  have P12c := fun (h : fewS s = true) => P12 s hf (by have := hfew h; omega)
  have P13c := fun (h : fewS s = true) => P13 s hf (by have := hfew h; omega)
  have P15c := fun (h : fewS s = true) => P15 s hf (hfew h)
  have P16c := fun (h : fewS s = true) => P16 s hf.pend (by have := hfew h; unfold countF at this; omega)
  have P17c := fun (h : fewS s = true) => P17 s hf (hfew h)
  have P18c := fun (h : fewS s = true) => P18 s hf.pend (hfew h)
  have P14a := fun (h : fewS s = true) => P14t (pendF s.pend) (pendF s.pend) (pend_fine hf (hfew h)) rfl
  have P14b := fun (h : fewS s = true) => P14t (s.com ++ pendF s.pend) (s.com ++ pendF s.pend) ⟨by have := hfew h; unfold Short; rw [List.length_append, pendF_len]; unfold countF at this; omega, fun c hc => by
    rcases List.mem_append.1 hc with hc | hc
    · exact hf.com.2 c hc
    · exact (pend_fine hf (hfew h)).2 c hc⟩ rfl
  have P20c := P20
  have P19c := P19 Snk0 Snk0 fine0
  rw [decide_eq_true rfl] at P19c
  have hcl := Snk.closed s
  have hcp := closedC (pendF s.pend)
  have hca := closedC (s.com ++ pendF s.pend)
  generalize fewS s = fs at P10c P12c P13c P15c P16c P17c P18c P14a P14b
  generalize checkF s = ck at P12c P13c
  have hse : s.enc = .agg [int s.epoch, .isl 3 (mapE Chg.enc s.com), .isl 2 (mapE Bat.enc s.pend)] := rfl
  have hze : Snk0.enc = .agg [int 0, .isl 3 [], .isl 2 []] := by simp [Snk0, Snk.enc, mapE_eq]
  rw [hse] at P10c P12c P13c P15c P16c P17c P18c hcl ⊢
  rw [hze] at P20c P19c
  clear hse hze hfew hf
  generalize mapE Chg.enc s.com = ec at *
  generalize mapE Bat.enc s.pend = ep at *
  generalize mapE Chg.enc (s.com ++ pendF s.pend) = ea at *
  generalize mapE Chg.enc (pendF s.pend) = eq at *
  generalize s.epoch = se at *
  clear s
  refine words fun iLt iLe iEq iNe iAdd iSub iMul iQuo iRem iShr iNeg iCvt iMax iMin bNot bEq bNe bAnd bOr sEq sNe sLen sCat sCut sAt lenA lenN iOf natOf atA atN cutA partA dropA catA setA repA putA idxN addN subN minN lenCut hX e_iLt e_iLe e_iEq e_iNe e_iAdd e_iSub e_iMul e_iQuo e_iRem e_iShr e_iNeg e_iCvt e_iMax e_iMin e_bNot e_bEq e_bNe e_bAnd e_bOr e_sEq e_sNe e_sLen e_sCat e_sCut e_sAt e_lenA e_lenN e_iOf e_natOf e_atA e_atN e_cutA e_partA e_dropA e_catA e_setA e_repA e_putA e_idxN e_addN e_subN e_minN e_lenCut ee => ?_
  refine fn_body (fn := Try.f3) (n := 34) (ac := Tryc3) (rvs := [.t 2]) rfl (by decide) Tryp3 rfl rfl rfl ?_
  refine go rfl hX 0 (by conv => lhs; cbv) ?_ ?_
  · first | exact trivial | (simp only [Cd.ok, ee]; and_intros <;> first | omega | rfl | (simp <;> omega))
  refine on_pcall rfl rfl rfl P10c (closed1 hcl) ?_
  have hnt : bNot true = false := by simp [ee]
  have hnf : bNot false = true := by simp [ee]
  have hek : iEq ck ck = true := by simp [ee]
  cases fs with
  | false =>
    refine go rfl hX 0 (by conv => lhs; cbv; simp only [hnf,hnf]; cbv; simp only [hnf,hnf]; cbv) ?_ ?_
    · first | exact trivial | (simp only [Cd.ok, ee]; and_intros <;> first | omega | rfl | (simp <;> omega))
    refine go rfl hX 1 (by conv => lhs; cbv; simp only [hnf,hnf]; cbv; simp only [hnf,hnf]; cbv) ?_ ?_
    · first | exact trivial | (simp only [Cd.ok, ee]; and_intros <;> first | omega | rfl | (simp <;> omega))
    refine on_pcall rfl rfl rfl P11c rfl ?_
    refine go rfl hX 0 (by conv => lhs; cbv) ?_ ?_
    · first | exact trivial | (simp only [Cd.ok, ee]; and_intros <;> first | omega | rfl | (simp <;> omega))
    exact fn_ret rfl rfl (.val rfl)
  | true =>
    have P12c := P12c rfl
    have P13c := P13c rfl
    have P14a := P14a rfl
    have P14b := P14b rfl
    have P15c := P15c rfl
    have P16c := P16c rfl
    have P17c := P17c rfl
    have P18c := P18c rfl
    refine go rfl hX 0 (by conv => lhs; cbv; simp only [hnt,hnt]; cbv; simp only [hnt,hnt]; cbv) ?_ ?_
    · first | exact trivial | (simp only [Cd.ok, ee]; and_intros <;> first | omega | rfl | (simp <;> omega))
    refine go rfl hX 1 (by conv => lhs; cbv; simp only [hnt,hnt]; cbv; simp only [hnt,hnt]; cbv) ?_ ?_
    · first | exact trivial | (simp only [Cd.ok, ee]; and_intros <;> first | omega | rfl | (simp <;> omega))
    refine tr_drawB rfl (by conv => lhs; cbv) rfl ?_
    refine tr_pcall rfl rfl rfl P11c rfl ?_
    refine tr_go hX (by conv => lhs; cbv) ?_ ?_
    · first | exact trivial | (simp only [Cd.ok, ee]; and_intros <;> first | omega | rfl | (simp <;> omega))
    refine tr_ung rfl ?_
    refine tr_go hX (by conv => lhs; cbv) ?_ ?_
    · first | exact trivial | (simp only [Cd.ok, ee]; and_intros <;> first | omega | rfl | (simp <;> omega))
    refine tr_ung rfl ?_
    refine tr_pcall rfl rfl rfl P12c (closed1 hcl) ?_
    refine tr_ung rfl ?_
    refine tr_go hX (by conv => lhs; cbv) ?_ ?_
    · first | exact trivial | (simp only [Cd.ok, ee]; and_intros <;> first | omega | rfl | (simp <;> omega))
    refine tr_ung rfl ?_
    refine tr_pcall rfl rfl rfl P13c (closed1 hcl) ?_
    refine tr_ung rfl ?_
    refine tr_go hX (by conv => lhs; cbv; simp only [hek,hek]; cbv; simp only [hek,hek]; cbv) ?_ ?_
    · first | exact trivial | (simp only [Cd.ok, ee]; and_intros <;> first | omega | rfl | (simp <;> omega))
    refine tr_ung rfl ?_
    refine tr_go hX (by conv => lhs; cbv) ?_ ?_
    · first | exact trivial | (simp only [Cd.ok, ee]; and_intros <;> first | omega | rfl | (simp <;> omega))
    refine tr_ung rfl ?_
    refine tr_pcall rfl rfl rfl P15c (closed1 hcl) ?_
    refine tr_ung rfl ?_
    refine tr_go hX (by conv => lhs; cbv) ?_ ?_
    · first | exact trivial | (simp only [Cd.ok, ee]; and_intros <;> first | omega | rfl | (simp <;> omega))
    refine tr_ung rfl ?_
    refine tr_pcall rfl rfl rfl P16c (closed1 hcl) ?_
    refine tr_ung rfl ?_
    refine tr_pcall rfl rfl rfl P14a (closed2 hcp hcp) ?_
    refine tr_go hX (by conv => lhs; cbv) ?_ ?_
    · first | exact trivial | (simp only [Cd.ok, ee]; and_intros <;> first | omega | rfl | (simp <;> omega))
    refine tr_ung rfl ?_
    refine tr_go hX (by conv => lhs; cbv) ?_ ?_
    · first | exact trivial | (simp only [Cd.ok, ee]; and_intros <;> first | omega | rfl | (simp <;> omega))
    refine tr_ung rfl ?_
    refine tr_pcall rfl rfl rfl P17c (closed1 hcl) ?_
    refine tr_ung rfl ?_
    refine tr_go hX (by conv => lhs; cbv) ?_ ?_
    · first | exact trivial | (simp only [Cd.ok, ee]; and_intros <;> first | omega | rfl | (simp <;> omega))
    refine tr_ung rfl ?_
    refine tr_pcall rfl rfl rfl P18c (closed1 hcl) ?_
    refine tr_ung rfl ?_
    refine tr_pcall rfl rfl rfl P14b (closed2 hca hca) ?_
    refine tr_go hX (by conv => lhs; cbv) ?_ ?_
    · first | exact trivial | (simp only [Cd.ok, ee]; and_intros <;> first | omega | rfl | (simp <;> omega))
    refine tr_ung rfl ?_
    refine tr_pcall rfl rfl rfl P20c (rfl) ?_
    refine tr_ung rfl ?_
    refine tr_go hX (by conv => lhs; cbv) ?_ ?_
    · first | exact trivial | (simp only [Cd.ok, ee]; and_intros <;> first | omega | rfl | (simp <;> omega))
    refine tr_ung rfl ?_
    refine tr_pcall (args := [.agg [int 0, .isl 3 [], .isl 2 []], .agg [int 0, .val (.slice none 0 0), .val (.slice none 0 0)]]) rfl rfl rfl (P19c.weak ⟨.refl _, wk_nils _, trivial⟩) rfl ?_
    refine tr_go hX (by conv => lhs; cbv) ?_ ?_
    · first | exact trivial | (simp only [Cd.ok, ee]; and_intros <;> first | omega | rfl | (simp <;> omega))
    refine tr_nil ⟨rfl, ?_, ?_⟩
    · simp only [LooksL, lookAll, List.append, List.cons_append, List.nil_append, List.append_nil]; and_intros <;> first | trivial | (intro hp; first | rfl | exact absurd (show false = true from hp) Bool.false_ne_true)
    refine go rfl hX 1 (by conv => lhs; cbv) ?_ ?_
    · first | exact trivial | (simp only [Cd.ok, ee]; and_intros <;> first | omega | rfl | (simp <;> omega))
    exact fn_ret rfl rfl (.val rfl)
end Go.Am
end
section
set_option linter.unusedVariables false
set_option linter.unusedSimpArgs false
set_option maxRecDepth 20000
namespace Go.Am
open Go.Proofs

/-- the batches of a well-formed sink -/
def Good (se : Int) (l : List Bat) : Prop :=
  (∀ b ∈ l, se < b.epoch ∧ b.epoch ≤ 1099511627776 ∧ b.cs ≠ [] ∧ changesF b.cs = 0) ∧ l.Pairwise fun a b => a.epoch < b.epoch

theorem changes_all : ∀ (l : List Chg), changesF l = 0 ↔ ∀ c ∈ l, changeF c = 0
  | [] => by simp [changesF]
  | c :: l => by
    rw [changesF]
    by_cases h : changeF c = 0
    · rw [if_neg (by simpa using h), changes_all l]; simp [h]
    · rw [if_pos h]; simp [h]

theorem bats_good (se : Int) : ∀ (l : List Bat) (p : Option Int), batsF se p l = 0 ↔ Good se l ∧ ∀ q, p = some q → ∀ b ∈ l, q < b.epoch
  | [], p => by simp [batsF, Good]
  | b :: l, p => by
    rw [batsF]
    have hb : batchF se p b = 0 ↔ (se < b.epoch ∧ b.epoch ≤ 1099511627776 ∧ b.cs ≠ [] ∧ changesF b.cs = 0) ∧ ∀ q, p = some q → q < b.epoch := by
      unfold batchF
      split
      · simp; omega
      rename_i h1
      split
      · rename_i h2
        obtain ⟨q, hq, h3⟩ : ∃ q, p = some q ∧ b.epoch ≤ q := by
          cases p with
          | none => simp at h2
          | some q => exact ⟨q, rfl, by simpa using h2⟩
        simp only [false_iff, not_and, Int.reduceEq]
        intro _ h
        have := h q hq; omega
      rename_i h2
      split
      · rename_i h3; simp [h3]
      rename_i h3
      have hp : ∀ q, p = some q → q < b.epoch := by
        intro q hq; subst hq; simp at h2; omega
      constructor
      · intro h; exact ⟨⟨by omega, by omega, h3, h⟩, hp⟩
      · intro h; exact h.1.2.2.2
    by_cases h : batchF se p b = 0
    · rw [if_neg (by simpa using h), bats_good se l (some b.epoch)]
      rw [hb] at h
      unfold Good
      simp only [List.mem_cons, forall_eq_or_imp, List.pairwise_cons, Option.some.injEq]
      constructor
      · rintro ⟨⟨g1, g2⟩, g3⟩
        exact ⟨⟨⟨h.1, g1⟩, g3 _ rfl, g2⟩, fun q hq => ⟨h.2 q hq, fun c hc => by have := h.2 q hq; have := g3 _ rfl c hc; omega⟩⟩
      · rintro ⟨⟨⟨_, g1⟩, g3, g2⟩, g4⟩
        exact ⟨⟨g1, g2⟩, by rintro q rfl; exact g3⟩
    · rw [if_pos h]
      constructor
      · intro h'; exact absurd h' h
      · rintro ⟨⟨g1, g2⟩, g3⟩
        exact absurd (hb.2 ⟨g1 b (by simp), fun q hq => g3 q hq b (by simp)⟩) h

/-- What a well-formed sink is. -/
theorem check_iff (s : Snk) : checkF s = 0 ↔ (0 ≤ s.epoch ∧ s.epoch ≤ 1099511627776) ∧ s.pend.length ≤ 256 ∧ (∀ c ∈ s.com, changeF c = 0) ∧ Good s.epoch s.pend ∧ countF s ≤ 4096 := by
  have hg := bats_good s.epoch s.pend none
  simp only [reduceCtorEq, false_implies, implies_true, and_true] at hg
  rw [← hg, ← changes_all]
  unfold checkF
  split
  · simp; omega
  split
  · simp; omega
  split
  · rename_i h; simp [h]
  split
  · rename_i h; simp [h]
  split
  · rename_i h; simp; omega
  · rename_i h1 h2 h3 h4 h5
    simp at h3 h4
    simp [h3, h4]; omega

theorem good_filter {se : Int} {l : List Bat} (h : Good se l) (p : Bat → Bool) : Good se (l.filter p) :=
  ⟨fun b hb => h.1 b (List.mem_filter.1 hb).1, h.2.filter p⟩

theorem sumL_parts (e : Int) : ∀ l : List Bat, sumL (upto e l) + sumL (beyond e l) = sumL l
  | [] => by simp [upto, beyond, sumL]
  | b :: l => by
    have := sumL_parts e l
    unfold upto beyond at *
    by_cases h : b.epoch ≤ e
    · simp [h, sumL]; omega
    · simp [h, sumL]; omega

theorem pend_change {l : List Bat} (h : ∀ b ∈ l, changesF b.cs = 0) : ∀ c ∈ pendF l, changeF c = 0 := by
  induction l with
  | nil => intro c hc; simp [pendF] at hc
  | cons b l ih =>
    intro c hc
    simp only [pendF, List.mem_append] at hc
    rcases hc with hc | hc
    · exact (changes_all _).1 (h b (by simp)) c hc
    · exact ih (fun b hb => h b (by simp [hb])) c hc

theorem commit_cases {s : Snk} (hs : checkF s = 0) (e : Int) : ((commitF s e).2 = 29 ∧ (e < 0 ∨ 1099511627776 < e)) ∨ ((commitF s e).2 = 0 ∧ 0 ≤ e ∧ e ≤ 1099511627776 ∧ checkF (commitF s e).1 = 0 ∧ (commitF s e).1.epoch = max s.epoch e ∧
    (commitF s e).1.com = s.com ++ pendF (upto e s.pend) ∧ (commitF s e).1.pend = beyond e s.pend) := by
  have h := (check_iff s).1 hs
  unfold commitF
  rw [if_neg (by simp [hs])]
  split
  · left; exact ⟨rfl, by assumption⟩
  rename_i h1
  right
  have hnone : e < s.epoch → upto e s.pend = [] ∧ beyond e s.pend = s.pend := by
    intro he
    have : ∀ b ∈ s.pend, e < b.epoch := fun b hb => by have := (h.2.2.2.1.1 b hb).1; omega
    unfold upto beyond
    refine ⟨List.filter_eq_nil_iff.2 fun b hb => by have := this b hb; simp; omega, List.filter_eq_self.2 fun b hb => by have := this b hb; simp; omega⟩
  split
  · rename_i h2
    refine ⟨rfl, by omega, by omega, hs, by simp; omega, ?_, ?_⟩
    · rw [(hnone h2).1]; simp [pendF]
    · rw [(hnone h2).2]
  · rename_i h2
    refine ⟨rfl, by omega, by omega, ?_, by simp; omega, rfl, rfl⟩
    rw [check_iff]
    refine ⟨⟨by dsimp only; omega, by dsimp only; omega⟩, ?_, ?_, ⟨?_, ?_⟩, ?_⟩
    · have := List.length_filter_le (fun b => !decide (b.epoch ≤ e)) s.pend
      unfold beyond; dsimp only; omega
    · intro c hc
      rcases List.mem_append.1 hc with hc | hc
      · exact h.2.2.1 c hc
      · exact pend_change (fun b hb => (h.2.2.2.1.1 b (List.mem_filter.1 hb).1).2.2.2) c hc
    · intro b hb
      have h3 := h.2.2.2.1.1 b (List.mem_filter.1 hb).1
      have h4 := (List.mem_filter.1 hb).2
      simp at h4
      exact ⟨by omega, h3.2⟩
    · exact h.2.2.2.1.2.filter _
    · have := h.2.2.2.2
      have h3 := sumL_parts e s.pend
      unfold countF at *
      simp only [List.length_append, pendF_len]
      omega

theorem snk_ext {x y : Snk} (a : x.epoch = y.epoch) (b : x.com = y.com) (c : x.pend = y.pend) : x = y := by
  cases x; cases y; simp_all

theorem commit_twice {s : Snk} (hs : checkF s = 0) {e : Int} (he : (commitF s e).2 = 0) : commitF (commitF s e).1 e = commitF s e := by
  rcases commit_cases hs e with ⟨h, _⟩ | ⟨h1, h2, h3, h4, h5, h6, h7⟩
  · omega
  rcases commit_cases h4 e with ⟨_, h⟩ | ⟨k1, _, _, _, k5, k6, k7⟩
  · omega
  have hu : upto e (beyond e s.pend) = [] := by
    unfold upto beyond
    rw [List.filter_filter]
    exact List.filter_eq_nil_iff.2 fun b _ => by simp
  have hb : beyond e (beyond e s.pend) = beyond e s.pend := by
    unfold beyond
    rw [List.filter_filter]
    congr 1; funext b; simp
  rw [h7, hu] at k6
  rw [h7, hb] at k7
  simp only [pendF, List.append_nil] at k6
  obtain ⟨a1, a2, a3, _⟩ : (commitF (commitF s e).1 e).1.epoch = (commitF s e).1.epoch ∧ (commitF (commitF s e).1 e).1.com = (commitF s e).1.com ∧ (commitF (commitF s e).1 e).1.pend = (commitF s e).1.pend ∧ True := by
    exact ⟨by rw [k5, h5]; omega, k6, by rw [k7, h7], trivial⟩
  have e1 : (commitF (commitF s e).1 e).1 = (commitF s e).1 := by
    exact snk_ext a1 a2 a3
  exact Prod.ext e1 (by rw [k1, h1])
end Go.Am
end
section
set_option linter.unusedVariables false
set_option linter.unusedSimpArgs false
set_option maxRecDepth 20000
namespace Go.Am
open Go.Proofs

theorem begins_app (a b : List Chg) : beginsF (a ++ b) a = true := by simp [beginsF]

theorem add_cases {a : Snk} (ha : checkF a = 0) (e : Int) (cs : List Chg) (h : (addF a e cs).2 = 0) : (addF a e cs).1.com = a.com ∧ a.epoch < e := by
  revert h
  unfold addF
  rw [if_neg (by simp [ha])]
  split
  · simp
  rename_i h1
  split
  · intro h; exact absurd h (by assumption)
  split
  · intro _; exact ⟨rfl, by omega⟩
  split
  · simp
  split
  · simp
  · intro _; exact ⟨rfl, by omega⟩

theorem abort_cases {a : Snk} (ha : checkF a = 0) (e : Int) : ((abortF a e).2 = 29 ∧ (e < a.epoch ∨ 1099511627776 < e)) ∨ ((abortF a e).2 = 0 ∧ (abortF a e).1 = ⟨a.epoch, a.com, upto e a.pend⟩ ∧ a.epoch ≤ e ∧ e ≤ 1099511627776) := by
  unfold abortF
  rw [if_neg (by simp [ha])]
  split
  · left; exact ⟨rfl, by assumption⟩
  · right; exact ⟨rfl, rfl, by omega, by omega⟩

theorem check_count {s : Snk} (h : checkF s = 0) : countF s < 500000000000 := by
  have := ((check_iff s).1 h).2.2.2.2; omega

theorem good_split {se : Int} (e : Int) : ∀ {l : List Bat}, Good se l → upto e l ++ beyond e l = l
  | [], _ => rfl
  | b :: l, h => by
    have hl : Good se l := ⟨fun x hx => h.1 x (by simp [hx]), (List.pairwise_cons.1 h.2).2⟩
    have ih := good_split e hl
    unfold upto beyond at *
    by_cases hb : b.epoch ≤ e
    · simp only [List.filter_cons, hb, decide_true, if_true, Bool.not_true, Bool.false_eq_true, if_false, List.cons_append, ih]
    · have hr : ∀ x ∈ l, ¬ x.epoch ≤ e := fun x hx => by have := (List.pairwise_cons.1 h.2).1 x hx; omega
      have h1 : l.filter (fun b => decide (b.epoch ≤ e)) = [] := List.filter_eq_nil_iff.2 fun x hx => by simpa using hr x hx
      have h2 : l.filter (fun b => !decide (b.epoch ≤ e)) = l := List.filter_eq_self.2 fun x hx => by simpa using hr x hx
      simp only [List.filter_cons, hb, decide_false, Bool.false_eq_true, if_false, Bool.not_false, if_true, h1, h2, List.nil_append]

theorem with_last (e : Int) (cs : List Chg) : ∀ (l : List Bat), (∀ b ∈ l, b.epoch < e) → withF e cs false l = l ++ [⟨e, cs⟩]
  | [], _ => by simp [withF]
  | b :: l, h => by
    have h1 := h b (by simp)
    have ih := with_last e cs l fun x hx => h x (by simp [hx])
    rw [withF]
    have a1 : decide (e < b.epoch) = false := by simp; omega
    have a2 : ¬ b.epoch = e := by omega
    simp [a1, a2, ih]

theorem good_prefix {se : Int} {a b : List Bat} (h : Good se (a ++ b)) : Good se a :=
  ⟨fun x hx => h.1 x (by simp [hx]), (List.pairwise_append.1 h.2).1⟩

theorem add_last {s : Snk} (hs : checkF s = 0) {l r : List Bat} {b : Bat} (hp : s.pend = l ++ b :: r) : addF ⟨s.epoch, s.com, l⟩ b.epoch b.cs = (⟨s.epoch, s.com, l ++ [b]⟩, 0) ∧ checkF ⟨s.epoch, s.com, l⟩ = 0 := by
  have h := (check_iff s).1 hs
  have hg := h.2.2.2.1
  rw [hp] at hg
  have hb := hg.1 b (by simp)
  have hlt : ∀ x ∈ l, x.epoch < b.epoch := fun x hx => (List.pairwise_append.1 hg.2).2.2 x hx b (by simp)
  have hlen : l.length + 1 ≤ 256 := by have := h.2.1; rw [hp] at this; simp at this; omega
  have hcnt : s.com.length + sumL l + b.cs.length ≤ 4096 := by
    have := h.2.2.2.2
    unfold countF at this
    rw [hp, sumL_append] at this
    simp only [sumL] at this; omega
  have hc : checkF ⟨s.epoch, s.com, l⟩ = 0 := (check_iff _).2 ⟨h.1, by dsimp only; omega, h.2.2.1, good_prefix hg, by unfold countF; dsimp only; omega⟩
  refine ⟨?_, hc⟩
  unfold addF
  rw [if_neg (by simp [hc]), if_neg (by dsimp only; omega), if_neg (by simp [hb.2.2.2]), if_neg hb.2.2.1]
  dsimp only
  rw [with_last _ _ _ hlt]
  rw [if_neg (by simp; omega), if_neg (by unfold countF; simp only [sumL_append, sumL]; omega)]
end Go.Am
end
section
set_option linter.unusedVariables false
set_option linter.unusedSimpArgs false
set_option maxRecDepth 20000
namespace Go.Am
open Go.Proofs

/-- the changes of one epoch, in order -/
def pickF (n : Int) (l : List (Int × Chg)) : List Chg := (l.filter fun p => decide (p.1 = n)).map (·.2)
def bat1 (n : Int) (l : List (Int × Chg)) : List Bat := if pickF n l = [] then [] else [⟨1 + n, pickF n l⟩]
def batsL (l : List (Int × Chg)) : List Bat := bat1 0 l ++ (bat1 1 l ++ (bat1 2 l ++ (bat1 3 l ++ bat1 4 l)))
def wantF (l : List (Int × Chg)) : List Chg := pickF 0 l ++ (pickF 1 l ++ (pickF 2 l ++ (pickF 3 l ++ pickF 4 l)))

theorem pick_snoc (n k : Int) (c : Chg) (l : List (Int × Chg)) : pickF n (l ++ [(k, c)]) = pickF n l ++ (if k = n then [c] else []) := by
  unfold pickF
  by_cases h : k = n <;> simp [List.filter_append, h]
theorem bat1_mem {n : Int} {l : List (Int × Chg)} {b : Bat} (h : b ∈ bat1 n l) : b.epoch = 1 + n ∧ b.cs = pickF n l ∧ b.cs ≠ [] := by
  unfold bat1 at h
  split at h
  · cases h
  · rename_i h1; simp at h; subst h; exact ⟨rfl, rfl, h1⟩
theorem bat1_same {n k : Int} (c : Chg) (l : List (Int × Chg)) (h : k ≠ n) : bat1 n (l ++ [(k, c)]) = bat1 n l := by
  unfold bat1; rw [pick_snoc, if_neg h, List.append_nil]
theorem bat1_more (n : Int) (c : Chg) (l : List (Int × Chg)) : bat1 n (l ++ [(n, c)]) = [⟨1 + n, pickF n l ++ [c]⟩] := by
  unfold bat1; rw [pick_snoc, if_pos rfl, if_neg (by simp)]

theorem with_front (e : Int) (cs : List Chg) : ∀ (a b : List Bat), (∀ x ∈ a, x.epoch < e) → withF e cs false (a ++ b) = a ++ withF e cs false b
  | [], _, _ => rfl
  | x :: a, b, h => by
    have h1 := h x (by simp)
    rw [List.cons_append, withF]
    have a1 : decide (e < x.epoch) = false := by simp; omega
    have a2 : ¬ x.epoch = e := by omega
    simp [a1, a2, with_front e cs a b fun y hy => h y (by simp [hy])]
theorem with_done (e : Int) (cs : List Chg) : ∀ (b : List Bat), (∀ x ∈ b, e < x.epoch) → withF e cs true b = b
  | [], _ => by simp [withF]
  | x :: b, h => by
    have h1 := h x (by simp)
    rw [withF]
    have a2 : ¬ x.epoch = e := by omega
    simp [a2, with_done e cs b fun y hy => h y (by simp [hy])]
theorem with_before (e : Int) (cs : List Chg) (b : List Bat) (h : ∀ x ∈ b, e < x.epoch) : withF e cs false b = ⟨e, cs⟩ :: b := by
  cases b with
  | nil => simp [withF]
  | cons x b =>
    have h1 := h x (by simp)
    rw [withF]
    have a1 : decide (e < x.epoch) = true := by simp; omega
    have a2 : ¬ x.epoch = e := by omega
    simp [a1, a2, with_done e cs b fun y hy => h y (by simp [hy])]
theorem with_mid (n : Int) (c : Chg) (l : List (Int × Chg)) (b : List Bat) (h : ∀ x ∈ b, 1 + n < x.epoch) : withF (1 + n) [c] false (bat1 n l ++ b) = bat1 n (l ++ [(n, c)]) ++ b := by
  rw [bat1_more]
  unfold bat1
  split
  · rename_i h1
    rw [h1, List.nil_append, with_before _ _ _ h]; rfl
  · rw [List.singleton_append, withF]
    simp [with_done _ _ _ h]

theorem bats_add (k : Int) (c : Chg) (l : List (Int × Chg)) (hk : 0 ≤ k ∧ k < 5) : withF (1 + k) [c] false (batsL l) = batsL (l ++ [(k, c)]) := by
  have lt : ∀ (n m : Int) x, x ∈ bat1 n l → n < m → x.epoch < 1 + m := fun n m x hx h => by have := (bat1_mem hx).1; omega
  have gt : ∀ (n m : Int) x, x ∈ bat1 n l → m < n → 1 + m < x.epoch := fun n m x hx h => by have := (bat1_mem hx).1; omega
  unfold batsL
  have hc : k = 0 ∨ k = 1 ∨ k = 2 ∨ k = 3 ∨ k = 4 := by omega
  rcases hc with rfl | rfl | rfl | rfl | rfl
  · rw [with_mid]
    · rw [bat1_same (n := 1) c l (by decide), bat1_same (n := 2) c l (by decide), bat1_same (n := 3) c l (by decide), bat1_same (n := 4) c l (by decide)]
    · intro x hx
      simp only [List.mem_append] at hx
      rcases hx with hx | hx | hx | hx <;> exact gt _ _ _ hx (by decide)
  · rw [with_front _ _ _ _ (fun x hx => lt _ _ _ hx (by decide)), with_mid]
    · rw [bat1_same (n := 0) c l (by decide), bat1_same (n := 2) c l (by decide), bat1_same (n := 3) c l (by decide), bat1_same (n := 4) c l (by decide)]
    · intro x hx
      simp only [List.mem_append] at hx
      rcases hx with hx | hx | hx <;> exact gt _ _ _ hx (by decide)
  · rw [with_front _ _ _ _ (fun x hx => lt _ _ _ hx (by decide)), with_front _ _ _ _ (fun x hx => lt _ _ _ hx (by decide)), with_mid]
    · rw [bat1_same (n := 0) c l (by decide), bat1_same (n := 1) c l (by decide), bat1_same (n := 3) c l (by decide), bat1_same (n := 4) c l (by decide)]
    · intro x hx
      simp only [List.mem_append] at hx
      rcases hx with hx | hx <;> exact gt _ _ _ hx (by decide)
  · rw [with_front _ _ _ _ (fun x hx => lt _ _ _ hx (by decide)), with_front _ _ _ _ (fun x hx => lt _ _ _ hx (by decide)), with_front _ _ _ _ (fun x hx => lt _ _ _ hx (by decide)), with_mid]
    · rw [bat1_same (n := 0) c l (by decide), bat1_same (n := 1) c l (by decide), bat1_same (n := 2) c l (by decide), bat1_same (n := 4) c l (by decide)]
    · intro x hx; exact gt _ _ _ hx (by decide)
  · rw [with_front _ _ _ _ (fun x hx => lt _ _ _ hx (by decide)), with_front _ _ _ _ (fun x hx => lt _ _ _ hx (by decide)), with_front _ _ _ _ (fun x hx => lt _ _ _ hx (by decide)), with_front _ _ _ _ (fun x hx => lt _ _ _ hx (by decide))]
    have := with_mid 4 c l [] (by simp)
    rw [List.append_nil, List.append_nil] at this
    rw [this]
    rw [bat1_same (n := 0) c l (by decide), bat1_same (n := 1) c l (by decide), bat1_same (n := 2) c l (by decide), bat1_same (n := 3) c l (by decide)]

theorem pend_bat1 (n : Int) (l : List (Int × Chg)) : pendF (bat1 n l) = pickF n l := by
  unfold bat1
  split
  · rename_i h; rw [h]; rfl
  · simp [pendF]
theorem pend_bats (l : List (Int × Chg)) : pendF (batsL l) = wantF l := by
  unfold batsL wantF
  simp only [pendF_append, pend_bat1]

theorem pick_len (l : List (Int × Chg)) : (pickF 0 l).length + (pickF 1 l).length + (pickF 2 l).length + (pickF 3 l).length + (pickF 4 l).length ≤ l.length := by
  induction l with
  | nil => simp [pickF]
  | cons p l ih =>
    unfold pickF at *
    simp only [List.length_map, List.filter_cons] at *
    by_cases h0 : p.1 = 0
    · simp [h0]; omega
    by_cases h1 : p.1 = 1
    · simp [h1]; omega
    by_cases h2 : p.1 = 2
    · simp [h2]; omega
    by_cases h3 : p.1 = 3
    · simp [h3]; omega
    by_cases h4 : p.1 = 4
    · simp [h4]; omega
    · simp [h0, h1, h2, h3, h4]; omega
theorem want_len (l : List (Int × Chg)) : (wantF l).length ≤ l.length := by
  have := pick_len l
  unfold wantF; simp only [List.length_append]; omega
theorem pick_mem {n : Int} {l : List (Int × Chg)} {c : Chg} (h : c ∈ pickF n l) : ∃ p ∈ l, p.2 = c := by
  unfold pickF at h
  obtain ⟨p, hp, rfl⟩ := List.mem_map.1 h
  exact ⟨p, (List.mem_filter.1 hp).1, rfl⟩

/-- the sink of a list of changes with their epochs is well-formed -/
theorem bats_check {l : List (Int × Chg)} (hc : ∀ p ∈ l, changeF p.2 = 0) (hl : l.length ≤ 30) : checkF ⟨0, [], batsL l⟩ = 0 := by
  have hle : ∀ n : Int, (bat1 n l).length ≤ 1 := fun n => by unfold bat1; split <;> simp
  have hmem : ∀ b ∈ batsL l, ∃ n : Int, 0 ≤ n ∧ n ≤ 4 ∧ b ∈ bat1 n l := by
    intro b hb
    unfold batsL at hb
    simp only [List.mem_append] at hb
    rcases hb with h | h | h | h | h
    · exact ⟨0, by omega, by omega, h⟩
    · exact ⟨1, by omega, by omega, h⟩
    · exact ⟨2, by omega, by omega, h⟩
    · exact ⟨3, by omega, by omega, h⟩
    · exact ⟨4, by omega, by omega, h⟩
  have hpw : ∀ n : Int, (bat1 n l).Pairwise fun a b => a.epoch < b.epoch := fun n => by unfold bat1; split <;> simp
  refine (check_iff _).2 ⟨⟨by dsimp only; omega, by dsimp only; omega⟩, ?_, by simp, ⟨fun b hb => ?_, ?_⟩, ?_⟩
  · have h0 := hle 0
    have h1 := hle 1
    have h2 := hle 2
    have h3 := hle 3
    have h4 := hle 4
    unfold batsL; simp only [List.length_append]; omega
  · obtain ⟨n, h1, h2, h3⟩ := hmem b hb
    obtain ⟨g1, g2, g3⟩ := bat1_mem h3
    refine ⟨by dsimp only; omega, by omega, g3, (changes_all _).2 fun c hcc => ?_⟩
    rw [g2] at hcc
    obtain ⟨p, hp, rfl⟩ := pick_mem hcc
    exact hc p hp
  · have lt : ∀ (n m : Int), n < m → ∀ a ∈ bat1 n l, ∀ b ∈ bat1 m l, a.epoch < b.epoch := fun n m h a ha b hb => by
      have := (bat1_mem ha).1
      have := (bat1_mem hb).1
      omega
    unfold batsL
    dsimp only
    simp only [List.pairwise_append, hpw, List.mem_append, true_and]
    refine ⟨⟨⟨lt 3 4 (by decide), ?_⟩, ?_⟩, ?_⟩
    all_goals
      intro a ha b hb
      rcases hb with hb | hb
    · exact lt 2 3 (by decide) a ha b hb
    · exact lt 2 4 (by decide) a ha b hb
    · exact lt 1 2 (by decide) a ha b hb
    · rcases hb with hb | hb
      · exact lt 1 3 (by decide) a ha b hb
      · exact lt 1 4 (by decide) a ha b hb
    · exact lt 0 1 (by decide) a ha b hb
    · rcases hb with hb | hb | hb
      · exact lt 0 2 (by decide) a ha b hb
      · exact lt 0 3 (by decide) a ha b hb
      · exact lt 0 4 (by decide) a ha b hb
  · have h1 := want_len l
    rw [← pend_bats] at h1
    unfold countF
    rw [← pendF_len]; simp only [List.length_nil]; omega

theorem bats_fine {l : List (Int × Chg)} (hf : ∀ p ∈ l, Short p.2.bs) (hl : l.length ≤ 30) : Snk.Fine ⟨0, [], batsL l⟩ := by
  refine ⟨⟨by unfold Short; simp, by simp⟩, ?_, fun b hb => ?_⟩
  · have hle : ∀ n : Int, (bat1 n l).length ≤ 1 := fun n => by unfold bat1; split <;> simp
    have h0 := hle 0
    have h1 := hle 1
    have h2 := hle 2
    have h3 := hle 3
    have h4 := hle 4
    unfold Short batsL; simp only [List.length_append]; omega
  · have : ∃ n : Int, b ∈ bat1 n l := by
      unfold batsL at hb
      simp only [List.mem_append] at hb
      rcases hb with h | h | h | h | h <;> exact ⟨_, h⟩
    obtain ⟨n, h3⟩ := this
    obtain ⟨g1, g2, g3⟩ := bat1_mem h3
    rw [g2]
    refine ⟨?_, fun c hcc => ?_⟩
    · unfold Short pickF
      rw [List.length_map]
      have := List.length_filter_le (fun p => decide (p.1 = n)) l
      omega
    · obtain ⟨p, hp, rfl⟩ := pick_mem hcc
      exact hf p hp

/-- one more change -/
theorem bats_next {l : List (Int × Chg)} (hc : ∀ p ∈ l, changeF p.2 = 0) (hl : l.length < 30) (k : Int) (c : Chg) (hk : 0 ≤ k ∧ k < 5) :
    addF ⟨0, [], batsL l⟩ (1 + k) [c] = if changeF c ≠ 0 then (Snk0, changeF c) else (⟨0, [], batsL (l ++ [(k, c)])⟩, 0) := by
  have h0 := bats_check hc (by omega)
  unfold addF
  rw [if_neg (by simp [h0]), if_neg (by dsimp only; omega)]
  have h1 : changesF [c] = changeF c := by simp only [changesF]; split <;> simp_all
  rw [h1]
  split
  · rfl
  rename_i h2
  have hc' : ∀ p ∈ l ++ [(k, c)], changeF p.2 = 0 := by
    intro p hp
    rcases List.mem_append.1 hp with hp | hp
    · exact hc p hp
    · simp at hp; subst hp; exact Decidable.not_not.1 h2
  have h3 := (check_iff _).1 (bats_check hc' (by simp; omega))
  dsimp only at h3
  rw [if_neg (by simp)]
  dsimp only
  rw [bats_add k c l hk, if_neg (by have := h3.2.1; omega), if_neg (by have := h3.2.2.2.2; omega)]
theorem change_err (c : Chg) : changeF c = 0 ∨ (changeF c = 1 ∧ c.sign ≠ 1 ∧ c.sign ≠ -1) ∨ changeF c = 2 := by
  unfold changeF
  split
  · rename_i h; exact .inr (.inl ⟨rfl, h⟩)
  split
  · exact .inr (.inr rfl)
  · exact .inl rfl
def u8 (n : Int) : AV := .val (.int .u8 n)
theorem u8_closed (n : Int) : (u8 n).closed = true := rfl
def tm (z : List (Int × Chg)) : List (Int × Chg) := z.map fun p => (p.1.tmod 5, p.2)
theorem tm_snoc (d : List (Int × Chg)) (p : Int × Chg) : tm (d ++ [p]) = tm d ++ [(p.1.tmod 5, p.2)] := by simp [tm]
theorem tm_len (d : List (Int × Chg)) : (tm d).length = d.length := by simp [tm]
def wantN : Nat → List (Int × Chg) → List Chg
  | 0, _ => []
  | m + 1, l => wantN m l ++ pickF m l
theorem want5 (l : List (Int × Chg)) : wantN 5 l = wantF l := by simp [wantN, wantF]
theorem wantN_len (l : List (Int × Chg)) : ∀ m, m ≤ 5 → (wantN m l).length ≤ l.length := by
  intro m hm
  have h := want_len l
  rw [← want5] at h
  have : (wantN m l).length ≤ (wantN 5 l).length := by
    simp only [wantN, List.length_append, List.length_nil]
    match m, hm with
    | 0, _ => simp [wantN]
    | 1, _ => simp [wantN]; omega
    | 2, _ => simp [wantN]; omega
    | 3, _ => simp [wantN]; omega
    | 4, _ => simp [wantN]; omega
    | 5, _ => simp [wantN]; omega
  omega

end Go.Am
end
section
set_option linter.unusedVariables false
set_option linter.unusedSimpArgs false
set_option maxRecDepth 20000
namespace Go.Am
open Go.Proofs

set_option maxHeartbeats 4000000 in
theorem P8 (es : List Int) (cs : List Chg) (he8 : ∀ n ∈ es, 0 ≤ n ∧ n ≤ 255) (hes : Short es) (hfc : Fine cs) : PCall EE 8 [.isl 1 (mapE u8 es), .isl 3 (mapE Chg.enc cs)] (.val (.bool true)) := by
  have P11c := P11
  have P21c := P21 cs hfc.1
  have hml : ∀ l : List Chg, (mapE Chg.enc l).length = l.length := fun l => mapE_len _ _
  have hcc := closedC cs
  have hce : (AV.isl 1 (mapE u8 es)).closed = true := by simp [AV.closed, closed_mapE u8_closed]
  have hl1 : (mapE u8 es).length = es.length := mapE_len _ _
  have hl2 := hml cs
  rcases hne : decide (es.length = cs.length) with _ | _
  · have hne : ¬ es.length = cs.length := by simpa using hne
    generalize mapE u8 es = ees at *
    generalize mapE Chg.enc cs = ecs at *
    refine words fun iLt iLe iEq iNe iAdd iSub iMul iQuo iRem iShr iNeg iCvt iMax iMin bNot bEq bNe bAnd bOr sEq sNe sLen sCat sCut sAt lenA lenN iOf natOf atA atN cutA partA dropA catA setA repA putA idxN addN subN minN lenCut hX e_iLt e_iLe e_iEq e_iNe e_iAdd e_iSub e_iMul e_iQuo e_iRem e_iShr e_iNeg e_iCvt e_iMax e_iMin e_bNot e_bEq e_bNe e_bAnd e_bOr e_sEq e_sNe e_sLen e_sCat e_sCut e_sAt e_lenA e_lenN e_iOf e_natOf e_atA e_atN e_cutA e_partA e_dropA e_catA e_setA e_repA e_putA e_idxN e_addN e_subN e_minN e_lenCut ee => ?_
    have hx : iNe (lenA ees) (lenA ecs) = true := by simp [ee]; omega
    refine fn_body (fn := Try.f8) (n := 128) (ac := Tryc8) (rvs := [.t 4]) rfl (by decide) Tryp8 rfl rfl rfl ?_
    refine go rfl hX 0 (by conv => lhs; cbv; try simp only [hx]; cbv; try simp only [hx]; cbv; try simp only [hx]; cbv; try simp only [hx]; cbv) ?_ ?_
    · first | exact trivial | (simp only [Cd.ok, ee]; and_intros <;> first | omega | rfl | (simp <;> omega))
    refine go rfl hX 60 (by conv => lhs; cbv) ?_ ?_
    · first | exact trivial | (simp only [Cd.ok, ee]; and_intros <;> first | omega | rfl | (simp <;> omega))
    refine on_gskip rfl rfl ?_
    refine go rfl hX 60 (by conv => lhs; cbv) ?_ ?_
    · first | exact trivial | (simp only [Cd.ok, ee]; and_intros <;> first | omega | rfl | (simp <;> omega))
    refine on_pcall (args := []) rfl rfl rfl P11c rfl ?_
    refine go rfl hX 60 (by conv => lhs; cbv) ?_ ?_
    · first | exact trivial | (simp only [Cd.ok, ee]; and_intros <;> first | omega | rfl | (simp <;> omega))
    refine fn_ret rfl rfl (.val ?_)
    rfl
  have hne : es.length = cs.length := by simpa using hne
  rcases hfs : fewC cs with _ | _
  · rw [hfs] at P21c
    generalize mapE u8 es = ees at *
    generalize mapE Chg.enc cs = ecs at *
    refine words fun iLt iLe iEq iNe iAdd iSub iMul iQuo iRem iShr iNeg iCvt iMax iMin bNot bEq bNe bAnd bOr sEq sNe sLen sCat sCut sAt lenA lenN iOf natOf atA atN cutA partA dropA catA setA repA putA idxN addN subN minN lenCut hX e_iLt e_iLe e_iEq e_iNe e_iAdd e_iSub e_iMul e_iQuo e_iRem e_iShr e_iNeg e_iCvt e_iMax e_iMin e_bNot e_bEq e_bNe e_bAnd e_bOr e_sEq e_sNe e_sLen e_sCat e_sCut e_sAt e_lenA e_lenN e_iOf e_natOf e_atA e_atN e_cutA e_partA e_dropA e_catA e_setA e_repA e_putA e_idxN e_addN e_subN e_minN e_lenCut ee => ?_
    have hx : iNe (lenA ees) (lenA ecs) = false := by simp [ee]; omega
    have hnf : bNot false = true := by simp [ee]
    have hof : bOr false true = true := by simp [ee]
    refine fn_body (fn := Try.f8) (n := 128) (ac := Tryc8) (rvs := [.t 4]) rfl (by decide) Tryp8 rfl rfl rfl ?_
    refine go rfl hX 0 (by conv => lhs; cbv; try simp only [hx, hnf, hof]; cbv; try simp only [hx, hnf, hof]; cbv; try simp only [hx, hnf, hof]; cbv; try simp only [hx, hnf, hof]; cbv) ?_ ?_
    · first | exact trivial | (simp only [Cd.ok, ee]; and_intros <;> first | omega | rfl | (simp <;> omega))
    refine go rfl hX 60 (by conv => lhs; cbv) ?_ ?_
    · first | exact trivial | (simp only [Cd.ok, ee]; and_intros <;> first | omega | rfl | (simp <;> omega))
    refine on_gpcall (args := [AV.isl 3 ecs]) rfl rfl rfl rfl P21c (by simp [AV.closedL, closed_v, closed_agg, hcc]) ?_
    refine go rfl hX 0 (by conv => lhs; cbv; try simp only [hx, hnf, hof]; cbv; try simp only [hx, hnf, hof]; cbv; try simp only [hx, hnf, hof]; cbv; try simp only [hx, hnf, hof]; cbv) ?_ ?_
    · first | exact trivial | (simp only [Cd.ok, ee]; and_intros <;> first | omega | rfl | (simp <;> omega))
    refine go rfl hX 60 (by conv => lhs; cbv) ?_ ?_
    · first | exact trivial | (simp only [Cd.ok, ee]; and_intros <;> first | omega | rfl | (simp <;> omega))
    refine on_pcall (args := []) rfl rfl rfl P11c rfl ?_
    refine go rfl hX 60 (by conv => lhs; cbv) ?_ ?_
    · first | exact trivial | (simp only [Cd.ok, ee]; and_intros <;> first | omega | rfl | (simp <;> omega))
    refine fn_ret rfl rfl (.val ?_)
    rfl
  rw [hfs] at P21c
  have hlen : cs.length ≤ 30 := by
    simp only [fewC, Bool.and_eq_true, decide_eq_true_eq] at hfs; exact hfs.2
  obtain ⟨z, hz1, hz2⟩ : ∃ z : List (Int × Chg), z.map Prod.fst = es ∧ z.map Prod.snd = cs := ⟨es.zip cs, List.map_fst_zip (by omega), List.map_snd_zip (by omega)⟩
  have hzl : z.length = cs.length := by rw [← hz2, List.length_map]
  have P20c := P20
  have hze : Snk0.enc = .agg [int 0, .isl 3 [], .isl 2 []] := by simp [Snk0, Snk.enc, mapE_eq]
  rw [hze] at P20c
  have P15f := fun (h : ∀ p ∈ tm z, changeF p.2 = 0) => P15 ⟨0, [], batsL (tm z)⟩ (bats_fine (fun p hp => by
    obtain ⟨q, hq, rfl⟩ := List.mem_map.1 hp
    exact hfc.2 q.2 (by rw [← hz2]; exact List.mem_map.2 ⟨q, hq, rfl⟩)) (by rw [tm_len]; omega)) (check_count (bats_check h (by rw [tm_len]; omega)))
  have hfine := fun (h : ∀ p ∈ tm z, changeF p.2 = 0) => bats_fine (l := tm z) (fun p hp => by
    obtain ⟨q, hq, rfl⟩ := List.mem_map.1 hp
    exact hfc.2 q.2 (by rw [← hz2]; exact List.mem_map.2 ⟨q, hq, rfl⟩)) (by rw [tm_len]; omega)
  generalize hes' : mapE u8 es = ees at *
  generalize hcs' : mapE Chg.enc cs = ecs at *
  refine words fun iLt iLe iEq iNe iAdd iSub iMul iQuo iRem iShr iNeg iCvt iMax iMin bNot bEq bNe bAnd bOr sEq sNe sLen sCat sCut sAt lenA lenN iOf natOf atA atN cutA partA dropA catA setA repA putA idxN addN subN minN lenCut hX e_iLt e_iLe e_iEq e_iNe e_iAdd e_iSub e_iMul e_iQuo e_iRem e_iShr e_iNeg e_iCvt e_iMax e_iMin e_bNot e_bEq e_bNe e_bAnd e_bOr e_sEq e_sNe e_sLen e_sCat e_sCut e_sAt e_lenA e_lenN e_iOf e_natOf e_atA e_atN e_cutA e_partA e_dropA e_catA e_setA e_repA e_putA e_idxN e_addN e_subN e_minN e_lenCut ee => ?_
  have hx : iNe (lenA ees) (lenA ecs) = false := by simp [ee]; omega
  have hnt : bNot true = false := by simp [ee]
  have hoo : bOr false false = false := by simp [ee]
  have hot : bOr true false = true := by simp [ee]
  have hof : bOr false true = true := by simp [ee]
  have hat : bAnd true true = true := by simp [ee]
  have haf : bAnd true false = false := by simp [ee]
  have hn0 : iNe 0 0 = false := by simp [ee]
  have hn1 : iNe 1 0 = true := by simp [ee]
  have hn2 : iNe 2 0 = true := by simp [ee]
  have he0 : iEq 0 0 = true := by simp [ee]
  have he1 : iEq 1 1 = true := by simp [ee]
  have he2 : iEq 2 2 = true := by simp [ee]
  have he3 : iEq 2 1 = false := by simp [ee]
  refine fn_body (fn := Try.f8) (n := 128) (ac := Tryc8) (rvs := [.t 4]) rfl (by decide) Tryp8 rfl rfl rfl ?_
  refine go rfl hX 0 (by conv => lhs; cbv; try simp only [hx, hnt, hoo]; cbv; try simp only [hx, hnt, hoo]; cbv; try simp only [hx, hnt, hoo]; cbv; try simp only [hx, hnt, hoo]; cbv) ?_ ?_
  · first | exact trivial | (simp only [Cd.ok, ee]; and_intros <;> first | omega | rfl | (simp <;> omega))
  refine go rfl hX 60 (by conv => lhs; cbv) ?_ ?_
  · first | exact trivial | (simp only [Cd.ok, ee]; and_intros <;> first | omega | rfl | (simp <;> omega))
  refine on_gpcall (args := [AV.isl 3 ecs]) rfl rfl rfl rfl P21c (by simp [AV.closedL, closed_v, closed_agg, hcc]) ?_
  refine go rfl hX 0 (by conv => lhs; cbv; try simp only [hx, hnt, hoo]; cbv; try simp only [hx, hnt, hoo]; cbv; try simp only [hx, hnt, hoo]; cbv; try simp only [hx, hnt, hoo]; cbv) ?_ ?_
  · first | exact trivial | (simp only [Cd.ok, ee]; and_intros <;> first | omega | rfl | (simp <;> omega))
  refine go rfl hX 60 (by conv => lhs; cbv) ?_ ?_
  · first | exact trivial | (simp only [Cd.ok, ee]; and_intros <;> first | omega | rfl | (simp <;> omega))
  refine on_pcall (args := []) rfl rfl rfl P20c rfl ?_
  refine go rfl hX 60 (by conv => lhs; cbv) ?_ ?_
  · first | exact trivial | (simp only [Cd.ok, ee]; and_intros <;> first | omega | rfl | (simp <;> omega))
  refine on_loopP (ι := List (Int × Chg) × List (Int × Chg) × Int)
    (fun p => ([(30, int p.2.2), (29, int (lenA ecs)), (28, .isl 3 ecs), (6, .val (.slice none 0 0)), (5, .ptr 0 0), (4, .val (.bool false)), (1, .isl 3 ecs), (0, .isl 1 ees)],
      [.cells [int 0, .isl 3 [], .isl 2 (mapE Bat.enc (batsL (tm p.1)))]]))
    (fun p => z = p.1 ++ p.2.1 ∧ p.2.2 = p.1.length ∧ ∀ x ∈ tm p.1, changeF x.2 = 0) (fun p => p.2.1.length) ([], z, 0) ⟨rfl, rfl, by simp [tm]⟩
    (by
      dsimp only
      rw [show batsL (tm []) = [] from rfl, mapE_nil]
      exact ent_fw ⟨.refl _, .refl _, .refl _, .refl _, .refl _, .refl _, .refl _, .refl _, trivial⟩) ?_
  rintro ⟨d, r, i⟩ ⟨h1, hi, h2⟩
  dsimp only at h1 hi h2 ⊢
  cases r with
  | nil =>
    have hd : d = z := by rw [h1, List.append_nil]
    subst hd
    have hge : iLt i (lenA ecs) = false := lt_f e_iLt e_lenA (by omega)
    have hbt : ∀ b ∈ batsL (tm d), b.epoch ≤ 5 := by
      intro b hb
      unfold batsL at hb
      simp only [List.mem_append] at hb
      rcases hb with h | h | h | h | h <;> (have := (bat1_mem h).1; omega)
    have hup : upto 5 (batsL (tm d)) = batsL (tm d) := List.filter_eq_self.2 fun b hb => by have := hbt b hb; simpa using this
    have hby : beyond 5 (batsL (tm d)) = [] := List.filter_eq_nil_iff.2 fun b hb => by have := hbt b hb; simpa using this
    have hck := bats_check h2 (by rw [tm_len]; omega)
    have hfn := hfine h2
    have P15c := P15f h2
    have P12c := P12 ⟨0, [], batsL (tm d)⟩ hfn (by have := check_count hck; omega)
    rw [hck] at P12c
    have P24c := P24 ⟨0, [], batsL (tm d)⟩ 5 hfn (check_count hck)
    have hcm : commitF ⟨0, [], batsL (tm d)⟩ 5 = (⟨5, pendF (batsL (tm d)), []⟩, 0) := by
      unfold commitF
      rw [if_neg (by simp [hck]), if_neg (by omega), if_neg (by dsimp only; omega)]
      dsimp only
      rw [hup, hby]; rfl
    rw [hcm] at P24c
    have P14c := P14t (pendF (batsL (tm d))) (pendF (batsL (tm d))) (pend_fine hfn (check_count hck)) rfl
    have hpw : pendF (batsL (tm d)) = wantN 5 (tm d) := by rw [pend_bats, want5]
    have heb := closedB (batsL (tm d))
    have hww := closedC (wantN 5 (tm d))
    rw [hpw] at P15c P24c P14c
    unfold Snk.enc at P12c P15c P24c
    dsimp only at P12c P15c P24c
    rw [mapE_nil] at P12c P15c P24c
    rw [mapE_nil] at P24c
    generalize mapE Bat.enc (batsL (tm d)) = eb at *
    have hwl := wantN_len (tm d)
    rw [tm_len] at hwl
    refine go rfl hX 0 (by conv => lhs; cbv; try simp only [hge]; cbv; try simp only [hge]; cbv; try simp only [hge]; cbv; try simp only [hge]; cbv) ?_ ?_
    · first | exact trivial | (simp only [Cd.ok, ee]; and_intros <;> first | omega | rfl | (simp <;> omega))
    refine go rfl hX 60 (by conv => lhs; cbv) ?_ ?_
    · first | exact trivial | (simp only [Cd.ok, ee]; and_intros <;> first | omega | rfl | (simp <;> omega))
    refine loopP_exit ?_
    refine go rfl hX 60 (by conv => lhs; cbv) ?_ ?_
    · first | exact trivial | (simp only [Cd.ok, ee]; and_intros <;> first | omega | rfl | (simp <;> omega))
    refine on_loopP (ι := Nat × Int × Nat × List AV)
      (fun p => ([(72, int p.2.1), (6, .sl 1 3 0 p.2.2.1), (5, .ptr 0 0), (4, .val (.bool false)), (1, .isl 3 ecs), (0, .isl 1 ees)], [.cells [int 0, .isl 3 [], .isl 2 eb], .arr 3 p.2.2.2]))
      (fun p => p.1 ≤ 5 ∧ p.2.1 = p.1 ∧ p.2.2.1 = p.2.2.2.length ∧ p.2.2.2 = mapE Chg.enc (wantN p.1 (tm d))) (fun p => 5 - p.1) (0, 0, 0, []) ⟨by simp, rfl, rfl, by simp [wantN, mapE_eq]⟩
      (ent_sub [.to 0] [some 0, none] ⟨⟨by simp, rfl⟩, trivial⟩ ⟨osrc_cells (b := 0) rfl rfl rfl ⟨.refl _, .refl _, .cl heb, trivial⟩, .none 3 rfl, trivial⟩ ⟨.refl _, .nilS 1 3 0 (by simp), .refl _, .refl _, .cl hcc, .cl hce, trivial⟩) ?_
    rintro ⟨m, mi, len, ws⟩ ⟨hm, hmi, hln, hw⟩
    dsimp only at hm hmi hln hw ⊢
    by_cases hm5 : m = 5
    · subst hm5
      have hmi : mi = 5 := hmi
      subst hmi
      have hge5 : iLt 5 5 = false := by simp [ee]
      have hle0 : iEq (lenA []) 0 = true := by simp [ee]
      rw [← hw] at P15c P24c P14c hww
      refine go rfl hX 0 (by conv => lhs; cbv; try simp only [hge5]; cbv; try simp only [hge5]; cbv; try simp only [hge5]; cbv; try simp only [hge5]; cbv) ?_ ?_
      · first | exact trivial | (simp only [Cd.ok, ee]; and_intros <;> first | omega | rfl | (simp <;> omega))
      refine go rfl hX 60 (by conv => lhs; cbv) ?_ ?_
      · first | exact trivial | (simp only [Cd.ok, ee]; and_intros <;> first | omega | rfl | (simp <;> omega))
      refine loopP_exit ?_
      refine go rfl hX 60 (by conv => lhs; cbv) ?_ ?_
      · first | exact trivial | (simp only [Cd.ok, ee]; and_intros <;> first | omega | rfl | (simp <;> omega))
      have hww' : AV.closedL ws = true := hww
      have hn3 : (AV.isl 3 []).closed = true := rfl
      have heb' : AV.closedL eb = true := heb
      have hcS : (AV.agg [int 0, .isl 3 [], .isl 2 eb]).closed = true := by simp [AV.closed, AV.closedL, heb']
      refine on_entO (F' := [(96, .agg [int 0, .isl 3 [], .isl 2 eb]), (6, .isl 3 ws), (5, .ptr 0 0), (4, .val (.bool false))]) (H' := [.cells [int 0, .isl 3 [], .isl 2 eb]])
        (ent_sub [.to 0, .isl 3 ws] [some 0] ⟨⟨by simp, rfl⟩, ⟨_, rfl, (subL_closed _ hww').symm⟩, trivial⟩ ⟨osrc_cells (b := 0) rfl rfl rfl ⟨.refl _, .refl _, .cl heb, trivial⟩, trivial⟩ ⟨.cl (v := .agg [int 0, .isl 3 [], .isl 2 eb]) hcS, .of (sub_whole rfl hln), .refl _, .refl _, trivial⟩) ?_
      refine on_pcall (args := [AV.agg [int 0, AV.isl 3 [], AV.isl 2 eb]]) rfl rfl rfl P15c (by simp [AV.closedL, closed_v, closed_agg, hww, heb, hn3]) ?_
      refine go rfl hX 60 (by conv => lhs; cbv) ?_ ?_
      · first | exact trivial | (simp only [Cd.ok, ee]; and_intros <;> first | omega | rfl | (simp <;> omega))
      refine on_pcall (args := [AV.isl 3 ws, AV.isl 3 ws]) rfl rfl rfl P14c (by simp [AV.closedL, closed_v, closed_agg, hww, heb, hn3]) ?_
      refine go rfl hX 0 (by conv => lhs; cbv; try simp only [hnt, hoo, hn0, he0, hat, hle0]; cbv; try simp only [hnt, hoo, hn0, he0, hat, hle0]; cbv; try simp only [hnt, hoo, hn0, he0, hat, hle0]; cbv; try simp only [hnt, hoo, hn0, he0, hat, hle0]; cbv) ?_ ?_
      · first | exact trivial | (simp only [Cd.ok, ee]; and_intros <;> first | omega | rfl | (simp <;> omega))
      refine go rfl hX 60 (by conv => lhs; cbv) ?_ ?_
      · first | exact trivial | (simp only [Cd.ok, ee]; and_intros <;> first | omega | rfl | (simp <;> omega))
      refine on_gpcall (args := [AV.agg [int 0, AV.isl 3 [], AV.isl 2 eb]]) rfl rfl rfl rfl P12c (by simp [AV.closedL, closed_v, closed_agg, hww, heb, hn3]) ?_
      refine go rfl hX 0 (by conv => lhs; cbv; try simp only [hnt, hoo, hn0, he0, hat, hle0]; cbv; try simp only [hnt, hoo, hn0, he0, hat, hle0]; cbv; try simp only [hnt, hoo, hn0, he0, hat, hle0]; cbv; try simp only [hnt, hoo, hn0, he0, hat, hle0]; cbv) ?_ ?_
      · first | exact trivial | (simp only [Cd.ok, ee]; and_intros <;> first | omega | rfl | (simp <;> omega))
      refine go rfl hX 60 (by conv => lhs; cbv) ?_ ?_
      · first | exact trivial | (simp only [Cd.ok, ee]; and_intros <;> first | omega | rfl | (simp <;> omega))
      refine on_pcall (args := [AV.agg [int 0, AV.isl 3 [], AV.isl 2 eb], int 5]) rfl rfl rfl P24c (by simp [AV.closedL, closed_v, closed_agg, hww, heb, hn3]) ?_
      refine go rfl hX 60 (by conv => lhs; cbv) ?_ ?_
      · first | exact trivial | (simp only [Cd.ok, ee]; and_intros <;> first | omega | rfl | (simp <;> omega))
      refine on_pcall (args := []) rfl rfl rfl P11c rfl ?_
      refine go rfl hX 0 (by conv => lhs; cbv; try simp only [hnt, hoo, hn0, he0, hat, hle0]; cbv; try simp only [hnt, hoo, hn0, he0, hat, hle0]; cbv; try simp only [hnt, hoo, hn0, he0, hat, hle0]; cbv; try simp only [hnt, hoo, hn0, he0, hat, hle0]; cbv) ?_ ?_
      · first | exact trivial | (simp only [Cd.ok, ee]; and_intros <;> first | omega | rfl | (simp <;> omega))
      refine go rfl hX 60 (by conv => lhs; cbv) ?_ ?_
      · first | exact trivial | (simp only [Cd.ok, ee]; and_intros <;> first | omega | rfl | (simp <;> omega))
      refine on_gpcall (args := [AV.isl 3 ws, AV.isl 3 ws]) rfl rfl rfl rfl P14c (by simp [AV.closedL, closed_v, closed_agg, hww, heb, hn3]) ?_
      refine go rfl hX 60 (by conv => lhs; cbv) ?_ ?_
      · first | exact trivial | (simp only [Cd.ok, ee]; and_intros <;> first | omega | rfl | (simp <;> omega))
      refine fn_ret rfl rfl (.val ?_)
      simp only [hle0, hat]
    · have hlt5 : iLt mi 5 = true := by simp [ee]; omega
      refine go rfl hX 0 (by conv => lhs; cbv; try simp only [hlt5]; cbv; try simp only [hlt5]; cbv; try simp only [hlt5]; cbv; try simp only [hlt5]; cbv) ?_ ?_
      · first | exact trivial | (simp only [Cd.ok, ee]; and_intros <;> first | omega | rfl | (simp <;> omega))
      refine go rfl hX 60 (by conv => lhs; cbv) ?_ ?_
      · first | exact trivial | (simp only [Cd.ok, ee]; and_intros <;> first | omega | rfl | (simp <;> omega))
      refine on_loopP (ι := List (Int × Chg) × List (Int × Chg) × Int × Nat × List AV)
        (fun p => ([(77, int p.2.2.1), (76, int (lenA ecs)), (75, .isl 3 ecs), (11, int mi), (72, int mi), (6, .sl 1 3 0 p.2.2.2.1), (5, .ptr 0 0), (4, .val (.bool false)), (1, .isl 3 ecs), (0, .isl 1 ees)], [.cells [int 0, .isl 3 [], .isl 2 eb], .arr 3 p.2.2.2.2]))
        (fun p => d = p.1 ++ p.2.1 ∧ p.2.2.1 = p.1.length ∧ p.2.2.2.1 = p.2.2.2.2.length ∧ p.2.2.2.2 = mapE Chg.enc (wantN m (tm d) ++ pickF m (tm p.1))) (fun p => p.2.1.length) ([], d, 0, len, ws) ⟨rfl, rfl, hln, by rw [hw]; simp [tm, pickF]⟩
        (ent_fw ⟨.refl _, .refl _, .refl _, .refl _, .refl _, .refl _, .refl _, .refl _, .refl _, .refl _, trivial⟩) ?_
      rintro ⟨d1, r1, j, ln, w⟩ ⟨k1, kj, kn, kw⟩
      dsimp only at k1 kj kn kw ⊢
      have hpb : (pickF m (tm d1)).length ≤ 30 := by
        unfold pickF
        have h1 := List.length_filter_le (fun p => decide (p.1 = (m : Int))) (tm d1)
        have h2 := congrArg List.length k1
        rw [List.length_append] at h2
        rw [tm_len] at h1
        rw [List.length_map]; omega
      have hwb : w.length ≤ 60 := by
        rw [kw, mapE_len, List.length_append]
        have := hwl m hm; omega
      cases r1 with
      | nil =>
        have hd1 : d1 = d := by rw [k1, List.append_nil]
        have hge2 : iLt j (lenA ecs) = false := lt_f e_iLt e_lenA (by rw [hd1] at kj; omega)
        have hm' : iAdd .i64 mi 1 = ((m + 1 : Nat) : Int) := inc_w e_iAdd hmi (by omega)
        have hw2 : w = mapE Chg.enc (wantN (m + 1) (tm d)) := by rw [kw, hd1]; rfl
        refine go rfl hX 0 (by conv => lhs; cbv; try simp only [hge2]; cbv; try simp only [hge2]; cbv; try simp only [hge2]; cbv; try simp only [hge2]; cbv) ?_ ?_
        · first | exact trivial | (simp only [Cd.ok, ee]; and_intros <;> first | omega | rfl | (simp <;> omega))
        refine go rfl hX 60 (by conv => lhs; cbv) ?_ ?_
        · first | exact trivial | (simp only [Cd.ok, ee]; and_intros <;> first | omega | rfl | (simp <;> omega))
        refine loopP_exit ?_
        refine go rfl hX 60 (by conv => lhs; cbv) ?_ ?_
        · first | exact trivial | (simp only [Cd.ok, ee]; and_intros <;> first | omega | rfl | (simp <;> omega))
        refine loopP_next (m + 1, iAdd .i64 mi 1, ln, w) ⟨by omega, hm', kn, hw2⟩ (by dsimp only; omega) (ent_fw ⟨.refl _, .refl _, .refl _, .refl _, .refl _, .refl _, trivial⟩)
      | cons p r1 =>
        obtain ⟨n, c⟩ := p
        have L1 := len_split k1
        try simp only [List.length_cons, List.length_nil] at L1
        have hc2 : iLt j (lenA ecs) = true := lt_t e_iLt e_lenA (by omega)
        have g1 : es = d1.map Prod.fst ++ n :: r1.map Prod.fst := by rw [← hz1, k1]; simp
        have g2 : cs = d1.map Prod.snd ++ c :: r1.map Prod.snd := by rw [← hz2, k1]; simp
        have hae : atA ees j = u8 n := el_at e_atA hes' g1 (by simp [kj])
        have hac : atA ecs j = c.enc := el_at e_atA hcs' g2 (by simp [kj])
        have hn8 := he8 n (by rw [g1]; simp)
        have hm1 : 0 ≤ n.tmod 5 := Int.tmod_nonneg _ hn8.1
        have hm2 : n.tmod 5 < 5 := Int.tmod_lt_of_pos _ (by decide)
        have hj' : iAdd .i64 j 1 = ((d1 ++ [(n, c)] : List (Int × Chg)).length : Int) := by
          simp only [List.length_append, List.length_cons, List.length_nil]; exact inc_w e_iAdd kj (by omega)
        have hcw : AV.closedL w = true := by rw [kw]; exact closed_mapE Chg.closed _
        have hw3 : n.tmod 5 = m → w ++ [c.enc] = mapE Chg.enc (wantN m (tm d) ++ pickF m (tm (d1 ++ [(n, c)]))) := by
          intro h
          rw [tm_snoc, pick_snoc, if_pos h, kw, mapE_snoc, List.append_assoc]
        have hw4 : n.tmod 5 ≠ m → w = mapE Chg.enc (wantN m (tm d) ++ pickF m (tm (d1 ++ [(n, c)]))) := by
          intro h
          rw [tm_snoc, pick_snoc, if_neg h, kw, List.append_nil]
        have hccl := Chg.closed c
        have hcw2 : AV.closedL (w ++ [c.enc]) = true := closedL_append hcw (by simp [AV.closedL, hccl])
        obtain ⟨sg, q, bs⟩ := c
        dsimp only [Chg.enc] at hac hw3 hw4 hcw2
        have hbs : (AV.isl 4 (mapE Bnd.enc bs)).closed = true := by simp [AV.closed, closed_mapE Bnd.closed]
        generalize hebs : mapE Bnd.enc bs = ebs at *
        by_cases hq : n.tmod 5 = m
        · have heq : iEq (iCvt .i64 (iRem n 5)) mi = true := by
            simp only [ee]
            rw [wrap64 (x := n.tmod 5) (by omega) (by omega)]
            simp; omega
          have hw3 := hw3 hq
          refine go rfl hX 0 (by conv => lhs; cbv; try simp only [hc2, hac, hae, heq]; cbv; try simp only [hc2, hac, hae, heq]; cbv; try simp only [hc2, hac, hae, heq]; cbv; try simp only [hc2, hac, hae, heq]; cbv) ?_ ?_
          · first | exact trivial | (simp only [Cd.ok, ee]; and_intros <;> first | omega | rfl | (simp <;> omega))
          refine go rfl hX 1 (by conv => lhs; cbv; try simp only [hc2, hac, hae, heq]; cbv; try simp only [hc2, hac, hae, heq]; cbv; try simp only [hc2, hac, hae, heq]; cbv; try simp only [hc2, hac, hae, heq]; cbv) ?_ ?_
          · first | exact trivial | (simp only [Cd.ok, ee]; and_intros <;> first | omega | rfl | (simp <;> omega))
          refine go rfl hX 60 (by conv => lhs; cbv) ?_ ?_
          · first | exact trivial | (simp only [Cd.ok, ee]; and_intros <;> first | omega | rfl | (simp <;> omega))
          refine loopP_next (d1 ++ [(n, (⟨sg, q, bs⟩ : Chg))], r1, iAdd .i64 j 1, ln + 1, w ++ [.agg [int sg, int q, .isl 4 ebs]]) ⟨by simp [k1], hj', by simp [kn], hw3⟩ (by simp) (ent_sub [.to 0, .gone, .gone, .gone, .to 1] [some 0, some 4] ⟨⟨by simp, rfl⟩, trivial, trivial, trivial, ⟨by simp, rfl⟩, trivial⟩ ⟨osrc_cells (b := 0) rfl rfl rfl ⟨.refl _, .refl _, .cl heb, trivial⟩, osrc_arr rfl rfl rfl (by simp [ee, kn]) hcw2, trivial⟩ ⟨.refl _, .refl _, .cl hcc, .refl _, .refl _, .of (by simp only [ee]; rfl), .refl _, .refl _, .cl hcc, .cl hce, trivial⟩)
        · have heq : iEq (iCvt .i64 (iRem n 5)) mi = false := by
            simp only [ee]
            rw [wrap64 (x := n.tmod 5) (by omega) (by omega)]
            simp; omega
          have hw4 := hw4 hq
          refine go rfl hX 0 (by conv => lhs; cbv; try simp only [hc2, hac, hae, heq]; cbv; try simp only [hc2, hac, hae, heq]; cbv; try simp only [hc2, hac, hae, heq]; cbv; try simp only [hc2, hac, hae, heq]; cbv) ?_ ?_
          · first | exact trivial | (simp only [Cd.ok, ee]; and_intros <;> first | omega | rfl | (simp <;> omega))
          refine go rfl hX 1 (by conv => lhs; cbv; try simp only [hc2, hac, hae, heq]; cbv; try simp only [hc2, hac, hae, heq]; cbv; try simp only [hc2, hac, hae, heq]; cbv; try simp only [hc2, hac, hae, heq]; cbv) ?_ ?_
          · first | exact trivial | (simp only [Cd.ok, ee]; and_intros <;> first | omega | rfl | (simp <;> omega))
          refine go rfl hX 60 (by conv => lhs; cbv) ?_ ?_
          · first | exact trivial | (simp only [Cd.ok, ee]; and_intros <;> first | omega | rfl | (simp <;> omega))
          refine loopP_next (d1 ++ [(n, (⟨sg, q, bs⟩ : Chg))], r1, iAdd .i64 j 1, ln, w) ⟨by simp [k1], hj', kn, hw4⟩ (by simp) (ent_sub [.to 0, .to 1, .gone] [some 0, some 1] ⟨⟨by simp, rfl⟩, ⟨by simp, rfl⟩, trivial, trivial⟩ ⟨osrc_cells (b := 0) rfl rfl rfl ⟨.refl _, .refl _, .cl heb, trivial⟩, osrc_arr rfl rfl rfl rfl hcw, trivial⟩ ⟨.refl _, .refl _, .cl hcc, .refl _, .refl _, .refl _, .refl _, .refl _, .cl hcc, .cl hce, trivial⟩)
  | cons p r =>
    obtain ⟨n, c⟩ := p
    have L1 := len_split h1
    try simp only [List.length_cons, List.length_nil] at L1
    have hc : iLt i (lenA ecs) = true := lt_t e_iLt e_lenA (by omega)
    have g1 : es = d.map Prod.fst ++ n :: r.map Prod.fst := by rw [← hz1, h1]; simp
    have g2 : cs = d.map Prod.snd ++ c :: r.map Prod.snd := by rw [← hz2, h1]; simp
    have hae : atA ees i = u8 n := el_at e_atA hes' g1 (by simp [hi])
    have hac : atA ecs i = c.enc := el_at e_atA hcs' g2 (by simp [hi])
    have hn8 := he8 n (by rw [g1]; simp)
    have hcb : Short c.bs := hfc.2 c (by rw [g2]; simp)
    have hm1 : 0 ≤ n.tmod 5 := Int.tmod_nonneg _ hn8.1
    have hm2 : n.tmod 5 < 5 := Int.tmod_lt_of_pos _ (by decide)
    have hk : iAdd .i64 1 (iCvt .i64 (iRem n 5)) = 1 + n.tmod 5 := by
      simp only [ee]
      rw [wrap64 (x := n.tmod 5) (by omega) (by omega), wrap64 (by omega) (by omega)]
    have hfd : Snk.Fine ⟨0, [], batsL (tm d)⟩ := bats_fine (fun p hp => by
      obtain ⟨q, hq, rfl⟩ := List.mem_map.1 hp
      exact hfc.2 q.2 (by rw [← hz2]; exact List.mem_map.2 ⟨q, by rw [h1]; simp [hq], rfl⟩)) (by rw [tm_len]; omega)
    have P22c := P22 ⟨0, [], batsL (tm d)⟩ (1 + n.tmod 5) [c] hfd ⟨by simp [Short], by simpa using hcb⟩ (check_count (bats_check h2 (by rw [tm_len]; omega))) (by simp)
    have hnx := bats_next h2 (by rw [tm_len]; omega) (n.tmod 5) c ⟨hm1, hm2⟩
    have hce2 := change_err c
    obtain ⟨ex, kx, hx1, hx2, hx3, hexc⟩ : ∃ ex kx, (addF ⟨0, [], batsL (tm d)⟩ (1 + n.tmod 5) [c]).1.enc = .agg [int 0, .isl 3 [], .isl 2 ex] ∧ (addF ⟨0, [], batsL (tm d)⟩ (1 + n.tmod 5) [c]).2 = kx ∧
        ((changeF c = 0 ∧ kx = 0 ∧ ex = mapE Bat.enc (batsL (tm (d ++ [(n, c)])))) ∨ (kx = 1 ∧ c.sign ≠ 1 ∧ c.sign ≠ -1) ∨ kx = 2) ∧ (AV.isl 2 ex).closed = true := by
      rw [hnx]
      by_cases h0 : changeF c = 0
      · rw [if_neg (by simp [h0])]
        refine ⟨_, _, ?_, rfl, .inl ⟨h0, rfl, rfl⟩, closedB _⟩
        rw [tm_snoc]; simp [Snk.enc, mapE_eq]
      · rw [if_pos h0]
        refine ⟨[], _, by simp [Snk0, Snk.enc, mapE_eq], rfl, ?_, rfl⟩
        rcases hce2 with h | h | h
        · exact absurd h h0
        · exact .inr (.inl h)
        · exact .inr (.inr h)
    rw [hx1, hx2] at P22c
    unfold Snk.enc at P22c
    have hc1 : mapE Chg.enc [c] = [c.enc] := by simp [mapE_eq]
    dsimp only at P22c
    rw [hc1, mapE_nil] at P22c
    have heb := closedB (batsL (tm d))
    obtain ⟨sg, q, bs⟩ := c
    dsimp only [Chg.enc] at hac P22c
    dsimp only at hx3
    have hbs : (AV.isl 4 (mapE Bnd.enc bs)).closed = true := by simp [AV.closed, closed_mapE Bnd.closed]
    generalize mapE Bnd.enc bs = ebs at *
    generalize hgb : mapE Bat.enc (batsL (tm d)) = eb at *
    generalize hgx : mapE Bat.enc (batsL (tm (d ++ [(n, (⟨sg, q, bs⟩ : Chg))]))) = egx at *
    have heb' : AV.closedL eb = true := heb
    have hbs' : AV.closedL ebs = true := hbs
    have hex := hexc
    have hE : AV.closedL [AV.agg [int sg, int q, .isl 4 ebs]] = true := by simp [AV.closedL, AV.closed, hbs']
    refine go rfl hX 0 (by conv => lhs; cbv; try simp only [hc, hac, hae, hk]; cbv; try simp only [hc, hac, hae, hk]; cbv; try simp only [hc, hac, hae, hk]; cbv; try simp only [hc, hac, hae, hk]; cbv) ?_ ?_
    · first | exact trivial | (simp only [Cd.ok, ee]; and_intros <;> first | omega | rfl | (simp <;> omega))
    refine go rfl hX 1 (by conv => lhs; cbv; try simp only [hc, hac, hae, hk]; cbv; try simp only [hc, hac, hae, hk]; cbv; try simp only [hc, hac, hae, hk]; cbv; try simp only [hc, hac, hae, hk]; cbv) ?_ ?_
    · first | exact trivial | (simp only [Cd.ok, ee]; and_intros <;> first | omega | rfl | (simp <;> omega))
    refine trp_drawE [9, 10, 14, 15] [[9, 10, 14, 15], [9, 14, 10, 15], [14, 9, 10, 15]] [(10, int kx), (9, .ptr 2 0), (8, .ptr 1 0), (7, int i), (30, int i), (29, int (lenA ecs)), (28, .isl 3 ecs), (6, .val (.slice none 0 0)), (5, .ptr 0 0), (4, .val (.bool false)), (1, .isl 3 ecs), (0, .isl 1 ees)] [.cells [int 0, .isl 3 [], .isl 2 eb], .cells [int sg, int q, .isl 4 ebs], .cells [int 0, .isl 3 [], .isl 2 ex]] rfl rfl rfl (by decide) rfl ?_ ⟨⟨[0, 1, 2, 3, 4, 5, 6, 7, 8, 9, 10, 11, 12, 13, 14, 15, 16], rfl, ?_⟩, ⟨[0, 1, 2, 3, 4, 5, 6, 7, 8, 9, 14, 10, 11, 12, 13, 15, 16], rfl, ?_⟩, ⟨[14, 0, 1, 2, 3, 4, 5, 6, 7, 8, 9, 10, 11, 12, 13, 15, 16], rfl, ?_⟩, trivial⟩
    rotate_left
    · refine tr_go hX (by conv => lhs; cbv; simp only [hae,hk,hae,hk]; cbv; simp only [hae,hk,hae,hk]; cbv) ?_ ?_
      · first | exact trivial | (simp only [Cd.ok, ee]; and_intros <;> first | omega | rfl | (simp <;> omega))
      refine tr_ecall (args := [.agg [int 0, .isl 3 [], .isl 2 eb], int (1 + n.tmod 5), .sl 2 3 0 1]) rfl rfl rfl enters22 (PCall.give (args' := [.agg [int 0, .isl 3 [], .isl 2 eb], int (1 + n.tmod 5), .isl 3 [.agg [int sg, int q, .isl 4 ebs]]]) (H1 := [.cells [int 0, .isl 3 [], .isl 2 eb], .cells [int sg, int q, .isl 4 ebs], .dead]) [.to 0, .to 1, .isl 3 [.agg [int sg, int q, .isl 4 ebs]]] rfl ⟨⟨by simp, rfl⟩, ⟨by simp, rfl⟩, ⟨_, rfl, (subL_closed _ hE).symm⟩, trivial⟩ ⟨osrc_cells (b := 0) rfl rfl rfl ⟨.refl _, .refl _, .cl heb, trivial⟩, osrc_cells (b := 1) rfl rfl rfl ⟨.refl _, .refl _, .cl hbs, trivial⟩, .dead, trivial⟩ (by show [AV.agg [int 0, .isl 3 [], .isl 2 (AV.subL _ eb)], _, _] = _; rw [subL_closed _ heb']; rfl) P22c (by simp [AV.closedL, AV.closed, heb', hbs'])) ?_
      refine tr_go hX (by conv => lhs; cbv) ?_ ?_
      · first | exact trivial | (simp only [Cd.ok, ee]; and_intros <;> first | omega | rfl | (simp <;> omega))
      refine tr_nil ⟨by simp [effLab], ?_, ?_⟩
      · simp only [LooksP, lookAll, List.append, List.cons_append, List.nil_append, List.append_nil]; and_intros <;> first | trivial | (intro hp; first | rfl | exact absurd (show false = true from hp) Bool.false_ne_true)
      exact (ent_sub [.to 0, .to 1, .gone, .to 2] [some 0, some 1, some 3] ⟨⟨by simp, rfl⟩, ⟨by simp, rfl⟩, trivial, ⟨by simp, rfl⟩, trivial⟩ ⟨osrc_cells (b := 0) rfl rfl rfl ⟨.refl _, .refl _, .cl heb, trivial⟩, osrc_cells (b := 1) rfl rfl rfl ⟨.refl _, .refl _, .cl hbs, trivial⟩, osrc_cells (b := 3) rfl rfl rfl ⟨.refl _, .refl _, .cl hex, trivial⟩, trivial⟩ ⟨.refl _, .refl _, .refl _, .refl _, .refl _, .refl _, .cl hcc, .refl _, .refl _, .refl _, .cl hcc, .cl hce, trivial⟩)
    · refine tr_go hX (by conv => lhs; cbv; simp only [hae,hk,hae,hk]; cbv; simp only [hae,hk,hae,hk]; cbv) ?_ ?_
      · first | exact trivial | (simp only [Cd.ok, ee]; and_intros <;> first | omega | rfl | (simp <;> omega))
      refine tr_ecall (args := [.agg [int 0, .isl 3 [], .isl 2 eb], int (1 + n.tmod 5), .sl 2 3 0 1]) rfl rfl rfl enters22 (PCall.give (args' := [.agg [int 0, .isl 3 [], .isl 2 eb], int (1 + n.tmod 5), .isl 3 [.agg [int sg, int q, .isl 4 ebs]]]) (H1 := [.cells [int 0, .isl 3 [], .isl 2 eb], .cells [int sg, int q, .isl 4 ebs], .dead, .cells [int 0, .val (.slice none 0 0), .val (.slice none 0 0)]]) [.to 0, .to 1, .isl 3 [.agg [int sg, int q, .isl 4 ebs]], .to 3] rfl ⟨⟨by simp, rfl⟩, ⟨by simp, rfl⟩, ⟨_, rfl, (subL_closed _ hE).symm⟩, ⟨by simp, rfl⟩, trivial⟩ ⟨osrc_cells (b := 0) rfl rfl rfl ⟨.refl _, .refl _, .cl heb, trivial⟩, osrc_cells (b := 1) rfl rfl rfl ⟨.refl _, .refl _, .cl hbs, trivial⟩, .dead, osrc_cells (b := 3) rfl rfl rfl ⟨.refl _, .refl _, .refl _, trivial⟩, trivial⟩ (by show [AV.agg [int 0, .isl 3 [], .isl 2 (AV.subL _ eb)], _, _] = _; rw [subL_closed _ heb']; rfl) P22c (by simp [AV.closedL, AV.closed, heb', hbs'])) ?_
      refine tr_go hX (by conv => lhs; cbv) ?_ ?_
      · first | exact trivial | (simp only [Cd.ok, ee]; and_intros <;> first | omega | rfl | (simp <;> omega))
      refine tr_nil ⟨by simp [effLab], ?_, ?_⟩
      · simp only [LooksP, lookAll, List.append, List.cons_append, List.nil_append, List.append_nil]; and_intros <;> first | trivial | (intro hp; first | rfl | exact absurd (show false = true from hp) Bool.false_ne_true)
      exact (ent_sub [.to 0, .to 1, .gone, .to 2] [some 0, some 1, some 3] ⟨⟨by simp, rfl⟩, ⟨by simp, rfl⟩, trivial, ⟨by simp, rfl⟩, trivial⟩ ⟨osrc_cells (b := 0) rfl rfl rfl ⟨.refl _, .refl _, .cl heb, trivial⟩, osrc_cells (b := 1) rfl rfl rfl ⟨.refl _, .refl _, .cl hbs, trivial⟩, osrc_cells (b := 3) rfl rfl rfl ⟨.refl _, .refl _, .cl hex, trivial⟩, trivial⟩ ⟨.refl _, .refl _, .refl _, .refl _, .refl _, .refl _, .cl hcc, .refl _, .refl _, .refl _, .cl hcc, .cl hce, trivial⟩)
    · refine tr_go hX (by conv => lhs; cbv; simp only [hae,hk,hae,hk]; cbv; simp only [hae,hk,hae,hk]; cbv) ?_ ?_
      · first | exact trivial | (simp only [Cd.ok, ee]; and_intros <;> first | omega | rfl | (simp <;> omega))
      refine tr_ecall (args := [.agg [int 0, .isl 3 [], .isl 2 eb], int (1 + n.tmod 5), .sl 3 3 0 1]) rfl rfl rfl enters22 (PCall.give (args' := [.agg [int 0, .isl 3 [], .isl 2 eb], int (1 + n.tmod 5), .isl 3 [.agg [int sg, int q, .isl 4 ebs]]]) (H1 := [.cells [int 0, .isl 3 [], .isl 2 eb], .cells [int sg, int q, .isl 4 ebs], .cells [int 0, .val (.slice none 0 0), .val (.slice none 0 0)], .dead]) [.to 0, .to 1, .to 2, .isl 3 [.agg [int sg, int q, .isl 4 ebs]]] rfl ⟨⟨by simp, rfl⟩, ⟨by simp, rfl⟩, ⟨by simp, rfl⟩, ⟨_, rfl, (subL_closed _ hE).symm⟩, trivial⟩ ⟨osrc_cells (b := 0) rfl rfl rfl ⟨.refl _, .refl _, .cl heb, trivial⟩, osrc_cells (b := 1) rfl rfl rfl ⟨.refl _, .refl _, .cl hbs, trivial⟩, osrc_cells (b := 2) rfl rfl rfl ⟨.refl _, .refl _, .refl _, trivial⟩, .dead, trivial⟩ (by show [AV.agg [int 0, .isl 3 [], .isl 2 (AV.subL _ eb)], _, _] = _; rw [subL_closed _ heb']; rfl) P22c (by simp [AV.closedL, AV.closed, heb', hbs'])) ?_
      refine tr_go hX (by conv => lhs; cbv) ?_ ?_
      · first | exact trivial | (simp only [Cd.ok, ee]; and_intros <;> first | omega | rfl | (simp <;> omega))
      refine tr_nil ⟨by simp [effLab], ?_, ?_⟩
      · simp only [LooksP, lookAll, List.append, List.cons_append, List.nil_append, List.append_nil]; and_intros <;> first | trivial | (intro hp; first | rfl | exact absurd (show false = true from hp) Bool.false_ne_true)
      exact (ent_sub [.to 0, .to 1, .to 2, .gone] [some 0, some 1, some 2] ⟨⟨by simp, rfl⟩, ⟨by simp, rfl⟩, ⟨by simp, rfl⟩, trivial, trivial⟩ ⟨osrc_cells (b := 0) rfl rfl rfl ⟨.refl _, .refl _, .cl heb, trivial⟩, osrc_cells (b := 1) rfl rfl rfl ⟨.refl _, .refl _, .cl hbs, trivial⟩, osrc_cells (b := 2) rfl rfl rfl ⟨.refl _, .refl _, .cl hex, trivial⟩, trivial⟩ ⟨.refl _, .refl _, .refl _, .refl _, .refl _, .refl _, .cl hcc, .refl _, .refl _, .refl _, .cl hcc, .cl hce, trivial⟩)
    have hi' : iAdd .i64 i 1 = ((d ++ [(n, (⟨sg, q, bs⟩ : Chg))] : List (Int × Chg)).length : Int) := by
      simp only [List.length_append, List.length_cons, List.length_nil]; exact inc_w e_iAdd hi (by omega)
    rcases hx3 with ⟨h0, rfl, rfl⟩ | ⟨rfl, hs1, hs2⟩ | rfl
    · have hgd : ∀ x ∈ tm (d ++ [(n, (⟨sg, q, bs⟩ : Chg))]), changeF x.2 = 0 := by
        intro x hx
        rw [tm_snoc] at hx
        rcases List.mem_append.1 hx with hx | hx
        · exact h2 x hx
        · simp at hx; subst hx; exact h0
      refine go rfl hX 0 (by conv => lhs; cbv; try simp only [hn0]; cbv; try simp only [hn0]; cbv; try simp only [hn0]; cbv; try simp only [hn0]; cbv) ?_ ?_
      · first | exact trivial | (simp only [Cd.ok, ee]; and_intros <;> first | omega | rfl | (simp <;> omega))
      refine go rfl hX 60 (by conv => lhs; cbv) ?_ ?_
      · first | exact trivial | (simp only [Cd.ok, ee]; and_intros <;> first | omega | rfl | (simp <;> omega))
      refine loopP_next (d ++ [(n, (⟨sg, q, bs⟩ : Chg))], r, iAdd .i64 i 1) ⟨by simp [h1], hi', hgd⟩ (by simp) (by dsimp only; rw [hgx]; exact ent_sub [.to 0, .gone, .gone] [some 0] ⟨⟨by simp, rfl⟩, trivial, trivial, trivial⟩ ⟨osrc_cells (b := 0) rfl rfl rfl ⟨.refl _, .refl _, .cl hex, trivial⟩, trivial⟩ ⟨.refl _, .refl _, .cl hcc, .refl _, .refl _, .refl _, .cl hcc, .cl hce, trivial⟩)
    · have hb1 : iNe sg 1 = true := by simp [ee]; exact hs1
      have hb2 : iNe sg (-1) = true := by simp [ee]; exact hs2
      refine go rfl hX 0 (by conv => lhs; cbv; try simp only [hn1, hb1, hb2, hat, he1, hot]; cbv; try simp only [hn1, hb1, hb2, hat, he1, hot]; cbv; try simp only [hn1, hb1, hb2, hat, he1, hot]; cbv; try simp only [hn1, hb1, hb2, hat, he1, hot]; cbv) ?_ ?_
      · first | exact trivial | (simp only [Cd.ok, ee]; and_intros <;> first | omega | rfl | (simp <;> omega))
      refine go rfl hX 1 (by conv => lhs; cbv; try simp only [hn1, hb1, hb2, hat, he1, hot]; cbv; try simp only [hn1, hb1, hb2, hat, he1, hot]; cbv; try simp only [hn1, hb1, hb2, hat, he1, hot]; cbv; try simp only [hn1, hb1, hb2, hat, he1, hot]; cbv) ?_ ?_
      · first | exact trivial | (simp only [Cd.ok, ee]; and_intros <;> first | omega | rfl | (simp <;> omega))
      refine on_guard rfl rfl (fun c1 => ?_) (fun c1 => ?_)
      ·
        simp [ee, decide_eq_true_eq, decide_eq_false_iff_not, Bool.and_eq_true, Bool.or_eq_true, Bool.not_eq_true', Bool.not_eq_false', Bool.and_eq_false_iff, Bool.or_eq_false_iff, bne_iff_ne, beq_iff_eq, beq_eq_false_iff_ne, bne_eq_false_iff_eq, ne_eq, Int.not_lt, Int.not_le, Decidable.not_not] at c1
        refine on_gpcall (args := []) rfl rfl rfl rfl P11c rfl ?_
        refine go rfl hX 60 (by conv => lhs; cbv) ?_ ?_
        · first | exact trivial | (simp only [Cd.ok, ee]; and_intros <;> first | omega | rfl | (simp <;> omega))
        refine loopP_ret ?_
        refine go rfl hX 60 (by conv => lhs; cbv) ?_ ?_
        · first | exact trivial | (simp only [Cd.ok, ee]; and_intros <;> first | omega | rfl | (simp <;> omega))
        refine fn_ret rfl rfl (.val ?_)
        rfl
      ·
        simp [ee, decide_eq_true_eq, decide_eq_false_iff_not, Bool.and_eq_true, Bool.or_eq_true, Bool.not_eq_true', Bool.not_eq_false', Bool.and_eq_false_iff, Bool.or_eq_false_iff, bne_iff_ne, beq_iff_eq, beq_eq_false_iff_ne, bne_eq_false_iff_eq, ne_eq, Int.not_lt, Int.not_le, Decidable.not_not] at c1
    · have haf2 : ∀ x, bAnd x false = false := by simp [ee]
      refine go rfl hX 0 (by conv => lhs; cbv; try simp only [hn2, haf2, he3, hof, he2, hat]; cbv; try simp only [hn2, haf2, he3, hof, he2, hat]; cbv; try simp only [hn2, haf2, he3, hof, he2, hat]; cbv; try simp only [hn2, haf2, he3, hof, he2, hat]; cbv) ?_ ?_
      · first | exact trivial | (simp only [Cd.ok, ee]; and_intros <;> first | omega | rfl | (simp <;> omega))
      refine go rfl hX 1 (by conv => lhs; cbv; try simp only [hn2, haf2, he3, hof, he2, hat]; cbv; try simp only [hn2, haf2, he3, hof, he2, hat]; cbv; try simp only [hn2, haf2, he3, hof, he2, hat]; cbv; try simp only [hn2, haf2, he3, hof, he2, hat]; cbv) ?_ ?_
      · first | exact trivial | (simp only [Cd.ok, ee]; and_intros <;> first | omega | rfl | (simp <;> omega))
      refine on_gpcall (args := []) rfl rfl rfl rfl P11c rfl ?_
      refine go rfl hX 60 (by conv => lhs; cbv) ?_ ?_
      · first | exact trivial | (simp only [Cd.ok, ee]; and_intros <;> first | omega | rfl | (simp <;> omega))
      refine loopP_ret ?_
      refine go rfl hX 60 (by conv => lhs; cbv) ?_ ?_
      · first | exact trivial | (simp only [Cd.ok, ee]; and_intros <;> first | omega | rfl | (simp <;> omega))
      refine fn_ret rfl rfl (.val ?_)
      rfl
end Go.Am
end
