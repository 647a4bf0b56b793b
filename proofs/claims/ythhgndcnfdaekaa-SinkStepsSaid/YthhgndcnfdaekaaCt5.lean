/- Contracts of the program's functions, for every argument that meets the conditions that each theorem names. -/
import Derived.Test.YthhgndcnfdaekaaCt4
import Derived.Test.YthhgndcnfdaekaaAm5
import Derived.Test.YthhgndcnfdaekaaAm6
import Derived.Test.YthhgndcnfdaekaaRows
import Derived.Test.YthhgndcnfdaekaaProg
import Derived.Shelf.Sort.Plain
section
set_option linter.unusedVariables false
set_option linter.unusedSimpArgs false
set_option maxRecDepth 20000
namespace Go.Am
open Go.Proofs

theorem enters22 : Enters EE.P 22 := enters_of (fn := Try.f22) (n := 82) (ac := Tryc22) rfl (by decide) Tryp22
theorem enters14 : Enters EE.P 14 := enters_of (fn := Try.f14) (ac := Tryc14) rfl (by decide) Tryp14
theorem fine_em (n : Int) : Short (emF n).bs := by simp [Short, emF]
theorem fine_ems {l : List Int} (h : l.length < 100) : Fine (l.map emF) := ⟨by unfold Short; simp; omega, fun c hc => by
  obtain ⟨n, _, rfl⟩ := List.mem_map.1 hc
  exact fine_em n⟩
theorem fine0 : Snk0.Fine := ⟨fine_ems (l := []) (by decide), by simp [Short, Snk0], by simp [Snk0]⟩
theorem fine1 : aw1.Fine := ⟨fine_ems (l := []) (by decide), by simp [Short, aw1], by
  intro b hb; simp [aw1] at hb; subst hb; exact fine_ems (l := [1, 2]) (by decide)⟩
theorem fine2 : aw2.Fine := ⟨fine_ems (l := []) (by decide), by simp [Short, aw2], by
  intro b hb; simp [aw2] at hb; rcases hb with rfl | rfl
  · exact fine_ems (l := [1, 2]) (by decide)
  · exact fine_ems (l := [3]) (by decide)⟩
theorem fine3 : aw3.Fine := ⟨fine_ems (l := []) (by decide), by simp [Short, aw3], by
  intro b hb; simp [aw3] at hb; rcases hb with rfl | rfl
  · exact fine_ems (l := [1, 2, 4]) (by decide)
  · exact fine_ems (l := [3]) (by decide)⟩
theorem fine4 : aw4.Fine := ⟨fine_ems (l := [1, 2, 4]) (by decide), by simp [Short, aw4], by
  intro b hb; simp [aw4] at hb; subst hb; exact fine_ems (l := [3]) (by decide)⟩
theorem fine5 : aw5.Fine := ⟨fine_ems (l := [1, 2, 4]) (by decide), by simp [Short, aw5], by
  intro b hb; simp [aw5] at hb⟩

set_option maxHeartbeats 4000000 in
theorem P11 : PCall EE 11 [] (.val (.bool true)) := by
  have P31a := P31 1
  have P31b := P31 2
  have P31c := P31 3
  have P31d := P31 4
  have P22a := P22 Snk0 1 [emF 1, emF 2] fine0 (fine_ems (l := [1, 2]) (by decide)) (by decide) (by decide)
  have P22b := P22 aw1 3 [emF 3] fine1 (fine_ems (l := [3]) (by decide)) (by decide) (by decide)
  have P22c := P22 aw2 1 [emF 4] fine2 (fine_ems (l := [4]) (by decide)) (by decide) (by decide)
  have P24a := P24 aw3 2 fine3 (by decide)
  have P22d := P22 aw4 2 [emF 1] fine4 (fine_ems (l := [1]) (by decide)) (by decide) (by decide)
  have P26a := P26 aw4 2 fine4 (by decide)
  have P24b := P24 aw5 1 fine5 (by decide)
  have P14a := P14 [emF 1, emF 2, emF 4] [emF 1, emF 2, emF 4] (fine_ems (l := [1, 2, 4]) (by decide))
  have P15a := P15 aw4 fine4 (by decide)
  have P14b := P14 [emF 3] [emF 3] (fine_ems (l := [3]) (by decide))
  have P15b := P15 aw5 fine5 (by decide)
  have P17a := P17 aw5 fine5 (by decide)
  have P19a := P19 aw5 aw5 fine5
  have P20a := P20
  rw [aw_1] at P22a
  rw [aw_2] at P22b
  rw [aw_3] at P22c
  rw [aw_4] at P24a
  rw [aw_5] at P22d
  rw [aw_6] at P26a
  rw [aw_7] at P24b
  rw [decide_eq_true rfl] at P14a P14b P19a
  rw [show pendF aw4.pend = [emF 3] from rfl] at P15a
  rw [show pendF aw5.pend = [] from rfl] at P15b
  rw [show aw5.com ++ pendF aw5.pend = [emF 1, emF 2, emF 4] from rfl] at P17a
  have n1 : mapE Chg.enc [emF 1, emF 2] = [Chg.enc (emF 1), Chg.enc (emF 2)] := by rw [mapE_eq]; rfl
  have n2 : mapE Chg.enc [emF 3] = [Chg.enc (emF 3)] := by rw [mapE_eq]; rfl
  have n3 : mapE Chg.enc [emF 4] = [Chg.enc (emF 4)] := by rw [mapE_eq]; rfl
  have n4 : mapE Chg.enc [emF 1] = [Chg.enc (emF 1)] := by rw [mapE_eq]; rfl
  have n5 : mapE Chg.enc [emF 1, emF 2, emF 4] = [Chg.enc (emF 1), Chg.enc (emF 2), Chg.enc (emF 4)] := by rw [mapE_eq]; rfl
  have n6 : mapE Chg.enc ([] : List Chg) = [] := mapE_nil _
  have c3 := closedC [emF 1, emF 2, emF 4]
  have q1 := closedB aw1.pend
  have q2 := closedB aw2.pend
  have q3 := closedB aw3.pend
  have q4 := closedB aw4.pend
  have s0 : Snk0.enc = .agg [int 0, .isl 3 (mapE Chg.enc []), .isl 2 (mapE Bat.enc [])] := rfl
  have s1 : aw1.enc = .agg [int 0, .isl 3 (mapE Chg.enc []), .isl 2 (mapE Bat.enc aw1.pend)] := rfl
  have s2 : aw2.enc = .agg [int 0, .isl 3 (mapE Chg.enc []), .isl 2 (mapE Bat.enc aw2.pend)] := rfl
  have s3 : aw3.enc = .agg [int 0, .isl 3 (mapE Chg.enc []), .isl 2 (mapE Bat.enc aw3.pend)] := rfl
  have s4 : aw4.enc = .agg [int 2, .isl 3 (mapE Chg.enc [emF 1, emF 2, emF 4]), .isl 2 (mapE Bat.enc aw4.pend)] := rfl
  have s5 : aw5.enc = .agg [int 2, .isl 3 (mapE Chg.enc [emF 1, emF 2, emF 4]), .isl 2 (mapE Bat.enc [])] := rfl
  have m0 : mapE Bat.enc ([] : List Bat) = [] := mapE_nil _
  dsimp only at *
  rw [s0, n6, m0] at P20a
  rw [s0, s1, n1, n6, m0] at P22a
  rw [s1, s2, n2, n6] at P22b
  rw [s2, s3, n3, n6] at P22c
  rw [s3, s4, n6] at P24a
  rw [s4, s0, n4, n6, m0] at P22d
  rw [s4, s5, m0] at P26a
  rw [s5, m0] at P24b
  rw [s4] at P15a
  rw [s5, n6, m0] at P15b
  rw [s5, m0] at P17a
  rw [s5, m0] at P19a
  have e1 : Chg.enc (emF 1) = .agg [int 1, int 0, .isl 4 (mapE Bnd.enc (emF 1).bs)] := rfl
  have e2 : Chg.enc (emF 2) = .agg [int 1, int 0, .isl 4 (mapE Bnd.enc (emF 2).bs)] := rfl
  have e3 : Chg.enc (emF 3) = .agg [int 1, int 0, .isl 4 (mapE Bnd.enc (emF 3).bs)] := rfl
  have e4 : Chg.enc (emF 4) = .agg [int 1, int 0, .isl 4 (mapE Bnd.enc (emF 4).bs)] := rfl
  have r1 : PCall EE 31 [int 1] (Chg.enc (emF 1)) := P31a
  have r2 : PCall EE 31 [int 2] (Chg.enc (emF 2)) := P31b
  have r3 : PCall EE 31 [int 3] (Chg.enc (emF 3)) := P31c
  have r4 : PCall EE 31 [int 4] (Chg.enc (emF 4)) := P31d
  clear P31a P31b P31c P31d
  have l5 : (mapE Chg.enc [emF 1, emF 2, emF 4]).length = 3 := by rw [mapE_len]; rfl
  have P14a : PCall EE 14 [.isl 3 (mapE Chg.enc [emF 1, emF 2, emF 4]), .isl 3 [Chg.enc (emF 1), Chg.enc (emF 2), Chg.enc (emF 4)]] (.val (.bool true)) := by rw [← n5]; exact P14a
  have P14b : PCall EE 14 [.isl 3 (mapE Chg.enc [emF 3]), .isl 3 [Chg.enc (emF 3)]] (.val (.bool true)) := by rw [← n2]; exact P14b
  have hb1 : AV.closedL (mapE Bnd.enc (emF 1).bs) = true := closed_mapE Bnd.closed _
  have hb2 : AV.closedL (mapE Bnd.enc (emF 2).bs) = true := closed_mapE Bnd.closed _
  have hb3 : AV.closedL (mapE Bnd.enc (emF 3).bs) = true := closed_mapE Bnd.closed _
  have hb4 : AV.closedL (mapE Bnd.enc (emF 4).bs) = true := closed_mapE Bnd.closed _
  have hw3 := closedC [emF 3]
  clear n1 n2 n3 n4 n5 s0 s1 s2 s3 s4 s5 n6 m0
  rw [e1] at r1
  rw [e2] at r2
  rw [e3] at r3
  rw [e4] at r4
  rw [e1, e2] at P22a
  rw [e3] at P22b
  rw [e4] at P22c
  rw [e1] at P22d
  rw [e1, e2, e4] at P14a
  rw [e3] at P14b
  clear e1 e2 e3 e4
  generalize mapE Bnd.enc (emF 1).bs = b1 at *
  generalize mapE Bnd.enc (emF 2).bs = b2 at *
  generalize mapE Bnd.enc (emF 3).bs = b3 at *
  generalize mapE Bnd.enc (emF 4).bs = b4 at *
  generalize mapE Chg.enc [emF 1, emF 2, emF 4] = kk at *
  generalize mapE Chg.enc [emF 3] = w3 at *
  generalize mapE Bat.enc aw1.pend = p1 at *
  generalize mapE Bat.enc aw2.pend = p2 at *
  generalize mapE Bat.enc aw3.pend = p3 at *
  generalize mapE Bat.enc aw4.pend = p4 at *
  have hnn : (AV.isl 3 []).closed = true := rfl
  have hnp : (AV.isl 2 []).closed = true := rfl
  have q1 : AV.closedL p1 = true := q1
  have q2 : AV.closedL p2 = true := q2
  have q3 : AV.closedL p3 = true := q3
  have q4 : AV.closedL p4 = true := q4
  have c3 : AV.closedL kk = true := c3
  have hw3 : AV.closedL w3 = true := hw3
  refine words fun iLt iLe iEq iNe iAdd iSub iMul iQuo iRem iShr iNeg iCvt iMax iMin bNot bEq bNe bAnd bOr sEq sNe sLen sCat sCut sAt lenA lenN iOf natOf atA atN cutA partA dropA catA setA repA putA idxN addN subN minN lenCut hX e_iLt e_iLe e_iEq e_iNe e_iAdd e_iSub e_iMul e_iQuo e_iRem e_iShr e_iNeg e_iCvt e_iMax e_iMin e_bNot e_bEq e_bNe e_bAnd e_bOr e_sEq e_sNe e_sLen e_sCat e_sCut e_sAt e_lenA e_lenN e_iOf e_natOf e_atA e_atN e_cutA e_partA e_dropA e_catA e_setA e_repA e_putA e_idxN e_addN e_subN e_minN e_lenCut ee => ?_
  refine fn_body (fn := Try.f11) (n := 116) (ac := Tryc11) (rvs := [.t 0]) rfl (by decide) Tryp11 rfl rfl rfl ?_
  refine go rfl hX 0 (by conv => lhs; cbv) ?_ ?_
  · first | exact trivial | (simp only [Cd.ok, ee]; and_intros <;> first | omega | rfl | (simp <;> omega))
  refine on_pcall rfl rfl rfl r1 rfl ?_
  refine go rfl hX 0 (by conv => lhs; cbv) ?_ ?_
  · first | exact trivial | (simp only [Cd.ok, ee]; and_intros <;> first | omega | rfl | (simp <;> omega))
  refine on_pcall rfl rfl rfl r2 rfl ?_
  refine go rfl hX 0 (by conv => lhs; cbv) ?_ ?_
  · first | exact trivial | (simp only [Cd.ok, ee]; and_intros <;> first | omega | rfl | (simp <;> omega))
  refine on_pcall rfl rfl rfl r3 rfl ?_
  refine go rfl hX 0 (by conv => lhs; cbv) ?_ ?_
  · first | exact trivial | (simp only [Cd.ok, ee]; and_intros <;> first | omega | rfl | (simp <;> omega))
  refine on_pcall rfl rfl rfl r4 rfl ?_
  refine go rfl hX 0 (by conv => lhs; cbv) ?_ ?_
  · first | exact trivial | (simp only [Cd.ok, ee]; and_intros <;> first | omega | rfl | (simp <;> omega))
  have hE12 : AV.closedL [AV.agg [int 1, int 0, .isl 4 b1], .agg [int 1, int 0, .isl 4 b2]] = true := by simp [AV.closedL, AV.closed, hb1, hb2, hb3, hb4]
  have hE3 : AV.closedL [AV.agg [int 1, int 0, .isl 4 b3]] = true := by simp [AV.closedL, AV.closed, hb1, hb2, hb3, hb4]
  have hE4 : AV.closedL [AV.agg [int 1, int 0, .isl 4 b4]] = true := by simp [AV.closedL, AV.closed, hb1, hb2, hb3, hb4]
  have hE1 : AV.closedL [AV.agg [int 1, int 0, .isl 4 b1]] = true := by simp [AV.closedL, AV.closed, hb1, hb2, hb3, hb4]
  have hE124 : AV.closedL [AV.agg [int 1, int 0, .isl 4 b1], .agg [int 1, int 0, .isl 4 b2], .agg [int 1, int 0, .isl 4 b4]] = true := by simp [AV.closedL, AV.closed, hb1, hb2, hb3, hb4]
  refine trp_drawE [3, 4, 8, 9] [[3, 4, 8, 9], [3, 8, 4, 9], [8, 3, 4, 9]] [(6, int 0), (5, .ptr 4 0), (1, .ptr 0 0), (2, .ptr 1 0), (3, .ptr 2 0), (4, .ptr 3 0)] [.cells [int 1, int 0, .isl 4 b1], .cells [int 1, int 0, .isl 4 b2], .cells [int 1, int 0, .isl 4 b3], .cells [int 1, int 0, .isl 4 b4], .cells [int 0, .isl 3 [], .isl 2 p1]] rfl rfl rfl (by decide) rfl ?_ ⟨⟨[0, 1, 2, 3, 4, 5, 6, 7, 8, 9, 10], rfl, ?_⟩, ⟨[0, 1, 2, 3, 8, 4, 5, 6, 7, 9, 10], rfl, ?_⟩, ⟨[8, 0, 1, 2, 3, 4, 5, 6, 7, 9, 10], rfl, ?_⟩, trivial⟩
  rotate_left
  · refine tr_go hX (by conv => lhs; cbv) ?_ ?_
    · first | exact trivial | (simp only [Cd.ok, ee]; and_intros <;> first | omega | rfl | (simp <;> omega))
    refine tr_pcall rfl rfl rfl P20a rfl ?_
    refine tr_go hX (by conv => lhs; cbv) ?_ ?_
    · first | exact trivial | (simp only [Cd.ok, ee]; and_intros <;> first | omega | rfl | (simp <;> omega))
    refine tr_ecall (args := [.agg [int 0, .isl 3 [], .isl 2 []], int 1, .sl 4 3 0 2]) rfl rfl rfl enters22 (PCall.give (args' := [.agg [int 0, .isl 3 [], .isl 2 []], int 1, .isl 3 [.agg [int 1, int 0, .isl 4 b1], .agg [int 1, int 0, .isl 4 b2]]]) (H1 := [.cells [int 1, int 0, .isl 4 b1], .cells [int 1, int 0, .isl 4 b2], .cells [int 1, int 0, .isl 4 b3], .cells [int 1, int 0, .isl 4 b4], .dead]) [.to 0, .to 1, .to 2, .to 3, .isl 3 [.agg [int 1, int 0, .isl 4 b1], .agg [int 1, int 0, .isl 4 b2]]] rfl ⟨⟨by simp, rfl⟩, ⟨by simp, rfl⟩, ⟨by simp, rfl⟩, ⟨by simp, rfl⟩, ⟨_, rfl, (subL_closed _ hE12).symm⟩, trivial⟩ ⟨osrc_cells (b := 0) rfl rfl rfl ⟨.refl _, .refl _, .cl hb1, trivial⟩, osrc_cells (b := 1) rfl rfl rfl ⟨.refl _, .refl _, .cl hb2, trivial⟩, osrc_cells (b := 2) rfl rfl rfl ⟨.refl _, .refl _, .cl hb3, trivial⟩, osrc_cells (b := 3) rfl rfl rfl ⟨.refl _, .refl _, .cl hb4, trivial⟩, .dead, trivial⟩ rfl P22a (by simp [AV.closedL, AV.closed, hb1, hb2, hb3, hb4, q1, q2, q3, q4, c3, hw3])) ?_
    refine tr_go hX (by conv => lhs; cbv) ?_ ?_
    · first | exact trivial | (simp only [Cd.ok, ee]; and_intros <;> first | omega | rfl | (simp <;> omega))
    refine tr_nil ⟨by simp [effLab], ?_, ?_⟩
    · simp only [LooksP, lookAll, List.append, List.cons_append, List.nil_append, List.append_nil]; and_intros <;> first | trivial | (intro hp; first | rfl | exact absurd (show false = true from hp) Bool.false_ne_true)
    exact (ent_sub [.to 0, .to 1, .to 2, .to 3, .gone, .to 4] [some 0, some 1, some 2, some 3, some 5] ⟨⟨by simp, rfl⟩, ⟨by simp, rfl⟩, ⟨by simp, rfl⟩, ⟨by simp, rfl⟩, trivial, ⟨by simp, rfl⟩, trivial⟩
      ⟨osrc_cells (b := 0) rfl rfl rfl ⟨.refl _, .refl _, .cl hb1, trivial⟩, osrc_cells (b := 1) rfl rfl rfl ⟨.refl _, .refl _, .cl hb2, trivial⟩, osrc_cells (b := 2) rfl rfl rfl ⟨.refl _, .refl _, .cl hb3, trivial⟩, osrc_cells (b := 3) rfl rfl rfl ⟨.refl _, .refl _, .cl hb4, trivial⟩, osrc_cells (b := 5) rfl rfl rfl ⟨.refl _, .cl hnn, .cl q1, trivial⟩, trivial⟩
      ⟨.refl _, .refl _, .refl _, .refl _, .refl _, .refl _, trivial⟩)
  · refine tr_go hX (by conv => lhs; cbv) ?_ ?_
    · first | exact trivial | (simp only [Cd.ok, ee]; and_intros <;> first | omega | rfl | (simp <;> omega))
    refine tr_pcall rfl rfl rfl P20a rfl ?_
    refine tr_go hX (by conv => lhs; cbv) ?_ ?_
    · first | exact trivial | (simp only [Cd.ok, ee]; and_intros <;> first | omega | rfl | (simp <;> omega))
    refine tr_ecall (args := [.agg [int 0, .isl 3 [], .isl 2 []], int 1, .sl 4 3 0 2]) rfl rfl rfl enters22 (PCall.give (args' := [.agg [int 0, .isl 3 [], .isl 2 []], int 1, .isl 3 [.agg [int 1, int 0, .isl 4 b1], .agg [int 1, int 0, .isl 4 b2]]]) (H1 := [.cells [int 1, int 0, .isl 4 b1], .cells [int 1, int 0, .isl 4 b2], .cells [int 1, int 0, .isl 4 b3], .cells [int 1, int 0, .isl 4 b4], .dead, .cells [int 0, .val (.slice none 0 0), .val (.slice none 0 0)]]) [.to 0, .to 1, .to 2, .to 3, .isl 3 [.agg [int 1, int 0, .isl 4 b1], .agg [int 1, int 0, .isl 4 b2]], .to 5] rfl ⟨⟨by simp, rfl⟩, ⟨by simp, rfl⟩, ⟨by simp, rfl⟩, ⟨by simp, rfl⟩, ⟨_, rfl, (subL_closed _ hE12).symm⟩, ⟨by simp, rfl⟩, trivial⟩ ⟨osrc_cells (b := 0) rfl rfl rfl ⟨.refl _, .refl _, .cl hb1, trivial⟩, osrc_cells (b := 1) rfl rfl rfl ⟨.refl _, .refl _, .cl hb2, trivial⟩, osrc_cells (b := 2) rfl rfl rfl ⟨.refl _, .refl _, .cl hb3, trivial⟩, osrc_cells (b := 3) rfl rfl rfl ⟨.refl _, .refl _, .cl hb4, trivial⟩, .dead, osrc_cells (b := 5) rfl rfl rfl ⟨.refl _, .refl _, .refl _, trivial⟩, trivial⟩ rfl P22a (by simp [AV.closedL, AV.closed, hb1, hb2, hb3, hb4, q1, q2, q3, q4, c3, hw3])) ?_
    refine tr_go hX (by conv => lhs; cbv) ?_ ?_
    · first | exact trivial | (simp only [Cd.ok, ee]; and_intros <;> first | omega | rfl | (simp <;> omega))
    refine tr_nil ⟨by simp [effLab], ?_, ?_⟩
    · simp only [LooksP, lookAll, List.append, List.cons_append, List.nil_append, List.append_nil]; and_intros <;> first | trivial | (intro hp; first | rfl | exact absurd (show false = true from hp) Bool.false_ne_true)
    exact (ent_sub [.to 0, .to 1, .to 2, .to 3, .gone, .to 4] [some 0, some 1, some 2, some 3, some 5] ⟨⟨by simp, rfl⟩, ⟨by simp, rfl⟩, ⟨by simp, rfl⟩, ⟨by simp, rfl⟩, trivial, ⟨by simp, rfl⟩, trivial⟩
      ⟨osrc_cells (b := 0) rfl rfl rfl ⟨.refl _, .refl _, .cl hb1, trivial⟩, osrc_cells (b := 1) rfl rfl rfl ⟨.refl _, .refl _, .cl hb2, trivial⟩, osrc_cells (b := 2) rfl rfl rfl ⟨.refl _, .refl _, .cl hb3, trivial⟩, osrc_cells (b := 3) rfl rfl rfl ⟨.refl _, .refl _, .cl hb4, trivial⟩, osrc_cells (b := 5) rfl rfl rfl ⟨.refl _, .cl hnn, .cl q1, trivial⟩, trivial⟩
      ⟨.refl _, .refl _, .refl _, .refl _, .refl _, .refl _, trivial⟩)
  · refine tr_go hX (by conv => lhs; cbv) ?_ ?_
    · first | exact trivial | (simp only [Cd.ok, ee]; and_intros <;> first | omega | rfl | (simp <;> omega))
    refine tr_pcall rfl rfl rfl P20a rfl ?_
    refine tr_go hX (by conv => lhs; cbv) ?_ ?_
    · first | exact trivial | (simp only [Cd.ok, ee]; and_intros <;> first | omega | rfl | (simp <;> omega))
    refine tr_ecall (args := [.agg [int 0, .isl 3 [], .isl 2 []], int 1, .sl 5 3 0 2]) rfl rfl rfl enters22 (PCall.give (args' := [.agg [int 0, .isl 3 [], .isl 2 []], int 1, .isl 3 [.agg [int 1, int 0, .isl 4 b1], .agg [int 1, int 0, .isl 4 b2]]]) (H1 := [.cells [int 1, int 0, .isl 4 b1], .cells [int 1, int 0, .isl 4 b2], .cells [int 1, int 0, .isl 4 b3], .cells [int 1, int 0, .isl 4 b4], .cells [int 0, .val (.slice none 0 0), .val (.slice none 0 0)], .dead]) [.to 0, .to 1, .to 2, .to 3, .to 4, .isl 3 [.agg [int 1, int 0, .isl 4 b1], .agg [int 1, int 0, .isl 4 b2]]] rfl ⟨⟨by simp, rfl⟩, ⟨by simp, rfl⟩, ⟨by simp, rfl⟩, ⟨by simp, rfl⟩, ⟨by simp, rfl⟩, ⟨_, rfl, (subL_closed _ hE12).symm⟩, trivial⟩ ⟨osrc_cells (b := 0) rfl rfl rfl ⟨.refl _, .refl _, .cl hb1, trivial⟩, osrc_cells (b := 1) rfl rfl rfl ⟨.refl _, .refl _, .cl hb2, trivial⟩, osrc_cells (b := 2) rfl rfl rfl ⟨.refl _, .refl _, .cl hb3, trivial⟩, osrc_cells (b := 3) rfl rfl rfl ⟨.refl _, .refl _, .cl hb4, trivial⟩, osrc_cells (b := 4) rfl rfl rfl ⟨.refl _, .refl _, .refl _, trivial⟩, .dead, trivial⟩ rfl P22a (by simp [AV.closedL, AV.closed, hb1, hb2, hb3, hb4, q1, q2, q3, q4, c3, hw3])) ?_
    refine tr_go hX (by conv => lhs; cbv) ?_ ?_
    · first | exact trivial | (simp only [Cd.ok, ee]; and_intros <;> first | omega | rfl | (simp <;> omega))
    refine tr_nil ⟨by simp [effLab], ?_, ?_⟩
    · simp only [LooksP, lookAll, List.append, List.cons_append, List.nil_append, List.append_nil]; and_intros <;> first | trivial | (intro hp; first | rfl | exact absurd (show false = true from hp) Bool.false_ne_true)
    exact (ent_sub [.to 0, .to 1, .to 2, .to 3, .to 4, .gone] [some 0, some 1, some 2, some 3, some 4] ⟨⟨by simp, rfl⟩, ⟨by simp, rfl⟩, ⟨by simp, rfl⟩, ⟨by simp, rfl⟩, ⟨by simp, rfl⟩, trivial, trivial⟩
      ⟨osrc_cells (b := 0) rfl rfl rfl ⟨.refl _, .refl _, .cl hb1, trivial⟩, osrc_cells (b := 1) rfl rfl rfl ⟨.refl _, .refl _, .cl hb2, trivial⟩, osrc_cells (b := 2) rfl rfl rfl ⟨.refl _, .refl _, .cl hb3, trivial⟩, osrc_cells (b := 3) rfl rfl rfl ⟨.refl _, .refl _, .cl hb4, trivial⟩, osrc_cells (b := 4) rfl rfl rfl ⟨.refl _, .cl hnn, .cl q1, trivial⟩, trivial⟩
      ⟨.refl _, .refl _, .refl _, .refl _, .refl _, .refl _, trivial⟩)
  have fa0 : iAdd .i64 0 0 = 0 := by simp [ee, l5]; try decide
  have fn0 : iNe 0 0 = false := by simp [ee, l5]; try decide
  have fn2 : iNe 2 2 = false := by simp [ee, l5]; try decide
  have fbt : bNot true = false := by simp [ee, l5]; try decide
  have fe29 : iEq 29 29 = true := by simp [ee, l5]; try decide
  have fe0 : iEq 0 0 = true := by simp [ee, l5]; try decide
  have fl0 : iEq (lenA []) 0 = true := by simp [ee, l5]; try decide
  have fl3 : iEq (lenA kk) 3 = true := by simp [ee, l5]; try decide
  have fba : bAnd true true = true := by simp [ee, l5]; try decide
  refine go rfl hX 0 (by conv => lhs; cbv) ?_ ?_
  · first | exact trivial | (simp only [Cd.ok, ee]; and_intros <;> first | omega | rfl | (simp <;> omega))
  refine on_entO (F' := [(25, .agg [int 0, .isl 3 [], .isl 2 p1]), (27, .isl 3 [.agg [int 1, int 0, .isl 4 b3]]), (6, int 0), (5, .ptr 4 0), (1, .ptr 0 0), (2, .ptr 1 0), (3, .ptr 2 0), (4, .ptr 3 0)]) (H' := [.cells [int 1, int 0, .isl 4 b1], .cells [int 1, int 0, .isl 4 b2], .cells [int 1, int 0, .isl 4 b3], .cells [int 1, int 0, .isl 4 b4], .cells [int 0, .isl 3 [], .isl 2 p1]]) (ent_sub [.to 0, .to 1, .to 2, .to 3, .to 4, .isl 3 [.agg [int 1, int 0, .isl 4 b3]]] [some 0, some 1, some 2, some 3, some 4] ⟨⟨by simp, rfl⟩, ⟨by simp, rfl⟩, ⟨by simp, rfl⟩, ⟨by simp, rfl⟩, ⟨by simp, rfl⟩, ⟨_, rfl, (subL_closed _ hE3).symm⟩, trivial⟩
      ⟨osrc_cells (b := 0) rfl rfl rfl ⟨.refl _, .refl _, .cl hb1, trivial⟩, osrc_cells (b := 1) rfl rfl rfl ⟨.refl _, .refl _, .cl hb2, trivial⟩, osrc_cells (b := 2) rfl rfl rfl ⟨.refl _, .refl _, .cl hb3, trivial⟩, osrc_cells (b := 3) rfl rfl rfl ⟨.refl _, .refl _, .cl hb4, trivial⟩, osrc_cells (b := 4) rfl rfl rfl ⟨.refl _, .cl hnn, .cl q1, trivial⟩, trivial⟩
      ⟨.cl (v := .agg [int 0, .isl 3 [], .isl 2 p1]) (by simp [AV.closedL, AV.closed, hb1, hb2, hb3, hb4, q1, q2, q3, q4, c3, hw3]), .of (sub_whole rfl rfl), .refl _, .refl _, .refl _, .refl _, .refl _, .refl _, trivial⟩) ?_
  refine on_pcall (args := [.agg [int 0, .isl 3 [], .isl 2 p1], int 3, .isl 3 [.agg [int 1, int 0, .isl 4 b3]]]) rfl rfl rfl P22b (by simp [AV.closedL, AV.closed, hb1, hb2, hb3, hb4, q1, q2, q3, q4, c3, hw3]) ?_
  refine go rfl hX 0 (by conv => lhs; cbv) ?_ ?_
  · first | exact trivial | (simp only [Cd.ok, ee]; and_intros <;> first | omega | rfl | (simp <;> omega))
  refine on_entO (F' := [(32, .agg [int 0, .isl 3 [], .isl 2 p2]), (34, .isl 3 [.agg [int 1, int 0, .isl 4 b4]]), (7, int 0), (6, int 0), (5, .ptr 4 0), (1, .ptr 0 0), (2, .ptr 1 0), (3, .ptr 2 0), (4, .ptr 3 0)]) (H' := [.cells [int 1, int 0, .isl 4 b1], .cells [int 1, int 0, .isl 4 b2], .cells [int 1, int 0, .isl 4 b3], .cells [int 1, int 0, .isl 4 b4], .cells [int 0, .isl 3 [], .isl 2 p2]]) (ent_sub [.to 0, .to 1, .to 2, .to 3, .to 4, .isl 3 [.agg [int 1, int 0, .isl 4 b4]]] [some 0, some 1, some 2, some 3, some 4] ⟨⟨by simp, rfl⟩, ⟨by simp, rfl⟩, ⟨by simp, rfl⟩, ⟨by simp, rfl⟩, ⟨by simp, rfl⟩, ⟨_, rfl, (subL_closed _ hE4).symm⟩, trivial⟩
      ⟨osrc_cells (b := 0) rfl rfl rfl ⟨.refl _, .refl _, .cl hb1, trivial⟩, osrc_cells (b := 1) rfl rfl rfl ⟨.refl _, .refl _, .cl hb2, trivial⟩, osrc_cells (b := 2) rfl rfl rfl ⟨.refl _, .refl _, .cl hb3, trivial⟩, osrc_cells (b := 3) rfl rfl rfl ⟨.refl _, .refl _, .cl hb4, trivial⟩, osrc_cells (b := 4) rfl rfl rfl ⟨.refl _, .cl hnn, .cl q2, trivial⟩, trivial⟩
      ⟨.cl (v := .agg [int 0, .isl 3 [], .isl 2 p2]) (by simp [AV.closedL, AV.closed, hb1, hb2, hb3, hb4, q1, q2, q3, q4, c3, hw3]), .of (sub_whole rfl rfl), .refl _, .refl _, .refl _, .refl _, .refl _, .refl _, .refl _, trivial⟩) ?_
  refine on_pcall (args := [.agg [int 0, .isl 3 [], .isl 2 p2], int 1, .isl 3 [.agg [int 1, int 0, .isl 4 b4]]]) rfl rfl rfl P22c (by simp [AV.closedL, AV.closed, hb1, hb2, hb3, hb4, q1, q2, q3, q4, c3, hw3]) ?_
  refine go rfl hX 0 (by conv => lhs; cbv) ?_ ?_
  · first | exact trivial | (simp only [Cd.ok, ee]; and_intros <;> first | omega | rfl | (simp <;> omega))
  refine on_pcall (args := [.agg [int 0, .isl 3 [], .isl 2 p3], int 2]) rfl rfl rfl P24a (by simp [AV.closedL, AV.closed, hb1, hb2, hb3, hb4, q1, q2, q3, q4, c3, hw3]) ?_
  refine go rfl hX 0 (by conv => lhs; cbv) ?_ ?_
  · first | exact trivial | (simp only [Cd.ok, ee]; and_intros <;> first | omega | rfl | (simp <;> omega))
  refine tr_drawB rfl (by conv => lhs; cbv) rfl ?_
  refine tr_go hX (by conv => lhs; cbv; simp only [fa0,fn0,fn2,fbt,fe29,fe0,fl0,fl3,fba,fa0,fn0,fn2,fbt,fe29,fe0,fl0,fl3,fba]; cbv; simp only [fa0,fn0,fn2,fbt,fe29,fe0,fl0,fl3,fba,fa0,fn0,fn2,fbt,fe29,fe0,fl0,fl3,fba]; cbv) ?_ ?_
  · first | exact trivial | (simp only [Cd.ok, ee]; and_intros <;> first | omega | rfl | (simp <;> omega))
  refine tr_ung rfl ?_
  refine tr_go hX (by conv => lhs; cbv; simp only [fa0,fn0,fn2,fbt,fe29,fe0,fl0,fl3,fba,fa0,fn0,fn2,fbt,fe29,fe0,fl0,fl3,fba]; cbv; simp only [fa0,fn0,fn2,fbt,fe29,fe0,fl0,fl3,fba,fa0,fn0,fn2,fbt,fe29,fe0,fl0,fl3,fba]; cbv) ?_ ?_
  · first | exact trivial | (simp only [Cd.ok, ee]; and_intros <;> first | omega | rfl | (simp <;> omega))
  refine tr_ung rfl ?_
  refine tr_go hX (by conv => lhs; cbv; simp only [fa0,fn0,fn2,fbt,fe29,fe0,fl0,fl3,fba,fa0,fn0,fn2,fbt,fe29,fe0,fl0,fl3,fba]; cbv; simp only [fa0,fn0,fn2,fbt,fe29,fe0,fl0,fl3,fba,fa0,fn0,fn2,fbt,fe29,fe0,fl0,fl3,fba]; cbv) ?_ ?_
  · first | exact trivial | (simp only [Cd.ok, ee]; and_intros <;> first | omega | rfl | (simp <;> omega))
  refine tr_ung rfl ?_
  refine tr_go hX (by conv => lhs; cbv; simp only [fa0,fn0,fn2,fbt,fe29,fe0,fl0,fl3,fba,fa0,fn0,fn2,fbt,fe29,fe0,fl0,fl3,fba]; cbv; simp only [fa0,fn0,fn2,fbt,fe29,fe0,fl0,fl3,fba,fa0,fn0,fn2,fbt,fe29,fe0,fl0,fl3,fba]; cbv) ?_ ?_
  · first | exact trivial | (simp only [Cd.ok, ee]; and_intros <;> first | omega | rfl | (simp <;> omega))
  refine tr_ung rfl ?_
  refine tr_go hX (by conv => lhs; cbv; simp only [fa0,fn0,fn2,fbt,fe29,fe0,fl0,fl3,fba,fa0,fn0,fn2,fbt,fe29,fe0,fl0,fl3,fba]; cbv; simp only [fa0,fn0,fn2,fbt,fe29,fe0,fl0,fl3,fba,fa0,fn0,fn2,fbt,fe29,fe0,fl0,fl3,fba]; cbv) ?_ ?_
  · first | exact trivial | (simp only [Cd.ok, ee]; and_intros <;> first | omega | rfl | (simp <;> omega))
  refine tr_ung rfl ?_
  refine tr_go hX (by conv => lhs; cbv; simp only [fa0,fn0,fn2,fbt,fe29,fe0,fl0,fl3,fba,fa0,fn0,fn2,fbt,fe29,fe0,fl0,fl3,fba]; cbv; simp only [fa0,fn0,fn2,fbt,fe29,fe0,fl0,fl3,fba,fa0,fn0,fn2,fbt,fe29,fe0,fl0,fl3,fba]; cbv) ?_ ?_
  · first | exact trivial | (simp only [Cd.ok, ee]; and_intros <;> first | omega | rfl | (simp <;> omega))
  refine tr_ung rfl ?_
  refine tr_go hX (by conv => lhs; cbv; simp only [fa0,fn0,fn2,fbt,fe29,fe0,fl0,fl3,fba,fa0,fn0,fn2,fbt,fe29,fe0,fl0,fl3,fba]; cbv; simp only [fa0,fn0,fn2,fbt,fe29,fe0,fl0,fl3,fba,fa0,fn0,fn2,fbt,fe29,fe0,fl0,fl3,fba]; cbv) ?_ ?_
  · first | exact trivial | (simp only [Cd.ok, ee]; and_intros <;> first | omega | rfl | (simp <;> omega))
  refine tr_ung rfl ?_
  refine tr_go hX (by conv => lhs; cbv; simp only [fa0,fn0,fn2,fbt,fe29,fe0,fl0,fl3,fba,fa0,fn0,fn2,fbt,fe29,fe0,fl0,fl3,fba]; cbv; simp only [fa0,fn0,fn2,fbt,fe29,fe0,fl0,fl3,fba,fa0,fn0,fn2,fbt,fe29,fe0,fl0,fl3,fba]; cbv) ?_ ?_
  · first | exact trivial | (simp only [Cd.ok, ee]; and_intros <;> first | omega | rfl | (simp <;> omega))
  refine tr_ung rfl ?_
  refine tr_go hX (by conv => lhs; cbv; simp only [fa0,fn0,fn2,fbt,fe29,fe0,fl0,fl3,fba,fa0,fn0,fn2,fbt,fe29,fe0,fl0,fl3,fba]; cbv; simp only [fa0,fn0,fn2,fbt,fe29,fe0,fl0,fl3,fba,fa0,fn0,fn2,fbt,fe29,fe0,fl0,fl3,fba]; cbv) ?_ ?_
  · first | exact trivial | (simp only [Cd.ok, ee]; and_intros <;> first | omega | rfl | (simp <;> omega))
  refine tr_ung rfl ?_
  refine tr_go hX (by conv => lhs; cbv; simp only [fa0,fn0,fn2,fbt,fe29,fe0,fl0,fl3,fba,fa0,fn0,fn2,fbt,fe29,fe0,fl0,fl3,fba]; cbv; simp only [fa0,fn0,fn2,fbt,fe29,fe0,fl0,fl3,fba,fa0,fn0,fn2,fbt,fe29,fe0,fl0,fl3,fba]; cbv) ?_ ?_
  · first | exact trivial | (simp only [Cd.ok, ee]; and_intros <;> first | omega | rfl | (simp <;> omega))
  refine tr_ung rfl ?_
  refine tr_ecall (args := [.isl 3 kk, .sl 5 3 0 3]) rfl rfl rfl enters14 (PCall.give (args' := [.isl 3 kk, .isl 3 [.agg [int 1, int 0, .isl 4 b1], .agg [int 1, int 0, .isl 4 b2], .agg [int 1, int 0, .isl 4 b4]]]) (H1 := [.cells [int 1, int 0, .isl 4 b1], .cells [int 1, int 0, .isl 4 b2], .cells [int 1, int 0, .isl 4 b3], .cells [int 1, int 0, .isl 4 b4], .cells [int 2, .isl 3 kk, .isl 2 p4], .dead]) [.to 0, .to 1, .to 2, .to 3, .to 4, .isl 3 [.agg [int 1, int 0, .isl 4 b1], .agg [int 1, int 0, .isl 4 b2], .agg [int 1, int 0, .isl 4 b4]]] rfl ⟨⟨by simp, rfl⟩, ⟨by simp, rfl⟩, ⟨by simp, rfl⟩, ⟨by simp, rfl⟩, ⟨by simp, rfl⟩, ⟨_, rfl, (subL_closed _ hE124).symm⟩, trivial⟩ ⟨osrc_cells (b := 0) rfl rfl rfl ⟨.refl _, .refl _, .cl hb1, trivial⟩, osrc_cells (b := 1) rfl rfl rfl ⟨.refl _, .refl _, .cl hb2, trivial⟩, osrc_cells (b := 2) rfl rfl rfl ⟨.refl _, .refl _, .cl hb3, trivial⟩, osrc_cells (b := 3) rfl rfl rfl ⟨.refl _, .refl _, .cl hb4, trivial⟩, osrc_cells (b := 4) rfl rfl rfl ⟨.refl _, .cl c3, .cl q4, trivial⟩, .dead, trivial⟩ (by show [AV.isl 3 (AV.subL _ kk), _] = _; rw [subL_closed _ c3]; rfl) P14a (by simp [AV.closedL, AV.closed, hb1, hb2, hb3, hb4, q1, q2, q3, q4, c3, hw3])) ?_
  refine tr_ung rfl ?_
  refine tr_go hX (by conv => lhs; cbv; simp only [fa0,fn0,fn2,fbt,fe29,fe0,fl0,fl3,fba,fa0,fn0,fn2,fbt,fe29,fe0,fl0,fl3,fba]; cbv; simp only [fa0,fn0,fn2,fbt,fe29,fe0,fl0,fl3,fba,fa0,fn0,fn2,fbt,fe29,fe0,fl0,fl3,fba]; cbv) ?_ ?_
  · first | exact trivial | (simp only [Cd.ok, ee]; and_intros <;> first | omega | rfl | (simp <;> omega))
  refine tr_ung rfl ?_
  refine tr_go hX (by conv => lhs; cbv; simp only [fa0,fn0,fn2,fbt,fe29,fe0,fl0,fl3,fba,fa0,fn0,fn2,fbt,fe29,fe0,fl0,fl3,fba]; cbv; simp only [fa0,fn0,fn2,fbt,fe29,fe0,fl0,fl3,fba,fa0,fn0,fn2,fbt,fe29,fe0,fl0,fl3,fba]; cbv) ?_ ?_
  · first | exact trivial | (simp only [Cd.ok, ee]; and_intros <;> first | omega | rfl | (simp <;> omega))
  refine tr_ung rfl ?_
  refine tr_pcall (args := [.agg [int 2, .isl 3 kk, .isl 2 p4]]) rfl rfl rfl P15a (by simp [AV.closedL, AV.closed, hb1, hb2, hb3, hb4, q1, q2, q3, q4, c3, hw3]) ?_
  refine tr_ung rfl ?_
  refine tr_go hX (by conv => lhs; cbv; simp only [fa0,fn0,fn2,fbt,fe29,fe0,fl0,fl3,fba,fa0,fn0,fn2,fbt,fe29,fe0,fl0,fl3,fba]; cbv; simp only [fa0,fn0,fn2,fbt,fe29,fe0,fl0,fl3,fba,fa0,fn0,fn2,fbt,fe29,fe0,fl0,fl3,fba]; cbv) ?_ ?_
  · first | exact trivial | (simp only [Cd.ok, ee]; and_intros <;> first | omega | rfl | (simp <;> omega))
  refine tr_ung rfl ?_
  refine tr_go hX (by conv => lhs; cbv; simp only [fa0,fn0,fn2,fbt,fe29,fe0,fl0,fl3,fba,fa0,fn0,fn2,fbt,fe29,fe0,fl0,fl3,fba]; cbv; simp only [fa0,fn0,fn2,fbt,fe29,fe0,fl0,fl3,fba,fa0,fn0,fn2,fbt,fe29,fe0,fl0,fl3,fba]; cbv) ?_ ?_
  · first | exact trivial | (simp only [Cd.ok, ee]; and_intros <;> first | omega | rfl | (simp <;> omega))
  refine tr_ung rfl ?_
  refine tr_ecall (args := [.isl 3 w3, .sl 6 3 0 1]) rfl rfl rfl enters14 (PCall.give (args' := [.isl 3 w3, .isl 3 [.agg [int 1, int 0, .isl 4 b3]]]) (H1 := [.cells [int 1, int 0, .isl 4 b1], .cells [int 1, int 0, .isl 4 b2], .cells [int 1, int 0, .isl 4 b3], .cells [int 1, int 0, .isl 4 b4], .cells [int 2, .isl 3 kk, .isl 2 p4], .dead, .dead]) [.to 0, .to 1, .to 2, .to 3, .to 4, .gone, .isl 3 [.agg [int 1, int 0, .isl 4 b3]]] rfl ⟨⟨by simp, rfl⟩, ⟨by simp, rfl⟩, ⟨by simp, rfl⟩, ⟨by simp, rfl⟩, ⟨by simp, rfl⟩, trivial, ⟨_, rfl, (subL_closed _ hE3).symm⟩, trivial⟩ ⟨osrc_cells (b := 0) rfl rfl rfl ⟨.refl _, .refl _, .cl hb1, trivial⟩, osrc_cells (b := 1) rfl rfl rfl ⟨.refl _, .refl _, .cl hb2, trivial⟩, osrc_cells (b := 2) rfl rfl rfl ⟨.refl _, .refl _, .cl hb3, trivial⟩, osrc_cells (b := 3) rfl rfl rfl ⟨.refl _, .refl _, .cl hb4, trivial⟩, osrc_cells (b := 4) rfl rfl rfl ⟨.refl _, .cl c3, .cl q4, trivial⟩, .dead, .dead, trivial⟩ (by show [AV.isl 3 (AV.subL _ w3), _] = _; rw [subL_closed _ hw3]; rfl) P14b (by simp [AV.closedL, AV.closed, hb1, hb2, hb3, hb4, q1, q2, q3, q4, c3, hw3])) ?_
  refine tr_ung rfl ?_
  refine tr_go hX (by conv => lhs; cbv; simp only [fa0,fn0,fn2,fbt,fe29,fe0,fl0,fl3,fba,fa0,fn0,fn2,fbt,fe29,fe0,fl0,fl3,fba]; cbv; simp only [fa0,fn0,fn2,fbt,fe29,fe0,fl0,fl3,fba,fa0,fn0,fn2,fbt,fe29,fe0,fl0,fl3,fba]; cbv) ?_ ?_
  · first | exact trivial | (simp only [Cd.ok, ee]; and_intros <;> first | omega | rfl | (simp <;> omega))
  refine tr_nil ⟨rfl, ?_, ?_⟩
  · simp only [LooksL, lookAll, List.append, List.cons_append, List.nil_append, List.append_nil]; and_intros <;> first | trivial | (intro hp; first | rfl | exact absurd (show false = true from hp) Bool.false_ne_true)
  refine go rfl hX 1 (by conv => lhs; cbv) ?_ ?_
  · first | exact trivial | (simp only [Cd.ok, ee]; and_intros <;> first | omega | rfl | (simp <;> omega))
  refine on_entO (F' := [(75, .agg [int 2, .isl 3 kk, .isl 2 p4]), (77, .isl 3 [.agg [int 1, int 0, .isl 4 b1]]), (6, int 0), (5, .ptr 4 0), (1, .ptr 0 0), (2, .ptr 1 0), (3, .ptr 2 0), (4, .ptr 3 0)]) (H' := [.cells [int 1, int 0, .isl 4 b1], .cells [int 1, int 0, .isl 4 b2], .cells [int 1, int 0, .isl 4 b3], .cells [int 1, int 0, .isl 4 b4], .cells [int 2, .isl 3 kk, .isl 2 p4]]) (ent_sub [.to 0, .to 1, .to 2, .to 3, .to 4, .gone, .gone, .isl 3 [.agg [int 1, int 0, .isl 4 b1]]] [some 0, some 1, some 2, some 3, some 4] ⟨⟨by simp, rfl⟩, ⟨by simp, rfl⟩, ⟨by simp, rfl⟩, ⟨by simp, rfl⟩, ⟨by simp, rfl⟩, trivial, trivial, ⟨_, rfl, (subL_closed _ hE1).symm⟩, trivial⟩
      ⟨osrc_cells (b := 0) rfl rfl rfl ⟨.refl _, .refl _, .cl hb1, trivial⟩, osrc_cells (b := 1) rfl rfl rfl ⟨.refl _, .refl _, .cl hb2, trivial⟩, osrc_cells (b := 2) rfl rfl rfl ⟨.refl _, .refl _, .cl hb3, trivial⟩, osrc_cells (b := 3) rfl rfl rfl ⟨.refl _, .refl _, .cl hb4, trivial⟩, osrc_cells (b := 4) rfl rfl rfl ⟨.refl _, .cl c3, .cl q4, trivial⟩, trivial⟩
      ⟨.cl (v := .agg [int 2, .isl 3 kk, .isl 2 p4]) (by simp [AV.closedL, AV.closed, hb1, hb2, hb3, hb4, q1, q2, q3, q4, c3, hw3]), .of (sub_whole rfl rfl), .refl _, .refl _, .refl _, .refl _, .refl _, .refl _, trivial⟩) ?_
  refine on_pcall (args := [.agg [int 2, .isl 3 kk, .isl 2 p4], int 2, .isl 3 [.agg [int 1, int 0, .isl 4 b1]]]) rfl rfl rfl P22d (by simp [AV.closedL, AV.closed, hb1, hb2, hb3, hb4, q1, q2, q3, q4, c3, hw3]) ?_
  refine go rfl hX 0 (by conv => lhs; cbv) ?_ ?_
  · first | exact trivial | (simp only [Cd.ok, ee]; and_intros <;> first | omega | rfl | (simp <;> omega))
  refine on_pcall (args := [.agg [int 2, .isl 3 kk, .isl 2 p4], int 2]) rfl rfl rfl P26a (by simp [AV.closedL, AV.closed, hb1, hb2, hb3, hb4, q1, q2, q3, q4, c3, hw3]) ?_
  refine go rfl hX 0 (by conv => lhs; cbv) ?_ ?_
  · first | exact trivial | (simp only [Cd.ok, ee]; and_intros <;> first | omega | rfl | (simp <;> omega))
  refine on_pcall (args := [.agg [int 2, .isl 3 kk, .isl 2 []], int 1]) rfl rfl rfl P24b (by simp [AV.closedL, AV.closed, hb1, hb2, hb3, hb4, q1, q2, q3, q4, c3, hw3]) ?_
  refine go rfl hX 0 (by conv => lhs; cbv; simp only [fa0,fn0,fn2,fbt,fe29,fe0,fl0,fl3,fba,fa0,fn0,fn2,fbt,fe29,fe0,fl0,fl3,fba]; cbv; simp only [fa0,fn0,fn2,fbt,fe29,fe0,fl0,fl3,fba,fa0,fn0,fn2,fbt,fe29,fe0,fl0,fl3,fba]; cbv) ?_ ?_
  · first | exact trivial | (simp only [Cd.ok, ee]; and_intros <;> first | omega | rfl | (simp <;> omega))
  refine go rfl hX 1 (by conv => lhs; cbv; simp only [fa0,fn0,fn2,fbt,fe29,fe0,fl0,fl3,fba,fa0,fn0,fn2,fbt,fe29,fe0,fl0,fl3,fba]; cbv; simp only [fa0,fn0,fn2,fbt,fe29,fe0,fl0,fl3,fba,fa0,fn0,fn2,fbt,fe29,fe0,fl0,fl3,fba]; cbv) ?_ ?_
  · first | exact trivial | (simp only [Cd.ok, ee]; and_intros <;> first | omega | rfl | (simp <;> omega))
  refine on_gpcall (args := [.agg [int 2, .isl 3 kk, .isl 2 []]]) rfl rfl rfl rfl P15b (by simp [AV.closedL, AV.closed, hb1, hb2, hb3, hb4, q1, q2, q3, q4, c3, hw3]) ?_
  refine go rfl hX 0 (by conv => lhs; cbv; simp only [fa0,fn0,fn2,fbt,fe29,fe0,fl0,fl3,fba,fa0,fn0,fn2,fbt,fe29,fe0,fl0,fl3,fba]; cbv; simp only [fa0,fn0,fn2,fbt,fe29,fe0,fl0,fl3,fba,fa0,fn0,fn2,fbt,fe29,fe0,fl0,fl3,fba]; cbv) ?_ ?_
  · first | exact trivial | (simp only [Cd.ok, ee]; and_intros <;> first | omega | rfl | (simp <;> omega))
  refine go rfl hX 1 (by conv => lhs; cbv; simp only [fa0,fn0,fn2,fbt,fe29,fe0,fl0,fl3,fba,fa0,fn0,fn2,fbt,fe29,fe0,fl0,fl3,fba]; cbv; simp only [fa0,fn0,fn2,fbt,fe29,fe0,fl0,fl3,fba,fa0,fn0,fn2,fbt,fe29,fe0,fl0,fl3,fba]; cbv) ?_ ?_
  · first | exact trivial | (simp only [Cd.ok, ee]; and_intros <;> first | omega | rfl | (simp <;> omega))
  refine on_gpcall (args := [.agg [int 2, .isl 3 kk, .isl 2 []]]) rfl rfl rfl rfl P17a (by simp [AV.closedL, AV.closed, hb1, hb2, hb3, hb4, q1, q2, q3, q4, c3, hw3]) ?_
  refine go rfl hX 0 (by conv => lhs; cbv; simp only [fa0,fn0,fn2,fbt,fe29,fe0,fl0,fl3,fba,fa0,fn0,fn2,fbt,fe29,fe0,fl0,fl3,fba]; cbv; simp only [fa0,fn0,fn2,fbt,fe29,fe0,fl0,fl3,fba,fa0,fn0,fn2,fbt,fe29,fe0,fl0,fl3,fba]; cbv) ?_ ?_
  · first | exact trivial | (simp only [Cd.ok, ee]; and_intros <;> first | omega | rfl | (simp <;> omega))
  refine go rfl hX 2 (by conv => lhs; cbv; simp only [fa0,fn0,fn2,fbt,fe29,fe0,fl0,fl3,fba,fa0,fn0,fn2,fbt,fe29,fe0,fl0,fl3,fba]; cbv; simp only [fa0,fn0,fn2,fbt,fe29,fe0,fl0,fl3,fba,fa0,fn0,fn2,fbt,fe29,fe0,fl0,fl3,fba]; cbv) ?_ ?_
  · first | exact trivial | (simp only [Cd.ok, ee]; and_intros <;> first | omega | rfl | (simp <;> omega))
  refine on_gpcall (args := [.agg [int 2, .isl 3 kk, .isl 2 []], .agg [int 2, .isl 3 kk, .isl 2 []]]) rfl rfl rfl rfl P19a (by simp [AV.closedL, AV.closed, hb1, hb2, hb3, hb4, q1, q2, q3, q4, c3, hw3]) ?_
  refine go rfl hX 0 (by conv => lhs; cbv; simp only [fa0,fn0,fn2,fbt,fe29,fe0,fl0,fl3,fba,fa0,fn0,fn2,fbt,fe29,fe0,fl0,fl3,fba]; cbv; simp only [fa0,fn0,fn2,fbt,fe29,fe0,fl0,fl3,fba,fa0,fn0,fn2,fbt,fe29,fe0,fl0,fl3,fba]; cbv) ?_ ?_
  · first | exact trivial | (simp only [Cd.ok, ee]; and_intros <;> first | omega | rfl | (simp <;> omega))
  exact fn_ret rfl rfl (.val rfl)
end Go.Am
end
section
set_option linter.unusedVariables false
set_option linter.unusedSimpArgs false
set_option maxRecDepth 20000
namespace Go.Am
open Go.Proofs

theorem few_count {s : Snk} (h : fewS s = true) : countF s < 500000000000 := by
  simp only [fewS, Bool.and_eq_true, Bool.or_eq_true, decide_eq_true_eq] at h
  obtain ⟨h1, h2, h3⟩ := h
  have hc : s.com.length ≤ 4098 := by
    rcases h3 with h3 | h3
    · simp only [fewC, Bool.and_eq_true, decide_eq_true_eq] at h3; omega
    · omega
  have hb : ∀ b ∈ s.pend, b.cs.length ≤ 30 := fun b hb => by
    have := h1 b (by rw [List.take_of_length_le h2]; exact hb)
    simp only [fewC, Bool.and_eq_true, decide_eq_true_eq] at this; omega
  have hs : ∀ l : List Bat, (∀ b ∈ l, b.cs.length ≤ 30) → sumL l ≤ 30 * l.length := by
    intro l
    induction l with
    | nil => intro _; simp [sumL]
    | cons b l ih =>
      intro h
      have h1 := h b (by simp)
      have h2 := ih fun b hb => h b (by simp [hb])
      simp only [sumL, List.length_cons]; omega
  have := hs s.pend hb
  unfold countF; omega

theorem addF_fine {s : Snk} {e : Int} {cs : List Chg} (hf : s.Fine) (hfc : Fine cs) (hcs : cs.length < 100000000000) : (addF s e cs).1.Fine := by
  unfold addF
  split
  · exact fine0
  rename_i h1
  have hok := check_ok (Decidable.not_not.1 h1)
  split
  · exact fine0
  split
  · exact fine0
  split
  · exact hf
  split
  · exact fine0
  split
  · exact fine0
  · refine fine_with hf hfc hok.2.2.1 (fun b hb => ?_) hcs
    have h6 := hok.2.2.2.2.2
    obtain ⟨d, r, hd⟩ := List.append_of_mem hb
    unfold countF at h6
    rw [hd, sumL_append] at h6
    simp [sumL] at h6
    omega

set_option maxHeartbeats 1000000 in
theorem P4 (s : Snk) (e : Int) (cs : List Chg) (hf : s.Fine) (hfc : Fine cs) : PCall EE 4 [s.enc, int e, .isl 3 (mapE Chg.enc cs)] (.val (.bool true)) := by
  have P10c := P10 s hf
  have P21c := P21 cs hfc.1
  have hfew := fun h => few_count (s := s) h
  have P11c := P11
  have hcl2 : fewC cs = true → cs.length < 100000000000 := fun h => by
    simp only [fewC, Bool.and_eq_true, decide_eq_true_eq] at h; omega
  have P22c := fun (h : fewS s = true) (h2 : fewC cs = true) => P22 s e cs hf hfc (hfew h) (hcl2 h2)
  have P23c := fun (h : fewS s = true) (h2 : fewC cs = true) => P23 s e cs hf (by have := hfew h; omega) (hcl2 h2)
  have hcl := Snk.closed s
  have hcc := closedC cs
  have P19c := fun (h2 : fewC cs = true) => P19 (addF s e cs).1 (addF s e cs).1 (addF_fine hf hfc (hcl2 h2))
  rw [decide_eq_true rfl] at P19c
  have hcr := Snk.closed (addF s e cs).1
  generalize fewS s = fs at P10c P22c P23c
  generalize fewC cs = fc at P21c P22c P23c P19c
  generalize hr : addF s e cs = r at P22c P23c P19c hcr
  clear hr
  have hse : s.enc = .agg [int s.epoch, .isl 3 (mapE Chg.enc s.com), .isl 2 (mapE Bat.enc s.pend)] := rfl
  have hre : r.1.enc = .agg [int r.1.epoch, .isl 3 (mapE Chg.enc r.1.com), .isl 2 (mapE Bat.enc r.1.pend)] := rfl
  rw [hse] at P10c P22c P23c hcl ⊢
  rw [hre] at P22c P23c P19c hcr
  clear hse hre hcl2 hfew
  generalize mapE Chg.enc s.com = ec at *
  generalize mapE Bat.enc s.pend = ep at *
  generalize mapE Chg.enc r.1.com = rc at *
  generalize mapE Bat.enc r.1.pend = rp at *
  generalize mapE Chg.enc cs = ecs at *
  generalize s.epoch = se at *
  generalize r.1.epoch = re at *
  generalize r.2 = rk at *
  refine words fun iLt iLe iEq iNe iAdd iSub iMul iQuo iRem iShr iNeg iCvt iMax iMin bNot bEq bNe bAnd bOr sEq sNe sLen sCat sCut sAt lenA lenN iOf natOf atA atN cutA partA dropA catA setA repA putA idxN addN subN minN lenCut hX e_iLt e_iLe e_iEq e_iNe e_iAdd e_iSub e_iMul e_iQuo e_iRem e_iShr e_iNeg e_iCvt e_iMax e_iMin e_bNot e_bEq e_bNe e_bAnd e_bOr e_sEq e_sNe e_sLen e_sCat e_sCut e_sAt e_lenA e_lenN e_iOf e_natOf e_atA e_atN e_cutA e_partA e_dropA e_catA e_setA e_repA e_putA e_idxN e_addN e_subN e_minN e_lenCut ee => ?_
  refine fn_body (fn := Try.f4) (n := 45) (ac := Tryc4) (rvs := [.t 6]) rfl (by decide) Tryp4 rfl rfl rfl ?_
  refine go rfl hX 0 (by conv => lhs; cbv) ?_ ?_
  · first | exact trivial | (simp only [Cd.ok, ee]; and_intros <;> first | omega | rfl | (simp <;> omega))
  refine on_pcall rfl rfl rfl P10c (closed1 hcl) ?_
  have hnt : bNot true = false := by simp [ee]
  have hnf : bNot false = true := by simp [ee]
  have hof : bOr false true = true := by simp [ee]
  have hoo : bOr false false = false := by simp [ee]
  have hat : bAnd true true = true := by simp [ee]
  have hek : iEq rk rk = true := by simp [ee]
  cases fs with
  | false =>
    refine go rfl hX 0 (by conv => lhs; cbv; simp only [hnf,hnf]; cbv; simp only [hnf,hnf]; cbv) ?_ ?_
    · first | exact trivial | (simp only [Cd.ok, ee]; and_intros <;> first | omega | rfl | (simp <;> omega))
    refine on_gskip rfl rfl ?_
    refine on_gskip rfl rfl ?_
    refine on_gskip rfl rfl ?_
    refine go rfl hX 0 (by conv => lhs; cbv) ?_ ?_
    · first | exact trivial | (simp only [Cd.ok, ee]; and_intros <;> first | omega | rfl | (simp <;> omega))
    refine go rfl hX 1 (by conv => lhs; cbv) ?_ ?_
    · first | exact trivial | (simp only [Cd.ok, ee]; and_intros <;> first | omega | rfl | (simp <;> omega))
    refine on_pcall rfl rfl rfl P11c rfl ?_
    refine go rfl hX 0 (by conv => lhs; cbv) ?_ ?_
    · first | exact trivial | (simp only [Cd.ok, ee]; and_intros <;> first | omega | rfl | (simp <;> omega))
    exact fn_ret rfl rfl (.val rfl)
  | true =>
    refine go rfl hX 0 (by conv => lhs; cbv; simp only [hnt,hnt]; cbv; simp only [hnt,hnt]; cbv) ?_ ?_
    · first | exact trivial | (simp only [Cd.ok, ee]; and_intros <;> first | omega | rfl | (simp <;> omega))
    refine go rfl hX 1 (by conv => lhs; cbv) ?_ ?_
    · first | exact trivial | (simp only [Cd.ok, ee]; and_intros <;> first | omega | rfl | (simp <;> omega))
    refine on_gpcall (args := [.isl 3 ecs]) rfl rfl rfl rfl P21c (closed1 hcc) ?_
    cases fc with
    | false =>
      refine go rfl hX 0 (by conv => lhs; cbv; simp only [hnf,hof,hnf,hof]; cbv; simp only [hnf,hof,hnf,hof]; cbv) ?_ ?_
      · first | exact trivial | (simp only [Cd.ok, ee]; and_intros <;> first | omega | rfl | (simp <;> omega))
      refine go rfl hX 1 (by conv => lhs; cbv; simp only [hnf,hof,hnf,hof]; cbv; simp only [hnf,hof,hnf,hof]; cbv) ?_ ?_
      · first | exact trivial | (simp only [Cd.ok, ee]; and_intros <;> first | omega | rfl | (simp <;> omega))
      refine on_pcall rfl rfl rfl P11c rfl ?_
      refine go rfl hX 0 (by conv => lhs; cbv) ?_ ?_
      · first | exact trivial | (simp only [Cd.ok, ee]; and_intros <;> first | omega | rfl | (simp <;> omega))
      exact fn_ret rfl rfl (.val rfl)
    | true =>
      have P22c := P22c rfl rfl
      have P23c := P23c rfl rfl
      have P19c := P19c rfl
      have hc3 : AV.closedL [.agg [int se, .isl 3 ec, .isl 2 ep], int e, .isl 3 ecs] = true := by simp only [AV.closedL, hcl, hcc]; rfl
      refine go rfl hX 0 (by conv => lhs; cbv; simp only [hnt,hoo,hnt,hoo]; cbv; simp only [hnt,hoo,hnt,hoo]; cbv) ?_ ?_
      · first | exact trivial | (simp only [Cd.ok, ee]; and_intros <;> first | omega | rfl | (simp <;> omega))
      refine go rfl hX 1 (by conv => lhs; cbv; simp only [hnt,hoo,hnt,hoo]; cbv; simp only [hnt,hoo,hnt,hoo]; cbv) ?_ ?_
      · first | exact trivial | (simp only [Cd.ok, ee]; and_intros <;> first | omega | rfl | (simp <;> omega))
      refine on_pcall (args := [.agg [int se, .isl 3 ec, .isl 2 ep], int e, .isl 3 ecs]) rfl rfl rfl P22c hc3 ?_
      refine go rfl hX 0 (by conv => lhs; cbv) ?_ ?_
      · first | exact trivial | (simp only [Cd.ok, ee]; and_intros <;> first | omega | rfl | (simp <;> omega))
      refine on_pcall (args := [.agg [int se, .isl 3 ec, .isl 2 ep], int e, .isl 3 ecs]) rfl rfl rfl P23c hc3 ?_
      refine go rfl hX 0 (by conv => lhs; cbv) ?_ ?_
      · first | exact trivial | (simp only [Cd.ok, ee]; and_intros <;> first | omega | rfl | (simp <;> omega))
      refine on_pcall rfl rfl rfl P11c rfl ?_
      refine go rfl hX 2 (by conv => lhs; cbv) ?_ ?_
      · first | exact trivial | (simp only [Cd.ok, ee]; and_intros <;> first | omega | rfl | (simp <;> omega))
      refine on_gpcall (args := [.agg [int re, .isl 3 rc, .isl 2 rp], .agg [int re, .isl 3 rc, .isl 2 rp]]) rfl rfl rfl rfl P19c (closed2 hcr hcr) ?_
      refine go rfl hX 5 (by conv => lhs; cbv; simp only [hat,hek,hat,hek]; cbv; simp only [hat,hek,hat,hek]; cbv) ?_ ?_
      · first | exact trivial | (simp only [Cd.ok, ee]; and_intros <;> first | omega | rfl | (simp <;> omega))
      exact fn_ret rfl rfl (.val rfl)
end Go.Am
end
section
set_option linter.unusedVariables false
set_option linter.unusedSimpArgs false
set_option maxRecDepth 20000
namespace Go.Am
open Go.Proofs

theorem fine_pend : ∀ (l : List Bat), (∀ b ∈ l, Fine b.cs) → ∀ c ∈ pendF l, Short c.bs
  | [], _, c, hc => by simp [pendF] at hc
  | b :: r, h, c, hc => by
    simp only [pendF, List.mem_append] at hc
    rcases hc with hc | hc
    · exact (h b (by simp)).2 c hc
    · exact fine_pend r (fun x hx => h x (by simp [hx])) c hc
theorem abortF_fine {s : Snk} {e : Int} (hf : s.Fine) : (abortF s e).1.Fine := by
  unfold abortF
  have hu : Snk.Fine ⟨s.epoch, s.com, upto e s.pend⟩ := ⟨hf.com, by
    have := hf.pend; unfold Short at *
    have h2 : (upto e s.pend).length ≤ s.pend.length := List.length_filter_le _ _
    dsimp only; omega, fun b hb => hf.bats b (List.mem_filter.1 hb).1⟩
  repeat' split
  all_goals first | exact fine0 | exact hf | exact hu
theorem commitF_fine {s : Snk} {e : Int} (hf : s.Fine) (hc : countF s < 500000000000) : (commitF s e).1.Fine := by
  unfold commitF
  have hu : Snk.Fine ⟨e, s.com ++ pendF (upto e s.pend), beyond e s.pend⟩ := ⟨⟨by
      have h1 := sumL_upto e s.pend
      unfold countF at hc
      unfold Short; dsimp only; rw [List.length_append, pendF_len]; omega, fun c hc => by
      rcases List.mem_append.1 hc with h | h
      · exact hf.com.2 c h
      · exact fine_pend _ (fun b hb => hf.bats b (List.mem_filter.1 hb).1) c h⟩, by
    have := hf.pend; unfold Short at *
    have h2 : (beyond e s.pend).length ≤ s.pend.length := List.length_filter_le _ _
    dsimp only; omega, fun b hb => hf.bats b (List.mem_filter.1 hb).1⟩
  repeat' split
  all_goals first | exact fine0 | exact hf | exact hu
end Go.Am
end
section
set_option linter.unusedVariables false
set_option linter.unusedSimpArgs false
set_option maxRecDepth 20000
namespace Go.Am
open Go.Proofs

set_option maxHeartbeats 1000000 in
theorem P5 (s : Snk) (e : Int) (hf : s.Fine) : PCall EE 5 [s.enc, int e] (.val (.bool true)) := by
  have P10c := P10 s hf
  have hfew := fun h => few_count (s := s) h
  have P11c := P11
  have P24c := fun (h : fewS s = true) => P24 s e hf (hfew h)
  have P25c := fun (h : fewS s = true) => P25 s e hf (by have := hfew h; omega)
  have P26c := fun (h : fewS s = true) => P26 s e hf (hfew h)
  have P27c := fun (h : fewS s = true) => P27 s e hf (by have := hfew h; omega)
  have hcl := Snk.closed s
  have P19c := fun (h : fewS s = true) => P19 (commitF s e).1 (commitF s e).1 (commitF_fine hf (hfew h))
  have P19d := P19 (abortF s e).1 (abortF s e).1 (abortF_fine hf)
  rw [decide_eq_true rfl] at P19c P19d
  have hcr := Snk.closed (commitF s e).1
  have hca := Snk.closed (abortF s e).1
  generalize fewS s = fs at P10c P24c P25c P26c P27c P19c
  generalize commitF s e = r at P24c P25c P19c hcr
  generalize abortF s e = a at P26c P27c P19d hca
  have hse : s.enc = .agg [int s.epoch, .isl 3 (mapE Chg.enc s.com), .isl 2 (mapE Bat.enc s.pend)] := rfl
  have hre : r.1.enc = .agg [int r.1.epoch, .isl 3 (mapE Chg.enc r.1.com), .isl 2 (mapE Bat.enc r.1.pend)] := rfl
  have hae : a.1.enc = .agg [int a.1.epoch, .isl 3 (mapE Chg.enc a.1.com), .isl 2 (mapE Bat.enc a.1.pend)] := rfl
  rw [hse] at P10c P24c P25c P26c P27c hcl ⊢
  rw [hre] at P24c P25c P19c hcr
  rw [hae] at P26c P27c P19d hca
  clear hse hre hae hfew
  generalize mapE Chg.enc s.com = ec at *
  generalize mapE Bat.enc s.pend = ep at *
  generalize mapE Chg.enc r.1.com = rc at *
  generalize mapE Bat.enc r.1.pend = rp at *
  generalize mapE Chg.enc a.1.com = ac at *
  generalize mapE Bat.enc a.1.pend = ap at *
  generalize s.epoch = se at *
  generalize r.1.epoch = re at *
  generalize r.2 = rk at *
  generalize a.1.epoch = ae at *
  generalize a.2 = ak at *
  refine words fun iLt iLe iEq iNe iAdd iSub iMul iQuo iRem iShr iNeg iCvt iMax iMin bNot bEq bNe bAnd bOr sEq sNe sLen sCat sCut sAt lenA lenN iOf natOf atA atN cutA partA dropA catA setA repA putA idxN addN subN minN lenCut hX e_iLt e_iLe e_iEq e_iNe e_iAdd e_iSub e_iMul e_iQuo e_iRem e_iShr e_iNeg e_iCvt e_iMax e_iMin e_bNot e_bEq e_bNe e_bAnd e_bOr e_sEq e_sNe e_sLen e_sCat e_sCut e_sAt e_lenA e_lenN e_iOf e_natOf e_atA e_atN e_cutA e_partA e_dropA e_catA e_setA e_repA e_putA e_idxN e_addN e_subN e_minN e_lenCut ee => ?_
  refine fn_body (fn := Try.f5) (n := 62) (ac := Tryc5) (rvs := [.t 4]) rfl (by decide) Tryp5 rfl rfl rfl ?_
  refine go rfl hX 0 (by conv => lhs; cbv) ?_ ?_
  · first | exact trivial | (simp only [Cd.ok, ee]; and_intros <;> first | omega | rfl | (simp <;> omega))
  refine on_pcall rfl rfl rfl P10c (closed1 hcl) ?_
  have hnt : bNot true = false := by simp [ee]
  have hnf : bNot false = true := by simp [ee]
  have hat : bAnd true true = true := by simp [ee]
  have hek : iEq rk rk = true := by simp [ee]
  have hea : iEq ak ak = true := by simp [ee]
  cases fs with
  | false =>
    refine go rfl hX 0 (by conv => lhs; cbv; simp only [hnf,hnf]; cbv; simp only [hnf,hnf]; cbv) ?_ ?_
    · first | exact trivial | (simp only [Cd.ok, ee]; and_intros <;> first | omega | rfl | (simp <;> omega))
    refine go rfl hX 1 (by conv => lhs; cbv; simp only [hnf,hnf]; cbv; simp only [hnf,hnf]; cbv) ?_ ?_
    · first | exact trivial | (simp only [Cd.ok, ee]; and_intros <;> first | omega | rfl | (simp <;> omega))
    refine on_pcall rfl rfl rfl P11c rfl ?_
    refine go rfl hX 0 (by conv => lhs; cbv) ?_ ?_
    · first | exact trivial | (simp only [Cd.ok, ee]; and_intros <;> first | omega | rfl | (simp <;> omega))
    exact fn_ret rfl rfl (.val rfl)
  | true =>
    have hc2 : AV.closedL [.agg [int se, .isl 3 ec, .isl 2 ep], int e] = true := by simp only [AV.closedL, hcl]; rfl
    have P24c := P24c rfl
    have P25c := P25c rfl
    have P26c := P26c rfl
    have P27c := P27c rfl
    have P19c := P19c rfl
    refine go rfl hX 0 (by conv => lhs; cbv; simp only [hnt,hnt]; cbv; simp only [hnt,hnt]; cbv) ?_ ?_
    · first | exact trivial | (simp only [Cd.ok, ee]; and_intros <;> first | omega | rfl | (simp <;> omega))
    refine go rfl hX 1 (by conv => lhs; cbv; simp only [hnt,hnt]; cbv; simp only [hnt,hnt]; cbv) ?_ ?_
    · first | exact trivial | (simp only [Cd.ok, ee]; and_intros <;> first | omega | rfl | (simp <;> omega))
    refine on_pcall (args := [.agg [int se, .isl 3 ec, .isl 2 ep], int e]) rfl rfl rfl P24c hc2 ?_
    refine go rfl hX 0 (by conv => lhs; cbv) ?_ ?_
    · first | exact trivial | (simp only [Cd.ok, ee]; and_intros <;> first | omega | rfl | (simp <;> omega))
    refine on_pcall (args := [.agg [int se, .isl 3 ec, .isl 2 ep], int e]) rfl rfl rfl P25c hc2 ?_
    refine go rfl hX 0 (by conv => lhs; cbv) ?_ ?_
    · first | exact trivial | (simp only [Cd.ok, ee]; and_intros <;> first | omega | rfl | (simp <;> omega))
    refine on_pcall (args := [.agg [int se, .isl 3 ec, .isl 2 ep], int e]) rfl rfl rfl P26c hc2 ?_
    refine go rfl hX 0 (by conv => lhs; cbv) ?_ ?_
    · first | exact trivial | (simp only [Cd.ok, ee]; and_intros <;> first | omega | rfl | (simp <;> omega))
    refine on_pcall (args := [.agg [int se, .isl 3 ec, .isl 2 ep], int e]) rfl rfl rfl P27c hc2 ?_
    refine go rfl hX 0 (by conv => lhs; cbv) ?_ ?_
    · first | exact trivial | (simp only [Cd.ok, ee]; and_intros <;> first | omega | rfl | (simp <;> omega))
    refine on_pcall rfl rfl rfl P11c rfl ?_
    refine go rfl hX 2 (by conv => lhs; cbv) ?_ ?_
    · first | exact trivial | (simp only [Cd.ok, ee]; and_intros <;> first | omega | rfl | (simp <;> omega))
    refine on_gpcall (args := [.agg [int re, .isl 3 rc, .isl 2 rp], .agg [int re, .isl 3 rc, .isl 2 rp]]) rfl rfl rfl rfl P19c (closed2 hcr hcr) ?_
    refine go rfl hX 0 (by conv => lhs; cbv; simp only [hat,hek,hat,hek]; cbv; simp only [hat,hek,hat,hek]; cbv) ?_ ?_
    · first | exact trivial | (simp only [Cd.ok, ee]; and_intros <;> first | omega | rfl | (simp <;> omega))
    refine go rfl hX 3 (by conv => lhs; cbv; simp only [hat,hek,hat,hek]; cbv; simp only [hat,hek,hat,hek]; cbv) ?_ ?_
    · first | exact trivial | (simp only [Cd.ok, ee]; and_intros <;> first | omega | rfl | (simp <;> omega))
    refine go rfl hX 2 (by conv => lhs; cbv; simp only [hat,hek,hat,hek]; cbv; simp only [hat,hek,hat,hek]; cbv) ?_ ?_
    · first | exact trivial | (simp only [Cd.ok, ee]; and_intros <;> first | omega | rfl | (simp <;> omega))
    refine on_gpcall (args := [.agg [int ae, .isl 3 ac, .isl 2 ap], .agg [int ae, .isl 3 ac, .isl 2 ap]]) rfl rfl rfl rfl P19d (closed2 hca hca) ?_
    refine go rfl hX 0 (by conv => lhs; cbv; simp only [hat,hea,hat,hea]; cbv; simp only [hat,hea,hat,hea]; cbv) ?_ ?_
    · first | exact trivial | (simp only [Cd.ok, ee]; and_intros <;> first | omega | rfl | (simp <;> omega))
    refine go rfl hX 5 (by conv => lhs; cbv; simp only [hat,hea,hat,hea]; cbv; simp only [hat,hea,hat,hea]; cbv) ?_ ?_
    · first | exact trivial | (simp only [Cd.ok, ee]; and_intros <;> first | omega | rfl | (simp <;> omega))
    exact fn_ret rfl rfl (.val rfl)
end Go.Am
end
section
set_option linter.unusedVariables false
set_option linter.unusedSimpArgs false
set_option maxRecDepth 20000
namespace Go.Am
open Go.Proofs Go.ChangeShapes Go.WideShapes Go.ChangeAt Go.RowKit

theorem cells53 : Try.prog.cellsOf 53 = 3 := by kernel_rfl
theorem cells47 : Try.prog.cellsOf 47 = 2 := by kernel_rfl
theorem cells81 : Try.prog.cellsOf 81 = 4 := by kernel_rfl
theorem bytes53 : Try.prog.bytesOf 53 = 40 := by kernel_rfl
theorem bytes47 : Try.prog.bytesOf 47 = 32 := by kernel_rfl
theorem bytes81 : Try.prog.bytesOf 81 = 32 := by kernel_rfl
theorem agg81 : aggT EE.P 81 = true := by kernel_rfl
theorem agg53 : aggT EE.P 53 = true := by kernel_rfl
theorem agg47 : aggT EE.P 47 = true := by kernel_rfl
theorem agg25 : aggT EE.P 25 = true := by kernel_rfl

theorem rdBnd {n : Nat} {x : AV} (h : El EE.P (Cl EE.P n) 81 x) : ∃ b : Bnd, x = b.enc ∧ True := by
  obtain ⟨cs, rfl, g⟩ := h.agg agg81
  obtain ⟨m, a, b, rfl, ha, a2, b2, rfl, hb, rfl⟩ := g.struct Try.underlying81
  obtain ⟨i, rfl, _⟩ := ha.int Try.underlying3
  obtain ⟨m, c1, r, rfl, h1, c2, r, rfl, h2, c3, r, rfl, h3, rfl⟩ := hb.struct Try.underlying79
  obtain ⟨i1, rfl, _⟩ := h1.int Try.underlying3
  obtain ⟨i2, rfl, _⟩ := h2.int Try.underlying3
  obtain ⟨i3, rfl, _⟩ := h3.int Try.underlying3
  exact ⟨⟨i, i1, i2, i3⟩, rfl, trivial⟩

theorem short_of {α : Type} {e : α → AV} {l : List α} {k : Nat} (h : (mapE e l).length * (k + 1) ≤ reachBytes) : Short l := by
  rw [mapE_len] at h
  exact Nat.lt_of_le_of_lt (Nat.le_trans (Nat.le_mul_of_pos_right _ (Nat.succ_pos k)) h) (by decide)

theorem rdChg {n : Nat} {x : AV} (h : El EE.P (Cl EE.P n) 53 x) : ∃ c : Chg, x = c.enc ∧ Short c.bs := by
  obtain ⟨cs, rfl, g⟩ := h.agg agg53
  obtain ⟨m, a, r, rfl, ha, b, r, rfl, hb, c, r, rfl, hc, rfl⟩ := g.struct Try.underlying53
  obtain ⟨i, rfl, _⟩ := ha.int Try.underlying3
  obtain ⟨j, rfl, _⟩ := hb.int Try.underlying3
  obtain ⟨m, d, r, rfl, hd, rfl⟩ := hc.struct Try.underlying51
  obtain ⟨m, es, rfl, hl, he⟩ := hd.slice Try.underlying49
  obtain ⟨l, rfl, _⟩ := list_enc fun x hx => rdBnd (he x hx)
  refine ⟨⟨i, j, l⟩, ?_, short_of (k := 31) (bytes81 ▸ hl)⟩
  rw [cells81]; rfl

theorem rdChgs {n : Nat} {cs : List AV} (h : Cl EE.P n 22 cs) : ∃ l : List Chg, cs = [.isl 3 (mapE Chg.enc l)] ∧ Fine l := by
  obtain ⟨m, es, rfl, hl, he⟩ := h.slice Try.underlying22
  obtain ⟨l, rfl, h2⟩ := list_enc fun x hx => rdChg (he x hx)
  exact ⟨l, by rw [cells53], short_of (k := 39) (bytes53 ▸ hl), h2⟩

theorem rdBat {n : Nat} {x : AV} (h : El EE.P (Cl EE.P n) 47 x) : ∃ b : Bat, x = b.enc ∧ Fine b.cs := by
  obtain ⟨cs, rfl, g⟩ := h.agg agg47
  obtain ⟨m, a, r, rfl, ha, b, r, rfl, hb, rfl⟩ := g.struct Try.underlying47
  obtain ⟨i, rfl, _⟩ := ha.int Try.underlying3
  obtain ⟨l, rfl, hl⟩ := rdChgs hb
  exact ⟨⟨i, l⟩, rfl, hl⟩

theorem rdSnk {n : Nat} {x : AV} (h : El EE.P (Cl EE.P n) 25 x) : ∃ s : Snk, x = s.enc ∧ s.Fine := by
  obtain ⟨cs, rfl, g⟩ := h.agg agg25
  obtain ⟨m, a, r, rfl, ha, b, r, rfl, hb, c, r, rfl, hc, rfl⟩ := g.struct Try.underlying25
  obtain ⟨i, rfl, _⟩ := ha.int Try.underlying3
  obtain ⟨l, rfl, hl⟩ := rdChgs hb
  obtain ⟨m, es, rfl, hel, he⟩ := hc.slice Try.underlying23
  obtain ⟨p, rfl, h2⟩ := list_enc fun x hx => rdBat (he x hx)
  exact ⟨⟨i, l, p⟩, by rw [cells47]; rfl, hl, short_of (k := 31) (bytes47 ▸ hel), h2⟩

theorem rdInt {n : Nat} {x : AV} (h : El EE.P (Cl EE.P n) 3 x) : ∃ i, x = int i := by
  obtain ⟨i, h, _⟩ := (h.one (by kernel_rfl)).int Try.underlying3
  exact ⟨i, by simpa using h⟩
theorem rdChgsA {n : Nat} {x : AV} (h : El EE.P (Cl EE.P n) 22 x) : ∃ l : List Chg, x = .isl 3 (mapE Chg.enc l) ∧ Fine l := by
  obtain ⟨l, h, hl⟩ := rdChgs (h.one (by kernel_rfl))
  exact ⟨l, by simpa using h, hl⟩

theorem Try.own : ownKnob Try.prog.godebug = none := by kernel_rfl
theorem Try.kids : Kids EE.P (· < EE.P.types.size) := kids_rows (by kernel_rfl) (by kernel_rfl)
theorem Try.full : ∀ t e, t < EE.P.types.size → EE.P.underlying t = some (.slice e) → 0 < EE.P.cellsOf e := slices_full_of EE.P (by kernel_rfl)
end Go.Am
end
section
set_option linter.unusedVariables false
set_option linter.unusedSimpArgs false
set_option maxRecDepth 20000
namespace Go.Am
open Go.Proofs

theorem pend_fine {s : Snk} (hf : s.Fine) (hc : countF s < 500000000000) : Fine (pendF s.pend) := by
  refine ⟨?_, fun c hc => ?_⟩
  · unfold Short; rw [pendF_len]; unfold countF at hc; omega
  · have : ∀ l : List Bat, (∀ b ∈ l, Go.Am.Fine b.cs) → ∀ c ∈ pendF l, Short c.bs := by
      intro l
      induction l with
      | nil => intro _ c hc; simp [pendF] at hc
      | cons b l ih =>
        intro h c hc
        simp only [pendF, List.mem_append] at hc
        rcases hc with hc | hc
        · exact (h b (by simp)).2 c hc
        · exact ih (fun b hb => h b (by simp [hb])) c hc
    exact this s.pend hf.bats c hc

theorem wk_nils (M : Nat) : Wk M (.agg [int 0, .val (.slice none 0 0), .val (.slice none 0 0)]) (.agg [int 0, .isl 3 [], .isl 2 []]) := by
  refine .agg _ _ rfl fun i c c' h h' => ?_
  match i, h, h' with
  | 0, h, h' => simp at h h'; subst h; subst h'; exact .refl _
  | 1, h, h' => simp at h h'; subst h; subst h'; exact .nilI _
  | 2, h, h' => simp at h h'; subst h; subst h'; exact .nilI _

theorem P14t (xs ys : List Chg) (hx : Fine xs) (h : xs = ys) : PCall EE 14 [.isl 3 (mapE Chg.enc xs), .isl 3 (mapE Chg.enc ys)] (.val (.bool true)) := by
  have := P14 xs ys hx
  rwa [decide_eq_true h] at this

set_option maxHeartbeats 1000000 in
theorem P3 (s : Snk) (hf : s.Fine) : PCall EE 3 [s.enc] (.val (.bool true)) := by
  have P10c := P10 s hf
  have hfew := fun h => few_count (s := s) h
  have P11c := P11
  have P12c := fun (h : fewS s = true) => P12 s hf (by have := hfew h; omega)
  have P13c := fun (h : fewS s = true) => P13 s hf (by have := hfew h; omega)
  have P15c := fun (h : fewS s = true) => P15 s hf (hfew h)
  have P16c := fun (h : fewS s = true) => P16 s hf.pend (by have := hfew h; unfold countF at this; omega)
  have P17c := fun (h : fewS s = true) => P17 s hf (hfew h)
  have P18c := fun (h : fewS s = true) => P18 s hf.pend (hfew h)
  have P14a := fun (h : fewS s = true) => P14t (pendF s.pend) (pendF s.pend) (pend_fine hf (hfew h)) rfl
  have P14b := fun (h : fewS s = true) => P14t (s.com ++ pendF s.pend) (s.com ++ pendF s.pend) ⟨by have := hfew h; unfold Short; rw [List.length_append, pendF_len]; unfold countF at this; omega, fun c hc => by
    rcases List.mem_append.1 hc with hc | hc
    · exact hf.com.2 c hc
    · exact (pend_fine hf (hfew h)).2 c hc⟩ rfl
  have P20c := P20
  have P19c := P19 Snk0 Snk0 fine0
  rw [decide_eq_true rfl] at P19c
  have hcl := Snk.closed s
  have hcp := closedC (pendF s.pend)
  have hca := closedC (s.com ++ pendF s.pend)
  generalize fewS s = fs at P10c P12c P13c P15c P16c P17c P18c P14a P14b
  generalize checkF s = ck at P12c P13c
  have hse : s.enc = .agg [int s.epoch, .isl 3 (mapE Chg.enc s.com), .isl 2 (mapE Bat.enc s.pend)] := rfl
  have hze : Snk0.enc = .agg [int 0, .isl 3 [], .isl 2 []] := by simp [Snk0, Snk.enc, mapE_eq]
  rw [hse] at P10c P12c P13c P15c P16c P17c P18c hcl ⊢
  rw [hze] at P20c P19c
  clear hse hze hfew hf
  generalize mapE Chg.enc s.com = ec at *
  generalize mapE Bat.enc s.pend = ep at *
  generalize mapE Chg.enc (s.com ++ pendF s.pend) = ea at *
  generalize mapE Chg.enc (pendF s.pend) = eq at *
  generalize s.epoch = se at *
  clear s
  refine words fun iLt iLe iEq iNe iAdd iSub iMul iQuo iRem iShr iNeg iCvt iMax iMin bNot bEq bNe bAnd bOr sEq sNe sLen sCat sCut sAt lenA lenN iOf natOf atA atN cutA partA dropA catA setA repA putA idxN addN subN minN lenCut hX e_iLt e_iLe e_iEq e_iNe e_iAdd e_iSub e_iMul e_iQuo e_iRem e_iShr e_iNeg e_iCvt e_iMax e_iMin e_bNot e_bEq e_bNe e_bAnd e_bOr e_sEq e_sNe e_sLen e_sCat e_sCut e_sAt e_lenA e_lenN e_iOf e_natOf e_atA e_atN e_cutA e_partA e_dropA e_catA e_setA e_repA e_putA e_idxN e_addN e_subN e_minN e_lenCut ee => ?_
  refine fn_body (fn := Try.f3) (n := 34) (ac := Tryc3) (rvs := [.t 2]) rfl (by decide) Tryp3 rfl rfl rfl ?_
  refine go rfl hX 0 (by conv => lhs; cbv) ?_ ?_
  · first | exact trivial | (simp only [Cd.ok, ee]; and_intros <;> first | omega | rfl | (simp <;> omega))
  refine on_pcall rfl rfl rfl P10c (closed1 hcl) ?_
  have hnt : bNot true = false := by simp [ee]
  have hnf : bNot false = true := by simp [ee]
  have hek : iEq ck ck = true := by simp [ee]
  cases fs with
  | false =>
    refine go rfl hX 0 (by conv => lhs; cbv; simp only [hnf,hnf]; cbv; simp only [hnf,hnf]; cbv) ?_ ?_
    · first | exact trivial | (simp only [Cd.ok, ee]; and_intros <;> first | omega | rfl | (simp <;> omega))
    refine go rfl hX 1 (by conv => lhs; cbv; simp only [hnf,hnf]; cbv; simp only [hnf,hnf]; cbv) ?_ ?_
    · first | exact trivial | (simp only [Cd.ok, ee]; and_intros <;> first | omega | rfl | (simp <;> omega))
    refine on_pcall rfl rfl rfl P11c rfl ?_
    refine go rfl hX 0 (by conv => lhs; cbv) ?_ ?_
    · first | exact trivial | (simp only [Cd.ok, ee]; and_intros <;> first | omega | rfl | (simp <;> omega))
    exact fn_ret rfl rfl (.val rfl)
  | true =>
    have P12c := P12c rfl
    have P13c := P13c rfl
    have P14a := P14a rfl
    have P14b := P14b rfl
    have P15c := P15c rfl
    have P16c := P16c rfl
    have P17c := P17c rfl
    have P18c := P18c rfl
    refine go rfl hX 0 (by conv => lhs; cbv; simp only [hnt,hnt]; cbv; simp only [hnt,hnt]; cbv) ?_ ?_
    · first | exact trivial | (simp only [Cd.ok, ee]; and_intros <;> first | omega | rfl | (simp <;> omega))
    refine go rfl hX 1 (by conv => lhs; cbv; simp only [hnt,hnt]; cbv; simp only [hnt,hnt]; cbv) ?_ ?_
    · first | exact trivial | (simp only [Cd.ok, ee]; and_intros <;> first | omega | rfl | (simp <;> omega))
    refine tr_drawB rfl (by conv => lhs; cbv) rfl ?_
    refine tr_pcall rfl rfl rfl P11c rfl ?_
    refine tr_go hX (by conv => lhs; cbv) ?_ ?_
    · first | exact trivial | (simp only [Cd.ok, ee]; and_intros <;> first | omega | rfl | (simp <;> omega))
    refine tr_ung rfl ?_
    refine tr_go hX (by conv => lhs; cbv) ?_ ?_
    · first | exact trivial | (simp only [Cd.ok, ee]; and_intros <;> first | omega | rfl | (simp <;> omega))
    refine tr_ung rfl ?_
    refine tr_pcall rfl rfl rfl P12c (closed1 hcl) ?_
    refine tr_ung rfl ?_
    refine tr_go hX (by conv => lhs; cbv) ?_ ?_
    · first | exact trivial | (simp only [Cd.ok, ee]; and_intros <;> first | omega | rfl | (simp <;> omega))
    refine tr_ung rfl ?_
    refine tr_pcall rfl rfl rfl P13c (closed1 hcl) ?_
    refine tr_ung rfl ?_
    refine tr_go hX (by conv => lhs; cbv; simp only [hek,hek]; cbv; simp only [hek,hek]; cbv) ?_ ?_
    · first | exact trivial | (simp only [Cd.ok, ee]; and_intros <;> first | omega | rfl | (simp <;> omega))
    refine tr_ung rfl ?_
    refine tr_go hX (by conv => lhs; cbv) ?_ ?_
    · first | exact trivial | (simp only [Cd.ok, ee]; and_intros <;> first | omega | rfl | (simp <;> omega))
    refine tr_ung rfl ?_
    refine tr_pcall rfl rfl rfl P15c (closed1 hcl) ?_
    refine tr_ung rfl ?_
    refine tr_go hX (by conv => lhs; cbv) ?_ ?_
    · first | exact trivial | (simp only [Cd.ok, ee]; and_intros <;> first | omega | rfl | (simp <;> omega))
    refine tr_ung rfl ?_
    refine tr_pcall rfl rfl rfl P16c (closed1 hcl) ?_
    refine tr_ung rfl ?_
    refine tr_pcall rfl rfl rfl P14a (closed2 hcp hcp) ?_
    refine tr_go hX (by conv => lhs; cbv) ?_ ?_
    · first | exact trivial | (simp only [Cd.ok, ee]; and_intros <;> first | omega | rfl | (simp <;> omega))
    refine tr_ung rfl ?_
    refine tr_go hX (by conv => lhs; cbv) ?_ ?_
    · first | exact trivial | (simp only [Cd.ok, ee]; and_intros <;> first | omega | rfl | (simp <;> omega))
    refine tr_ung rfl ?_
    refine tr_pcall rfl rfl rfl P17c (closed1 hcl) ?_
    refine tr_ung rfl ?_
    refine tr_go hX (by conv => lhs; cbv) ?_ ?_
    · first | exact trivial | (simp only [Cd.ok, ee]; and_intros <;> first | omega | rfl | (simp <;> omega))
    refine tr_ung rfl ?_
    refine tr_pcall rfl rfl rfl P18c (closed1 hcl) ?_
    refine tr_ung rfl ?_
    refine tr_pcall rfl rfl rfl P14b (closed2 hca hca) ?_
    refine tr_go hX (by conv => lhs; cbv) ?_ ?_
    · first | exact trivial | (simp only [Cd.ok, ee]; and_intros <;> first | omega | rfl | (simp <;> omega))
    refine tr_ung rfl ?_
    refine tr_pcall rfl rfl rfl P20c (rfl) ?_
    refine tr_ung rfl ?_
    refine tr_go hX (by conv => lhs; cbv) ?_ ?_
    · first | exact trivial | (simp only [Cd.ok, ee]; and_intros <;> first | omega | rfl | (simp <;> omega))
    refine tr_ung rfl ?_
    refine tr_pcall (args := [.agg [int 0, .isl 3 [], .isl 2 []], .agg [int 0, .val (.slice none 0 0), .val (.slice none 0 0)]]) rfl rfl rfl (P19c.weak ⟨.refl _, wk_nils _, trivial⟩) rfl ?_
    refine tr_go hX (by conv => lhs; cbv) ?_ ?_
    · first | exact trivial | (simp only [Cd.ok, ee]; and_intros <;> first | omega | rfl | (simp <;> omega))
    refine tr_nil ⟨rfl, ?_, ?_⟩
    · simp only [LooksL, lookAll, List.append, List.cons_append, List.nil_append, List.append_nil]; and_intros <;> first | trivial | (intro hp; first | rfl | exact absurd (show false = true from hp) Bool.false_ne_true)
    refine go rfl hX 1 (by conv => lhs; cbv) ?_ ?_
    · first | exact trivial | (simp only [Cd.ok, ee]; and_intros <;> first | omega | rfl | (simp <;> omega))
    exact fn_ret rfl rfl (.val rfl)
end Go.Am
end
section
set_option linter.unusedVariables false
set_option linter.unusedSimpArgs false
set_option maxRecDepth 20000
namespace Go.Am
open Go.Proofs

/-- the batches of a well-formed sink -/
def Good (se : Int) (l : List Bat) : Prop :=
  (∀ b ∈ l, se < b.epoch ∧ b.epoch ≤ 1099511627776 ∧ b.cs ≠ [] ∧ changesF b.cs = 0) ∧ l.Pairwise fun a b => a.epoch < b.epoch

theorem changes_all : ∀ (l : List Chg), changesF l = 0 ↔ ∀ c ∈ l, changeF c = 0
  | [] => by simp [changesF]
  | c :: l => by
    rw [changesF]
    by_cases h : changeF c = 0
    · rw [if_neg (by simpa using h), changes_all l]; simp [h]
    · rw [if_pos h]; simp [h]

theorem bats_good (se : Int) : ∀ (l : List Bat) (p : Option Int), batsF se p l = 0 ↔ Good se l ∧ ∀ q, p = some q → ∀ b ∈ l, q < b.epoch
  | [], p => by simp [batsF, Good]
  | b :: l, p => by
    rw [batsF]
    have hb : batchF se p b = 0 ↔ (se < b.epoch ∧ b.epoch ≤ 1099511627776 ∧ b.cs ≠ [] ∧ changesF b.cs = 0) ∧ ∀ q, p = some q → q < b.epoch := by
      unfold batchF
      split
      · simp; omega
      rename_i h1
      split
      · rename_i h2
        obtain ⟨q, hq, h3⟩ : ∃ q, p = some q ∧ b.epoch ≤ q := by
          cases p with
          | none => simp at h2
          | some q => exact ⟨q, rfl, by simpa using h2⟩
        simp only [false_iff, not_and, Int.reduceEq]
        intro _ h
        have := h q hq; omega
      rename_i h2
      split
      · rename_i h3; simp [h3]
      rename_i h3
      have hp : ∀ q, p = some q → q < b.epoch := by
        intro q hq; subst hq; simp at h2; omega
      constructor
      · intro h; exact ⟨⟨by omega, by omega, h3, h⟩, hp⟩
      · intro h; exact h.1.2.2.2
    by_cases h : batchF se p b = 0
    · rw [if_neg (by simpa using h), bats_good se l (some b.epoch)]
      rw [hb] at h
      unfold Good
      simp only [List.mem_cons, forall_eq_or_imp, List.pairwise_cons, Option.some.injEq]
      constructor
      · rintro ⟨⟨g1, g2⟩, g3⟩
        exact ⟨⟨⟨h.1, g1⟩, g3 _ rfl, g2⟩, fun q hq => ⟨h.2 q hq, fun c hc => by have := h.2 q hq; have := g3 _ rfl c hc; omega⟩⟩
      · rintro ⟨⟨⟨_, g1⟩, g3, g2⟩, g4⟩
        exact ⟨⟨g1, g2⟩, by rintro q rfl; exact g3⟩
    · rw [if_pos h]
      constructor
      · intro h'; exact absurd h' h
      · rintro ⟨⟨g1, g2⟩, g3⟩
        exact absurd (hb.2 ⟨g1 b (by simp), fun q hq => g3 q hq b (by simp)⟩) h

/-- What a well-formed sink is. -/
theorem check_iff (s : Snk) : checkF s = 0 ↔ (0 ≤ s.epoch ∧ s.epoch ≤ 1099511627776) ∧ s.pend.length ≤ 256 ∧ (∀ c ∈ s.com, changeF c = 0) ∧ Good s.epoch s.pend ∧ countF s ≤ 4096 := by
  have hg := bats_good s.epoch s.pend none
  simp only [reduceCtorEq, false_implies, implies_true, and_true] at hg
  rw [← hg, ← changes_all]
  unfold checkF
  split
  · simp; omega
  split
  · simp; omega
  split
  · rename_i h; simp [h]
  split
  · rename_i h; simp [h]
  split
  · rename_i h; simp; omega
  · rename_i h1 h2 h3 h4 h5
    simp at h3 h4
    simp [h3, h4]; omega

theorem good_filter {se : Int} {l : List Bat} (h : Good se l) (p : Bat → Bool) : Good se (l.filter p) :=
  ⟨fun b hb => h.1 b (List.mem_filter.1 hb).1, h.2.filter p⟩

theorem sumL_parts (e : Int) : ∀ l : List Bat, sumL (upto e l) + sumL (beyond e l) = sumL l
  | [] => by simp [upto, beyond, sumL]
  | b :: l => by
    have := sumL_parts e l
    unfold upto beyond at *
    by_cases h : b.epoch ≤ e
    · simp [h, sumL]; omega
    · simp [h, sumL]; omega

theorem pend_change {l : List Bat} (h : ∀ b ∈ l, changesF b.cs = 0) : ∀ c ∈ pendF l, changeF c = 0 := by
  induction l with
  | nil => intro c hc; simp [pendF] at hc
  | cons b l ih =>
    intro c hc
    simp only [pendF, List.mem_append] at hc
    rcases hc with hc | hc
    · exact (changes_all _).1 (h b (by simp)) c hc
    · exact ih (fun b hb => h b (by simp [hb])) c hc

theorem commit_cases {s : Snk} (hs : checkF s = 0) (e : Int) : ((commitF s e).2 = 29 ∧ (e < 0 ∨ 1099511627776 < e)) ∨ ((commitF s e).2 = 0 ∧ 0 ≤ e ∧ e ≤ 1099511627776 ∧ checkF (commitF s e).1 = 0 ∧ (commitF s e).1.epoch = max s.epoch e ∧
    (commitF s e).1.com = s.com ++ pendF (upto e s.pend) ∧ (commitF s e).1.pend = beyond e s.pend) := by
  have h := (check_iff s).1 hs
  unfold commitF
  rw [if_neg (by simp [hs])]
  split
  · left; exact ⟨rfl, by assumption⟩
  rename_i h1
  right
  have hnone : e < s.epoch → upto e s.pend = [] ∧ beyond e s.pend = s.pend := by
    intro he
    have : ∀ b ∈ s.pend, e < b.epoch := fun b hb => by have := (h.2.2.2.1.1 b hb).1; omega
    unfold upto beyond
    refine ⟨List.filter_eq_nil_iff.2 fun b hb => by have := this b hb; simp; omega, List.filter_eq_self.2 fun b hb => by have := this b hb; simp; omega⟩
  split
  · rename_i h2
    refine ⟨rfl, by omega, by omega, hs, by simp; omega, ?_, ?_⟩
    · rw [(hnone h2).1]; simp [pendF]
    · rw [(hnone h2).2]
  · rename_i h2
    refine ⟨rfl, by omega, by omega, ?_, by simp; omega, rfl, rfl⟩
    rw [check_iff]
    refine ⟨⟨by dsimp only; omega, by dsimp only; omega⟩, ?_, ?_, ⟨?_, ?_⟩, ?_⟩
    · have := List.length_filter_le (fun b => !decide (b.epoch ≤ e)) s.pend
      unfold beyond; dsimp only; omega
    · intro c hc
      rcases List.mem_append.1 hc with hc | hc
      · exact h.2.2.1 c hc
      · exact pend_change (fun b hb => (h.2.2.2.1.1 b (List.mem_filter.1 hb).1).2.2.2) c hc
    · intro b hb
      have h3 := h.2.2.2.1.1 b (List.mem_filter.1 hb).1
      have h4 := (List.mem_filter.1 hb).2
      simp at h4
      exact ⟨by omega, h3.2⟩
    · exact h.2.2.2.1.2.filter _
    · have := h.2.2.2.2
      have h3 := sumL_parts e s.pend
      unfold countF at *
      simp only [List.length_append, pendF_len]
      omega

theorem snk_ext {x y : Snk} (a : x.epoch = y.epoch) (b : x.com = y.com) (c : x.pend = y.pend) : x = y := by
  cases x; cases y; simp_all

theorem commit_twice {s : Snk} (hs : checkF s = 0) {e : Int} (he : (commitF s e).2 = 0) : commitF (commitF s e).1 e = commitF s e := by
  rcases commit_cases hs e with ⟨h, _⟩ | ⟨h1, h2, h3, h4, h5, h6, h7⟩
  · omega
  rcases commit_cases h4 e with ⟨_, h⟩ | ⟨k1, _, _, _, k5, k6, k7⟩
  · omega
  have hu : upto e (beyond e s.pend) = [] := by
    unfold upto beyond
    rw [List.filter_filter]
    exact List.filter_eq_nil_iff.2 fun b _ => by simp
  have hb : beyond e (beyond e s.pend) = beyond e s.pend := by
    unfold beyond
    rw [List.filter_filter]
    congr 1; funext b; simp
  rw [h7, hu] at k6
  rw [h7, hb] at k7
  simp only [pendF, List.append_nil] at k6
  obtain ⟨a1, a2, a3, _⟩ : (commitF (commitF s e).1 e).1.epoch = (commitF s e).1.epoch ∧ (commitF (commitF s e).1 e).1.com = (commitF s e).1.com ∧ (commitF (commitF s e).1 e).1.pend = (commitF s e).1.pend ∧ True := by
    exact ⟨by rw [k5, h5]; omega, k6, by rw [k7, h7], trivial⟩
  have e1 : (commitF (commitF s e).1 e).1 = (commitF s e).1 := by
    exact snk_ext a1 a2 a3
  exact Prod.ext e1 (by rw [k1, h1])
end Go.Am
end
section
set_option linter.unusedVariables false
set_option linter.unusedSimpArgs false
set_option maxRecDepth 20000
namespace Go.Am
open Go.Proofs

theorem begins_app (a b : List Chg) : beginsF (a ++ b) a = true := by simp [beginsF]

theorem add_cases {a : Snk} (ha : checkF a = 0) (e : Int) (cs : List Chg) (h : (addF a e cs).2 = 0) : (addF a e cs).1.com = a.com ∧ a.epoch < e := by
  revert h
  unfold addF
  rw [if_neg (by simp [ha])]
  split
  · simp
  rename_i h1
  split
  · intro h; exact absurd h (by assumption)
  split
  · intro _; exact ⟨rfl, by omega⟩
  split
  · simp
  split
  · simp
  · intro _; exact ⟨rfl, by omega⟩

theorem abort_cases {a : Snk} (ha : checkF a = 0) (e : Int) : ((abortF a e).2 = 29 ∧ (e < a.epoch ∨ 1099511627776 < e)) ∨ ((abortF a e).2 = 0 ∧ (abortF a e).1 = ⟨a.epoch, a.com, upto e a.pend⟩ ∧ a.epoch ≤ e ∧ e ≤ 1099511627776) := by
  unfold abortF
  rw [if_neg (by simp [ha])]
  split
  · left; exact ⟨rfl, by assumption⟩
  · right; exact ⟨rfl, rfl, by omega, by omega⟩

theorem check_count {s : Snk} (h : checkF s = 0) : countF s < 500000000000 := by
  have := ((check_iff s).1 h).2.2.2.2; omega

theorem good_split {se : Int} (e : Int) : ∀ {l : List Bat}, Good se l → upto e l ++ beyond e l = l
  | [], _ => rfl
  | b :: l, h => by
    have hl : Good se l := ⟨fun x hx => h.1 x (by simp [hx]), (List.pairwise_cons.1 h.2).2⟩
    have ih := good_split e hl
    unfold upto beyond at *
    by_cases hb : b.epoch ≤ e
    · simp only [List.filter_cons, hb, decide_true, if_true, Bool.not_true, Bool.false_eq_true, if_false, List.cons_append, ih]
    · have hr : ∀ x ∈ l, ¬ x.epoch ≤ e := fun x hx => by have := (List.pairwise_cons.1 h.2).1 x hx; omega
      have h1 : l.filter (fun b => decide (b.epoch ≤ e)) = [] := List.filter_eq_nil_iff.2 fun x hx => by simpa using hr x hx
      have h2 : l.filter (fun b => !decide (b.epoch ≤ e)) = l := List.filter_eq_self.2 fun x hx => by simpa using hr x hx
      simp only [List.filter_cons, hb, decide_false, Bool.false_eq_true, if_false, Bool.not_false, if_true, h1, h2, List.nil_append]

theorem with_last (e : Int) (cs : List Chg) : ∀ (l : List Bat), (∀ b ∈ l, b.epoch < e) → withF e cs false l = l ++ [⟨e, cs⟩]
  | [], _ => by simp [withF]
  | b :: l, h => by
    have h1 := h b (by simp)
    have ih := with_last e cs l fun x hx => h x (by simp [hx])
    rw [withF]
    have a1 : decide (e < b.epoch) = false := by simp; omega
    have a2 : ¬ b.epoch = e := by omega
    simp [a1, a2, ih]

theorem good_prefix {se : Int} {a b : List Bat} (h : Good se (a ++ b)) : Good se a :=
  ⟨fun x hx => h.1 x (by simp [hx]), (List.pairwise_append.1 h.2).1⟩

theorem add_last {s : Snk} (hs : checkF s = 0) {l r : List Bat} {b : Bat} (hp : s.pend = l ++ b :: r) : addF ⟨s.epoch, s.com, l⟩ b.epoch b.cs = (⟨s.epoch, s.com, l ++ [b]⟩, 0) ∧ checkF ⟨s.epoch, s.com, l⟩ = 0 := by
  have h := (check_iff s).1 hs
  have hg := h.2.2.2.1
  rw [hp] at hg
  have hb := hg.1 b (by simp)
  have hlt : ∀ x ∈ l, x.epoch < b.epoch := fun x hx => (List.pairwise_append.1 hg.2).2.2 x hx b (by simp)
  have hlen : l.length + 1 ≤ 256 := by have := h.2.1; rw [hp] at this; simp at this; omega
  have hcnt : s.com.length + sumL l + b.cs.length ≤ 4096 := by
    have := h.2.2.2.2
    unfold countF at this
    rw [hp, sumL_append] at this
    simp only [sumL] at this; omega
  have hc : checkF ⟨s.epoch, s.com, l⟩ = 0 := (check_iff _).2 ⟨h.1, by dsimp only; omega, h.2.2.1, good_prefix hg, by unfold countF; dsimp only; omega⟩
  refine ⟨?_, hc⟩
  unfold addF
  rw [if_neg (by simp [hc]), if_neg (by dsimp only; omega), if_neg (by simp [hb.2.2.2]), if_neg hb.2.2.1]
  dsimp only
  rw [with_last _ _ _ hlt]
  rw [if_neg (by simp; omega), if_neg (by unfold countF; simp only [sumL_append, sumL]; omega)]
end Go.Am
end
section
/-
  DERIVED: THE SHELF's CONTRACTS AT THIS DUMP, IN PLAIN WORDS (tools/lay-plain.mjs out of 'TryShelf.lean', which tools/lay-shelf.mjs wrote): THE SAME DECLARATIONS UNDER THE SAME NAMES: 'import', 'namespace', 'open', 'def', 'theorem' AND NOTHING ELSE: no command of the shelf's: FOR A HAND-IN. Each laying: the table of numbers ('.._ren') and one theorem, a field a fact of the dump's own or the kernel's comparison; each contract: ONE APPLICATION.
-/
namespace Go.Proofs
open Go.Shelf
def Try.lays189_ren : Go.Shelf.Ren := ⟨fun | 189 => 30 | 125 => 47 | 257 => 46 | 128 => 68 | 129 => 69 | 294 => 59 | 295 => 60 | 296 => 61 | 297 => 62 | 298 => 63 | 299 => 64 | 216 => 65 | 300 => 66 | 301 => 67 | 328 => 72 | 329 => 73 | 330 => 74 | 331 => 75 | 332 => 76 | 215 => 70 | 343 => 78 | n => n, fun | 28 => 55 | 3 => 3 | 46 => 77 | 0 => 0 | 51 => 103 | 53 => 105 | 4 => 4 | 183 => 96 | 182 => 95 | 131 => 71 | 5 => 5 | 9 => 9 | 218 => 107 | 222 => 111 | 228 => 114 | 229 => 115 | n => n, fun | n => n⟩
theorem Try.lays189 : Go.Proofs.Lays.n189 Try.prog Try.lays189_ren := {
  mixed := by kernel_rfl
  f125 := Try.func47.trans (congrArg some (by kernel_rfl))
  f128 := Try.func68.trans (congrArg some (by kernel_rfl))
  f129 := Try.func69.trans (congrArg some (by kernel_rfl))
  f189 := Try.func30.trans (congrArg some (by kernel_rfl))
  f215 := Try.func70.trans (congrArg some (by kernel_rfl))
  f216 := Try.func65.trans (congrArg some (by kernel_rfl))
  f257 := Try.func46.trans (congrArg some (by kernel_rfl))
  f294 := Try.func59.trans (congrArg some (by kernel_rfl))
  f295 := Try.func60.trans (congrArg some (by kernel_rfl))
  f296 := Try.func61.trans (congrArg some (by kernel_rfl))
  f297 := Try.func62.trans (congrArg some (by kernel_rfl))
  f298 := Try.func63.trans (congrArg some (by kernel_rfl))
  f299 := Try.func64.trans (congrArg some (by kernel_rfl))
  f300 := Try.func66.trans (congrArg some (by kernel_rfl))
  f301 := Try.func67.trans (congrArg some (by kernel_rfl))
  f328 := Try.func72.trans (congrArg some (by kernel_rfl))
  f329 := Try.func73.trans (congrArg some (by kernel_rfl))
  f330 := Try.func74.trans (congrArg some (by kernel_rfl))
  f331 := Try.func75.trans (congrArg some (by kernel_rfl))
  f332 := Try.func76.trans (congrArg some (by kernel_rfl))
  f343 := Try.func78.trans (congrArg some (by kernel_rfl))
  t0 := Try.underlying0
  a0 := Try.isAgg0
  z0 := Try.sizeOf0
  v0 := Try.zeroValue0
  t3 := Try.underlying3
  a3 := Try.isAgg3
  z3 := Try.sizeOf3
  v3 := Try.zeroValue3
  t4 := Try.underlying4
  a4 := Try.isAgg4
  z4 := Try.sizeOf4
  v4 := Try.zeroValue4
  t5 := Try.underlying5
  a5 := Try.isAgg5
  z5 := Try.sizeOf5
  v5 := Try.zeroValue5
  t9 := Try.underlying9
  a9 := Try.isAgg9
  z9 := Try.sizeOf9
  v9 := Try.zeroValue9
  t28 := Try.underlying55
  a28 := Try.isAgg55
  z28 := Try.sizeOf55
  v28 := Try.zeroValue55
  t46 := Try.underlying77
  a46 := Try.isAgg77
  z46 := Try.sizeOf77
  v46 := Try.zeroValue77
  t51 := Try.underlying103
  a51 := Try.isAgg103
  z51 := Try.sizeOf103
  v51 := Try.zeroValue103
  t53 := Try.underlying105
  a53 := Try.isAgg105
  z53 := Try.sizeOf105
  v53 := Try.zeroValue105
  t131 := Try.underlying71
  a131 := Try.isAgg71
  z131 := Try.sizeOf71
  v131 := Try.zeroValue71
  t182 := Try.underlying95
  a182 := Try.isAgg95
  z182 := Try.sizeOf95
  v182 := Try.zeroValue95
  t183 := Try.underlying96
  a183 := Try.isAgg96
  z183 := Try.sizeOf96
  v183 := Try.zeroValue96
  t218 := Try.underlying107
  a218 := Try.isAgg107
  z218 := Try.sizeOf107
  v218 := Try.zeroValue107
  t222 := Try.underlying111
  a222 := Try.isAgg111
  z222 := Try.sizeOf111
  v222 := Try.zeroValue111
  t228 := Try.underlying114
  a228 := Try.isAgg114
  z228 := Try.sizeOf114
  v228 := Try.zeroValue114
  t229 := Try.underlying115
  a229 := Try.isAgg115
  z229 := Try.sizeOf115
  v229 := Try.zeroValue115 }
end Go.Proofs
end
section
set_option linter.unusedVariables false
set_option linter.unusedSimpArgs false
set_option maxRecDepth 20000
namespace Go.Am
open Go.Proofs

theorem commit_zero {s : Snk} (hs : checkF s = 0) : commitF s 0 = (s, 0) := by
  have h := (check_iff s).1 hs
  rcases commit_cases hs 0 with ⟨_, h1⟩ | ⟨h1, _, _, _, h5, h6, h7⟩
  · omega
  have hb : ∀ b ∈ s.pend, 0 < b.epoch := fun b hb => by have := (h.2.2.2.1.1 b hb).1; omega
  have hu : upto 0 s.pend = [] := List.filter_eq_nil_iff.2 fun b hb' => by have := hb b hb'; simp; omega
  have hy : beyond 0 s.pend = s.pend := List.filter_eq_self.2 fun b hb' => by have := hb b hb'; simp; omega
  rw [hu] at h6
  rw [hy] at h7
  refine Prod.ext (snk_ext ?_ ?_ ?_) h1
  · rw [h5]; dsimp only; omega
  · rw [h6]; simp [pendF]
  · exact h7

theorem upto_upto {m n : Int} (h : m ≤ n) (l : List Bat) : upto m (upto n l) = upto m l := by
  unfold upto
  rw [List.filter_filter]
  congr 1; funext b
  by_cases hb : b.epoch ≤ m
  · simp [hb]; omega
  · simp [hb]
theorem beyond_beyond {m n : Int} (h : m ≤ n) (l : List Bat) : beyond n (beyond m l) = beyond n l := by
  unfold beyond
  rw [List.filter_filter]
  congr 1; funext b
  by_cases hb : b.epoch ≤ n
  · simp [hb]
  · simp [hb]; omega
theorem beyond_upto (m n : Int) (l : List Bat) : beyond m (upto n l) = upto n (beyond m l) := by
  unfold beyond upto
  rw [List.filter_filter, List.filter_filter]
  congr 1; funext b
  rw [Bool.and_comm]

/-- committing later is committing at once -/
theorem commit_step {s : Snk} (hs : checkF s = 0) {m n : Int} (hm : 0 ≤ m) (hmn : m ≤ n) (hn : n ≤ 1099511627776) : commitF (commitF s m).1 n = commitF s n := by
  have h := (check_iff s).1 hs
  rcases commit_cases hs m with ⟨_, h1⟩ | ⟨h1, _, _, h4, h5, h6, h7⟩
  · omega
  rcases commit_cases h4 n with ⟨_, k1⟩ | ⟨k1, _, _, _, k5, k6, k7⟩
  · omega
  rcases commit_cases hs n with ⟨_, j1⟩ | ⟨j1, _, _, _, j5, j6, j7⟩
  · omega
  have hsp := good_split m (good_filter h.2.2.2.1 (fun b => decide (b.epoch ≤ n)))
  have hsp : upto m (upto n s.pend) ++ beyond m (upto n s.pend) = upto n s.pend := hsp
  refine Prod.ext (snk_ext ?_ ?_ ?_) (by rw [k1, j1])
  · rw [k5, h5, j5]; omega
  · rw [k6, h6, h7, j6, List.append_assoc, ← pendF_append, ← beyond_upto, ← upto_upto hmn, hsp]
  · rw [k7, h7, j7, beyond_beyond hmn]

theorem commit_all {s : Snk} (hs : checkF s = 0) {n : Int} (h0 : (commitF s n).2 = 0) : (commitF s n).1.com ++ pendF (commitF s n).1.pend = s.com ++ pendF s.pend := by
  have h := (check_iff s).1 hs
  rcases commit_cases hs n with ⟨j, _⟩ | ⟨_, _, _, _, _, j6, j7⟩
  · omega
  rw [j6, j7, List.append_assoc, ← pendF_append, good_split n h.2.2.2.1]

theorem fitI (n : Int) : fitB 1 [int n] = true := rfl
theorem int_closed (n : Int) : (int n).closed = true := rfl
theorem P29 (l : List Int) (hl : l.length < 500000000000) : OCall EE 29 [.isl 1 (mapE int l)] (.sl 0 1 0 l.length) [.arr 1 (mapE int l)] := by
  refine words fun iLt iLe iEq iNe iAdd iSub iMul iQuo iRem iShr iNeg iCvt iMax iMin bNot bEq bNe bAnd bOr sEq sNe sLen sCat sCut sAt lenA lenN iOf natOf atA atN cutA partA dropA catA setA repA putA idxN addN subN minN lenCut hX e_iLt e_iLe e_iEq e_iNe e_iAdd e_iSub e_iMul e_iQuo e_iRem e_iShr e_iNeg e_iCvt e_iMax e_iMin e_bNot e_bEq e_bNe e_bAnd e_bOr e_sEq e_sNe e_sLen e_sCat e_sCut e_sAt e_lenA e_lenN e_iOf e_natOf e_atA e_atN e_cutA e_partA e_dropA e_catA e_setA e_repA e_putA e_idxN e_addN e_subN e_minN e_lenCut ee => ?_
  have hcl : AV.closedL (mapE int l) = true := closed_mapE int_closed _
  have hfit := fitL (k := 1) (enc := int) fitI l
  generalize hes : mapE int l = es at *
  have hel : es.length = l.length := by rw [← hes, mapE_len]
  generalize hn : l.length = n at *
  refine ocall_body (fn := Try.f29) (n := 8) (ac := Tryc29) (rvs := [.t 2]) rfl (by decide) Tryp29 rfl rfl rfl ?_
  refine go rfl hX 0 (by conv => lhs; cbv) ?_ ?_
  · first | exact trivial | (simp only [Cd.ok, ee]; and_intros <;> first | omega | rfl | (simp <;> omega))
  refine on_eqnilI rfl rfl rfl rfl (fun t ht => ?_)
  refine go rfl hX 0 (by conv => lhs; cbv) ?_ ?_
  · first | exact trivial | (simp only [Cd.ok, ee]; and_intros <;> first | omega | rfl | (simp <;> omega))
  refine on_cond rfl (fun h1 => ?_) (fun h1 => ?_)
  · have he := ht h1
    subst he
    simp at hel
    subst hel
    refine go rfl hX 0 (by conv => lhs; cbv) ?_ ?_
    · first | exact trivial | (simp only [Cd.ok, ee]; and_intros <;> first | omega | rfl | (simp <;> omega))
    exact o_ret (F2 := [(2, .sl 0 1 0 0)]) (H2 := [.arr 1 []]) (ent_sub [] [none] trivial ⟨.none 1 rfl, trivial⟩ ⟨.nilS 0 1 0 (by simp), trivial⟩) rfl ⟨rfl, rfl⟩
  · refine go rfl hX 0 (by conv => lhs; cbv) ?_ ?_
    · simp only [Cd.ok, ee]; (and_intros <;> first | omega | rfl | exact hfit | simp [fitB])
    refine o_ret (F2 := [(2, .sl 0 1 0 n)]) (H2 := [.arr 1 es]) (ent_sub [.gone, .to 0] [some 1] ⟨trivial, ⟨by simp, rfl⟩, trivial⟩ ⟨osrc_arr (b := 1) rfl rfl rfl ?_ hcl, trivial⟩ ⟨.of ?_, trivial⟩) rfl ⟨rfl, rfl⟩
    · simp [ee]
    · simp only [ee]
      show AV.sl 0 1 0 (0 + es.length) = _
      rw [Nat.zero_add, hel]

theorem enters30 : Enters EE.P 30 := enters_of (fn := Try.f30) (n := 11) (ac := Tryc30) rfl (by decide) Tryp30
theorem P30 (l : List Int) (hl : l.length < 4611686018427387904) : ACall EE 30 [.sl 0 1 0 l.length] [.arr 1 (mapE int l)] fun v H' => v = .tup [] ∧ H' = [.arr 1 (mapE int (sortI l))] := by
  have := sort_acall (E := EE) Try.lays189 l hl
  rw [mapE_eq, mapE_eq]
  exact this
theorem sort_sorted (l : List Int) : (sortI l).Pairwise (· ≤ ·) := by
  have := List.pairwise_mergeSort (le := fun x y : Int => decide (x ≤ y)) (fun a b c h1 h2 => by simp at *; omega) (fun a b => by simp; omega) l
  exact this.imp (by intro a b h; simpa using h)
theorem sort_len (l : List Int) : (sortI l).length = l.length := by simp [sortI, List.length_mergeSort]

set_option maxHeartbeats 4000000 in
theorem P9 (s : Snk) (es : List Int) (hf : s.Fine) (hes : Short es) : PCall EE 9 [s.enc, .isl 1 (mapE int es)] (.val (.bool true)) := by
  have P10c := P10 s hf
  have P11c := P11
  have P12c := fun (h : fewS s = true) => P12 s hf (by have := few_count h; omega)
  have hcl := Snk.closed s
  have hse : s.enc = .agg [int s.epoch, .isl 3 (mapE Chg.enc s.com), .isl 2 (mapE Bat.enc s.pend)] := rfl
  have hce : AV.closedL (mapE int es) = true := closed_mapE int_closed _
  have hcei : (AV.isl 1 (mapE int es)).closed = true := hce
  have hel : (mapE int es).length = es.length := mapE_len _ _
  rcases hfs : fewS s with _ | _
  · rw [hfs] at P10c
    clear P12c
    rw [hse] at P10c hcl ⊢
    clear hse
    generalize mapE Chg.enc s.com = ec at *
    generalize mapE Bat.enc s.pend = ep at *
    generalize mapE int es = ees at *
    generalize s.epoch = se at *
    refine words fun iLt iLe iEq iNe iAdd iSub iMul iQuo iRem iShr iNeg iCvt iMax iMin bNot bEq bNe bAnd bOr sEq sNe sLen sCat sCut sAt lenA lenN iOf natOf atA atN cutA partA dropA catA setA repA putA idxN addN subN minN lenCut hX e_iLt e_iLe e_iEq e_iNe e_iAdd e_iSub e_iMul e_iQuo e_iRem e_iShr e_iNeg e_iCvt e_iMax e_iMin e_bNot e_bEq e_bNe e_bAnd e_bOr e_sEq e_sNe e_sLen e_sCat e_sCut e_sAt e_lenA e_lenN e_iOf e_natOf e_atA e_atN e_cutA e_partA e_dropA e_catA e_setA e_repA e_putA e_idxN e_addN e_subN e_minN e_lenCut ee => ?_
    have hnf : bNot false = true := by simp [ee]
    have hof : ∀ x, bOr true x = true := by simp [ee]
    have hoo : bOr false true = true := by simp [ee]
    refine fn_body (fn := Try.f9) (n := 81) (ac := Tryc9) (rvs := [.t 4]) rfl (by decide) Tryp9 rfl rfl rfl ?_
    refine go rfl hX 60 (by conv => lhs; cbv) ?_ ?_
    · first | exact trivial | (simp only [Cd.ok, ee]; and_intros <;> first | omega | rfl | (simp <;> omega))
    refine on_pcall (args := [AV.agg [int se, AV.isl 3 ec, AV.isl 2 ep]]) rfl rfl rfl P10c (by simp [AV.closedL, closed_v, closed_agg, hcl]) ?_
    refine go rfl hX 0 (by conv => lhs; cbv; try simp only [hnf, hof, hoo]; cbv; try simp only [hnf, hof, hoo]; cbv; try simp only [hnf, hof, hoo]; cbv; try simp only [hnf, hof, hoo]; cbv) ?_ ?_
    · first | exact trivial | (simp only [Cd.ok, ee]; and_intros <;> first | omega | rfl | (simp <;> omega))
    refine go rfl hX 60 (by conv => lhs; cbv) ?_ ?_
    · first | exact trivial | (simp only [Cd.ok, ee]; and_intros <;> first | omega | rfl | (simp <;> omega))
    refine on_gskip rfl rfl ?_
    refine go rfl hX 0 (by conv => lhs; cbv; try simp only [hnf, hof, hoo]; cbv; try simp only [hnf, hof, hoo]; cbv; try simp only [hnf, hof, hoo]; cbv; try simp only [hnf, hof, hoo]; cbv) ?_ ?_
    · first | exact trivial | (simp only [Cd.ok, ee]; and_intros <;> first | omega | rfl | (simp <;> omega))
    refine go rfl hX 60 (by conv => lhs; cbv) ?_ ?_
    · first | exact trivial | (simp only [Cd.ok, ee]; and_intros <;> first | omega | rfl | (simp <;> omega))
    refine on_pcall (args := []) rfl rfl rfl P11c rfl ?_
    refine go rfl hX 60 (by conv => lhs; cbv) ?_ ?_
    · first | exact trivial | (simp only [Cd.ok, ee]; and_intros <;> first | omega | rfl | (simp <;> omega))
    refine fn_ret rfl rfl (.val ?_)
    rfl
  have P12c := P12c hfs
  rw [hfs] at P10c
  rcases hck : decide (checkF s = 0) with _ | _
  · have hck : checkF s ≠ 0 := by simpa using hck
    clear hfs
    generalize checkF s = ck at P12c hck
    rw [hse] at P10c P12c hcl ⊢
    clear hse
    generalize mapE Chg.enc s.com = ec at *
    generalize mapE Bat.enc s.pend = ep at *
    generalize mapE int es = ees at *
    generalize s.epoch = se at *
    refine words fun iLt iLe iEq iNe iAdd iSub iMul iQuo iRem iShr iNeg iCvt iMax iMin bNot bEq bNe bAnd bOr sEq sNe sLen sCat sCut sAt lenA lenN iOf natOf atA atN cutA partA dropA catA setA repA putA idxN addN subN minN lenCut hX e_iLt e_iLe e_iEq e_iNe e_iAdd e_iSub e_iMul e_iQuo e_iRem e_iShr e_iNeg e_iCvt e_iMax e_iMin e_bNot e_bEq e_bNe e_bAnd e_bOr e_sEq e_sNe e_sLen e_sCat e_sCut e_sAt e_lenA e_lenN e_iOf e_natOf e_atA e_atN e_cutA e_partA e_dropA e_catA e_setA e_repA e_putA e_idxN e_addN e_subN e_minN e_lenCut ee => ?_
    have hnt : bNot true = false := by simp [ee]
    have hof : ∀ x, bOr x true = true := by simp [ee]
    have hnk : iNe ck 0 = true := by simp [ee]; exact hck
    refine fn_body (fn := Try.f9) (n := 81) (ac := Tryc9) (rvs := [.t 4]) rfl (by decide) Tryp9 rfl rfl rfl ?_
    refine go rfl hX 60 (by conv => lhs; cbv) ?_ ?_
    · first | exact trivial | (simp only [Cd.ok, ee]; and_intros <;> first | omega | rfl | (simp <;> omega))
    refine on_pcall (args := [AV.agg [int se, AV.isl 3 ec, AV.isl 2 ep]]) rfl rfl rfl P10c (by simp [AV.closedL, closed_v, closed_agg, hcl]) ?_
    refine go rfl hX 0 (by conv => lhs; cbv; try simp only [hnt, hof, hnk]; cbv; try simp only [hnt, hof, hnk]; cbv; try simp only [hnt, hof, hnk]; cbv; try simp only [hnt, hof, hnk]; cbv) ?_ ?_
    · first | exact trivial | (simp only [Cd.ok, ee]; and_intros <;> first | omega | rfl | (simp <;> omega))
    refine go rfl hX 60 (by conv => lhs; cbv) ?_ ?_
    · first | exact trivial | (simp only [Cd.ok, ee]; and_intros <;> first | omega | rfl | (simp <;> omega))
    refine on_gpcall (args := [AV.agg [int se, AV.isl 3 ec, AV.isl 2 ep]]) rfl rfl rfl rfl P12c (by simp [AV.closedL, closed_v, closed_agg, hcl]) ?_
    refine go rfl hX 0 (by conv => lhs; cbv; try simp only [hnt, hof, hnk]; cbv; try simp only [hnt, hof, hnk]; cbv; try simp only [hnt, hof, hnk]; cbv; try simp only [hnt, hof, hnk]; cbv) ?_ ?_
    · first | exact trivial | (simp only [Cd.ok, ee]; and_intros <;> first | omega | rfl | (simp <;> omega))
    refine on_cond rfl (fun c1 => ?_) (fun c1 => ?_)
    ·
      simp [ee, decide_eq_true_eq, decide_eq_false_iff_not, Bool.and_eq_true, Bool.or_eq_true, Bool.not_eq_true', Bool.not_eq_false', Bool.and_eq_false_iff, Bool.or_eq_false_iff, bne_iff_ne, beq_iff_eq, beq_eq_false_iff_ne, bne_eq_false_iff_eq, ne_eq, Int.not_lt, Int.not_le, Decidable.not_not] at c1
      refine go rfl hX 60 (by conv => lhs; cbv) ?_ ?_
      · first | exact trivial | (simp only [Cd.ok, ee]; and_intros <;> first | omega | rfl | (simp <;> omega))
      refine on_pcall (args := []) rfl rfl rfl P11c rfl ?_
      refine go rfl hX 60 (by conv => lhs; cbv) ?_ ?_
      · first | exact trivial | (simp only [Cd.ok, ee]; and_intros <;> first | omega | rfl | (simp <;> omega))
      refine fn_ret rfl rfl (.val ?_)
      rfl
    ·
      simp [ee, decide_eq_true_eq, decide_eq_false_iff_not, Bool.and_eq_true, Bool.or_eq_true, Bool.not_eq_true', Bool.not_eq_false', Bool.and_eq_false_iff, Bool.or_eq_false_iff, bne_iff_ne, beq_iff_eq, beq_eq_false_iff_ne, bne_eq_false_iff_eq, ne_eq, Int.not_lt, Int.not_le, Decidable.not_not] at c1
  have hck : checkF s = 0 := by simpa using hck
  rw [hck] at P12c
  by_cases h8 : 8 < es.length
  · rw [hse] at P10c P12c hcl ⊢
    clear hse
    generalize mapE Chg.enc s.com = ec at *
    generalize mapE Bat.enc s.pend = ep at *
    generalize mapE int es = ees at *
    generalize s.epoch = se at *
    refine words fun iLt iLe iEq iNe iAdd iSub iMul iQuo iRem iShr iNeg iCvt iMax iMin bNot bEq bNe bAnd bOr sEq sNe sLen sCat sCut sAt lenA lenN iOf natOf atA atN cutA partA dropA catA setA repA putA idxN addN subN minN lenCut hX e_iLt e_iLe e_iEq e_iNe e_iAdd e_iSub e_iMul e_iQuo e_iRem e_iShr e_iNeg e_iCvt e_iMax e_iMin e_bNot e_bEq e_bNe e_bAnd e_bOr e_sEq e_sNe e_sLen e_sCat e_sCut e_sAt e_lenA e_lenN e_iOf e_natOf e_atA e_atN e_cutA e_partA e_dropA e_catA e_setA e_repA e_putA e_idxN e_addN e_subN e_minN e_lenCut ee => ?_
    have hnt : bNot true = false := by simp [ee]
    have hoo : bOr false false = false := by simp [ee]
    have hof : ∀ x, bOr x true = true := by simp [ee]
    have hn0 : iNe 0 0 = false := by simp [ee]
    have hgt : iLt 8 (lenA ees) = true := by simp [ee]; omega
    refine fn_body (fn := Try.f9) (n := 81) (ac := Tryc9) (rvs := [.t 4]) rfl (by decide) Tryp9 rfl rfl rfl ?_
    refine go rfl hX 60 (by conv => lhs; cbv) ?_ ?_
    · first | exact trivial | (simp only [Cd.ok, ee]; and_intros <;> first | omega | rfl | (simp <;> omega))
    refine on_pcall (args := [AV.agg [int se, AV.isl 3 ec, AV.isl 2 ep]]) rfl rfl rfl P10c (by simp [AV.closedL, closed_v, closed_agg, hcl]) ?_
    refine go rfl hX 0 (by conv => lhs; cbv; try simp only [hnt, hoo, hof, hn0, hgt]; cbv; try simp only [hnt, hoo, hof, hn0, hgt]; cbv; try simp only [hnt, hoo, hof, hn0, hgt]; cbv; try simp only [hnt, hoo, hof, hn0, hgt]; cbv) ?_ ?_
    · first | exact trivial | (simp only [Cd.ok, ee]; and_intros <;> first | omega | rfl | (simp <;> omega))
    refine go rfl hX 60 (by conv => lhs; cbv) ?_ ?_
    · first | exact trivial | (simp only [Cd.ok, ee]; and_intros <;> first | omega | rfl | (simp <;> omega))
    refine on_gpcall (args := [AV.agg [int se, AV.isl 3 ec, AV.isl 2 ep]]) rfl rfl rfl rfl P12c (by simp [AV.closedL, closed_v, closed_agg, hcl]) ?_
    refine go rfl hX 0 (by conv => lhs; cbv; try simp only [hnt, hoo, hof, hn0, hgt]; cbv; try simp only [hnt, hoo, hof, hn0, hgt]; cbv; try simp only [hnt, hoo, hof, hn0, hgt]; cbv; try simp only [hnt, hoo, hof, hn0, hgt]; cbv) ?_ ?_
    · first | exact trivial | (simp only [Cd.ok, ee]; and_intros <;> first | omega | rfl | (simp <;> omega))
    refine go rfl hX 60 (by conv => lhs; cbv) ?_ ?_
    · first | exact trivial | (simp only [Cd.ok, ee]; and_intros <;> first | omega | rfl | (simp <;> omega))
    refine on_pcall (args := []) rfl rfl rfl P11c rfl ?_
    refine go rfl hX 60 (by conv => lhs; cbv) ?_ ?_
    · first | exact trivial | (simp only [Cd.ok, ee]; and_intros <;> first | omega | rfl | (simp <;> omega))
    refine fn_ret rfl rfl (.val ?_)
    rfl
  have P29c := P29 es (by omega)
  have P30c := P30 es (by omega)
  have hso := sort_sorted es
  have hsl := sort_len es
  have hss : AV.closedL (mapE int (sortI es)) = true := closed_mapE int_closed _
  have hcnt := check_count hck
  have P17s := P17 s hf hcnt
  have P24s := fun e => P24 s e hf hcnt
  have hcs := closedC s.com
  have hcp := closedB s.pend
  have hcA := closedC (s.com ++ pendF s.pend)
  unfold Snk.enc at P10c P12c P17s P24s hcl ⊢
  clear hse
  generalize sortI es = so at *
  generalize hs' : mapE int so = ss at *
  have hsl2 : ss.length = so.length := by rw [← hs', mapE_len]
  generalize hee : mapE int es = ees at *
  generalize hec : mapE Chg.enc s.com = ec at *
  generalize hep : mapE Bat.enc s.pend = ep at *
  generalize heA : mapE Chg.enc (s.com ++ pendF s.pend) = eA at *
  generalize hnl : es.length = nl at *
  refine words fun iLt iLe iEq iNe iAdd iSub iMul iQuo iRem iShr iNeg iCvt iMax iMin bNot bEq bNe bAnd bOr sEq sNe sLen sCat sCut sAt lenA lenN iOf natOf atA atN cutA partA dropA catA setA repA putA idxN addN subN minN lenCut hX e_iLt e_iLe e_iEq e_iNe e_iAdd e_iSub e_iMul e_iQuo e_iRem e_iShr e_iNeg e_iCvt e_iMax e_iMin e_bNot e_bEq e_bNe e_bAnd e_bOr e_sEq e_sNe e_sLen e_sCat e_sCut e_sAt e_lenA e_lenN e_iOf e_natOf e_atA e_atN e_cutA e_partA e_dropA e_catA e_setA e_repA e_putA e_idxN e_addN e_subN e_minN e_lenCut ee => ?_
  have hnt : bNot true = false := by simp [ee]
  have hoo : bOr false false = false := by simp [ee]
  have hn0 : iNe 0 0 = false := by simp [ee]
  have he0 : iEq 0 0 = true := by simp [ee]
  have hat : bAnd true true = true := by simp [ee]
  have hgt : iLt 8 (lenA ees) = false := by simp [ee]; omega
  refine fn_body (fn := Try.f9) (n := 81) (ac := Tryc9) (rvs := [.t 4]) rfl (by decide) Tryp9 rfl rfl rfl ?_
  refine go rfl hX 60 (by conv => lhs; cbv) ?_ ?_
  · first | exact trivial | (simp only [Cd.ok, ee]; and_intros <;> first | omega | rfl | (simp <;> omega))
  refine on_pcall (args := [AV.agg [int s.epoch, AV.isl 3 ec, AV.isl 2 ep]]) rfl rfl rfl P10c (by simp [AV.closedL, closed_v, closed_agg, hcl]) ?_
  refine go rfl hX 0 (by conv => lhs; cbv; try simp only [hnt, hoo, hn0, hgt]; cbv; try simp only [hnt, hoo, hn0, hgt]; cbv; try simp only [hnt, hoo, hn0, hgt]; cbv; try simp only [hnt, hoo, hn0, hgt]; cbv) ?_ ?_
  · first | exact trivial | (simp only [Cd.ok, ee]; and_intros <;> first | omega | rfl | (simp <;> omega))
  refine go rfl hX 60 (by conv => lhs; cbv) ?_ ?_
  · first | exact trivial | (simp only [Cd.ok, ee]; and_intros <;> first | omega | rfl | (simp <;> omega))
  refine on_gpcall (args := [AV.agg [int s.epoch, AV.isl 3 ec, AV.isl 2 ep]]) rfl rfl rfl rfl P12c (by simp [AV.closedL, closed_v, closed_agg, hcl]) ?_
  refine go rfl hX 0 (by conv => lhs; cbv; try simp only [hnt, hoo, hn0, hgt]; cbv; try simp only [hnt, hoo, hn0, hgt]; cbv; try simp only [hnt, hoo, hn0, hgt]; cbv; try simp only [hnt, hoo, hn0, hgt]; cbv) ?_ ?_
  · first | exact trivial | (simp only [Cd.ok, ee]; and_intros <;> first | omega | rfl | (simp <;> omega))
  refine go rfl hX 60 (by conv => lhs; cbv) ?_ ?_
  · first | exact trivial | (simp only [Cd.ok, ee]; and_intros <;> first | omega | rfl | (simp <;> omega))
  have hssi : (AV.isl 1 ss).closed = true := hss
  refine on_ocall (args := [.isl 1 ees]) (v' := .sl 1 1 0 nl) (H' := [.arr 1 ees]) rfl rfl rfl P29c (by simp [AV.closedL, hcei]) rfl (by simp [AObj.sub, subL_closed _ hce]) ?_
  refine go rfl hX 60 (by conv => lhs; cbv) ?_ ?_
  · first | exact trivial | (simp only [Cd.ok, ee]; and_intros <;> first | omega | rfl | (simp <;> omega))
  refine on_fcall [1] rfl rfl enters30 P30c (by decide) (by simp) ?_ rfl ?_
  · show _ = [AObj.arr 1 (AV.subL _ ees)]
    rw [subL_closed _ hce]
  rintro v0 H1 ⟨rfl, rfl⟩ -
  refine on_entO (F' := [(5, .isl 1 ss), (4, .val (.bool false)), (2, .ptr 0 0)]) (H' := [.cells [int s.epoch, .isl 3 ec, .isl 2 ep]])
    (ent_sub [.to 0, .isl 1 ss] [some 0] ⟨⟨by simp, rfl⟩, ⟨_, rfl, by rw [subL_closed _ hss, subL_closed _ hss]⟩, trivial⟩ ⟨osrc_cells (b := 0) rfl rfl rfl ⟨.refl _, .cl hcs, .cl hcp, trivial⟩, trivial⟩ ⟨.of (sub_whole rfl (by omega)), .refl _, .refl _, trivial⟩) ?_
  refine go rfl hX 60 (by conv => lhs; cbv) ?_ ?_
  · first | exact trivial | (simp only [Cd.ok, ee]; and_intros <;> first | omega | rfl | (simp <;> omega))
  refine on_loopP (ι := List Int × List Int × Int × Int)
    (fun p => ([(35, int p.2.2.1), (34, int (lenA ss)), (33, .isl 1 ss), (7, int p.2.2.2), (6, .ptr 1 0), (4, .val (.bool false)), (2, .ptr 0 0)],
      [.cells [int s.epoch, .isl 3 ec, .isl 2 ep], .cells [int (commitF s p.2.2.2).1.epoch, .isl 3 (mapE Chg.enc (commitF s p.2.2.2).1.com), .isl 2 (mapE Bat.enc (commitF s p.2.2.2).1.pend)]]))
    (fun p => so = p.1 ++ p.2.1 ∧ p.2.2.1 = p.1.length ∧ (commitF s p.2.2.2).2 = 0 ∧ 0 ≤ p.2.2.2 ∧ p.2.2.2 ≤ 1099511627776 ∧ ∀ n ∈ p.2.1, n < 0 ∨ p.2.2.2 ≤ n) (fun p => p.2.1.length) ([], so, 0, 0) ⟨rfl, rfl, by rw [commit_zero hck], by simp, by simp, fun n _ => by dsimp only; omega⟩
    (by
      dsimp only
      rw [commit_zero hck]
      dsimp only
      rw [hec, hep]
      exact ent_fw ⟨.refl _, .refl _, .refl _, .refl _, .refl _, .refl _, .refl _, trivial⟩) ?_
  rintro ⟨d, r, i, last⟩ ⟨h1, hi, h2, h3, h4, h5⟩
  dsimp only at h1 hi h2 h3 h4 h5 ⊢
  have hft := commitF_fine (e := last) hf hcnt
  have hct : checkF (commitF s last).1 = 0 := by
    rcases commit_cases hck last with ⟨h, _⟩ | h
    · omega
    · exact h.2.2.2.1
  have htc := closedC (commitF s last).1.com
  have htp := closedB (commitF s last).1.pend
  cases r with
  | nil =>
    have L1 := len_split h1
    try simp only [List.length_cons, List.length_nil] at L1
    have hge : iLt i (lenA ss) = false := lt_f e_iLt e_lenA (by simp at L1; omega)
    have P24c := P24s last
    have P19c := P19 (commitF s last).1 (commitF s last).1 hft
    rw [decide_eq_true rfl] at P19c
    unfold Snk.enc at P24c P19c
    rw [h2] at P24c
    generalize mapE Chg.enc (commitF s last).1.com = tc at *
    generalize mapE Bat.enc (commitF s last).1.pend = tp at *
    generalize (commitF s last).1.epoch = te at *
    refine go rfl hX 0 (by conv => lhs; cbv; try simp only [hge, hn0, he0, hat]; cbv; try simp only [hge, hn0, he0, hat]; cbv; try simp only [hge, hn0, he0, hat]; cbv; try simp only [hge, hn0, he0, hat]; cbv) ?_ ?_
    · first | exact trivial | (simp only [Cd.ok, ee]; and_intros <;> first | omega | rfl | (simp <;> omega))
    refine go rfl hX 60 (by conv => lhs; cbv) ?_ ?_
    · first | exact trivial | (simp only [Cd.ok, ee]; and_intros <;> first | omega | rfl | (simp <;> omega))
    refine loopP_exit ?_
    refine go rfl hX 60 (by conv => lhs; cbv) ?_ ?_
    · first | exact trivial | (simp only [Cd.ok, ee]; and_intros <;> first | omega | rfl | (simp <;> omega))
    refine on_pcall (args := [AV.agg [int s.epoch, AV.isl 3 ec, AV.isl 2 ep], int last]) rfl rfl rfl P24c (by simp [AV.closedL, closed_v, closed_agg, hcs, hcp, htc, htp]) ?_
    refine go rfl hX 60 (by conv => lhs; cbv) ?_ ?_
    · first | exact trivial | (simp only [Cd.ok, ee]; and_intros <;> first | omega | rfl | (simp <;> omega))
    refine on_pcall (args := []) rfl rfl rfl P11c rfl ?_
    refine go rfl hX 0 (by conv => lhs; cbv; try simp only [hge, hn0, he0, hat]; cbv; try simp only [hge, hn0, he0, hat]; cbv; try simp only [hge, hn0, he0, hat]; cbv; try simp only [hge, hn0, he0, hat]; cbv) ?_ ?_
    · first | exact trivial | (simp only [Cd.ok, ee]; and_intros <;> first | omega | rfl | (simp <;> omega))
    refine go rfl hX 60 (by conv => lhs; cbv) ?_ ?_
    · first | exact trivial | (simp only [Cd.ok, ee]; and_intros <;> first | omega | rfl | (simp <;> omega))
    refine on_gpcall (args := [AV.agg [int te, AV.isl 3 tc, AV.isl 2 tp], AV.agg [int te, AV.isl 3 tc, AV.isl 2 tp]]) rfl rfl rfl rfl P19c (by simp [AV.closedL, closed_v, closed_agg, hcs, hcp, htc, htp]) ?_
    refine go rfl hX 60 (by conv => lhs; cbv) ?_ ?_
    · first | exact trivial | (simp only [Cd.ok, ee]; and_intros <;> first | omega | rfl | (simp <;> omega))
    refine fn_ret rfl rfl (.val ?_)
    rfl
  | cons n r =>
    have L1 := len_split h1
    try simp only [List.length_cons, List.length_nil] at L1
    have hc : iLt i (lenA ss) = true := lt_t e_iLt e_lenA (by omega)
    have han : atA ss i = int n := el_at e_atA hs' h1 hi
    have hi' : iAdd .i64 i 1 = ((d ++ [n] : List Int).length : Int) := by
      simp only [List.length_append, List.length_cons, List.length_nil]; exact inc_w e_iAdd hi (by omega)
    have P24c := P24 (commitF s last).1 n hft (check_count hct)
    have hxc := closedC (commitF (commitF s last).1 n).1.com
    have hxp := closedB (commitF (commitF s last).1 n).1.pend
    rcases commit_cases hct n with ⟨k1, k2⟩ | ⟨k1, k2, k3, k4, _⟩
    · unfold Snk.enc at P24c
      rw [k1] at P24c
      generalize mapE Chg.enc (commitF (commitF s last).1 n).1.com = xc at *
      generalize mapE Bat.enc (commitF (commitF s last).1 n).1.pend = xp at *
      generalize (commitF (commitF s last).1 n).1.epoch = xe at *
      generalize mapE Chg.enc (commitF s last).1.com = tc at *
      generalize mapE Bat.enc (commitF s last).1.pend = tp at *
      generalize (commitF s last).1.epoch = te at *
      have hn29 : iNe 29 0 = true := by simp [ee]
      have hot : ∀ x, bOr true x = true := by simp [ee]
      have hof : bOr false true = true := by simp [ee]
      by_cases hneg : n < 0
      · have hb1 : iLt n 0 = true := by simp [ee]; omega
        refine go rfl hX 0 (by conv => lhs; cbv; try simp only [hc, han, hn29, hb1, hot]; cbv; try simp only [hc, han, hn29, hb1, hot]; cbv; try simp only [hc, han, hn29, hb1, hot]; cbv; try simp only [hc, han, hn29, hb1, hot]; cbv) ?_ ?_
        · first | exact trivial | (simp only [Cd.ok, ee]; and_intros <;> first | omega | rfl | (simp <;> omega))
        refine go rfl hX 1 (by conv => lhs; cbv; try simp only [hc, han, hn29, hb1, hot]; cbv; try simp only [hc, han, hn29, hb1, hot]; cbv; try simp only [hc, han, hn29, hb1, hot]; cbv; try simp only [hc, han, hn29, hb1, hot]; cbv) ?_ ?_
        · first | exact trivial | (simp only [Cd.ok, ee]; and_intros <;> first | omega | rfl | (simp <;> omega))
        refine on_pcall (args := [AV.agg [int te, AV.isl 3 tc, AV.isl 2 tp], int n]) rfl rfl rfl P24c (by simp [AV.closedL, closed_v, closed_agg, htc, htp]) ?_
        refine go rfl hX 0 (by conv => lhs; cbv; try simp only [hc, han, hn29, hb1, hot]; cbv; try simp only [hc, han, hn29, hb1, hot]; cbv; try simp only [hc, han, hn29, hb1, hot]; cbv; try simp only [hc, han, hn29, hb1, hot]; cbv) ?_ ?_
        · first | exact trivial | (simp only [Cd.ok, ee]; and_intros <;> first | omega | rfl | (simp <;> omega))
        refine go rfl hX 1 (by conv => lhs; cbv; try simp only [hc, han, hn29, hb1, hot]; cbv; try simp only [hc, han, hn29, hb1, hot]; cbv; try simp only [hc, han, hn29, hb1, hot]; cbv; try simp only [hc, han, hn29, hb1, hot]; cbv) ?_ ?_
        · first | exact trivial | (simp only [Cd.ok, ee]; and_intros <;> first | omega | rfl | (simp <;> omega))
        refine on_gpcall (args := []) rfl rfl rfl rfl P11c rfl ?_
        refine go rfl hX 60 (by conv => lhs; cbv) ?_ ?_
        · first | exact trivial | (simp only [Cd.ok, ee]; and_intros <;> first | omega | rfl | (simp <;> omega))
        refine loopP_ret ?_
        refine go rfl hX 60 (by conv => lhs; cbv) ?_ ?_
        · first | exact trivial | (simp only [Cd.ok, ee]; and_intros <;> first | omega | rfl | (simp <;> omega))
        refine fn_ret rfl rfl (.val ?_)
        rfl
      · have hb1 : iLt n 0 = false := by simp [ee]; omega
        have hb2 : iLt 1099511627776 n = true := by simp [ee]; omega
        refine go rfl hX 0 (by conv => lhs; cbv; try simp only [hc, han, hn29, hb1, hb2, hof]; cbv; try simp only [hc, han, hn29, hb1, hb2, hof]; cbv; try simp only [hc, han, hn29, hb1, hb2, hof]; cbv; try simp only [hc, han, hn29, hb1, hb2, hof]; cbv) ?_ ?_
        · first | exact trivial | (simp only [Cd.ok, ee]; and_intros <;> first | omega | rfl | (simp <;> omega))
        refine go rfl hX 1 (by conv => lhs; cbv; try simp only [hc, han, hn29, hb1, hb2, hof]; cbv; try simp only [hc, han, hn29, hb1, hb2, hof]; cbv; try simp only [hc, han, hn29, hb1, hb2, hof]; cbv; try simp only [hc, han, hn29, hb1, hb2, hof]; cbv) ?_ ?_
        · first | exact trivial | (simp only [Cd.ok, ee]; and_intros <;> first | omega | rfl | (simp <;> omega))
        refine on_pcall (args := [AV.agg [int te, AV.isl 3 tc, AV.isl 2 tp], int n]) rfl rfl rfl P24c (by simp [AV.closedL, closed_v, closed_agg, htc, htp]) ?_
        refine go rfl hX 0 (by conv => lhs; cbv; try simp only [hc, han, hn29, hb1, hb2, hof]; cbv; try simp only [hc, han, hn29, hb1, hb2, hof]; cbv; try simp only [hc, han, hn29, hb1, hb2, hof]; cbv; try simp only [hc, han, hn29, hb1, hb2, hof]; cbv) ?_ ?_
        · first | exact trivial | (simp only [Cd.ok, ee]; and_intros <;> first | omega | rfl | (simp <;> omega))
        refine go rfl hX 1 (by conv => lhs; cbv; try simp only [hc, han, hn29, hb1, hb2, hof]; cbv; try simp only [hc, han, hn29, hb1, hb2, hof]; cbv; try simp only [hc, han, hn29, hb1, hb2, hof]; cbv; try simp only [hc, han, hn29, hb1, hb2, hof]; cbv) ?_ ?_
        · first | exact trivial | (simp only [Cd.ok, ee]; and_intros <;> first | omega | rfl | (simp <;> omega))
        refine on_gpcall (args := []) rfl rfl rfl rfl P11c rfl ?_
        refine go rfl hX 60 (by conv => lhs; cbv) ?_ ?_
        · first | exact trivial | (simp only [Cd.ok, ee]; and_intros <;> first | omega | rfl | (simp <;> omega))
        refine loopP_ret ?_
        refine go rfl hX 60 (by conv => lhs; cbv) ?_ ?_
        · first | exact trivial | (simp only [Cd.ok, ee]; and_intros <;> first | omega | rfl | (simp <;> omega))
        refine fn_ret rfl rfl (.val ?_)
        rfl
    · have hln : last ≤ n := by have := h5 n (by simp); omega
      have hcs2 := commit_step hck h3 hln k3
      rw [hcs2] at P24c k1 k4 hxc hxp
      have hfx := commitF_fine (e := n) hf hcnt
      have P17x := P17 (commitF s n).1 hfx (check_count k4)
      have hall := commit_all hck k1
      rw [hall] at P17x
      have P14c := P14t (s.com ++ pendF s.pend) (s.com ++ pendF s.pend) ⟨by unfold Short; rw [List.length_append, pendF_len]; unfold countF at hcnt; omega, fun c hc => by
        rcases List.mem_append.1 hc with hc | hc
        · exact hf.com.2 c hc
        · exact (pend_fine hf hcnt).2 c hc⟩ rfl
      have h5' : ∀ x ∈ r, x < 0 ∨ n ≤ x := by
        intro x hx
        right
        rw [h1] at hso
        exact (List.pairwise_cons.1 (List.pairwise_append.1 hso).2.1).1 x hx
      unfold Snk.enc at P24c P17x
      rw [k1] at P24c
      rw [heA] at P17x P14c
      generalize hgc : mapE Chg.enc (commitF s n).1.com = xc at *
      generalize hgp : mapE Bat.enc (commitF s n).1.pend = xp at *
      generalize hge : (commitF s n).1.epoch = xe at *
      generalize mapE Chg.enc (commitF s last).1.com = tc at *
      generalize mapE Bat.enc (commitF s last).1.pend = tp at *
      generalize (commitF s last).1.epoch = te at *
      refine go rfl hX 0 (by conv => lhs; cbv; try simp only [hc, han, hn0]; cbv; try simp only [hc, han, hn0]; cbv; try simp only [hc, han, hn0]; cbv; try simp only [hc, han, hn0]; cbv) ?_ ?_
      · first | exact trivial | (simp only [Cd.ok, ee]; and_intros <;> first | omega | rfl | (simp <;> omega))
      refine go rfl hX 1 (by conv => lhs; cbv; try simp only [hc, han, hn0]; cbv; try simp only [hc, han, hn0]; cbv; try simp only [hc, han, hn0]; cbv; try simp only [hc, han, hn0]; cbv) ?_ ?_
      · first | exact trivial | (simp only [Cd.ok, ee]; and_intros <;> first | omega | rfl | (simp <;> omega))
      refine on_pcall (args := [AV.agg [int te, AV.isl 3 tc, AV.isl 2 tp], int n]) rfl rfl rfl P24c (by simp [AV.closedL, closed_v, closed_agg, htc, htp]) ?_
      refine go rfl hX 0 (by conv => lhs; cbv; try simp only [hc, han, hn0]; cbv; try simp only [hc, han, hn0]; cbv; try simp only [hc, han, hn0]; cbv; try simp only [hc, han, hn0]; cbv) ?_ ?_
      · first | exact trivial | (simp only [Cd.ok, ee]; and_intros <;> first | omega | rfl | (simp <;> omega))
      refine go rfl hX 60 (by conv => lhs; cbv) ?_ ?_
      · first | exact trivial | (simp only [Cd.ok, ee]; and_intros <;> first | omega | rfl | (simp <;> omega))
      have hxi : (AV.agg [int xe, .isl 3 xc, .isl 2 xp]).closed = true := by simp [closed_agg, AV.closedL, closed_v, hxc, hxp]
      have hsi : (AV.agg [int s.epoch, .isl 3 ec, .isl 2 ep]).closed = true := hcl
      refine tr_drawB rfl (by conv => lhs; cbv) rfl ?_
      refine tr_go hX (by conv => lhs; cbv) ?_ ?_
      · first | exact trivial | (simp only [Cd.ok, ee]; and_intros <;> first | omega | rfl | (simp <;> omega))
      refine tr_pcall (args := [.agg [int xe, .isl 3 xc, .isl 2 xp]]) rfl rfl rfl P17x (closed1 hxi) ?_
      refine tr_go hX (by conv => lhs; cbv) ?_ ?_
      · first | exact trivial | (simp only [Cd.ok, ee]; and_intros <;> first | omega | rfl | (simp <;> omega))
      refine tr_pcall (args := [.agg [int s.epoch, .isl 3 ec, .isl 2 ep]]) rfl rfl rfl P17s (closed1 hsi) ?_
      refine tr_pcall (args := [.isl 3 eA, .isl 3 eA]) rfl rfl rfl P14c (closed2 hcA hcA) ?_
      refine tr_go hX (by conv => lhs; cbv; simp only [hnt,hnt]; cbv; simp only [hnt,hnt]; cbv) ?_ ?_
      · first | exact trivial | (simp only [Cd.ok, ee]; and_intros <;> first | omega | rfl | (simp <;> omega))
      refine tr_nil ⟨rfl, ?_, ?_⟩
      · simp only [LooksL, lookAll, List.append, List.cons_append, List.nil_append, List.append_nil]; and_intros <;> first | trivial | (intro hp; first | rfl | exact absurd (show false = true from hp) Bool.false_ne_true)
      refine go rfl hX 60 (by conv => lhs; cbv) ?_ ?_
      · first | exact trivial | (simp only [Cd.ok, ee]; and_intros <;> first | omega | rfl | (simp <;> omega))
      refine loopP_next (d ++ [n], r, iAdd .i64 i 1, n) ⟨by simp [h1], hi', k1, k2, k3, h5'⟩ (by simp) (by dsimp only; rw [hgc, hgp, hge]; exact ent_sub [.to 0, .to 1, .gone] [some 0, some 1] ⟨⟨by simp, rfl⟩, ⟨by simp, rfl⟩, trivial, trivial⟩ ⟨osrc_cells (b := 0) rfl rfl rfl ⟨.refl _, .cl hcs, .cl hcp, trivial⟩, osrc_cells (b := 1) rfl rfl rfl ⟨.refl _, .cl hxc, .cl hxp, trivial⟩, trivial⟩ ⟨.refl _, .refl _, .cl hssi, .refl _, .refl _, .refl _, .refl _, trivial⟩)
end Go.Am
end
