/- Contracts of the program's functions, for every argument that meets the conditions that each theorem names. -/
import Derived.Test.YtecfkfgaejmdfaaCt3
import Derived.Test.YtecfkfgaejmdfaaAm5
import Derived.Test.YtecfkfgaejmdfaaCt2
import Derived.Test.YtecfkfgaejmdfaaAm6
import Derived.Test.YtecfkfgaejmdfaaRows
section
set_option linter.unusedVariables false
set_option linter.unusedSimpArgs false
set_option maxRecDepth 20000
namespace Go.Am
open Go.Proofs

theorem coll_sum : ∀ (l : List Int) (x : Int), (collF x l).1 + ((collF x l).2.length : Nat) = x + (l.length : Nat) ∧ x ≤ (collF x l).1
  | [], x => by simp [collF]
  | a :: r, x => by
    have := coll_sum r (x + 1)
    unfold collF
    split
    · simp only [List.length_cons]; omega
    · simp
theorem with_sum (t : Trk) (n : Int) : (withT t n).next + ((withT t n).bey.length : Nat) ≤ t.next + (t.bey.length : Nat) + 1 ∧ t.next ≤ (withT t n).next := by
  unfold withT
  split
  · omega
  · have h1 := coll_sum (insF n t.bey) t.next
    have h2 := ins_len n t.bey
    unfold addT
    dsimp only
    omega
theorem with_pts (t : Trk) (n : Int) : (withT t n).pts = t.pts ∧ (withT t n).mark = t.mark := by
  unfold withT
  split <;> exact ⟨rfl, rfl⟩
def startR (a b : Trk) : Trk := if a.next < b.next then ⟨(collF b.next (a.bey.filter fun m => decide (b.next ≤ m))).1, (collF b.next (a.bey.filter fun m => decide (b.next ≤ m))).2, a.pts, a.mark⟩ else a
def foldR (t : Trk) (l : List Int) : Trk := l.foldl withT t
def mergeR (a b : Trk) : Trk × Int :=
  if checkT a ≠ 0 then (T0, checkT a) else if checkT b ≠ 0 then (T0, checkT b) else if 256 < (foldR (startR a b) b.bey).bey.length then (T0, 5) else (foldR (startR a b) b.bey, 0)

set_option maxHeartbeats 8000000 in
theorem P23 (a b : Trk) (hfa : a.Fine) (hfb : b.Fine) : PCall EE 23 [a.enc, b.enc] (.tup [(mergeR a b).1.enc, int (mergeR a b).2]) := by
  have P16a := P16 a hfa
  have P16b := P16 b hfb
  have hoka := fun h : checkT a = 0 => check_ok h
  have hokb := fun h : checkT b = 0 => check_ok h
  have P36c := fun (t : Trk) n hf hn hl => P36 t n hf hn hl
  have hcla := Trk.closed a
  have hclb := Trk.closed b
  have hcba := closedI a.bey
  have hcpa := closedP a.pts
  have hcpb := closedP b.pts
  have hceb : AV.closedL (mapE int a.bey) = true := closed_mapE int_closed _
  have hcbb : AV.closedL (mapE int b.bey) = true := closed_mapE int_closed _
  have hcep : AV.closedL (mapE Pt.enc a.pts) = true := closed_mapE Pt.closed _
  have hla : (mapE int a.bey).length = a.bey.length := mapE_len _ _
  have hlb : (mapE int b.bey).length = b.bey.length := mapE_len _ _
  have hea : a.enc = .agg [int a.next, .isl 1 (mapE int a.bey), .isl 2 (mapE Pt.enc a.pts), int a.mark] := rfl
  have heb : b.enc = .agg [int b.next, .isl 1 (mapE int b.bey), .isl 2 (mapE Pt.enc b.pts), int b.mark] := rfl
  have hsp := hfa.pts
  have hst2 : (startR a b).pts = a.pts ∧ (startR a b).mark = a.mark := by unfold startR; split <;> exact ⟨rfl, rfl⟩
  unfold mergeR
  rw [hea] at P16a hcla ⊢
  rw [heb] at P16b hclb ⊢
  clear hea heb
  obtain ⟨s0, hst⟩ : ∃ s0, startR a b = s0 := ⟨_, rfl⟩
  rw [hst] at hst2 ⊢
  unfold startR at hst
  obtain ⟨an, ab, ap, ak⟩ := a
  obtain ⟨bn, bb, bp, bk⟩ := b
  dsimp only at *
  generalize hcka : checkT ⟨an, ab, ap, ak⟩ = cka at *
  generalize hckb : checkT ⟨bn, bb, bp, bk⟩ = ckb at *
  generalize hes : mapE int ab = ea at *
  generalize hes2 : mapE int bb = eb at *
  generalize hes3 : mapE Pt.enc ap = epa at *
  generalize mapE Pt.enc bp = epb at *
  refine words fun iLt iLe iEq iNe iAdd iSub iMul iQuo iRem iShr iNeg iCvt iMax iMin bNot bEq bNe bAnd bOr sEq sNe sLen sCat sCut sAt lenA lenN iOf natOf atA atN cutA partA dropA catA setA repA putA idxN addN subN minN lenCut hX e_iLt e_iLe e_iEq e_iNe e_iAdd e_iSub e_iMul e_iQuo e_iRem e_iShr e_iNeg e_iCvt e_iMax e_iMin e_bNot e_bEq e_bNe e_bAnd e_bOr e_sEq e_sNe e_sLen e_sCat e_sCut e_sAt e_lenA e_lenN e_iOf e_natOf e_atA e_atN e_cutA e_partA e_dropA e_catA e_setA e_repA e_putA e_idxN e_addN e_subN e_minN e_lenCut ee => ?_
  refine fn_body (fn := Try.f23) (n := 99) (ac := Tryc23) (rvs := [.cell 4 4 true, .t 5]) rfl (by decide) Tryp23 rfl rfl rfl ?_
  by_cases h0 : cka = 0
  rotate_left
  · rw [if_pos h0]
    have hb : iNe cka 0 = true := by simp [ee]; exact h0
    refine go rfl hX 60 (by conv => lhs; cbv) ?_ ?_
    · first | exact trivial | (simp only [Cd.ok, ee]; and_intros <;> first | omega | rfl | (simp <;> omega))
    refine on_pcall (args := [AV.agg [int an, AV.isl 1 ea, AV.isl 2 epa, int ak]]) rfl rfl rfl P16a (by simp [AV.closedL, closed_v, closed_agg, hcla]) ?_
    refine go rfl hX 0 (by conv => lhs; cbv; try simp only [hb]; cbv; try simp only [hb]; cbv; try simp only [hb]; cbv; try simp only [hb]; cbv) ?_ ?_
    · first | exact trivial | (simp only [Cd.ok, ee]; and_intros <;> first | omega | rfl | (simp <;> omega))
    refine go rfl hX 60 (by conv => lhs; cbv) ?_ ?_
    · first | exact trivial | (simp only [Cd.ok, ee]; and_intros <;> first | omega | rfl | (simp <;> omega))
    refine fn_ret rfl rfl ?_
    exact fz_merge0 _
  rw [if_neg (by simp [h0])]
  have hb0 : iNe cka 0 = false := by simp [ee]; exact h0
  have hoka := hoka h0
  by_cases h1 : ckb = 0
  rotate_left
  · rw [if_pos h1]
    have hb : iNe ckb 0 = true := by simp [ee]; exact h1
    refine go rfl hX 60 (by conv => lhs; cbv) ?_ ?_
    · first | exact trivial | (simp only [Cd.ok, ee]; and_intros <;> first | omega | rfl | (simp <;> omega))
    refine on_pcall (args := [AV.agg [int an, AV.isl 1 ea, AV.isl 2 epa, int ak]]) rfl rfl rfl P16a (by simp [AV.closedL, closed_v, closed_agg, hcla, hclb]) ?_
    refine go rfl hX 0 (by conv => lhs; cbv; try simp only [hb0, hb]; cbv; try simp only [hb0, hb]; cbv; try simp only [hb0, hb]; cbv; try simp only [hb0, hb]; cbv) ?_ ?_
    · first | exact trivial | (simp only [Cd.ok, ee]; and_intros <;> first | omega | rfl | (simp <;> omega))
    refine go rfl hX 60 (by conv => lhs; cbv) ?_ ?_
    · first | exact trivial | (simp only [Cd.ok, ee]; and_intros <;> first | omega | rfl | (simp <;> omega))
    refine on_pcall (args := [AV.agg [int bn, AV.isl 1 eb, AV.isl 2 epb, int bk]]) rfl rfl rfl P16b (by simp [AV.closedL, closed_v, closed_agg, hcla, hclb]) ?_
    refine go rfl hX 0 (by conv => lhs; cbv; try simp only [hb0, hb]; cbv; try simp only [hb0, hb]; cbv; try simp only [hb0, hb]; cbv; try simp only [hb0, hb]; cbv) ?_ ?_
    · first | exact trivial | (simp only [Cd.ok, ee]; and_intros <;> first | omega | rfl | (simp <;> omega))
    refine go rfl hX 60 (by conv => lhs; cbv) ?_ ?_
    · first | exact trivial | (simp only [Cd.ok, ee]; and_intros <;> first | omega | rfl | (simp <;> omega))
    refine fn_ret rfl rfl ?_
    exact fz_merge0 _
  rw [if_neg (by simp [h1])]
  have hb1 : iNe ckb 0 = false := by simp [ee]; exact h1
  have hokb := hokb h1
  refine go rfl hX 60 (by conv => lhs; cbv) ?_ ?_
  · first | exact trivial | (simp only [Cd.ok, ee]; and_intros <;> first | omega | rfl | (simp <;> omega))
  refine on_pcall (args := [AV.agg [int an, AV.isl 1 ea, AV.isl 2 epa, int ak]]) rfl rfl rfl P16a (by simp [AV.closedL, closed_v, closed_agg, hcla]) ?_
  refine go rfl hX 0 (by conv => lhs; cbv; try simp only [hb0]; cbv; try simp only [hb0]; cbv; try simp only [hb0]; cbv; try simp only [hb0]; cbv) ?_ ?_
  · first | exact trivial | (simp only [Cd.ok, ee]; and_intros <;> first | omega | rfl | (simp <;> omega))
  refine go rfl hX 1 (by conv => lhs; cbv; try simp only [hb0]; cbv; try simp only [hb0]; cbv; try simp only [hb0]; cbv; try simp only [hb0]; cbv) ?_ ?_
  · first | exact trivial | (simp only [Cd.ok, ee]; and_intros <;> first | omega | rfl | (simp <;> omega))
  refine go rfl hX 60 (by conv => lhs; cbv) ?_ ?_
  · first | exact trivial | (simp only [Cd.ok, ee]; and_intros <;> first | omega | rfl | (simp <;> omega))
  refine on_pcall (args := [AV.agg [int bn, AV.isl 1 eb, AV.isl 2 epb, int bk]]) rfl rfl rfl P16b (by simp [AV.closedL, closed_v, closed_agg, hclb]) ?_
  refine go rfl hX 0 (by conv => lhs; cbv; try simp only [hb1]; cbv; try simp only [hb1]; cbv; try simp only [hb1]; cbv; try simp only [hb1]; cbv) ?_ ?_
  · first | exact trivial | (simp only [Cd.ok, ee]; and_intros <;> first | omega | rfl | (simp <;> omega))
  refine go rfl hX 1 (by conv => lhs; cbv; try simp only [hb1]; cbv; try simp only [hb1]; cbv; try simp only [hb1]; cbv; try simp only [hb1]; cbv) ?_ ?_
  · first | exact trivial | (simp only [Cd.ok, ee]; and_intros <;> first | omega | rfl | (simp <;> omega))
  refine go rfl hX 0 (by conv => lhs; cbv) ?_ ?_
  · first | exact trivial | (simp only [Cd.ok, ee]; and_intros <;> first | omega | rfl | (simp <;> omega))
  obtain ⟨rr, hrr⟩ : ∃ rr, foldR s0 bb = rr := ⟨_, rfl⟩
  rw [hrr]
  by_cases h2 : an < bn
  · have hb : iLt an bn = true := by simp [ee]; omega
    rw [if_pos h2] at hst
    refine go rfl hX 1 (by conv => lhs; cbv; try simp only [hb]; cbv; try simp only [hb]; cbv; try simp only [hb]; cbv; try simp only [hb]; cbv) ?_ ?_
    · first | exact trivial | (simp only [Cd.ok, ee]; and_intros <;> first | omega | rfl | (simp <;> omega))
    have hfl : ∀ l : List Int, (l.filter fun m => decide (bn ≤ m)).length ≤ l.length := fun l => List.length_filter_le _ _
    have hcs := coll_sum (ab.filter fun m => decide (bn ≤ m)) bn
    have hfl0 := hfl ab
    obtain ⟨al, hal⟩ : ∃ al, (ab.filter fun m => decide (bn ≤ m)) = al := ⟨_, rfl⟩
    rw [hal] at hst hcs hfl0
    refine on_loopP (ι := List Int × List Int × Int × Nat × List AV × List Int)
      (fun p => ([(9, int p.2.2.1), (8, .ptr 3 0), (4, .ptr 1 0), (3, .ptr 0 0), (2, .ptr 2 0)], [.cells [int bn, .isl 1 eb, .isl 2 epb, int bk], .cells [int 0, .val (.slice none 0 0), .val (.slice none 0 0), int 0], .cells [int an, .isl 1 ea, .isl 2 epa, int ak], .cells [int bn, .sl 4 1 0 p.2.2.2.1, .isl 2 epa, int ak], .arr 1 p.2.2.2.2.1]))
      (fun p => ab = p.1 ++ p.2.1 ∧ p.2.2.1 = p.1.length ∧ p.2.2.2.1 = p.2.2.2.2.1.length ∧ p.2.2.2.2.1 = mapE int p.2.2.2.2.2 ∧ p.2.2.2.2.2.length ≤ p.1.length ∧ al = p.2.2.2.2.2 ++ p.2.1.filter (fun m => decide (bn ≤ m))) (fun p => p.2.1.length) ([], ab, 0, 0, [], []) ⟨rfl, rfl, rfl, by simp [mapE_eq], by simp, hal.symm⟩
      (ent_sub [.to 2, .to 0, .to 1, .to 3] [some 1, some 2, some 0, some 3, none] ⟨⟨by simp, rfl⟩, ⟨by simp, rfl⟩, ⟨by simp, rfl⟩, ⟨by simp, rfl⟩, trivial⟩ ⟨osrc_cells (b := 1) rfl rfl rfl ⟨.refl _, .cl hcbb, .cl hcpb, .refl _, trivial⟩, osrc_cells (b := 2) rfl rfl rfl ⟨.refl _, .refl _, .refl _, .refl _, trivial⟩, osrc_cells (b := 0) rfl rfl rfl ⟨.refl _, .cl hcba, .cl hcep, .refl _, trivial⟩, osrc_cells (b := 3) rfl rfl rfl ⟨.refl _, .nilS 4 1 0 (by simp), .cl hcep, .refl _, trivial⟩, .none 1 rfl, trivial⟩ ⟨.refl _, .refl _, .refl _, .refl _, .refl _, trivial⟩) ?_
    rintro ⟨d, r, i, ln, w, x⟩ ⟨k1, hi, kn, kw, kx, hfx⟩
    dsimp only at k1 hi kn kw kx hfx ⊢
    have hcw : AV.closedL w = true := by rw [kw]; exact closed_mapE int_closed _
    have hwl : w.length = x.length := by rw [kw, mapE_len]
    cases r with
    | cons n r =>
      have L1 := len_split k1
      try simp only [List.length_cons, List.length_nil] at L1
      have hc : iLt i (lenA ea) = true := lt_t e_iLt e_lenA (by omega)
      have hat := el_at e_atA hes k1 hi
      have hi' : iAdd .i64 i 1 = ((d ++ [n] : List Int).length : Int) := by
        simp only [List.length_append, List.length_cons, List.length_nil]; exact inc_w e_iAdd hi (by omega)
      have hx2 : x.length ≤ (d ++ [n]).length := by simp; omega
      have hx3 : (x ++ [n]).length ≤ (d ++ [n]).length := by simp; omega
      have kw2 : w ++ [int n] = mapE int (x ++ [n]) := by rw [kw, mapI_snoc]
      have hcw2 : AV.closedL (w ++ [int n]) = true := closedL_append hcw rfl
      by_cases h3 : bn ≤ n
      · rw [List.filter_cons_of_pos (by simp; exact h3)] at hfx
        have hb3 : iLe bn n = true := by simp [ee]; exact h3
        refine go rfl hX 0 (by conv => lhs; cbv; try simp only [hc]; cbv; try simp only [hc]; cbv; try simp only [hc]; cbv; try simp only [hc]; cbv) ?_ ?_
        · first | exact trivial | (simp only [Cd.ok, ee]; and_intros <;> first | omega | rfl | (simp <;> omega))
        refine go rfl hX 1 (by conv => lhs; cbv; try simp only [hc, hat, hb3]; cbv; try simp only [hc, hat, hb3]; cbv; try simp only [hc, hat, hb3]; cbv; try simp only [hc, hat, hb3]; cbv) ?_ ?_
        · first | exact trivial | (simp only [Cd.ok, ee]; and_intros <;> first | omega | rfl | (simp <;> omega))
        refine go rfl hX 1 (by conv => lhs; cbv; try simp only [hc, hat, hb3]; cbv; try simp only [hc, hat, hb3]; cbv; try simp only [hc, hat, hb3]; cbv; try simp only [hc, hat, hb3]; cbv) ?_ ?_
        · first | exact trivial | (simp only [Cd.ok, ee]; and_intros <;> first | omega | rfl | (simp <;> omega))
        refine tr_drawB rfl (by conv => lhs; cbv) rfl ?_
        refine tr_go hX (by conv => lhs; cbv; simp only [hat,hat]; cbv; simp only [hat,hat]; cbv) ?_ ?_
        · first | exact trivial | (simp only [Cd.ok, ee]; and_intros <;> first | omega | rfl | (simp <;> omega))
        refine tr_nil ⟨rfl, ?_, ?_⟩
        · simp only [LooksL, lookAll, List.append, List.cons_append, List.nil_append, List.append_nil]; and_intros <;> first | trivial | (intro hp; first | rfl | exact absurd (show false = true from hp) Bool.false_ne_true)
        refine go rfl hX 60 (by conv => lhs; cbv) ?_ ?_
        · first | exact trivial | (simp only [Cd.ok, ee]; and_intros <;> first | omega | rfl | (simp <;> omega))
        refine loopP_next (d ++ [n], r, iAdd .i64 i 1, ln + 1, w ++ [int n], x ++ [n]) ⟨by simp [k1], hi', by simp [kn], kw2, hx3, by rw [hfx]; simp⟩ (by simp) (ent_sub [.to 0, .to 1, .to 2, .to 3, .gone, .gone, .to 4] [some 0, some 1, some 2, some 3, some 6] ⟨⟨by simp, rfl⟩, ⟨by simp, rfl⟩, ⟨by simp, rfl⟩, ⟨by simp, rfl⟩, trivial, trivial, ⟨by simp, rfl⟩, trivial⟩ ⟨osrc_cells (b := 0) rfl rfl rfl ⟨.refl _, .cl hcbb, .cl hcpb, .refl _, trivial⟩, osrc_cells (b := 1) rfl rfl rfl ⟨.refl _, .refl _, .refl _, .refl _, trivial⟩, osrc_cells (b := 2) rfl rfl rfl ⟨.refl _, .cl hcba, .cl hcep, .refl _, trivial⟩, osrc_cells (b := 3) rfl rfl rfl ⟨.refl _, .of (by simp only [ee]; rfl), .cl hcep, .refl _, trivial⟩, osrc_arr (b := 6) rfl rfl rfl (by simp [ee, kn]) hcw2, trivial⟩ ⟨.refl _, .refl _, .refl _, .refl _, .refl _, trivial⟩)
      · rw [List.filter_cons_of_neg (by simp; omega)] at hfx
        have hb3 : iLe bn n = false := by simp [ee]; omega
        refine go rfl hX 0 (by conv => lhs; cbv; try simp only [hc, hat, hb3]; cbv; try simp only [hc, hat, hb3]; cbv; try simp only [hc, hat, hb3]; cbv; try simp only [hc, hat, hb3]; cbv) ?_ ?_
        · first | exact trivial | (simp only [Cd.ok, ee]; and_intros <;> first | omega | rfl | (simp <;> omega))
        refine go rfl hX 1 (by conv => lhs; cbv; try simp only [hc, hat, hb3]; cbv; try simp only [hc, hat, hb3]; cbv; try simp only [hc, hat, hb3]; cbv; try simp only [hc, hat, hb3]; cbv) ?_ ?_
        · first | exact trivial | (simp only [Cd.ok, ee]; and_intros <;> first | omega | rfl | (simp <;> omega))
        refine go rfl hX 60 (by conv => lhs; cbv) ?_ ?_
        · first | exact trivial | (simp only [Cd.ok, ee]; and_intros <;> first | omega | rfl | (simp <;> omega))
        refine loopP_next (d ++ [n], r, iAdd .i64 i 1, ln, w, x) ⟨by simp [k1], hi', kn, kw, hx2, hfx⟩ (by simp) (ent_sub [.to 0, .to 1, .to 2, .to 3, .to 4] [some 0, some 1, some 2, some 3, some 4] ⟨⟨by simp, rfl⟩, ⟨by simp, rfl⟩, ⟨by simp, rfl⟩, ⟨by simp, rfl⟩, ⟨by simp, rfl⟩, trivial⟩ ⟨osrc_cells (b := 0) rfl rfl rfl ⟨.refl _, .cl hcbb, .cl hcpb, .refl _, trivial⟩, osrc_cells (b := 1) rfl rfl rfl ⟨.refl _, .refl _, .refl _, .refl _, trivial⟩, osrc_cells (b := 2) rfl rfl rfl ⟨.refl _, .cl hcba, .cl hcep, .refl _, trivial⟩, osrc_cells (b := 3) rfl rfl rfl ⟨.refl _, .refl _, .cl hcep, .refl _, trivial⟩, osrc_arr (b := 4) rfl rfl rfl rfl hcw, trivial⟩ ⟨.refl _, .refl _, .refl _, .refl _, .refl _, trivial⟩)
    | nil =>
      have L1 := len_split k1
      try simp only [List.length_cons, List.length_nil] at L1
      have hc : iLt i (lenA ea) = false := lt_f e_iLt e_lenA (by omega)
      have hxa : al = x := by simpa using hfx
      subst hxa
      have hs0a : 0 ≤ s0.next := by rw [← hst]; dsimp only; omega
      have hs0b : s0.next + (s0.bey.length : Nat) ≤ 1099511628100 := by rw [← hst]; dsimp only; omega
      have hs0c : s0.bey.length ≤ 256 := by rw [← hst]; dsimp only; omega
      refine go rfl hX 0 (by conv => lhs; cbv; try simp only [hc]; cbv; try simp only [hc]; cbv; try simp only [hc]; cbv; try simp only [hc]; cbv) ?_ ?_
      · first | exact trivial | (simp only [Cd.ok, ee]; and_intros <;> first | omega | rfl | (simp <;> omega))
      refine go rfl hX 60 (by conv => lhs; cbv) ?_ ?_
      · first | exact trivial | (simp only [Cd.ok, ee]; and_intros <;> first | omega | rfl | (simp <;> omega))
      refine loopP_exit ?_
      refine go rfl hX 60 (by conv => lhs; cbv) ?_ ?_
      · first | exact trivial | (simp only [Cd.ok, ee]; and_intros <;> first | omega | rfl | (simp <;> omega))
      refine on_joinX (ι := Trk) (fun p => ([(8, .ptr 2 0), (4, .ptr 1 0), (3, .ptr 0 0)], [.cells [int bn, .isl 1 eb, .isl 2 epb, int bk], .cells [int 0, .val (.slice none 0 0), .val (.slice none 0 0), int 0], .cells [int p.next, .isl 1 (mapE int p.bey), .isl 2 epa, int ak]])) (fun p => p = s0) ?_ fun tail => ?_
      · rintro p hp
        rw [hp]
        clear hp p
        refine go rfl hX 60 (by conv => lhs; cbv) ?_ ?_
        · first | exact trivial | (simp only [Cd.ok, ee]; and_intros <;> first | omega | rfl | (simp <;> omega))
        refine on_loopP (ι := List Int × List Int × Int × Trk)
          (fun p => ([(10, int p.2.2.1), (8, .ptr 2 0), (4, .ptr 1 0), (3, .ptr 0 0)], [.cells [int bn, .isl 1 eb, .isl 2 epb, int bk], .cells [int 0, .val (.slice none 0 0), .val (.slice none 0 0), int 0], .cells [int p.2.2.2.next, .isl 1 (mapE int p.2.2.2.bey), .isl 2 epa, int ak]]))
          (fun p => bb = p.1 ++ p.2.1 ∧ p.2.2.1 = p.1.length ∧ rr = foldR p.2.2.2 p.2.1 ∧ (p.2.2.2.pts = ap ∧ p.2.2.2.mark = ak) ∧ 0 ≤ p.2.2.2.next ∧ p.2.2.2.next + (p.2.2.2.bey.length : Nat) ≤ 1099511628100 + (p.1.length : Nat) ∧ p.2.2.2.bey.length ≤ 256 + p.1.length) (fun p => p.2.1.length) ([], bb, 0, s0) ⟨rfl, rfl, hrr.symm, hst2, hs0a, by simp; omega, by simp; omega⟩
          (by exact ent_sub [.to 0, .to 1, .to 2] [some 0, some 1, some 2] ⟨⟨by simp, rfl⟩, ⟨by simp, rfl⟩, ⟨by simp, rfl⟩, trivial⟩ ⟨osrc_cells (b := 0) rfl rfl rfl ⟨.refl _, .cl hcbb, .cl hcpb, .refl _, trivial⟩, osrc_cells (b := 1) rfl rfl rfl ⟨.refl _, .refl _, .refl _, .refl _, trivial⟩, osrc_cells (b := 2) rfl rfl rfl ⟨.refl _, .cl (closedI _), .cl hcep, .refl _, trivial⟩, trivial⟩ ⟨.refl _, .refl _, .refl _, .refl _, trivial⟩) ?_
        rintro ⟨d, r, i, o⟩ ⟨j1, hi, hrf, ho2, ho3, ho4, ho5⟩
        obtain ⟨on, ob, op, ok⟩ := o
        dsimp only at j1 hi hrf ho2 ho3 ho4 ho5 ⊢
        obtain ⟨rfl, rfl⟩ := ho2
        have hco : AV.closedL (mapE int ob) = true := closed_mapE int_closed _
        have hol : (mapE int ob).length = ob.length := mapE_len _ _
        cases r with
        | nil =>
          have L1 := len_split j1
          try simp only [List.length_cons, List.length_nil] at L1
          have hc : iLt i (lenA eb) = false := lt_f e_iLt e_lenA (by omega)
          have hrf : rr = ⟨on, ob, op, ok⟩ := hrf
          have hre : rr.enc = .agg [int on, .isl 1 (mapE int ob), .isl 2 epa, int ok] := by rw [hrf, ← hes3]; rfl
          have hrl : rr.bey.length = ob.length := by rw [hrf]
          rw [hrl]
          by_cases hq : 256 < ob.length
          · rw [if_pos hq]
            generalize mapE int ob = eo at *
            have hb9 : iLt 256 (lenA eo) = true := by simp [ee]; omega
            refine go rfl hX 0 (by conv => lhs; cbv; try simp only [hc, hb9]; cbv; try simp only [hc, hb9]; cbv; try simp only [hc, hb9]; cbv; try simp only [hc, hb9]; cbv) ?_ ?_
            · first | exact trivial | (simp only [Cd.ok, ee]; and_intros <;> first | omega | rfl | (simp <;> omega))
            refine go rfl hX 60 (by conv => lhs; cbv) ?_ ?_
            · first | exact trivial | (simp only [Cd.ok, ee]; and_intros <;> first | omega | rfl | (simp <;> omega))
            refine loopP_exit ?_
            refine go rfl hX 0 (by conv => lhs; cbv; try simp only [hc, hb9]; cbv; try simp only [hc, hb9]; cbv; try simp only [hc, hb9]; cbv; try simp only [hc, hb9]; cbv) ?_ ?_
            · first | exact trivial | (simp only [Cd.ok, ee]; and_intros <;> first | omega | rfl | (simp <;> omega))
            refine go rfl hX 60 (by conv => lhs; cbv) ?_ ?_
            · first | exact trivial | (simp only [Cd.ok, ee]; and_intros <;> first | omega | rfl | (simp <;> omega))
            refine fn_ret rfl rfl ?_
            exact fz_merge0 _
          · rw [if_neg hq]
            dsimp only
            rw [hre]
            generalize mapE int ob = eo at *
            have hb9 : iLt 256 (lenA eo) = false := by simp [ee]; omega
            have hct : ∀ k, (AV.tup [AV.agg [int on, .isl 1 eo, .isl 2 epa, int ok], int k]).closed = true := by
              intro k; show AV.closedL [_, _] = true; simp [AV.closedL, closed_v, closed_agg, AV.closed, hco, hcep]
            refine go rfl hX 0 (by conv => lhs; cbv; try simp only [hc, hb9]; cbv; try simp only [hc, hb9]; cbv; try simp only [hc, hb9]; cbv; try simp only [hc, hb9]; cbv) ?_ ?_
            · first | exact trivial | (simp only [Cd.ok, ee]; and_intros <;> first | omega | rfl | (simp <;> omega))
            refine go rfl hX 60 (by conv => lhs; cbv) ?_ ?_
            · first | exact trivial | (simp only [Cd.ok, ee]; and_intros <;> first | omega | rfl | (simp <;> omega))
            refine loopP_exit ?_
            refine go rfl hX 0 (by conv => lhs; cbv; try simp only [hc, hb9]; cbv; try simp only [hc, hb9]; cbv; try simp only [hc, hb9]; cbv; try simp only [hc, hb9]; cbv) ?_ ?_
            · first | exact trivial | (simp only [Cd.ok, ee]; and_intros <;> first | omega | rfl | (simp <;> omega))
            refine go rfl hX 60 (by conv => lhs; cbv) ?_ ?_
            · first | exact trivial | (simp only [Cd.ok, ee]; and_intros <;> first | omega | rfl | (simp <;> omega))
            refine fn_ret rfl rfl ?_
            exact fz_cl rfl (hct _)
        | cons n r =>
          have L1 := len_split j1
          try simp only [List.length_cons, List.length_nil] at L1
          have hc : iLt i (lenA eb) = true := lt_t e_iLt e_lenA (by omega)
          have hat := el_at e_atA hes2 j1 hi
          have hi' : iAdd .i64 i 1 = ((d ++ [n] : List Int).length : Int) := by
            simp only [List.length_append, List.length_cons, List.length_nil]; exact inc_w e_iAdd hi (by omega)
          have hws := with_sum ⟨on, ob, op, ok⟩ n
          have hwp := with_pts ⟨on, ob, op, ok⟩ n
          have P36d := P36c ⟨on, ob, op, ok⟩ n ⟨by unfold Short; dsimp only; omega, hsp⟩ (by dsimp only; omega) (by dsimp only; omega)
          have hrf2 : rr = foldR (withT ⟨on, ob, op, ok⟩ n) r := hrf
          clear hrf
          generalize withT ⟨on, ob, op, ok⟩ n = o2 at *
          obtain ⟨on2, ob2, op2, ok2⟩ := o2
          dsimp only at hws hwp
          obtain ⟨rfl, rfl⟩ := hwp
          unfold Trk.enc at P36d
          dsimp only at P36d
          rw [hes3] at P36d
          have hco2 : AV.closedL (mapE int ob2) = true := closed_mapE int_closed _
          generalize heo2 : mapE int ob2 = eo2 at *
          generalize heo : mapE int ob = eo at *
          have hca1 : (AV.agg [int on, .isl 1 eo, .isl 2 epa, int ok2]).closed = true := by simp [closed_agg, closed_v, AV.closedL, AV.closed, hco, hcep]
          refine go rfl hX 0 (by conv => lhs; cbv; try simp only [hc]; cbv; try simp only [hc]; cbv; try simp only [hc]; cbv; try simp only [hc]; cbv) ?_ ?_
          · first | exact trivial | (simp only [Cd.ok, ee]; and_intros <;> first | omega | rfl | (simp <;> omega))
          refine go rfl hX 1 (by conv => lhs; cbv; try simp only [hc, hat]; cbv; try simp only [hc, hat]; cbv; try simp only [hc, hat]; cbv; try simp only [hc, hat]; cbv) ?_ ?_
          · first | exact trivial | (simp only [Cd.ok, ee]; and_intros <;> first | omega | rfl | (simp <;> omega))
          refine tr_drawB rfl (by conv => lhs; cbv) rfl ?_
          refine tr_go hX (by conv => lhs; cbv; simp only [hat,hat]; cbv; simp only [hat,hat]; cbv) ?_ ?_
          · first | exact trivial | (simp only [Cd.ok, ee]; and_intros <;> first | omega | rfl | (simp <;> omega))
          refine tr_pcall (args := [.agg [int on, .isl 1 eo, .isl 2 epa, int ok2], int n]) rfl rfl rfl P36d (closed2 hca1 rfl) ?_
          refine tr_go hX (by conv => lhs; cbv) ?_ ?_
          · first | exact trivial | (simp only [Cd.ok, ee]; and_intros <;> first | omega | rfl | (simp <;> omega))
          refine tr_nil ⟨rfl, ?_, ?_⟩
          · simp only [LooksL, lookAll, List.append, List.cons_append, List.nil_append, List.append_nil]; and_intros <;> first | trivial | (intro hp; first | rfl | exact absurd (show false = true from hp) Bool.false_ne_true)
          refine go rfl hX 60 (by conv => lhs; cbv) ?_ ?_
          · first | exact trivial | (simp only [Cd.ok, ee]; and_intros <;> first | omega | rfl | (simp <;> omega))
          refine loopP_next (d ++ [n], r, iAdd .i64 i 1, ⟨on2, ob2, op2, ok2⟩) ⟨by simp [j1], hi', hrf2, ⟨rfl, rfl⟩, by dsimp only; omega, by dsimp only; simp only [List.length_append, List.length_cons, List.length_nil]; omega, by dsimp only; simp only [List.length_append, List.length_cons, List.length_nil]; omega⟩ (by simp) ?_
          dsimp only
          rw [heo2]
          exact (ent_sub [.to 0, .to 1, .to 2] [some 0, some 1, some 2] ⟨⟨by simp, rfl⟩, ⟨by simp, rfl⟩, ⟨by simp, rfl⟩, trivial⟩ ⟨osrc_cells (b := 0) rfl rfl rfl ⟨.refl _, .cl hcbb, .cl hcpb, .refl _, trivial⟩, osrc_cells (b := 1) rfl rfl rfl ⟨.refl _, .refl _, .refl _, .refl _, trivial⟩, osrc_cells (b := 2) rfl rfl rfl ⟨.refl _, .cl hco2, .cl hcep, .refl _, trivial⟩, trivial⟩ ⟨.refl _, .refl _, .refl _, .refl _, trivial⟩)
      · obtain ⟨cR, hcR⟩ : ∃ cR, collF bn al = cR := ⟨_, rfl⟩
        rw [hcR] at hst
        refine on_loopP (ι := List Int × List Int × Int × Nat × Nat)
          (fun p => ([(8, .ptr 2 0), (4, .ptr 1 0), (3, .ptr 0 0)], [.cells [int bn, .isl 1 eb, .isl 2 epb, int bk], .cells [int 0, .val (.slice none 0 0), .val (.slice none 0 0), int 0], .cells [int p.2.2.1, .sl 3 1 p.2.2.2.1 p.2.2.2.2, .isl 2 epa, int ak], .arr 1 w]))
          (fun p => al = p.1 ++ p.2.1 ∧ p.2.2.2.1 = p.1.length ∧ p.2.2.2.2 = p.2.1.length ∧ cR = collF p.2.2.1 p.2.1 ∧ bn ≤ p.2.2.1 ∧ p.2.2.1 ≤ bn + p.2.2.2.1) (fun p => p.2.1.length) ([], al, bn, 0, ln) ⟨rfl, rfl, by rw [kn, hwl], hcR.symm, by simp, by simp⟩
          (ent_sub [.to 0, .to 1, .gone, .to 2, .to 3] [some 0, some 1, some 3, some 4] ⟨⟨by simp, rfl⟩, ⟨by simp, rfl⟩, trivial, ⟨by simp, rfl⟩, ⟨by simp, rfl⟩, trivial⟩ ⟨osrc_cells (b := 0) rfl rfl rfl ⟨.refl _, .cl hcbb, .cl hcpb, .refl _, trivial⟩, osrc_cells (b := 1) rfl rfl rfl ⟨.refl _, .refl _, .refl _, .refl _, trivial⟩, osrc_cells (b := 3) rfl rfl rfl ⟨.refl _, .refl _, .cl hcep, .refl _, trivial⟩, osrc_arr (b := 4) rfl rfl rfl rfl hcw, trivial⟩ ⟨.refl _, .refl _, .refl _, trivial⟩) ?_
        rintro ⟨d2, r2, nx, k, m⟩ ⟨j1, hk, hm, hco, hx1, hx2⟩
        dsimp only at j1 hk hm hco hx1 hx2 ⊢
        have hsplit : w.drop k = mapE int r2 := by rw [kw, j1, mapE_eq, List.map_append, hk, ← List.length_map (f := int), List.drop_left, ← mapE_eq]
        have hkm : k + m = w.length := by rw [hwl, j1, List.length_append, hk, hm]
        have hal2 : al.length ≤ 256 := by omega
        have hkk : k ≤ 256 := by omega
        cases r2 with
        | nil =>
          have hm0 : m = 0 := by simpa using hm
          have hb2 : iLt 0 (iOf m) = false := by simp [ee]; omega
          subst hm0
          rw [hco, collF] at hst
          have hix : idxN k 0 = k := by simp [ee]
          have hatu : atN w k = .undef := by
            simp only [ee]
            rw [List.getD_eq_getElem?_getD, List.getElem?_eq_none (by omega)]; rfl
          refine go rfl hX 0 (by conv => lhs; cbv; try simp only [hb2, hix, hatu]; cbv; try simp only [hb2, hix, hatu]; cbv; try simp only [hb2, hix, hatu]; cbv; try simp only [hb2, hix, hatu]; cbv) ?_ ?_
          · first | exact trivial | (simp only [Cd.ok, ee]; and_intros <;> first | omega | rfl | (simp <;> omega))
          refine tr_drawB rfl (by conv => lhs; cbv) rfl ?_
          refine tr_go hX (by conv => lhs; cbv; simp only [hb2, hix, hatu]; cbv) ?_ ?_
          · first | exact trivial | (simp only [Cd.ok, ee]; and_intros <;> first | omega | rfl | (simp <;> omega))
          refine tr_skip rfl ?_
          refine tr_skip rfl ?_
          refine tr_skip rfl ?_
          refine tr_skip rfl ?_
          refine tr_skip rfl ?_
          refine tr_skip rfl ?_
          refine tr_skip rfl ?_
          refine tr_go hX (by conv => lhs; cbv) ?_ ?_
          · first | exact trivial | (simp only [Cd.ok, ee]; and_intros <;> first | omega | rfl | (simp <;> omega))
          refine tr_nil ⟨rfl, by simp [LooksL, lookAll], ?_⟩
          refine go rfl hX 0 (by conv => lhs; cbv; try simp only [hb2, hix, hatu]; cbv; try simp only [hb2, hix, hatu]; cbv; try simp only [hb2, hix, hatu]; cbv; try simp only [hb2, hix, hatu]; cbv) ?_ ?_
          · first | exact trivial | (simp only [Cd.ok, ee]; and_intros <;> first | omega | rfl | (simp <;> omega))
          refine go rfl hX 1 (by conv => lhs; cbv; try simp only [hb2, hix, hatu]; cbv; try simp only [hb2, hix, hatu]; cbv; try simp only [hb2, hix, hatu]; cbv; try simp only [hb2, hix, hatu]; cbv) ?_ ?_
          · first | exact trivial | (simp only [Cd.ok, ee]; and_intros <;> first | omega | rfl | (simp <;> omega))
          refine go rfl hX 60 (by conv => lhs; cbv) ?_ ?_
          · first | exact trivial | (simp only [Cd.ok, ee]; and_intros <;> first | omega | rfl | (simp <;> omega))
          refine loopP_exit ?_
          refine tail _ _ s0 rfl ?_
          rw [← hst]
          dsimp only
          exact (ent_sub [.to 0, .to 1, .to 2, .isl 1 w] [some 0, some 1, some 2] ⟨⟨by simp, rfl⟩, ⟨by simp, rfl⟩, ⟨by simp, rfl⟩, ⟨w, rfl, (subL_closed _ hcw).symm⟩, trivial⟩ ⟨osrc_cells (b := 0) rfl rfl rfl ⟨.refl _, .cl hcbb, .cl hcpb, .refl _, trivial⟩, osrc_cells (b := 1) rfl rfl rfl ⟨.refl _, .refl _, .refl _, .refl _, trivial⟩, osrc_cells (b := 2) rfl rfl rfl ⟨.refl _, .of (sub_part rfl (Nat.le_of_eq hkm) (by simp [mapE_eq])), .cl hcep, .refl _, trivial⟩, trivial⟩ ⟨.refl _, .refl _, .refl _, trivial⟩)
        | cons b r2 =>
          have hm0 : m = r2.length + 1 := by simpa using hm
          have hb2 : iLt 0 (iOf m) = true := by simp [ee]; omega
          have hix : idxN k 0 = k := by simp [ee]
          have hat2 : atN w k = int b := by
            simp only [ee]
            have := congrArg (fun l => l[0]?) hsplit
            simp [mapE_eq] at this
            rw [List.getD_eq_getElem?_getD, this]; rfl
          have hand : bAnd true true = true := by simp [ee]
          have ha1 : iAdd .i64 nx 1 = nx + 1 := by simp only [ee]; exact wrap64 (by omega) (by omega)
          have hs1 : idxN k 1 = k + 1 := by simp [ee]
          by_cases h4 : b = nx
          · have hb4 : iEq b nx = true := by simp [ee]; exact h4
            refine go rfl hX 0 (by conv => lhs; cbv; try simp only [hb2, hix, hat2, hb4, hand, ha1, hs1]; cbv; try simp only [hb2, hix, hat2, hb4, hand, ha1, hs1]; cbv; try simp only [hb2, hix, hat2, hb4, hand, ha1, hs1]; cbv; try simp only [hb2, hix, hat2, hb4, hand, ha1, hs1]; cbv) ?_ ?_
            · first | exact trivial | (simp only [Cd.ok, ee]; and_intros <;> first | omega | rfl | (simp <;> omega))
            refine go rfl hX 60 (by conv => lhs; cbv) ?_ ?_
            · first | exact trivial | (simp only [Cd.ok, ee]; and_intros <;> first | omega | rfl | (simp <;> omega))
            refine tr_drawB rfl (by conv => lhs; cbv) rfl ?_
            refine tr_go hX (by conv => lhs; cbv) ?_ ?_
            · first | exact trivial | (simp only [Cd.ok, ee]; and_intros <;> first | omega | rfl | (simp <;> omega))
            refine tr_nil ⟨rfl, ?_, ?_⟩
            · simp only [LooksL, lookAll, List.append, List.cons_append, List.nil_append, List.append_nil]; and_intros <;> first | trivial | (intro hp; first | rfl | exact absurd (show false = true from hp) Bool.false_ne_true)
            refine go rfl hX 60 (by conv => lhs; cbv) ?_ ?_
            · first | exact trivial | (simp only [Cd.ok, ee]; and_intros <;> first | omega | rfl | (simp <;> omega))
            refine loopP_next (d2 ++ [b], r2, nx + 1, k + 1, r2.length) ⟨by simp [j1], by simp [hk], rfl, by rw [hco, collF, if_pos h4], by show bn ≤ nx + 1; omega, by show nx + 1 ≤ bn + ((k + 1 : Nat) : Int); omega⟩ (by simp) (ent_sub [.to 0, .to 1, .to 2, .to 3] [some 0, some 1, some 2, some 3] ⟨⟨by simp, rfl⟩, ⟨by simp, rfl⟩, ⟨by simp, rfl⟩, ⟨by simp, rfl⟩, trivial⟩ ⟨osrc_cells (b := 0) rfl rfl rfl ⟨.refl _, .cl hcbb, .cl hcpb, .refl _, trivial⟩, osrc_cells (b := 1) rfl rfl rfl ⟨.refl _, .refl _, .refl _, .refl _, trivial⟩, osrc_cells (b := 2) rfl rfl rfl ⟨.of (congrArg int ha1), .of (by subst hm0; simp only [ee]; rfl), .cl hcep, .refl _, trivial⟩, osrc_arr rfl rfl rfl rfl hcw, trivial⟩ ⟨.refl _, .refl _, .refl _, trivial⟩)
          · have hb4 : iEq b nx = false := by simp [ee]; exact h4
            have hcol : collF nx (b :: r2) = (nx, b :: r2) := by rw [collF, if_neg h4]
            rw [hco, hcol] at hst
            have htk : (w.drop k).take m = mapE int (b :: r2) := by
              rw [hsplit]; exact List.take_of_length_le (by rw [mapE_len]; omega)
            have hkm2 : k + m ≤ w.length := by omega
            have hand2 : bAnd true false = false := by simp [ee]
            refine go rfl hX 0 (by conv => lhs; cbv; try simp only [hb2, hix, hat2, hb4, hand2]; cbv; try simp only [hb2, hix, hat2, hb4, hand2]; cbv; try simp only [hb2, hix, hat2, hb4, hand2]; cbv; try simp only [hb2, hix, hat2, hb4, hand2]; cbv) ?_ ?_
            · first | exact trivial | (simp only [Cd.ok, ee]; and_intros <;> first | omega | rfl | (simp <;> omega))
            refine go rfl hX 1 (by conv => lhs; cbv; try simp only [hb2, hix, hat2, hb4, hand2]; cbv; try simp only [hb2, hix, hat2, hb4, hand2]; cbv; try simp only [hb2, hix, hat2, hb4, hand2]; cbv; try simp only [hb2, hix, hat2, hb4, hand2]; cbv) ?_ ?_
            · first | exact trivial | (simp only [Cd.ok, ee]; and_intros <;> first | omega | rfl | (simp <;> omega))
            refine go rfl hX 60 (by conv => lhs; cbv) ?_ ?_
            · first | exact trivial | (simp only [Cd.ok, ee]; and_intros <;> first | omega | rfl | (simp <;> omega))
            refine loopP_exit ?_
            refine tail _ _ s0 rfl ?_
            rw [← hst]
            dsimp only
            exact (ent_sub [.to 0, .to 1, .to 2, .isl 1 w] [some 0, some 1, some 2] ⟨⟨by simp, rfl⟩, ⟨by simp, rfl⟩, ⟨by simp, rfl⟩, ⟨w, rfl, (subL_closed _ hcw).symm⟩, trivial⟩ ⟨osrc_cells (b := 0) rfl rfl rfl ⟨.refl _, .cl hcbb, .cl hcpb, .refl _, trivial⟩, osrc_cells (b := 1) rfl rfl rfl ⟨.refl _, .refl _, .refl _, .refl _, trivial⟩, osrc_cells (b := 2) rfl rfl rfl ⟨.refl _, .of (sub_part rfl hkm2 htk), .cl hcep, .refl _, trivial⟩, trivial⟩ ⟨.refl _, .refl _, .refl _, trivial⟩)
  · have hb : iLt an bn = false := by simp [ee]; omega
    rw [if_neg h2] at hst
    subst hst
    have hs0a : 0 ≤ an := by omega
    refine go rfl hX 1 (by conv => lhs; cbv; try simp only [hb]; cbv; try simp only [hb]; cbv; try simp only [hb]; cbv; try simp only [hb]; cbv) ?_ ?_
    · first | exact trivial | (simp only [Cd.ok, ee]; and_intros <;> first | omega | rfl | (simp <;> omega))
    have hes' : mapE int ab = ea := hes
    refine on_loopP (ι := List Int × List Int × Int × Trk)
      (fun p => ([(10, int p.2.2.1), (8, .ptr 2 0), (4, .ptr 1 0), (3, .ptr 0 0)], [.cells [int bn, .isl 1 eb, .isl 2 epb, int bk], .cells [int 0, .val (.slice none 0 0), .val (.slice none 0 0), int 0], .cells [int p.2.2.2.next, .isl 1 (mapE int p.2.2.2.bey), .isl 2 epa, int ak]]))
      (fun p => bb = p.1 ++ p.2.1 ∧ p.2.2.1 = p.1.length ∧ rr = foldR p.2.2.2 p.2.1 ∧ (p.2.2.2.pts = ap ∧ p.2.2.2.mark = ak) ∧ 0 ≤ p.2.2.2.next ∧ p.2.2.2.next + (p.2.2.2.bey.length : Nat) ≤ 1099511628100 + (p.1.length : Nat) ∧ p.2.2.2.bey.length ≤ 256 + p.1.length) (fun p => p.2.1.length) ([], bb, 0, ⟨an, ab, ap, ak⟩) ⟨rfl, rfl, hrr.symm, ⟨rfl, rfl⟩, hs0a, by simp; omega, by simp; omega⟩
      (by dsimp only; rw [hes]; exact (ent_sub [.gone, .to 0, .to 1, .to 2] [some 1, some 2, some 3] ⟨trivial, ⟨by simp, rfl⟩, ⟨by simp, rfl⟩, ⟨by simp, rfl⟩, trivial⟩ ⟨osrc_cells (b := 1) rfl rfl rfl ⟨.refl _, .cl hcbb, .cl hcpb, .refl _, trivial⟩, osrc_cells (b := 2) rfl rfl rfl ⟨.refl _, .refl _, .refl _, .refl _, trivial⟩, osrc_cells (b := 3) rfl rfl rfl ⟨.refl _, .cl hcba, .cl hcep, .refl _, trivial⟩, trivial⟩ ⟨.refl _, .refl _, .refl _, .refl _, trivial⟩)) ?_
    rintro ⟨d, r, i, o⟩ ⟨j1, hi, hrf, ho2, ho3, ho4, ho5⟩
    obtain ⟨on, ob, op, ok⟩ := o
    dsimp only at j1 hi hrf ho2 ho3 ho4 ho5 ⊢
    obtain ⟨rfl, rfl⟩ := ho2
    have hco : AV.closedL (mapE int ob) = true := closed_mapE int_closed _
    have hol : (mapE int ob).length = ob.length := mapE_len _ _
    cases r with
    | nil =>
      have L1 := len_split j1
      try simp only [List.length_cons, List.length_nil] at L1
      have hc : iLt i (lenA eb) = false := lt_f e_iLt e_lenA (by omega)
      have hrf : rr = ⟨on, ob, op, ok⟩ := hrf
      have hre : rr.enc = .agg [int on, .isl 1 (mapE int ob), .isl 2 epa, int ok] := by rw [hrf, ← hes3]; rfl
      have hrl : rr.bey.length = ob.length := by rw [hrf]
      rw [hrl]
      by_cases hq : 256 < ob.length
      · rw [if_pos hq]
        generalize mapE int ob = eo at *
        have hb9 : iLt 256 (lenA eo) = true := by simp [ee]; omega
        refine go rfl hX 0 (by conv => lhs; cbv; try simp only [hc, hb9]; cbv; try simp only [hc, hb9]; cbv; try simp only [hc, hb9]; cbv; try simp only [hc, hb9]; cbv) ?_ ?_
        · first | exact trivial | (simp only [Cd.ok, ee]; and_intros <;> first | omega | rfl | (simp <;> omega))
        refine go rfl hX 60 (by conv => lhs; cbv) ?_ ?_
        · first | exact trivial | (simp only [Cd.ok, ee]; and_intros <;> first | omega | rfl | (simp <;> omega))
        refine loopP_exit ?_
        refine go rfl hX 0 (by conv => lhs; cbv; try simp only [hc, hb9]; cbv; try simp only [hc, hb9]; cbv; try simp only [hc, hb9]; cbv; try simp only [hc, hb9]; cbv) ?_ ?_
        · first | exact trivial | (simp only [Cd.ok, ee]; and_intros <;> first | omega | rfl | (simp <;> omega))
        refine go rfl hX 60 (by conv => lhs; cbv) ?_ ?_
        · first | exact trivial | (simp only [Cd.ok, ee]; and_intros <;> first | omega | rfl | (simp <;> omega))
        refine fn_ret rfl rfl ?_
        exact fz_merge0 _
      · rw [if_neg hq]
        dsimp only
        rw [hre]
        generalize mapE int ob = eo at *
        have hb9 : iLt 256 (lenA eo) = false := by simp [ee]; omega
        have hct : ∀ k, (AV.tup [AV.agg [int on, .isl 1 eo, .isl 2 epa, int ok], int k]).closed = true := by
          intro k; show AV.closedL [_, _] = true; simp [AV.closedL, closed_v, closed_agg, AV.closed, hco, hcep]
        refine go rfl hX 0 (by conv => lhs; cbv; try simp only [hc, hb9]; cbv; try simp only [hc, hb9]; cbv; try simp only [hc, hb9]; cbv; try simp only [hc, hb9]; cbv) ?_ ?_
        · first | exact trivial | (simp only [Cd.ok, ee]; and_intros <;> first | omega | rfl | (simp <;> omega))
        refine go rfl hX 60 (by conv => lhs; cbv) ?_ ?_
        · first | exact trivial | (simp only [Cd.ok, ee]; and_intros <;> first | omega | rfl | (simp <;> omega))
        refine loopP_exit ?_
        refine go rfl hX 0 (by conv => lhs; cbv; try simp only [hc, hb9]; cbv; try simp only [hc, hb9]; cbv; try simp only [hc, hb9]; cbv; try simp only [hc, hb9]; cbv) ?_ ?_
        · first | exact trivial | (simp only [Cd.ok, ee]; and_intros <;> first | omega | rfl | (simp <;> omega))
        refine go rfl hX 60 (by conv => lhs; cbv) ?_ ?_
        · first | exact trivial | (simp only [Cd.ok, ee]; and_intros <;> first | omega | rfl | (simp <;> omega))
        refine fn_ret rfl rfl ?_
        exact fz_cl rfl (hct _)
    | cons n r =>
      have L1 := len_split j1
      try simp only [List.length_cons, List.length_nil] at L1
      have hc : iLt i (lenA eb) = true := lt_t e_iLt e_lenA (by omega)
      have hat := el_at e_atA hes2 j1 hi
      have hi' : iAdd .i64 i 1 = ((d ++ [n] : List Int).length : Int) := by
        simp only [List.length_append, List.length_cons, List.length_nil]; exact inc_w e_iAdd hi (by omega)
      have hws := with_sum ⟨on, ob, op, ok⟩ n
      have hwp := with_pts ⟨on, ob, op, ok⟩ n
      have P36d := P36c ⟨on, ob, op, ok⟩ n ⟨by unfold Short; dsimp only; omega, hsp⟩ (by dsimp only; omega) (by dsimp only; omega)
      have hrf2 : rr = foldR (withT ⟨on, ob, op, ok⟩ n) r := hrf
      clear hrf
      generalize withT ⟨on, ob, op, ok⟩ n = o2 at *
      obtain ⟨on2, ob2, op2, ok2⟩ := o2
      dsimp only at hws hwp
      obtain ⟨rfl, rfl⟩ := hwp
      unfold Trk.enc at P36d
      dsimp only at P36d
      rw [hes3] at P36d
      have hco2 : AV.closedL (mapE int ob2) = true := closed_mapE int_closed _
      generalize heo2 : mapE int ob2 = eo2 at *
      generalize heo : mapE int ob = eo at *
      have hca1 : (AV.agg [int on, .isl 1 eo, .isl 2 epa, int ok2]).closed = true := by simp [closed_agg, closed_v, AV.closedL, AV.closed, hco, hcep]
      refine go rfl hX 0 (by conv => lhs; cbv; try simp only [hc]; cbv; try simp only [hc]; cbv; try simp only [hc]; cbv; try simp only [hc]; cbv) ?_ ?_
      · first | exact trivial | (simp only [Cd.ok, ee]; and_intros <;> first | omega | rfl | (simp <;> omega))
      refine go rfl hX 1 (by conv => lhs; cbv; try simp only [hc, hat]; cbv; try simp only [hc, hat]; cbv; try simp only [hc, hat]; cbv; try simp only [hc, hat]; cbv) ?_ ?_
      · first | exact trivial | (simp only [Cd.ok, ee]; and_intros <;> first | omega | rfl | (simp <;> omega))
      refine tr_drawB rfl (by conv => lhs; cbv) rfl ?_
      refine tr_go hX (by conv => lhs; cbv; simp only [hat,hat]; cbv; simp only [hat,hat]; cbv) ?_ ?_
      · first | exact trivial | (simp only [Cd.ok, ee]; and_intros <;> first | omega | rfl | (simp <;> omega))
      refine tr_pcall (args := [.agg [int on, .isl 1 eo, .isl 2 epa, int ok2], int n]) rfl rfl rfl P36d (closed2 hca1 rfl) ?_
      refine tr_go hX (by conv => lhs; cbv) ?_ ?_
      · first | exact trivial | (simp only [Cd.ok, ee]; and_intros <;> first | omega | rfl | (simp <;> omega))
      refine tr_nil ⟨rfl, ?_, ?_⟩
      · simp only [LooksL, lookAll, List.append, List.cons_append, List.nil_append, List.append_nil]; and_intros <;> first | trivial | (intro hp; first | rfl | exact absurd (show false = true from hp) Bool.false_ne_true)
      refine go rfl hX 60 (by conv => lhs; cbv) ?_ ?_
      · first | exact trivial | (simp only [Cd.ok, ee]; and_intros <;> first | omega | rfl | (simp <;> omega))
      refine loopP_next (d ++ [n], r, iAdd .i64 i 1, ⟨on2, ob2, op2, ok2⟩) ⟨by simp [j1], hi', hrf2, ⟨rfl, rfl⟩, by dsimp only; omega, by dsimp only; simp only [List.length_append, List.length_cons, List.length_nil]; omega, by dsimp only; simp only [List.length_append, List.length_cons, List.length_nil]; omega⟩ (by simp) ?_
      dsimp only
      rw [heo2]
      exact (ent_sub [.to 0, .to 1, .to 2] [some 0, some 1, some 2] ⟨⟨by simp, rfl⟩, ⟨by simp, rfl⟩, ⟨by simp, rfl⟩, trivial⟩ ⟨osrc_cells (b := 0) rfl rfl rfl ⟨.refl _, .cl hcbb, .cl hcpb, .refl _, trivial⟩, osrc_cells (b := 1) rfl rfl rfl ⟨.refl _, .refl _, .refl _, .refl _, trivial⟩, osrc_cells (b := 2) rfl rfl rfl ⟨.refl _, .cl hco2, .cl hcep, .refl _, trivial⟩, trivial⟩ ⟨.refl _, .refl _, .refl _, .refl _, trivial⟩)
end Go.Am
end
section
set_option linter.unusedVariables false
set_option linter.unusedSimpArgs false
set_option maxRecDepth 20000
namespace Go.Am
open Go.Proofs

/-- well-formed numbers -/
structure Nrm (x : Int) (l : List Int) : Prop where
  pos : 0 ≤ x
  asc : l.Pairwise (· < ·)
  gt : ∀ n ∈ l, x < n
/-- the numbers -/
def Mem (x : Int) (l : List Int) (n : Int) : Prop := (0 ≤ n ∧ n < x) ∨ n ∈ l
theorem asc_eq : ∀ (l k : List Int), l.Pairwise (· < ·) → k.Pairwise (· < ·) → (∀ n, n ∈ l ↔ n ∈ k) → l = k
  | [], [], _, _, _ => rfl
  | [], b :: k, _, _, h => by have := (h b).2 (by simp); simp at this
  | a :: l, [], _, _, h => by have := (h a).1 (by simp); simp at this
  | a :: l, b :: k, hl, hk, h => by
    obtain ⟨l1, l2⟩ := List.pairwise_cons.1 hl
    obtain ⟨k1, k2⟩ := List.pairwise_cons.1 hk
    have hab : a = b := by
      have h1 := (h a).1 (by simp)
      have h2 := (h b).2 (by simp)
      rcases List.mem_cons.1 h1 with h1 | h1
      · exact h1
      · rcases List.mem_cons.1 h2 with h2 | h2
        · exact h2.symm
        · have := k1 a h1; have := l1 b h2; omega
    subst hab
    rw [asc_eq l k l2 k2 fun n => ?_]
    constructor
    · intro hn
      have := l1 n hn
      rcases List.mem_cons.1 ((h n).1 (by simp [hn])) with h3 | h3
      · omega
      · exact h3
    · intro hn
      have := k1 n hn
      rcases List.mem_cons.1 ((h n).2 (by simp [hn])) with h3 | h3
      · omega
      · exact h3
theorem nrm_eq {x y : Int} {l k : List Int} (hl : Nrm x l) (hk : Nrm y k) (h : ∀ n, Mem x l n ↔ Mem y k n) : x = y ∧ l = k := by
  have key : ∀ {x y : Int} {l k : List Int}, Nrm x l → Nrm y k → (∀ n, Mem x l n ↔ Mem y k n) → ¬ x < y := by
    intro x y l k hl hk h hxy
    have h1 := (h x).2 (.inl ⟨hl.pos, hxy⟩)
    rcases h1 with h1 | h1
    · omega
    · have := hl.gt x h1; omega
  have e : x = y := by
    have h1 := key hl hk h
    have h2 := key hk hl (fun n => (h n).symm)
    omega
  subst e
  refine ⟨rfl, asc_eq l k hl.asc hk.asc fun n => ?_⟩
  constructor
  · intro hn
    have := hl.gt n hn
    rcases (h n).1 (.inr hn) with h3 | h3
    · omega
    · exact h3
  · intro hn
    have := hk.gt n hn
    rcases (h n).2 (.inr hn) with h3 | h3
    · omega
    · exact h3
theorem nrm_ok {t : Trk} (h : checkT t = 0) : Nrm t.next t.bey :=
  have h1 := check_ok h
  ⟨h1.1, (ord_asc _ _ h1.2.2.2).1, (ord_asc _ _ h1.2.2.2).2⟩
theorem cont_mem {t : Trk} {n : Int} (h : Nrm t.next t.bey) : contF t n = true ↔ Mem t.next t.bey n := by
  unfold contF Mem
  by_cases h1 : n < t.next
  · rw [if_pos h1]
    simp only [decide_eq_true_eq]
    constructor
    · intro h2; exact .inl ⟨h2, h1⟩
    · rintro (h2 | h2)
      · exact h2.1
      · have := h.gt n h2; omega
  · rw [if_neg h1]
    simp only [decide_eq_true_eq]
    constructor
    · intro h2; exact .inr h2
    · rintro (h2 | h2)
      · omega
      · exact h2
theorem coll_nrm : ∀ (l : List Int) (x : Int), 0 ≤ x → l.Pairwise (· < ·) → (∀ n ∈ l, x ≤ n) → Nrm (collF x l).1 (collF x l).2 ∧ ∀ n, Mem (collF x l).1 (collF x l).2 n ↔ Mem x l n
  | [], x, h0, _, _ => ⟨⟨h0, .nil, by simp [collF]⟩, fun n => by simp [collF]⟩
  | a :: r, x, h0, hp, hg => by
    obtain ⟨h1, h2⟩ := List.pairwise_cons.1 hp
    have ha := hg a (by simp)
    unfold collF
    by_cases he : a = x
    · rw [if_pos he]
      obtain ⟨i1, i2⟩ := coll_nrm r (x + 1) (by omega) h2 (fun n hn => by have := h1 n hn; omega)
      refine ⟨i1, fun n => (i2 n).trans ?_⟩
      unfold Mem
      rw [List.mem_cons]
      constructor
      · rintro (h3 | h3)
        · by_cases h4 : n = a
          · exact .inr (.inl h4)
          · exact .inl ⟨h3.1, by omega⟩
        · exact .inr (.inr h3)
      · rintro (h3 | h3 | h3)
        · exact .inl ⟨h3.1, by omega⟩
        · exact .inl ⟨by omega, by omega⟩
        · exact .inr h3
    · rw [if_neg he]
      exact ⟨⟨h0, hp, fun n hn => by
        rcases List.mem_cons.1 hn with rfl | hn
        · omega
        · have := h1 n hn; omega⟩, fun n => Iff.rfl⟩
theorem ins_mem (n : Int) : ∀ (l : List Int) (m : Int), m ∈ insF n l ↔ m = n ∨ m ∈ l
  | [], m => by simp [insF]
  | a :: r, m => by
    unfold insF
    split
    · simp
    · simp only [List.mem_cons, ins_mem n r m]
      constructor
      · rintro (h | h | h)
        · exact .inr (.inl h)
        · exact .inl h
        · exact .inr (.inr h)
      · rintro (h | h | h)
        · exact .inr (.inl h)
        · exact .inl h
        · exact .inr (.inr h)
theorem ins_asc (n : Int) : ∀ (l : List Int), l.Pairwise (· < ·) → n ∉ l → (insF n l).Pairwise (· < ·)
  | [], _, _ => by simp [insF]
  | a :: r, hp, hn => by
    obtain ⟨h1, h2⟩ := List.pairwise_cons.1 hp
    have hna : n ≠ a := fun h => hn (by simp [h])
    unfold insF
    split
    · refine List.pairwise_cons.2 ⟨fun m hm => ?_, hp⟩
      rcases List.mem_cons.1 hm with rfl | hm
      · assumption
      · have := h1 m hm; omega
    · refine List.pairwise_cons.2 ⟨fun m hm => ?_, ins_asc n r h2 fun h => hn (by simp [h])⟩
      rcases (ins_mem n r m).1 hm with rfl | hm
      · omega
      · exact h1 m hm
theorem with_nrm {t : Trk} {n : Int} (h : Nrm t.next t.bey) (hn : 0 ≤ n) : Nrm (withT t n).next (withT t n).bey ∧ ∀ m, Mem (withT t n).next (withT t n).bey m ↔ Mem t.next t.bey m ∨ m = n := by
  have hc := cont_mem (n := n) h
  unfold withT
  by_cases h1 : contF t n = true
  · rw [if_pos h1]
    refine ⟨h, fun m => ⟨.inl, ?_⟩⟩
    rintro (h2 | rfl)
    · exact h2
    · exact hc.1 h1
  · rw [if_neg h1]
    have hnm : ¬ Mem t.next t.bey n := fun h2 => h1 (hc.2 h2)
    have hge : t.next ≤ n := by
      by_cases h2 : t.next ≤ n
      · exact h2
      · exact absurd (.inl ⟨hn, by omega⟩) hnm
    have hnb : n ∉ t.bey := fun h2 => hnm (.inr h2)
    obtain ⟨i1, i2⟩ := coll_nrm (insF n t.bey) t.next h.pos (ins_asc n _ h.asc hnb) (fun m hm => by
      rcases (ins_mem n t.bey m).1 hm with rfl | hm
      · exact hge
      · have := h.gt m hm; omega)
    refine ⟨i1, fun m => (i2 m).trans ?_⟩
    unfold Mem
    rw [ins_mem]
    constructor
    · rintro (h3 | h3 | h3)
      · exact .inl (.inl h3)
      · exact .inr h3
      · exact .inl (.inr h3)
    · rintro ((h3 | h3) | h3)
      · exact .inl h3
      · exact .inr (.inr h3)
      · exact .inr (.inl h3)
theorem fold_nrm : ∀ (l : List Int) (t : Trk), Nrm t.next t.bey → (∀ n ∈ l, 0 ≤ n) → Nrm (foldR t l).next (foldR t l).bey ∧ (∀ m, Mem (foldR t l).next (foldR t l).bey m ↔ Mem t.next t.bey m ∨ m ∈ l) ∧ (foldR t l).pts = t.pts ∧ (foldR t l).mark = t.mark
  | [], t, h, _ => ⟨h, fun m => by simp [foldR], rfl, rfl⟩
  | a :: r, t, h, hl => by
    obtain ⟨h1, h2⟩ := with_nrm h (hl a (by simp))
    obtain ⟨i1, i2, i3, i4⟩ := fold_nrm r (withT t a) h1 (fun n hn => hl n (by simp [hn]))
    have hw := with_pts t a
    refine ⟨i1, fun m => (i2 m).trans ?_, i3.trans hw.1, i4.trans hw.2⟩
    rw [h2, List.mem_cons, or_assoc]
theorem start_nrm {a b : Trk} (ha : Nrm a.next a.bey) (hb : Nrm b.next b.bey) : Nrm (startR a b).next (startR a b).bey ∧ (∀ m, Mem (startR a b).next (startR a b).bey m ↔ Mem (max a.next b.next) a.bey m) ∧ (startR a b).pts = a.pts ∧ (startR a b).mark = a.mark := by
  unfold startR
  by_cases h1 : a.next < b.next
  · rw [if_pos h1]
    obtain ⟨i1, i2⟩ := coll_nrm (a.bey.filter fun m => decide (b.next ≤ m)) b.next hb.pos (ha.asc.filter _) (fun n hn => by simpa using (List.mem_filter.1 hn).2)
    refine ⟨i1, fun m => (i2 m).trans ?_, rfl, rfl⟩
    unfold Mem
    rw [List.mem_filter]
    have e : max a.next b.next = b.next := by omega
    rw [e]
    constructor
    · rintro (h | h)
      · exact .inl h
      · exact .inr h.1
    · rintro (h | h)
      · exact .inl h
      · have := ha.gt m h
        have := ha.pos
        by_cases h3 : b.next ≤ m
        · exact .inr ⟨h, by simpa using h3⟩
        · exact .inl ⟨by omega, by omega⟩
  · rw [if_neg h1]
    have e : max a.next b.next = a.next := by omega
    rw [e]
    exact ⟨ha, fun m => Iff.rfl, rfl, rfl⟩
theorem sweep_gt (x : Int) : ∀ l : List Int, (∀ n ∈ l, x < n) → sweepF x l = (x, l)
  | [], _ => rfl
  | a :: r, h => by
    have ha := h a (by simp)
    unfold sweepF
    rw [if_neg (by omega), if_pos ha, sweep_gt x r fun n hn => h n (by simp [hn])]
theorem sweep_nrm : ∀ (l : List Int) (x : Int), 0 ≤ x → l.Pairwise (· < ·) → (∀ n ∈ l, 0 ≤ n) → Nrm (sweepF x l).1 (sweepF x l).2 ∧ ∀ n, Mem (sweepF x l).1 (sweepF x l).2 n ↔ Mem x l n
  | [], x, h0, _, _ => ⟨⟨h0, .nil, by simp [sweepF]⟩, fun n => by simp [sweepF]⟩
  | a :: r, x, h0, hp, hg => by
    obtain ⟨h1, h2⟩ := List.pairwise_cons.1 hp
    have ha := hg a (by simp)
    have hgr : ∀ n ∈ r, 0 ≤ n := fun n hn => hg n (by simp [hn])
    unfold sweepF
    by_cases he : a = x
    · rw [if_pos he]
      obtain ⟨i1, i2⟩ := sweep_nrm r (x + 1) (by omega) h2 hgr
      refine ⟨i1, fun n => (i2 n).trans ?_⟩
      unfold Mem
      rw [List.mem_cons]
      constructor
      · rintro (h3 | h3)
        · by_cases h4 : n = a
          · exact .inr (.inl h4)
          · exact .inl ⟨h3.1, by omega⟩
        · exact .inr (.inr h3)
      · rintro (h3 | h3 | h3)
        · exact .inl ⟨h3.1, by omega⟩
        · exact .inl ⟨by omega, by omega⟩
        · exact .inr h3
    · rw [if_neg he]
      by_cases h3 : x < a
      · rw [if_pos h3, sweep_gt x r fun n hn => by have := h1 n hn; omega]
        exact ⟨⟨h0, hp, fun n hn => by
          rcases List.mem_cons.1 hn with rfl | hn
          · exact h3
          · have := h1 n hn; omega⟩, fun n => Iff.rfl⟩
      · rw [if_neg h3]
        obtain ⟨i1, i2⟩ := sweep_nrm r x h0 h2 hgr
        refine ⟨i1, fun n => (i2 n).trans ?_⟩
        unfold Mem
        rw [List.mem_cons]
        constructor
        · rintro (h4 | h4)
          · exact .inl h4
          · exact .inr (.inr h4)
        · rintro (h4 | rfl | h4)
          · exact .inl h4
          · exact .inl ⟨by omega, by omega⟩
          · exact .inr h4

/-! the library's words on a sorted list -/
theorem comp_split (zs : List Int) : ∀ m, m ≤ zs.length → zs.Pairwise (· ≤ ·) →
    (Lib.compactUpTo zs.toArray m).Pairwise (· < ·) ∧ (∀ n, n ∈ Lib.compactUpTo zs.toArray m ↔ n ∈ zs.take m) := by
  intro m
  induction m with
  | zero => intro _ _; simp [Lib.compactUpTo]
  | succ m ih =>
    intro hm hp
    obtain ⟨i1, i2⟩ := ih (by omega) hp
    have hz : zs.toArray[m]! = zs[m] := by simp [getElem!_pos, show m < zs.length by omega]
    have htk : zs.take (m + 1) = zs.take m ++ [zs[m]] := by rw [List.take_succ_eq_append_getElem (by omega)]
    rw [Lib.compactUpTo_succ, hz]
    have hle : ∀ n ∈ zs.take m, n ≤ zs[m] := by
      intro n hn
      obtain ⟨j, hj, rfl⟩ := List.mem_iff_getElem.1 hn
      have hj' : j < m := by simp at hj; omega
      rw [List.getElem_take]
      exact (List.pairwise_iff_getElem.1 hp) j m (by omega) (by omega) hj'
    by_cases hk : Lib.keeps zs.toArray m = true
    · rw [if_pos hk]
      constructor
      · rw [List.pairwise_append]
        refine ⟨i1, by simp, fun x hx y hy => ?_⟩
        simp at hy; subst hy
        have hx' := (i2 x).1 hx
        have h1 := hle x hx'
        by_cases hm0 : m = 0
        · subst hm0; simp at hx'
        · have hne : zs[m] ≠ zs[m - 1] := by
            intro he
            have : Lib.keeps zs.toArray m = false := Lib.keeps_neg (by omega) (by
              rw [hz]; simp [getElem!_pos, show m - 1 < zs.length by omega]; exact he)
            rw [hk] at this; cases this
          have h2 : x ≤ zs[m - 1] := by
            obtain ⟨j, hj, rfl⟩ := List.mem_iff_getElem.1 hx'
            have hj' : j < m := by simp at hj; omega
            rw [List.getElem_take]
            by_cases hjm : j = m - 1
            · subst hjm; exact Int.le_refl _
            · exact (List.pairwise_iff_getElem.1 hp) j (m - 1) (by omega) (by omega) (by omega)
          have h3 := (List.pairwise_iff_getElem.1 hp) (m - 1) m (by omega) (by omega) (by omega)
          omega
      · intro n
        rw [htk, List.mem_append, List.mem_append, i2]
    · rw [if_neg hk, List.append_nil]
      refine ⟨i1, fun n => ?_⟩
      rw [htk, List.mem_append, i2, List.mem_singleton]
      refine ⟨.inl, ?_⟩
      rintro (h | rfl)
      · exact h
      · have hm0 : m ≠ 0 := by rintro rfl; exact hk (Lib.keeps_lt_one _ 0 (by omega))
        have he : zs[m] = zs[m - 1] := by
          by_cases he : zs[m] = zs[m - 1]
          · exact he
          · exact absurd (Lib.keeps_pos (d := zs.toArray) (m := m) (by rw [hz]; simp [getElem!_pos, show m - 1 < zs.length by omega]; exact he)) hk
        rw [he]
        exact List.mem_take_iff_getElem.2 ⟨m - 1, by omega, rfl⟩
theorem comp_ok (zs : List Int) (hp : zs.Pairwise (· ≤ ·)) : (Lib.compact zs).Pairwise (· < ·) ∧ ∀ n, n ∈ Lib.compact zs ↔ n ∈ zs := by
  have := comp_split zs zs.length (Nat.le_refl _) hp
  rw [List.take_length] at this
  exact this
theorem sort_sorted (l : List Int) : (sortI l).Pairwise (· ≤ ·) := by
  have := List.pairwise_mergeSort (le := fun x y : Int => decide (x ≤ y)) (fun a b c h1 h2 => by simp at *; omega) (fun a b => by simp; omega) l
  exact this.imp (by intro a b h; simpa using h)
theorem sort_mem (l : List Int) (n : Int) : n ∈ sortI l ↔ n ∈ l := by simp [sortI, List.mem_mergeSort]

theorem merge_nrm {a b : Trk} (ha : checkT a = 0) (hb : checkT b = 0) : Nrm (mrgT a b).next (mrgT a b).bey ∧ ∀ m, Mem (mrgT a b).next (mrgT a b).bey m ↔ Mem a.next a.bey m ∨ Mem b.next b.bey m := by
  have na := nrm_ok ha
  have nb := nrm_ok hb
  obtain ⟨c1, c2⟩ := comp_ok _ (sort_sorted (a.bey ++ b.bey))
  have hc : ∀ n, n ∈ Lib.compact (sortI (a.bey ++ b.bey)) ↔ n ∈ a.bey ∨ n ∈ b.bey := fun n => by rw [c2, sort_mem, List.mem_append]
  obtain ⟨i1, i2⟩ := sweep_nrm _ (max a.next b.next) (by have := na.pos; omega) c1 (fun n hn => by
    rcases (hc n).1 hn with h | h
    · have := na.gt n h; have := na.pos; omega
    · have := nb.gt n h; have := nb.pos; omega)
  refine ⟨i1, fun m => (i2 m).trans ?_⟩
  unfold Mem
  rw [hc]
  constructor
  · rintro (h | h | h)
    · by_cases h3 : m < a.next
      · exact .inl (.inl ⟨h.1, h3⟩)
      · exact .inr (.inl ⟨h.1, by omega⟩)
    · exact .inl (.inr h)
    · exact .inr (.inr h)
  · rintro ((h | h) | (h | h))
    · exact .inl ⟨h.1, by omega⟩
    · exact .inr (.inl h)
    · exact .inl ⟨h.1, by omega⟩
    · exact .inr (.inr h)
theorem merge_same (a b : Trk) : mergeR a b = mergeT a b := by
  unfold mergeR mergeT
  by_cases ha : checkT a = 0
  · have ea : ¬ checkT a ≠ 0 := fun h => h ha
    simp only [if_neg ea]
    by_cases hb : checkT b = 0
    · have eb : ¬ checkT b ≠ 0 := fun h => h hb
      simp only [if_neg eb]
      have na := nrm_ok ha
      have nb := nrm_ok hb
      obtain ⟨s1, s2, s3, s4⟩ := start_nrm na nb
      obtain ⟨f1, f2, f3, f4⟩ := fold_nrm b.bey (startR a b) s1 (fun n hn => by have := nb.gt n hn; have := nb.pos; omega)
      obtain ⟨m1, m2⟩ := merge_nrm ha hb
      have key := nrm_eq f1 m1 fun n => by
        rw [f2, s2, m2]
        unfold Mem
        constructor
        · rintro ((h | h) | h)
          · by_cases h3 : n < a.next
            · exact .inl (.inl ⟨h.1, h3⟩)
            · exact .inr (.inl ⟨h.1, by omega⟩)
          · exact .inl (.inr h)
          · exact .inr (.inr h)
        · rintro ((h | h) | (h | h))
          · exact .inl (.inl ⟨h.1, by omega⟩)
          · exact .inl (.inr h)
          · exact .inl (.inl ⟨h.1, by omega⟩)
          · exact .inr h
      have : foldR (startR a b) b.bey = mrgT a b := by
        obtain ⟨k1, k2⟩ := key
        have e1 : (mrgT a b).pts = a.pts := rfl
        have e2 : (mrgT a b).mark = a.mark := rfl
        rcases hF : foldR (startR a b) b.bey with ⟨x1, x2, x3, x4⟩
        rcases hM : mrgT a b with ⟨y1, y2, y3, y4⟩
        rw [hF] at k1 k2 f3 f4
        rw [hM] at k1 k2 e1 e2
        dsimp only at *
        rw [k1, k2, f3, f4, s3, s4, e1, e2]
      rw [this]
    · simp only [if_pos (show checkT b ≠ 0 from hb)]
  · simp only [if_pos (show checkT a ≠ 0 from ha)]
end Go.Am
end
section
set_option linter.unusedVariables false
set_option linter.unusedSimpArgs false
set_option maxRecDepth 20000
namespace Go.Am
open Go.Proofs

def u8 (n : Int) : AV := .val (.int .u8 n)
theorem u8_closed (n : Int) : (u8 n).closed = true := rfl
def smallF (l : List Int) : List Int := l.map fun n => n.tmod 20

theorem P25 (l : List Int) (h8 : ∀ n ∈ l, 0 ≤ n ∧ n ≤ 255) (hl : l.length < 500000000000) : PCall EE 25 [.isl 1 (mapE u8 l)] (.isl 1 (mapE int (smallF l))) := by
  have hcl : (AV.isl 1 (mapE u8 l)).closed = true := by simp [AV.closed, closed_mapE u8_closed]
  refine words fun iLt iLe iEq iNe iAdd iSub iMul iQuo iRem iShr iNeg iCvt iMax iMin bNot bEq bNe bAnd bOr sEq sNe sLen sCat sCut sAt lenA lenN iOf natOf atA atN cutA partA dropA catA setA repA putA idxN addN subN minN lenCut hX e_iLt e_iLe e_iEq e_iNe e_iAdd e_iSub e_iMul e_iQuo e_iRem e_iShr e_iNeg e_iCvt e_iMax e_iMin e_bNot e_bEq e_bNe e_bAnd e_bOr e_sEq e_sNe e_sLen e_sCat e_sCut e_sAt e_lenA e_lenN e_iOf e_natOf e_atA e_atN e_cutA e_partA e_dropA e_catA e_setA e_repA e_putA e_idxN e_addN e_subN e_minN e_lenCut ee => ?_
  generalize hel : mapE u8 l = el at *
  have hll : el.length = l.length := by rw [← hel, mapE_len]
  refine fn_body (fn := Try.f25) (n := 21) (ac := Tryc25) (rvs := [.t 2]) rfl (by decide) Tryp25 rfl rfl rfl ?_
  refine go rfl hX 60 (by conv => lhs; cbv) ?_ ?_
  · first | exact trivial | (simp only [Cd.ok, ee]; and_intros <;> first | omega | rfl | (simp <;> omega))
  refine on_loopP (ι := List Int × List Int × Int × Nat × List AV) (fun p => ([(4, int p.2.2.1), (3, .sl 0 1 0 p.2.2.2.1), (0, .isl 1 el)], [.arr 1 p.2.2.2.2]))
    (fun p => l = p.1 ++ p.2.1 ∧ p.2.2.1 = p.1.length ∧ p.2.2.2.1 = p.2.2.2.2.length ∧ p.2.2.2.2 = mapE int (smallF p.1)) (fun p => p.2.1.length) ([], l, 0, 0, []) ⟨rfl, rfl, rfl, by simp [mapE_eq, smallF]⟩
    (ent_sub [] [none] trivial ⟨.none 1 rfl, trivial⟩ ⟨.refl _, .nilS 0 1 0 (by simp), .cl hcl, trivial⟩) ?_
  rintro ⟨d, r, i, ln, w⟩ ⟨k1, hi, kn, kw⟩
  dsimp only at k1 hi kn kw ⊢
  have hcw : AV.closedL w = true := by rw [kw]; exact closed_mapE int_closed _
  have hwl : w.length = d.length := by rw [kw, mapE_len]; simp [smallF]
  cases r with
  | nil =>
    have L1 := len_split k1
    try simp only [List.length_cons, List.length_nil] at L1
    have hc : iLt i (lenA el) = false := lt_f e_iLt e_lenA (by omega)
    have hd : d = l := by rw [k1, List.append_nil]
    rw [hd] at kw
    rw [← kw]
    refine go rfl hX 0 (by conv => lhs; cbv; try simp only [hc]; cbv; try simp only [hc]; cbv; try simp only [hc]; cbv; try simp only [hc]; cbv) ?_ ?_
    · first | exact trivial | (simp only [Cd.ok, ee]; and_intros <;> first | omega | rfl | (simp <;> omega))
    refine go rfl hX 60 (by conv => lhs; cbv) ?_ ?_
    · first | exact trivial | (simp only [Cd.ok, ee]; and_intros <;> first | omega | rfl | (simp <;> omega))
    refine loopP_exit ?_
    refine go rfl hX 60 (by conv => lhs; cbv) ?_ ?_
    · first | exact trivial | (simp only [Cd.ok, ee]; and_intros <;> first | omega | rfl | (simp <;> omega))
    refine fn_ret rfl rfl ?_
    exact ⟨[.isl 1 w], ⟨⟨_, rfl, (subL_closed _ hcw).symm⟩, trivial⟩, .of (sub_whole rfl kn)⟩
  | cons n r =>
    have L1 := len_split k1
    try simp only [List.length_cons, List.length_nil] at L1
    have hc : iLt i (lenA el) = true := lt_t e_iLt e_lenA (by omega)
    have hat := el_at e_atA hel k1 hi
    dsimp only [u8] at hat
    have hn := h8 n (by rw [k1]; simp)
    have hm1 : 0 ≤ n.tmod 20 := Int.tmod_nonneg _ hn.1
    have hm2 : n.tmod 20 < 20 := Int.tmod_lt_of_pos _ (by decide)
    have hi' : iAdd .i64 i 1 = ((d ++ [n] : List Int).length : Int) := by
      simp only [List.length_append, List.length_cons, List.length_nil]; exact inc_w e_iAdd hi (by omega)
    have kw2 : w ++ [int (n.tmod 20)] = mapE int (smallF (d ++ [n])) := by rw [kw, mapI_snoc]; simp [smallF]
    have hk : iCvt .i64 (iRem n 20) = n.tmod 20 := by simp only [ee]; exact wrap64 (by omega) (by omega)
    generalize n.tmod 20 = m at *
    have hcw2 : AV.closedL (w ++ [int m]) = true := closedL_append hcw rfl
    refine go rfl hX 0 (by conv => lhs; cbv; try simp only [hc, hat, hk]; cbv; try simp only [hc, hat, hk]; cbv; try simp only [hc, hat, hk]; cbv; try simp only [hc, hat, hk]; cbv) ?_ ?_
    · first | exact trivial | (simp only [Cd.ok, ee]; and_intros <;> first | omega | rfl | (simp <;> omega))
    refine go rfl hX 1 (by conv => lhs; cbv; try simp only [hc, hat, hk]; cbv; try simp only [hc, hat, hk]; cbv; try simp only [hc, hat, hk]; cbv; try simp only [hc, hat, hk]; cbv) ?_ ?_
    · first | exact trivial | (simp only [Cd.ok, ee]; and_intros <;> first | omega | rfl | (simp <;> omega))
    refine loopP_next (d ++ [n], r, iAdd .i64 i 1, ln + 1, w ++ [int m]) ⟨by simp [k1], hi', by simp [kn], kw2⟩ (by simp) (ent_sub [.gone, .gone, .to 0] [some 2] ⟨trivial, trivial, ⟨by simp, rfl⟩, trivial⟩ ⟨osrc_arr rfl rfl rfl (by simp [ee, kn]) hcw2, trivial⟩ ⟨.refl _, .of (by simp only [ee]; rfl), .cl hcl, trivial⟩)
end Go.Am
end
section
set_option linter.unusedVariables false
set_option linter.unusedSimpArgs false
set_option maxRecDepth 20000
namespace Go.Am
open Go.Proofs

def allT (t : Trk) : List Int → Trk × Bool
  | [] => (t, true)
  | n :: r => if (recvT t n).2.2 ≠ 0 then (t, false) else allT (recvT t n).1 r
/-- numbers without punctuations, within the limit -/
structure Sml (t : Trk) : Prop where
  bey : t.bey.length ≤ 256
  pts : t.pts = []
theorem Sml.fine {t : Trk} (h : Sml t) : t.Fine := ⟨by unfold Short; have := h.bey; omega, by rw [h.pts]; simp [Short]⟩
theorem sml_recv {t : Trk} (h : Sml t) (n : Int) : Sml (recvT t n).1 := by
  have h0 : Sml T0 := ⟨by simp [T0], rfl⟩
  unfold recvT
  split
  · exact h0
  split
  · exact h0
  split
  · exact h
  split
  · exact h0
  · exact ⟨by dsimp only; omega, h.pts⟩
theorem sml_begin : Sml TrkB := ⟨by simp [TrkB], rfl⟩
theorem sml_all : ∀ (l : List Int) (t : Trk), Sml t → Sml (allT t l).1
  | [], t, h => h
  | n :: r, t, h => by
    unfold allT
    split
    · exact h
    · exact sml_all r _ (sml_recv h n)

set_option maxHeartbeats 2000000 in
theorem P24 (l : List Int) (hl : l.length < 500000000000) : PCall EE 24 [.isl 1 (mapE int l)] (.tup [(allT TrkB l).1.enc, .val (.bool (allT TrkB l).2)]) := by
  have hcl := closedI l
  have P17c := P17
  have P12c := fun (t : Trk) n (h : Sml t) => P12 t n h.fine (by rw [h.pts]; simp)
  have hcB := Trk.closed TrkB
  have hB : TrkB.enc = .agg [int TrkB.next, .isl 1 (mapE int TrkB.bey), .isl 2 (mapE Pt.enc TrkB.pts), int TrkB.mark] := rfl
  rw [hB] at P17c hcB
  obtain ⟨aa, haa⟩ : ∃ aa, allT TrkB l = aa := ⟨_, rfl⟩
  rw [haa]
  have hsB := sml_begin
  generalize TrkB = b at *
  refine words fun iLt iLe iEq iNe iAdd iSub iMul iQuo iRem iShr iNeg iCvt iMax iMin bNot bEq bNe bAnd bOr sEq sNe sLen sCat sCut sAt lenA lenN iOf natOf atA atN cutA partA dropA catA setA repA putA idxN addN subN minN lenCut hX e_iLt e_iLe e_iEq e_iNe e_iAdd e_iSub e_iMul e_iQuo e_iRem e_iShr e_iNeg e_iCvt e_iMax e_iMin e_bNot e_bEq e_bNe e_bAnd e_bOr e_sEq e_sNe e_sLen e_sCat e_sCut e_sAt e_lenA e_lenN e_iOf e_natOf e_atA e_atN e_cutA e_partA e_dropA e_catA e_setA e_repA e_putA e_idxN e_addN e_subN e_minN e_lenCut ee => ?_
  generalize hel : mapE int l = el at *
  have hll : el.length = l.length := by rw [← hel, mapE_len]
  refine fn_body (fn := Try.f24) (n := 31) (ac := Tryc24) (rvs := [.cell 2 4 true, .t 3]) rfl (by decide) Tryp24 rfl rfl rfl ?_
  obtain ⟨bn, bb, bp, bk⟩ := b
  dsimp only at P17c hcB
  have hcbb : AV.closedL (mapE int bb) = true := closed_mapE int_closed _
  have hcbp : AV.closedL (mapE Pt.enc bp) = true := closed_mapE Pt.closed _
  generalize heb : mapE int bb = eb at *
  generalize hep : mapE Pt.enc bp = ep at *
  refine go rfl hX 60 (by conv => lhs; cbv) ?_ ?_
  · first | exact trivial | (simp only [Cd.ok, ee]; and_intros <;> first | omega | rfl | (simp <;> omega))
  refine on_pcall rfl rfl rfl P17c rfl ?_
  refine go rfl hX 60 (by conv => lhs; cbv) ?_ ?_
  · first | exact trivial | (simp only [Cd.ok, ee]; and_intros <;> first | omega | rfl | (simp <;> omega))
  refine on_loopP (ι := List Int × List Int × Int × Trk) (fun p => ([(5, int p.2.2.1), (4, .ptr 1 0), (2, .ptr 0 0), (0, .isl 1 el)], [.cells [int 0, .val (.slice none 0 0), .val (.slice none 0 0), int 0], .cells [int p.2.2.2.next, .isl 1 (mapE int p.2.2.2.bey), .isl 2 (mapE Pt.enc p.2.2.2.pts), int p.2.2.2.mark]]))
    (fun p => l = p.1 ++ p.2.1 ∧ p.2.2.1 = p.1.length ∧ aa = allT p.2.2.2 p.2.1 ∧ Sml p.2.2.2) (fun p => p.2.1.length) ([], l, 0, ⟨bn, bb, bp, bk⟩) ⟨rfl, rfl, haa.symm, hsB⟩
    (by dsimp only; rw [heb, hep]; exact (ent_sub [.to 0, .to 1] [some 0, some 1] ⟨⟨by simp, rfl⟩, ⟨by simp, rfl⟩, trivial⟩ ⟨osrc_cells (b := 0) rfl rfl rfl ⟨.refl _, .refl _, .refl _, .refl _, trivial⟩, osrc_cells (b := 1) rfl rfl rfl ⟨.refl _, .cl hcbb, .cl hcbp, .refl _, trivial⟩, trivial⟩ ⟨.refl _, .refl _, .refl _, .cl hcl, trivial⟩)) ?_
  rintro ⟨d, r, i, o⟩ ⟨k1, hi, hrf, hso⟩
  obtain ⟨on, ob, op, ok⟩ := o
  dsimp only at k1 hi hrf hso ⊢
  have hco : AV.closedL (mapE int ob) = true := closed_mapE int_closed _
  have hcp : AV.closedL (mapE Pt.enc op) = true := closed_mapE Pt.closed _
  have hoe : Trk.enc ⟨on, ob, op, ok⟩ = .agg [int on, .isl 1 (mapE int ob), .isl 2 (mapE Pt.enc op), int ok] := rfl
  have hca : (AV.agg [int on, .isl 1 (mapE int ob), .isl 2 (mapE Pt.enc op), int ok]).closed = true := Trk.closed ⟨on, ob, op, ok⟩
  have hct : ∀ v, (AV.tup [AV.agg [int on, .isl 1 (mapE int ob), .isl 2 (mapE Pt.enc op), int ok], .val (.bool v)]).closed = true := by
    intro v; show AV.closedL [_, _] = true; simp only [AV.closedL, hca, closed_v]; rfl
  cases r with
  | nil =>
    have L1 := len_split k1
    try simp only [List.length_cons, List.length_nil] at L1
    have hc : iLt i (lenA el) = false := lt_f e_iLt e_lenA (by omega)
    have hrf : aa = (⟨on, ob, op, ok⟩, true) := hrf
    rw [hrf]
    dsimp only
    rw [hoe]
    generalize mapE int ob = eo at *
    generalize mapE Pt.enc op = epo at *
    refine go rfl hX 0 (by conv => lhs; cbv; try simp only [hc]; cbv; try simp only [hc]; cbv; try simp only [hc]; cbv; try simp only [hc]; cbv) ?_ ?_
    · first | exact trivial | (simp only [Cd.ok, ee]; and_intros <;> first | omega | rfl | (simp <;> omega))
    refine go rfl hX 60 (by conv => lhs; cbv) ?_ ?_
    · first | exact trivial | (simp only [Cd.ok, ee]; and_intros <;> first | omega | rfl | (simp <;> omega))
    refine loopP_exit ?_
    refine go rfl hX 60 (by conv => lhs; cbv) ?_ ?_
    · first | exact trivial | (simp only [Cd.ok, ee]; and_intros <;> first | omega | rfl | (simp <;> omega))
    refine fn_ret rfl rfl ?_
    exact fz_cl rfl (hct _)
  | cons n r =>
    have L1 := len_split k1
    try simp only [List.length_cons, List.length_nil] at L1
    have hc : iLt i (lenA el) = true := lt_t e_iLt e_lenA (by omega)
    have hat := el_at e_atA hel k1 hi
    have hi' : iAdd .i64 i 1 = ((d ++ [n] : List Int).length : Int) := by
      simp only [List.length_append, List.length_cons, List.length_nil]; exact inc_w e_iAdd hi (by omega)
    have P12d := P12c ⟨on, ob, op, ok⟩ n hso
    have hs2 := sml_recv hso n
    rw [allT] at hrf
    rw [hoe] at P12d
    generalize recvT ⟨on, ob, op, ok⟩ n = rv at *
    obtain ⟨⟨on2, ob2, op2, ok2⟩, fr, er⟩ := rv
    dsimp only at P12d hrf hs2
    unfold Trk.enc at P12d
    dsimp only at P12d
    have hco2 : AV.closedL (mapE int ob2) = true := closed_mapE int_closed _
    have hcp2 : AV.closedL (mapE Pt.enc op2) = true := closed_mapE Pt.closed _
    generalize heo2 : mapE int ob2 = eo2 at *
    generalize hep2 : mapE Pt.enc op2 = epo2 at *
    generalize mapE int ob = eo at *
    generalize mapE Pt.enc op = epo at *
    refine go rfl hX 0 (by conv => lhs; cbv; try simp only [hc]; cbv; try simp only [hc]; cbv; try simp only [hc]; cbv; try simp only [hc]; cbv) ?_ ?_
    · first | exact trivial | (simp only [Cd.ok, ee]; and_intros <;> first | omega | rfl | (simp <;> omega))
    refine go rfl hX 1 (by conv => lhs; cbv; try simp only [hc, hat]; cbv; try simp only [hc, hat]; cbv; try simp only [hc, hat]; cbv; try simp only [hc, hat]; cbv) ?_ ?_
    · first | exact trivial | (simp only [Cd.ok, ee]; and_intros <;> first | omega | rfl | (simp <;> omega))
    refine tr_drawB rfl (by conv => lhs; cbv) rfl ?_
    refine tr_go hX (by conv => lhs; cbv; simp only [hat,hat]; cbv; simp only [hat,hat]; cbv) ?_ ?_
    · first | exact trivial | (simp only [Cd.ok, ee]; and_intros <;> first | omega | rfl | (simp <;> omega))
    refine tr_pcall (args := [AV.agg [int on, .isl 1 eo, .isl 2 epo, int ok], int n]) rfl rfl rfl P12d (closed2 hca rfl) ?_
    refine tr_go hX (by conv => lhs; cbv) ?_ ?_
    · first | exact trivial | (simp only [Cd.ok, ee]; and_intros <;> first | omega | rfl | (simp <;> omega))
    refine tr_nil ⟨rfl, ?_, ?_⟩
    · simp only [LooksL, lookAll, List.append, List.cons_append, List.nil_append, List.append_nil]; and_intros <;> first | trivial | (intro hp; first | rfl | exact absurd (show false = true from hp) Bool.false_ne_true)
    by_cases h3 : er = 0
    · have hb : iNe er 0 = false := by simp [ee]; exact h3
      rw [if_neg (by simp [h3])] at hrf
      refine go rfl hX 0 (by conv => lhs; cbv; try simp only [hb]; cbv; try simp only [hb]; cbv; try simp only [hb]; cbv; try simp only [hb]; cbv) ?_ ?_
      · first | exact trivial | (simp only [Cd.ok, ee]; and_intros <;> first | omega | rfl | (simp <;> omega))
      refine go rfl hX 1 (by conv => lhs; cbv; try simp only [hb]; cbv; try simp only [hb]; cbv; try simp only [hb]; cbv; try simp only [hb]; cbv) ?_ ?_
      · first | exact trivial | (simp only [Cd.ok, ee]; and_intros <;> first | omega | rfl | (simp <;> omega))
      refine go rfl hX 60 (by conv => lhs; cbv) ?_ ?_
      · first | exact trivial | (simp only [Cd.ok, ee]; and_intros <;> first | omega | rfl | (simp <;> omega))
      refine loopP_next (d ++ [n], r, iAdd .i64 i 1, ⟨on2, ob2, op2, ok2⟩) ⟨by simp [k1], hi', hrf, hs2⟩ (by simp) ?_
      dsimp only
      rw [heo2, hep2]
      exact (ent_sub [.to 0, .to 1, .gone] [some 0, some 1] ⟨⟨by simp, rfl⟩, ⟨by simp, rfl⟩, trivial, trivial⟩ ⟨osrc_cells (b := 0) rfl rfl rfl ⟨.refl _, .refl _, .refl _, .refl _, trivial⟩, osrc_cells (b := 1) rfl rfl rfl ⟨.refl _, .cl hco2, .cl hcp2, .refl _, trivial⟩, trivial⟩ ⟨.refl _, .refl _, .refl _, .cl hcl, trivial⟩)
    · have hb : iNe er 0 = true := by simp [ee]; exact h3
      rw [if_pos h3] at hrf
      rw [hrf]
      dsimp only
      rw [hoe]
      refine go rfl hX 0 (by conv => lhs; cbv; try simp only [hb]; cbv; try simp only [hb]; cbv; try simp only [hb]; cbv; try simp only [hb]; cbv) ?_ ?_
      · first | exact trivial | (simp only [Cd.ok, ee]; and_intros <;> first | omega | rfl | (simp <;> omega))
      refine go rfl hX 60 (by conv => lhs; cbv) ?_ ?_
      · first | exact trivial | (simp only [Cd.ok, ee]; and_intros <;> first | omega | rfl | (simp <;> omega))
      refine loopP_ret ?_
      refine go rfl hX 60 (by conv => lhs; cbv) ?_ ?_
      · first | exact trivial | (simp only [Cd.ok, ee]; and_intros <;> first | omega | rfl | (simp <;> omega))
      refine fn_ret rfl rfl ?_
      exact fz_cl rfl (hct _)
end Go.Am
end
section
set_option linter.unusedVariables false
set_option linter.unusedSimpArgs false
set_option maxRecDepth 20000
namespace Go.Am
open Go.Proofs

theorem below_place (n : Int) (l : List Int) : belowF n l = placeK n l := rfl
theorem below_span : ∀ (l : List Int) (last n : Int), l.Pairwise (· < ·) → (∀ x ∈ l, last < x) → belowF n l = 0 ∨ belowF n l + last < n
  | [], _, _, _, _ => by left; rfl
  | a :: r, last, n, hp, hl => by
    obtain ⟨h1, h2⟩ := List.pairwise_cons.1 hp
    have h3 := hl a (by simp)
    unfold belowF
    by_cases ha : a < n
    · right
      have := below_span r a n h2 h1
      unfold belowF at this
      simp only [List.filter_cons, ha, decide_true, if_true, List.length_cons]
      omega
    · left
      have hr : r.filter (fun m => decide (m < n)) = [] := List.filter_eq_nil_iff.2 fun m hm => by have := h1 m hm; simp; omega
      simp [List.filter_cons, ha, hr]

theorem P28 (t : Trk) (n : Int) (hf : t.Fine) : PCall EE 28 [t.enc, int n] (.tup [int (missT t n).1, int (missT t n).2]) := by
  have P15c := P15 t hf
  have hcl := Trk.closed t
  have hok := fun h : checkT t = 0 => check_ok h
  have P42c := fun h : checkT t = 0 => P42 t.bey n hf.bey (ord_asc _ _ (check_ok h).2.2.2).1
  have hsp := fun h : checkT t = 0 => below_span t.bey t.next n (ord_asc _ _ (check_ok h).2.2.2).1 (ord_asc _ _ (check_ok h).2.2.2).2
  have hbl0 := below_le n t.bey
  unfold missT
  unfold Trk.enc at *
  obtain ⟨tn, bey, pts, tk⟩ := t
  dsimp only at *
  have hcb := closedI bey
  rw [below_place] at *
  generalize checkT ⟨tn, bey, pts, tk⟩ = ck at *
  generalize (placeK n bey : Int) = pk at *
  generalize mapE int bey = eb at *
  generalize mapE Pt.enc pts = ep at *
  refine words fun iLt iLe iEq iNe iAdd iSub iMul iQuo iRem iShr iNeg iCvt iMax iMin bNot bEq bNe bAnd bOr sEq sNe sLen sCat sCut sAt lenA lenN iOf natOf atA atN cutA partA dropA catA setA repA putA idxN addN subN minN lenCut hX e_iLt e_iLe e_iEq e_iNe e_iAdd e_iSub e_iMul e_iQuo e_iRem e_iShr e_iNeg e_iCvt e_iMax e_iMin e_bNot e_bEq e_bNe e_bAnd e_bOr e_sEq e_sNe e_sLen e_sCat e_sCut e_sAt e_lenA e_lenN e_iOf e_natOf e_atA e_atN e_cutA e_partA e_dropA e_catA e_setA e_repA e_putA e_idxN e_addN e_subN e_minN e_lenCut ee => ?_
  refine fn_body (fn := Try.f28) (n := 28) (ac := Tryc28) (rvs := [.t 4, .t 5]) rfl (by decide) Tryp28 rfl rfl rfl ?_
  by_cases h0 : ck = 0
  rotate_left
  · rw [if_pos h0]
    have hb : iNe ck 0 = true := by simp [ee]; exact h0
    refine go rfl hX 60 (by conv => lhs; cbv) ?_ ?_
    · first | exact trivial | (simp only [Cd.ok, ee]; and_intros <;> first | omega | rfl | (simp <;> omega))
    refine on_pcall (args := [AV.agg [int tn, AV.isl 1 eb, AV.isl 2 ep, int tk]]) rfl rfl rfl P15c (by simp [AV.closedL, closed_v, closed_agg, hcl]) ?_
    refine go rfl hX 0 (by conv => lhs; cbv; try simp only [hb]; cbv; try simp only [hb]; cbv; try simp only [hb]; cbv; try simp only [hb]; cbv) ?_ ?_
    · first | exact trivial | (simp only [Cd.ok, ee]; and_intros <;> first | omega | rfl | (simp <;> omega))
    refine go rfl hX 60 (by conv => lhs; cbv) ?_ ?_
    · first | exact trivial | (simp only [Cd.ok, ee]; and_intros <;> first | omega | rfl | (simp <;> omega))
    refine fn_ret rfl rfl ?_
    exact Fz.none (.refl _)
  have hok := hok h0
  have hsp := hsp h0
  have P42d := P42c h0
  subst h0
  rw [if_neg (by simp)]
  have hb0 : iNe 0 0 = false := by simp [ee]
  by_cases h1 : n < 0 ∨ 1099511627777 < n
  · rw [if_pos h1]
    have hb : bOr (iLt n 0) (iLt 1099511627777 n) = true := by simp [ee]; omega
    refine go rfl hX 60 (by conv => lhs; cbv) ?_ ?_
    · first | exact trivial | (simp only [Cd.ok, ee]; and_intros <;> first | omega | rfl | (simp <;> omega))
    refine on_pcall (args := [AV.agg [int tn, AV.isl 1 eb, AV.isl 2 ep, int tk]]) rfl rfl rfl P15c (by simp [AV.closedL, closed_v, closed_agg, hcl]) ?_
    refine go rfl hX 0 (by conv => lhs; cbv; try simp only [hb0, hb]; cbv; try simp only [hb0, hb]; cbv; try simp only [hb0, hb]; cbv; try simp only [hb0, hb]; cbv) ?_ ?_
    · first | exact trivial | (simp only [Cd.ok, ee]; and_intros <;> first | omega | rfl | (simp <;> omega))
    refine go rfl hX 1 (by conv => lhs; cbv; try simp only [hb0, hb]; cbv; try simp only [hb0, hb]; cbv; try simp only [hb0, hb]; cbv; try simp only [hb0, hb]; cbv) ?_ ?_
    · first | exact trivial | (simp only [Cd.ok, ee]; and_intros <;> first | omega | rfl | (simp <;> omega))
    refine go rfl hX 60 (by conv => lhs; cbv) ?_ ?_
    · first | exact trivial | (simp only [Cd.ok, ee]; and_intros <;> first | omega | rfl | (simp <;> omega))
    refine fn_ret rfl rfl ?_
    exact Fz.none (.refl _)
  rw [if_neg h1]
  have hb : bOr (iLt n 0) (iLt 1099511627777 n) = false := by simp [ee]; omega
  have hmx : iMax (iSub .i64 (iSub .i64 n tn) pk) 0 = max 0 (n - tn) - pk := by
    simp only [ee]
    rw [wrap64 (x := n - tn) (by omega) (by omega), wrap64 (by omega) (by omega)]
    split <;> omega
  refine go rfl hX 60 (by conv => lhs; cbv) ?_ ?_
  · first | exact trivial | (simp only [Cd.ok, ee]; and_intros <;> first | omega | rfl | (simp <;> omega))
  refine on_pcall (args := [AV.agg [int tn, AV.isl 1 eb, AV.isl 2 ep, int tk]]) rfl rfl rfl P15c (by simp [AV.closedL, closed_v, closed_agg, hcl]) ?_
  refine go rfl hX 0 (by conv => lhs; cbv; try simp only [hb0, hb]; cbv; try simp only [hb0, hb]; cbv; try simp only [hb0, hb]; cbv; try simp only [hb0, hb]; cbv) ?_ ?_
  · first | exact trivial | (simp only [Cd.ok, ee]; and_intros <;> first | omega | rfl | (simp <;> omega))
  refine go rfl hX 1 (by conv => lhs; cbv; try simp only [hb0, hb]; cbv; try simp only [hb0, hb]; cbv; try simp only [hb0, hb]; cbv; try simp only [hb0, hb]; cbv) ?_ ?_
  · first | exact trivial | (simp only [Cd.ok, ee]; and_intros <;> first | omega | rfl | (simp <;> omega))
  refine go rfl hX 60 (by conv => lhs; cbv) ?_ ?_
  · first | exact trivial | (simp only [Cd.ok, ee]; and_intros <;> first | omega | rfl | (simp <;> omega))
  generalize max 0 (n - tn) - pk = res at *
  refine tr_drawB rfl (by conv => lhs; cbv) rfl ?_
  refine tr_go hX (by conv => lhs; cbv) ?_ ?_
  · first | exact trivial | (simp only [Cd.ok, ee]; and_intros <;> first | omega | rfl | (simp <;> omega))
  refine tr_pcall (args := [.isl 1 eb, int n]) rfl rfl rfl P42d (by simp [AV.closedL, closed_v, hcb]) ?_
  refine tr_go hX (by conv => lhs; cbv) ?_ ?_
  · first | exact trivial | (simp only [Cd.ok, ee]; and_intros <;> first | omega | rfl | (simp <;> omega))
  refine tr_nil ⟨rfl, ?_, ?_⟩
  · simp only [LooksL, lookAll, List.append, List.cons_append, List.nil_append, List.append_nil]; and_intros <;> first | trivial | (intro hp; first | rfl | exact absurd (show false = true from hp) Bool.false_ne_true)
  refine go rfl hX 60 (by conv => lhs; cbv) ?_ ?_
  · first | exact trivial | (simp only [Cd.ok, ee]; and_intros <;> first | omega | rfl | (simp <;> omega))
  refine fn_ret rfl rfl ?_
  (rw [hmx]; exact Fz.none (.refl _))
end Go.Am
end
section
set_option linter.unusedVariables false
set_option linter.unusedSimpArgs false
set_option maxRecDepth 20000
namespace Go.Am
open Go.Proofs

theorem P14 (t u : Trk) (ht : t.Fine) : PCall EE 14 [t.enc, u.enc] (.val (.bool (decide (t = u)))) := by
  have P30c := P30 t.bey u.bey ht.bey
  have hs := ht.pts
  unfold Short at hs
  obtain ⟨tn, tb, tp, tk⟩ := t
  obtain ⟨un, ub, up, uk⟩ := u
  unfold Trk.enc
  dsimp only at P30c hs ⊢
  have hc1 := closedI tb
  have hc2 := closedI ub
  have hc3 := closedP tp
  have hc4 := closedP up
  have hd : decide ((⟨tn, tb, tp, tk⟩ : Trk) = ⟨un, ub, up, uk⟩) = (decide (tn = un) && decide (tk = uk) && decide (tb = ub) && decide (tp = up)) := by
    rw [Bool.eq_iff_iff]; simp [Trk.mk.injEq]
    constructor
    · rintro ⟨a, b, c, d⟩; exact ⟨⟨⟨a, d⟩, b⟩, c⟩
    · rintro ⟨⟨⟨a, d⟩, b⟩, c⟩; exact ⟨a, b, c, d⟩
  rw [hd]
  generalize decide (tb = ub) = eqb at *
  generalize mapE int tb = e1 at *
  generalize mapE int ub = e2 at *
  generalize hex : mapE Pt.enc tp = ex at *
  generalize hey : mapE Pt.enc up = ey at *
  have hxl : ex.length = tp.length := by rw [← hex, mapE_len]
  have hyl : ey.length = up.length := by rw [← hey, mapE_len]
  clear hd ht
  refine words fun iLt iLe iEq iNe iAdd iSub iMul iQuo iRem iShr iNeg iCvt iMax iMin bNot bEq bNe bAnd bOr sEq sNe sLen sCat sCut sAt lenA lenN iOf natOf atA atN cutA partA dropA catA setA repA putA idxN addN subN minN lenCut hX e_iLt e_iLe e_iEq e_iNe e_iAdd e_iSub e_iMul e_iQuo e_iRem e_iShr e_iNeg e_iCvt e_iMax e_iMin e_bNot e_bEq e_bNe e_bAnd e_bOr e_sEq e_sNe e_sLen e_sCat e_sCut e_sAt e_lenA e_lenN e_iOf e_natOf e_atA e_atN e_cutA e_partA e_dropA e_catA e_setA e_repA e_putA e_idxN e_addN e_subN e_minN e_lenCut ee => ?_
  have hbo : ∀ x, bOr true x = true := by simp [ee]
  have hbp : ∀ x, bOr false x = x := by simp [ee]
  have hnt : bNot true = false := by simp [ee]
  have hnf : bNot false = true := by simp [ee]
  refine fn_body (fn := Try.f14) (n := 53) (ac := Tryc14) (rvs := [.t 4]) rfl (by decide) Tryp14 rfl rfl rfl ?_
  by_cases h1 : tn = un
  rotate_left
  · have hb : iNe tn un = true := by simp [ee]; exact h1
    refine go rfl hX 0 (by conv => lhs; cbv; try simp only [hb, hbo]; cbv; try simp only [hb, hbo]; cbv; try simp only [hb, hbo]; cbv; try simp only [hb, hbo]; cbv) ?_ ?_
    · first | exact trivial | (simp only [Cd.ok, ee]; and_intros <;> first | omega | rfl | (simp <;> omega))
    refine go rfl hX 60 (by conv => lhs; cbv) ?_ ?_
    · first | exact trivial | (simp only [Cd.ok, ee]; and_intros <;> first | omega | rfl | (simp <;> omega))
    refine on_gskip rfl rfl ?_
    refine go rfl hX 60 (by conv => lhs; cbv) ?_ ?_
    · first | exact trivial | (simp only [Cd.ok, ee]; and_intros <;> first | omega | rfl | (simp <;> omega))
    refine fn_ret rfl rfl (.val ?_)
    simp [h1]
  have hb1 : iNe tn un = false := by simp [ee]; exact h1
  by_cases h2 : tk = uk
  rotate_left
  · have hb : iNe tk uk = true := by simp [ee]; exact h2
    refine go rfl hX 0 (by conv => lhs; cbv; try simp only [hb1, hb, hbo, hbp]; cbv; try simp only [hb1, hb, hbo, hbp]; cbv; try simp only [hb1, hb, hbo, hbp]; cbv; try simp only [hb1, hb, hbo, hbp]; cbv) ?_ ?_
    · first | exact trivial | (simp only [Cd.ok, ee]; and_intros <;> first | omega | rfl | (simp <;> omega))
    refine go rfl hX 60 (by conv => lhs; cbv) ?_ ?_
    · first | exact trivial | (simp only [Cd.ok, ee]; and_intros <;> first | omega | rfl | (simp <;> omega))
    refine on_gskip rfl rfl ?_
    refine go rfl hX 60 (by conv => lhs; cbv) ?_ ?_
    · first | exact trivial | (simp only [Cd.ok, ee]; and_intros <;> first | omega | rfl | (simp <;> omega))
    refine fn_ret rfl rfl (.val ?_)
    simp [h2]
  have hb2 : iNe tk uk = false := by simp [ee]; exact h2
  by_cases h3 : tp.length = up.length
  rotate_left
  · have hb : iNe (lenA ex) (lenA ey) = true := by simp [ee]; omega
    have hne : ¬ tp = up := by rintro rfl; exact h3 rfl
    refine go rfl hX 0 (by conv => lhs; cbv; try simp only [hb1, hb2, hb, hbo, hbp]; cbv; try simp only [hb1, hb2, hb, hbo, hbp]; cbv; try simp only [hb1, hb2, hb, hbo, hbp]; cbv; try simp only [hb1, hb2, hb, hbo, hbp]; cbv) ?_ ?_
    · first | exact trivial | (simp only [Cd.ok, ee]; and_intros <;> first | omega | rfl | (simp <;> omega))
    refine go rfl hX 60 (by conv => lhs; cbv) ?_ ?_
    · first | exact trivial | (simp only [Cd.ok, ee]; and_intros <;> first | omega | rfl | (simp <;> omega))
    refine on_gskip rfl rfl ?_
    refine go rfl hX 60 (by conv => lhs; cbv) ?_ ?_
    · first | exact trivial | (simp only [Cd.ok, ee]; and_intros <;> first | omega | rfl | (simp <;> omega))
    refine fn_ret rfl rfl (.val ?_)
    simp [hne]
  have hb3 : iNe (lenA ex) (lenA ey) = false := by simp [ee]; omega
  cases eqb with
  | false =>
    refine go rfl hX 0 (by conv => lhs; cbv; try simp only [hb1, hb2, hb3, hbo, hbp, hnf]; cbv; try simp only [hb1, hb2, hb3, hbo, hbp, hnf]; cbv; try simp only [hb1, hb2, hb3, hbo, hbp, hnf]; cbv; try simp only [hb1, hb2, hb3, hbo, hbp, hnf]; cbv) ?_ ?_
    · first | exact trivial | (simp only [Cd.ok, ee]; and_intros <;> first | omega | rfl | (simp <;> omega))
    refine go rfl hX 60 (by conv => lhs; cbv) ?_ ?_
    · first | exact trivial | (simp only [Cd.ok, ee]; and_intros <;> first | omega | rfl | (simp <;> omega))
    refine on_gpcall (args := [AV.isl 1 e1, AV.isl 1 e2]) rfl rfl rfl rfl P30c (by simp [AV.closedL, closed_v, closed_agg, hc1, hc2]) ?_
    refine go rfl hX 0 (by conv => lhs; cbv; try simp only [hb1, hb2, hb3, hbo, hbp, hnf]; cbv; try simp only [hb1, hb2, hb3, hbo, hbp, hnf]; cbv; try simp only [hb1, hb2, hb3, hbo, hbp, hnf]; cbv; try simp only [hb1, hb2, hb3, hbo, hbp, hnf]; cbv) ?_ ?_
    · first | exact trivial | (simp only [Cd.ok, ee]; and_intros <;> first | omega | rfl | (simp <;> omega))
    refine go rfl hX 60 (by conv => lhs; cbv) ?_ ?_
    · first | exact trivial | (simp only [Cd.ok, ee]; and_intros <;> first | omega | rfl | (simp <;> omega))
    refine fn_ret rfl rfl (.val ?_)
    simp
  | true =>
    refine go rfl hX 0 (by conv => lhs; cbv; try simp only [hb1, hb2, hb3, hbo, hbp, hnt]; cbv; try simp only [hb1, hb2, hb3, hbo, hbp, hnt]; cbv; try simp only [hb1, hb2, hb3, hbo, hbp, hnt]; cbv; try simp only [hb1, hb2, hb3, hbo, hbp, hnt]; cbv) ?_ ?_
    · first | exact trivial | (simp only [Cd.ok, ee]; and_intros <;> first | omega | rfl | (simp <;> omega))
    refine go rfl hX 60 (by conv => lhs; cbv) ?_ ?_
    · first | exact trivial | (simp only [Cd.ok, ee]; and_intros <;> first | omega | rfl | (simp <;> omega))
    refine on_gpcall (args := [AV.isl 1 e1, AV.isl 1 e2]) rfl rfl rfl rfl P30c (by simp [AV.closedL, closed_v, closed_agg, hc1, hc2]) ?_
    refine go rfl hX 0 (by conv => lhs; cbv; try simp only [hb1, hb2, hb3, hbo, hbp, hnt]; cbv; try simp only [hb1, hb2, hb3, hbo, hbp, hnt]; cbv; try simp only [hb1, hb2, hb3, hbo, hbp, hnt]; cbv; try simp only [hb1, hb2, hb3, hbo, hbp, hnt]; cbv) ?_ ?_
    · first | exact trivial | (simp only [Cd.ok, ee]; and_intros <;> first | omega | rfl | (simp <;> omega))
    refine go rfl hX 60 (by conv => lhs; cbv) ?_ ?_
    · first | exact trivial | (simp only [Cd.ok, ee]; and_intros <;> first | omega | rfl | (simp <;> omega))
    have hdd : (decide (tn = un) && decide (tk = uk) && true && decide (tp = up)) = decide (tp = up) := by simp [h1, h2]
    rw [hdd]
    refine on_loopP (ι := List Pt × List Pt × List Pt × Int) (fun p => ([(5, int p.2.2.2), (2, .ptr 0 0), (3, .ptr 1 0), (4, .val (.bool false))], [.cells [int tn, .isl 1 e1, .isl 2 ex, int tk], .cells [int un, .isl 1 e2, .isl 2 ey, int uk]]))
      (fun p => tp = p.1 ++ p.2.1 ∧ up = p.1 ++ p.2.2.1 ∧ p.2.2.2 = p.1.length) (fun p => p.2.1.length) ([], tp, up, 0) ⟨rfl, rfl, rfl⟩ (ent_fw ⟨.refl _, .refl _, .refl _, .refl _, trivial⟩) ?_
    rintro ⟨d, r, r2, i⟩ ⟨k1, k2, hi⟩
    dsimp only at k1 k2 hi ⊢
    have hrl : r.length = r2.length := by
      have a := congrArg List.length k1
      have b := congrArg List.length k2
      rw [List.length_append] at a b
      omega
    cases r with
    | nil =>
      have hr2 : r2 = [] := by cases r2 with | nil => rfl | cons _ _ => simp at hrl
      subst hr2
      have heq : tp = up := by rw [k1, k2]
      have L1 := len_split k1
      try simp only [List.length_cons, List.length_nil] at L1
      have hc : iLt i (lenA ex) = false := lt_f e_iLt e_lenA (by omega)
      refine go rfl hX 0 (by conv => lhs; cbv; try simp only [hc]; cbv; try simp only [hc]; cbv; try simp only [hc]; cbv; try simp only [hc]; cbv) ?_ ?_
      · first | exact trivial | (simp only [Cd.ok, ee]; and_intros <;> first | omega | rfl | (simp <;> omega))
      refine go rfl hX 60 (by conv => lhs; cbv) ?_ ?_
      · first | exact trivial | (simp only [Cd.ok, ee]; and_intros <;> first | omega | rfl | (simp <;> omega))
      refine loopP_exit ?_
      refine go rfl hX 60 (by conv => lhs; cbv) ?_ ?_
      · first | exact trivial | (simp only [Cd.ok, ee]; and_intros <;> first | omega | rfl | (simp <;> omega))
      refine fn_ret rfl rfl (.val ?_)
      simp [heq]
    | cons x r =>
      cases r2 with
      | nil => simp at hrl
      | cons y r2 =>
        have L1 := len_split k1
        try simp only [List.length_cons, List.length_nil] at L1
        have L2 := len_split k2
        try simp only [List.length_cons, List.length_nil] at L2
        have hc : iLt i (lenA ex) = true := lt_t e_iLt e_lenA (by omega)
        have hax := el_at e_atA hex k1 hi
        have hay := el_at e_atA hey k2 hi
        have hi' : iAdd .i64 i 1 = ((d ++ [x] : List Pt).length : Int) := by
          simp only [List.length_append, List.length_cons, List.length_nil]; exact inc_w e_iAdd hi (by omega)
        have hneq : ¬ x = y → ¬ tp = up := by
          intro hxy h
          rw [k1, k2] at h
          simp at h
          exact hxy h.1
        obtain ⟨x1, x2⟩ := x
        obtain ⟨y1, y2⟩ := y
        dsimp only [Pt.enc] at hax hay
        by_cases hxy : (x1 = y1 ∧ x2 = y2)
        · have hb : bNot (bAnd (iEq x1 y1) (bAnd (iEq x2 y2) true)) = false := by simp [ee]; exact hxy
          refine go rfl hX 0 (by conv => lhs; cbv; try simp only [hc, hax, hay, hb]; cbv; try simp only [hc, hax, hay, hb]; cbv; try simp only [hc, hax, hay, hb]; cbv; try simp only [hc, hax, hay, hb]; cbv) ?_ ?_
          · first | exact trivial | (simp only [Cd.ok, ee]; and_intros <;> first | omega | rfl | (simp <;> omega))
          refine go rfl hX 1 (by conv => lhs; cbv; try simp only [hc, hax, hay, hb]; cbv; try simp only [hc, hax, hay, hb]; cbv; try simp only [hc, hax, hay, hb]; cbv; try simp only [hc, hax, hay, hb]; cbv) ?_ ?_
          · first | exact trivial | (simp only [Cd.ok, ee]; and_intros <;> first | omega | rfl | (simp <;> omega))
          refine go rfl hX 60 (by conv => lhs; cbv) ?_ ?_
          · first | exact trivial | (simp only [Cd.ok, ee]; and_intros <;> first | omega | rfl | (simp <;> omega))
          refine loopP_next (d ++ [⟨x1, x2⟩], r, r2, iAdd .i64 i 1) ⟨by simp [k1], by simp [k2, hxy], hi'⟩ (by simp) (ent_fw ⟨.refl _, .refl _, .refl _, .refl _, trivial⟩)
        · have hb : bNot (bAnd (iEq x1 y1) (bAnd (iEq x2 y2) true)) = true := by simp [ee]; omega
          have hne2 : ¬ tp = up := hneq (by intro h; cases h; exact hxy ⟨rfl, rfl⟩)
          refine go rfl hX 0 (by conv => lhs; cbv; try simp only [hc, hax, hay, hb]; cbv; try simp only [hc, hax, hay, hb]; cbv; try simp only [hc, hax, hay, hb]; cbv; try simp only [hc, hax, hay, hb]; cbv) ?_ ?_
          · first | exact trivial | (simp only [Cd.ok, ee]; and_intros <;> first | omega | rfl | (simp <;> omega))
          refine go rfl hX 1 (by conv => lhs; cbv; try simp only [hc, hax, hay, hb]; cbv; try simp only [hc, hax, hay, hb]; cbv; try simp only [hc, hax, hay, hb]; cbv; try simp only [hc, hax, hay, hb]; cbv) ?_ ?_
          · first | exact trivial | (simp only [Cd.ok, ee]; and_intros <;> first | omega | rfl | (simp <;> omega))
          refine go rfl hX 60 (by conv => lhs; cbv) ?_ ?_
          · first | exact trivial | (simp only [Cd.ok, ee]; and_intros <;> first | omega | rfl | (simp <;> omega))
          refine loopP_ret ?_
          refine go rfl hX 60 (by conv => lhs; cbv) ?_ ?_
          · first | exact trivial | (simp only [Cd.ok, ee]; and_intros <;> first | omega | rfl | (simp <;> omega))
          refine fn_ret rfl rfl (.val ?_)
          simp [hne2]
end Go.Am
end
section
set_option linter.unusedVariables false
set_option linter.unusedSimpArgs false
set_option maxRecDepth 20000
namespace Go.Am
open Go.Proofs

def aw : Trk := ⟨3, [5], [], -1⟩
theorem aw_all : allT TrkB [0, 2, 5, 1] = (aw, true) := by rfl
theorem aw_gaps : gapsT aw = ([⟨3, 4⟩], 0) := by rfl
theorem aw_recv : recvT aw 2 = (aw, false, 0) := by rfl
theorem aw_miss : missT aw 6 = (2, 0) := by rfl
theorem aw_merge : mergeT ⟨1, [3, 4], [], 0⟩ ⟨0, [1, 2], [], 0⟩ = (⟨5, [], [], 0⟩, 0) := by rw [← merge_same]; rfl
theorem sml_aw : Sml aw := ⟨by simp [aw], rfl⟩

set_option maxHeartbeats 4000000 in
theorem P11 : PCall EE 11 [] (.val (.bool true)) := by
  have P24c := P24 [0, 2, 5, 1] (by decide)
  have P19c := P19 aw sml_aw.fine
  have P12c := P12 aw 2 sml_aw.fine (by decide)
  have P28c := P28 aw 6 sml_aw.fine
  have P22c := P22 ⟨1, [3, 4], [], 0⟩ ⟨0, [1, 2], [], 0⟩ ⟨by simp [Short], by simp [Short]⟩ ⟨by simp [Short], by simp [Short]⟩ (by decide)
  have P30c := P30 [5] [5] (by simp [Short])
  have P21c := P21 [⟨3, 4⟩] [⟨3, 4⟩] (by simp [Short])
  have P14c := P14 aw aw sml_aw.fine
  rw [decide_eq_true rfl] at P30c P21c P14c
  rw [aw_all] at P24c
  rw [aw_gaps] at P19c
  rw [aw_recv] at P12c
  rw [aw_miss] at P28c
  rw [aw_merge] at P22c
  unfold Trk.enc aw at *
  dsimp only at *
  have hm0 : mapE int ([] : List Int) = [] := by simp [mapE_eq]
  have hm1 : mapE int [5] = [int 5] := by simp [mapE_eq]
  have hm2 : mapE int [1, 2] = [int 1, int 2] := by simp [mapE_eq]
  have hm3 : mapE int [3, 4] = [int 3, int 4] := by simp [mapE_eq]
  have hm4 : mapE int [0, 2, 5, 1] = [int 0, int 2, int 5, int 1] := by simp [mapE_eq]
  have hm5 : mapE Pt.enc [] = [] := by simp [mapE_eq]
  have hm6 : mapE Pt.enc [⟨3, 4⟩] = [.agg [int 3, int 4]] := by simp [mapE_eq, Pt.enc]
  rw [hm4, hm1, hm5] at P24c
  rw [hm1, hm5, hm6] at P19c
  rw [hm1, hm5] at P12c P28c P14c
  rw [hm1] at P30c
  rw [hm6] at P21c
  rw [hm0, hm2, hm3, hm5] at P22c
  have P22d : PCall EE 22 [.agg [int 1, .isl 1 [int 3, int 4], .val (.slice none 0 0), int 0], .agg [int 0, .isl 1 [int 1, int 2], .val (.slice none 0 0), int 0]] _ := PCall.weak P22c ⟨.agg' ⟨.refl _, .refl _, .nilI _, .refl _, trivial⟩, .agg' ⟨.refl _, .refl _, .nilI _, .refl _, trivial⟩, trivial⟩
  clear P22c
  refine words fun iLt iLe iEq iNe iAdd iSub iMul iQuo iRem iShr iNeg iCvt iMax iMin bNot bEq bNe bAnd bOr sEq sNe sLen sCat sCut sAt lenA lenN iOf natOf atA atN cutA partA dropA catA setA repA putA idxN addN subN minN lenCut hX e_iLt e_iLe e_iEq e_iNe e_iAdd e_iSub e_iMul e_iQuo e_iRem e_iShr e_iNeg e_iCvt e_iMax e_iMin e_bNot e_bEq e_bNe e_bAnd e_bOr e_sEq e_sNe e_sLen e_sCat e_sCut e_sAt e_lenA e_lenN e_iOf e_natOf e_atA e_atN e_cutA e_partA e_dropA e_catA e_setA e_repA e_putA e_idxN e_addN e_subN e_minN e_lenCut ee => ?_
  have hb0 : iNe 0 0 = false := by simp [ee]
  have hb2 : iNe 2 2 = false := by simp [ee]
  have hb5 : iNe 5 5 = false := by simp [ee]
  have he3 : iEq 3 3 = true := by simp [ee]
  have hem : iEq (-1) (-1) = true := by simp [ee]
  have hnt : bNot true = false := by simp [ee]
  have hor : bOr false false = false := by simp [ee]
  have hand : bAnd true true = true := by simp [ee]
  have hln : lenA [] = 0 := by simp [ee]
  refine fn_body (fn := Try.f11) (n := 102) (ac := Tryc11) (rvs := [.t 0]) rfl (by decide) Tryp11 rfl rfl rfl ?_
  refine go rfl hX 60 (by conv => lhs; cbv) ?_ ?_
  · first | exact trivial | (simp only [Cd.ok, ee]; and_intros <;> first | omega | rfl | (simp <;> omega))
  refine on_entO (F' := [(13, .isl 1 [int 0, int 2, int 5, int 1])]) (H' := []) (ent_sub [.isl 1 [int 0, int 2, int 5, int 1]] [] ⟨⟨_, rfl, rfl⟩, trivial⟩ trivial ⟨.of (sub_whole rfl rfl), trivial⟩) ?_
  refine on_pcall (args := [.isl 1 [int 0, int 2, int 5, int 1]]) rfl rfl rfl P24c rfl ?_
  refine go rfl hX 60 (by conv => lhs; cbv) ?_ ?_
  · first | exact trivial | (simp only [Cd.ok, ee]; and_intros <;> first | omega | rfl | (simp <;> omega))
  refine on_pcall (args := [.agg [int 3, .isl 1 [int 5], .isl 2 [], int (-1)]]) rfl rfl rfl P19c rfl ?_
  refine go rfl hX 60 (by conv => lhs; cbv) ?_ ?_
  · first | exact trivial | (simp only [Cd.ok, ee]; and_intros <;> first | omega | rfl | (simp <;> omega))
  refine on_pcall (args := [.agg [int 3, .isl 1 [int 5], .isl 2 [], int (-1)], int 2]) rfl rfl rfl P12c rfl ?_
  refine go rfl hX 60 (by conv => lhs; cbv) ?_ ?_
  · first | exact trivial | (simp only [Cd.ok, ee]; and_intros <;> first | omega | rfl | (simp <;> omega))
  refine on_pcall (args := [.agg [int 3, .isl 1 [int 5], .isl 2 [], int (-1)], int 6]) rfl rfl rfl P28c rfl ?_
  refine go rfl hX 60 (by conv => lhs; cbv) ?_ ?_
  · first | exact trivial | (simp only [Cd.ok, ee]; and_intros <;> first | omega | rfl | (simp <;> omega))
  refine on_entO (F' := [(37, .agg [int 0, .isl 1 [int 1, int 2], .val (.slice none 0 0), int 0]), (35, .agg [int 1, .isl 1 [int 3, int 4], .val (.slice none 0 0), int 0]), (9, int 0), (8, int 2), (7, int 0), (6, .val (.bool false)), (5, .ptr 1 0), (4, int 0), (3, .isl 2 [.agg [int 3, int 4]]), (2, .val (.bool true)), (1, .ptr 0 0)]) (H' := [.cells [int 3, .isl 1 [int 5], .isl 2 [], int (-1)], .cells [int 3, .isl 1 [int 5], .isl 2 [], int (-1)]])
    (ent_sub [.to 0, .to 1, .isl 1 [int 3, int 4], .isl 1 [int 1, int 2]] [some 0, some 1] ⟨⟨by simp, rfl⟩, ⟨by simp, rfl⟩, ⟨_, rfl, rfl⟩, ⟨_, rfl, rfl⟩, trivial⟩ ⟨osrc_cells (b := 0) rfl rfl rfl ⟨.refl _, .refl _, .refl _, .refl _, trivial⟩, osrc_cells (b := 1) rfl rfl rfl ⟨.refl _, .refl _, .refl _, .refl _, trivial⟩, trivial⟩ ⟨.agg' ⟨.refl _, .of (sub_whole rfl rfl), .refl _, .refl _, trivial⟩, .agg' ⟨.refl _, .of (sub_whole rfl rfl), .refl _, .refl _, trivial⟩, .refl _, .refl _, .refl _, .refl _, .refl _, .refl _, .refl _, .refl _, .refl _, trivial⟩) ?_
  refine on_pcall (args := [.agg [int 1, .isl 1 [int 3, int 4], .val (.slice none 0 0), int 0], .agg [int 0, .isl 1 [int 1, int 2], .val (.slice none 0 0), int 0]]) rfl rfl rfl P22d rfl ?_
  refine go rfl hX 0 (by conv => lhs; cbv; try simp only [hnt, hb0, hb2, hb5, hor, hln]; cbv; try simp only [hnt, hb0, hb2, hb5, hor, hln]; cbv; try simp only [hnt, hb0, hb2, hb5, hor, hln]; cbv; try simp only [hnt, hb0, hb2, hb5, hor, hln]; cbv) ?_ ?_
  · first | exact trivial | (simp only [Cd.ok, ee]; and_intros <;> first | omega | rfl | (simp <;> omega))
  refine go rfl hX 1 (by conv => lhs; cbv; try simp only [hnt, hb0, hb2, hb5, hor, hln, he3, hem, hand]; cbv; try simp only [hnt, hb0, hb2, hb5, hor, hln, he3, hem, hand]; cbv; try simp only [hnt, hb0, hb2, hb5, hor, hln, he3, hem, hand]; cbv; try simp only [hnt, hb0, hb2, hb5, hor, hln, he3, hem, hand]; cbv) ?_ ?_
  · first | exact trivial | (simp only [Cd.ok, ee]; and_intros <;> first | omega | rfl | (simp <;> omega))
  refine go rfl hX 60 (by conv => lhs; cbv) ?_ ?_
  · first | exact trivial | (simp only [Cd.ok, ee]; and_intros <;> first | omega | rfl | (simp <;> omega))
  refine on_entO (F' := [(83, .isl 1 [int 5]), (82, .isl 1 [int 5]), (80, .val (.bool true)), (5, .ptr 1 0), (3, .isl 2 [.agg [int 3, int 4]]), (1, .ptr 0 0)]) (H' := [.cells [int 3, .isl 1 [int 5], .isl 2 [], int (-1)], .cells [int 3, .isl 1 [int 5], .isl 2 [], int (-1)]])
    (ent_sub [.to 0, .to 1, .gone, .isl 1 [int 5]] [some 0, some 1] ⟨⟨by simp, rfl⟩, ⟨by simp, rfl⟩, trivial, ⟨_, rfl, rfl⟩, trivial⟩ ⟨osrc_cells (b := 0) rfl rfl rfl ⟨.refl _, .refl _, .refl _, .refl _, trivial⟩, osrc_cells (b := 1) rfl rfl rfl ⟨.refl _, .refl _, .refl _, .refl _, trivial⟩, trivial⟩ ⟨.of (sub_whole rfl rfl), .refl _, .refl _, .refl _, .refl _, .refl _, trivial⟩) ?_
  refine on_gpcall (args := [.isl 1 [int 5], .isl 1 [int 5]]) rfl rfl rfl rfl P30c rfl ?_
  refine go rfl hX 3 (by conv => lhs; cbv; try simp only [hand]; cbv; try simp only [hand]; cbv; try simp only [hand]; cbv; try simp only [hand]; cbv) ?_ ?_
  · first | exact trivial | (simp only [Cd.ok, ee]; and_intros <;> first | omega | rfl | (simp <;> omega))
  refine on_entO (F' := [(89, .isl 2 [.agg [int 3, int 4]]), (87, .isl 2 [.agg [int 3, int 4]]), (86, .val (.bool true)), (5, .ptr 1 0), (1, .ptr 0 0)]) (H' := [.cells [int 3, .isl 1 [int 5], .isl 2 [], int (-1)], .cells [int 3, .isl 1 [int 5], .isl 2 [], int (-1)]])
    (ent_sub [.to 0, .to 1, .isl 2 [.agg [int 3, int 4]]] [some 0, some 1] ⟨⟨by simp, rfl⟩, ⟨by simp, rfl⟩, ⟨_, rfl, rfl⟩, trivial⟩ ⟨osrc_cells (b := 0) rfl rfl rfl ⟨.refl _, .refl _, .refl _, .refl _, trivial⟩, osrc_cells (b := 1) rfl rfl rfl ⟨.refl _, .refl _, .refl _, .refl _, trivial⟩, trivial⟩ ⟨.of (sub_whole rfl rfl), .refl _, .refl _, .refl _, .refl _, trivial⟩) ?_
  refine on_gpcall (args := [.isl 2 [.agg [int 3, int 4]], .isl 2 [.agg [int 3, int 4]]]) rfl rfl rfl rfl P21c rfl ?_
  refine go rfl hX 60 (by conv => lhs; cbv) ?_ ?_
  · first | exact trivial | (simp only [Cd.ok, ee]; and_intros <;> first | omega | rfl | (simp <;> omega))
  refine on_gpcall (args := [AV.agg [int 3, AV.isl 1 [int 5], AV.isl 2 [], int (-1)], AV.agg [int 3, AV.isl 1 [int 5], AV.isl 2 [], int (-1)]]) rfl rfl rfl rfl P14c rfl ?_
  refine go rfl hX 60 (by conv => lhs; cbv) ?_ ?_
  · first | exact trivial | (simp only [Cd.ok, ee]; and_intros <;> first | omega | rfl | (simp <;> omega))
  refine fn_ret rfl rfl (.val ?_)
  (rw [hem, hand])
end Go.Am
end
section
set_option linter.unusedVariables false
set_option linter.unusedSimpArgs false
set_option maxRecDepth 20000
namespace Go.Am
open Go.Proofs

theorem few_pts {t : Trk} (h : fewT t = true) : t.pts.length < 500000000000 := by
  simp only [fewT, Bool.and_eq_true, decide_eq_true_eq] at h; omega
theorem fine_T0 : T0.Fine := ⟨by simp [Short, T0], by simp [Short, T0]⟩
theorem fine_recv {t : Trk} {n : Int} (h : t.Fine) : (recvT t n).1.Fine := by
  unfold recvT
  split
  · exact fine_T0
  split
  · exact fine_T0
  split
  · exact h
  split
  · exact fine_T0
  · exact ⟨by unfold Short; dsimp only; omega, h.pts⟩
theorem fine_merge {a b : Trk} (h : a.Fine) : (mergeT a b).1.Fine := by
  unfold mergeT
  split
  · exact fine_T0
  split
  · exact fine_T0
  split
  · exact fine_T0
  · exact ⟨by unfold Short; dsimp only; omega, h.pts⟩
theorem short_gaps (t : Trk) : Short (gapsT t).1 := by
  unfold gapsT
  by_cases h : checkT t = 0
  · rw [if_neg (by simp [h])]
    have := (check_ok h).2.2.1
    have := holes_le t.bey t.next
    unfold Short; dsimp only; omega
  · rw [if_pos h]; simp [Short]

set_option maxHeartbeats 2000000 in
theorem P4 (t : Trk) (hf : t.Fine) : PCall EE 4 [t.enc] (.val (.bool true)) := by
  have P10c := P10 t
  have P11c := P11
  have P19c := P19 t hf
  have P20c := P20 t hf
  have P21c := P21 (gapsT t).1 (gapsT t).1 (short_gaps t)
  rw [decide_eq_true rfl] at P21c
  have hcl := Trk.closed t
  have hcg := closedP (gapsT t).1
  have he : t.enc = .agg [int t.next, .isl 1 (mapE int t.bey), .isl 2 (mapE Pt.enc t.pts), int t.mark] := rfl
  rw [he] at P10c P19c P20c hcl ⊢
  clear he
  generalize mapE Pt.enc (gapsT t).1 = eg at *
  generalize (gapsT t).2 = ge at *
  generalize fewT t = fw at *
  generalize mapE int t.bey = eb at *
  generalize mapE Pt.enc t.pts = ep at *
  generalize t.next = tn at *
  generalize t.mark = tk at *
  refine words fun iLt iLe iEq iNe iAdd iSub iMul iQuo iRem iShr iNeg iCvt iMax iMin bNot bEq bNe bAnd bOr sEq sNe sLen sCat sCut sAt lenA lenN iOf natOf atA atN cutA partA dropA catA setA repA putA idxN addN subN minN lenCut hX e_iLt e_iLe e_iEq e_iNe e_iAdd e_iSub e_iMul e_iQuo e_iRem e_iShr e_iNeg e_iCvt e_iMax e_iMin e_bNot e_bEq e_bNe e_bAnd e_bOr e_sEq e_sNe e_sLen e_sCat e_sCut e_sAt e_lenA e_lenN e_iOf e_natOf e_atA e_atN e_cutA e_partA e_dropA e_catA e_setA e_repA e_putA e_idxN e_addN e_subN e_minN e_lenCut ee => ?_
  have hnt : bNot true = false := by simp [ee]
  have hnf : bNot false = true := by simp [ee]
  have heq : iEq ge ge = true := by simp [ee]
  have hand : bAnd true true = true := by simp [ee]
  refine fn_body (fn := Try.f4) (n := 32) (ac := Tryc4) (rvs := [.t 2]) rfl (by decide) Tryp4 rfl rfl rfl ?_
  cases fw with
  | false =>
    refine go rfl hX 60 (by conv => lhs; cbv) ?_ ?_
    · first | exact trivial | (simp only [Cd.ok, ee]; and_intros <;> first | omega | rfl | (simp <;> omega))
    refine on_pcall (args := [AV.agg [int tn, AV.isl 1 eb, AV.isl 2 ep, int tk]]) rfl rfl rfl P10c (by simp [AV.closedL, closed_v, closed_agg, hcl]) ?_
    refine go rfl hX 0 (by conv => lhs; cbv; try simp only [hnf]; cbv; try simp only [hnf]; cbv; try simp only [hnf]; cbv; try simp only [hnf]; cbv) ?_ ?_
    · first | exact trivial | (simp only [Cd.ok, ee]; and_intros <;> first | omega | rfl | (simp <;> omega))
    refine go rfl hX 60 (by conv => lhs; cbv) ?_ ?_
    · first | exact trivial | (simp only [Cd.ok, ee]; and_intros <;> first | omega | rfl | (simp <;> omega))
    refine on_pcall (args := []) rfl rfl rfl P11c rfl ?_
    refine go rfl hX 60 (by conv => lhs; cbv) ?_ ?_
    · first | exact trivial | (simp only [Cd.ok, ee]; and_intros <;> first | omega | rfl | (simp <;> omega))
    refine fn_ret rfl rfl (.val ?_)
    rfl
  | true =>
    refine go rfl hX 60 (by conv => lhs; cbv) ?_ ?_
    · first | exact trivial | (simp only [Cd.ok, ee]; and_intros <;> first | omega | rfl | (simp <;> omega))
    refine on_pcall (args := [AV.agg [int tn, AV.isl 1 eb, AV.isl 2 ep, int tk]]) rfl rfl rfl P10c (by simp [AV.closedL, closed_v, closed_agg, hcl, hcg]) ?_
    refine go rfl hX 0 (by conv => lhs; cbv; try simp only [hnt, heq, hand]; cbv; try simp only [hnt, heq, hand]; cbv; try simp only [hnt, heq, hand]; cbv; try simp only [hnt, heq, hand]; cbv) ?_ ?_
    · first | exact trivial | (simp only [Cd.ok, ee]; and_intros <;> first | omega | rfl | (simp <;> omega))
    refine go rfl hX 60 (by conv => lhs; cbv) ?_ ?_
    · first | exact trivial | (simp only [Cd.ok, ee]; and_intros <;> first | omega | rfl | (simp <;> omega))
    refine on_pcall (args := [AV.agg [int tn, AV.isl 1 eb, AV.isl 2 ep, int tk]]) rfl rfl rfl P19c (by simp [AV.closedL, closed_v, closed_agg, hcl, hcg]) ?_
    refine go rfl hX 60 (by conv => lhs; cbv) ?_ ?_
    · first | exact trivial | (simp only [Cd.ok, ee]; and_intros <;> first | omega | rfl | (simp <;> omega))
    refine on_pcall (args := [AV.agg [int tn, AV.isl 1 eb, AV.isl 2 ep, int tk]]) rfl rfl rfl P20c (by simp [AV.closedL, closed_v, closed_agg, hcl, hcg]) ?_
    refine go rfl hX 60 (by conv => lhs; cbv) ?_ ?_
    · first | exact trivial | (simp only [Cd.ok, ee]; and_intros <;> first | omega | rfl | (simp <;> omega))
    refine on_pcall (args := []) rfl rfl rfl P11c rfl ?_
    refine go rfl hX 60 (by conv => lhs; cbv) ?_ ?_
    · first | exact trivial | (simp only [Cd.ok, ee]; and_intros <;> first | omega | rfl | (simp <;> omega))
    refine on_gpcall (args := [AV.isl 2 eg, AV.isl 2 eg]) rfl rfl rfl rfl P21c (by simp [AV.closedL, closed_v, closed_agg, hcl, hcg]) ?_
    refine go rfl hX 60 (by conv => lhs; cbv) ?_ ?_
    · first | exact trivial | (simp only [Cd.ok, ee]; and_intros <;> first | omega | rfl | (simp <;> omega))
    refine fn_ret rfl rfl (.val ?_)
    (rw [heq, hand])

set_option maxHeartbeats 2000000 in
theorem P5 (a b : Trk) (hfa : a.Fine) (hfb : b.Fine) : PCall EE 5 [a.enc, b.enc] (.val (.bool true)) := by
  have P10a := P10 a
  have P10b := P10 b
  have P11c := P11
  have P22c := fun h : fewT a = true => P22 a b hfa hfb (few_pts h)
  have P23c := P23 a b hfa hfb
  rw [merge_same] at P23c
  have P14c := P14 (mergeT a b).1 (mergeT a b).1 (fine_merge hfa)
  rw [decide_eq_true rfl] at P14c
  have hca := Trk.closed a
  have hcb := Trk.closed b
  have hcm := Trk.closed (mergeT a b).1
  have hea : a.enc = .agg [int a.next, .isl 1 (mapE int a.bey), .isl 2 (mapE Pt.enc a.pts), int a.mark] := rfl
  have heb : b.enc = .agg [int b.next, .isl 1 (mapE int b.bey), .isl 2 (mapE Pt.enc b.pts), int b.mark] := rfl
  generalize mergeT a b = m at *
  obtain ⟨m, me⟩ := m
  dsimp only at *
  have hem : m.enc = .agg [int m.next, .isl 1 (mapE int m.bey), .isl 2 (mapE Pt.enc m.pts), int m.mark] := rfl
  rw [hem] at P22c P23c P14c hcm
  rw [hea] at P10a P22c P23c hca ⊢
  rw [heb] at P10b P22c P23c hcb ⊢
  clear hea heb hem
  generalize fewT a = fa at *
  generalize fewT b = fb at *
  generalize mapE int a.bey = eb1 at *
  generalize mapE Pt.enc a.pts = ep1 at *
  generalize a.next = tn1 at *
  generalize a.mark = tk1 at *
  generalize mapE int b.bey = eb2 at *
  generalize mapE Pt.enc b.pts = ep2 at *
  generalize b.next = tn2 at *
  generalize b.mark = tk2 at *
  generalize mapE int m.bey = eb3 at *
  generalize mapE Pt.enc m.pts = ep3 at *
  generalize m.next = tn3 at *
  generalize m.mark = tk3 at *
  refine words fun iLt iLe iEq iNe iAdd iSub iMul iQuo iRem iShr iNeg iCvt iMax iMin bNot bEq bNe bAnd bOr sEq sNe sLen sCat sCut sAt lenA lenN iOf natOf atA atN cutA partA dropA catA setA repA putA idxN addN subN minN lenCut hX e_iLt e_iLe e_iEq e_iNe e_iAdd e_iSub e_iMul e_iQuo e_iRem e_iShr e_iNeg e_iCvt e_iMax e_iMin e_bNot e_bEq e_bNe e_bAnd e_bOr e_sEq e_sNe e_sLen e_sCat e_sCut e_sAt e_lenA e_lenN e_iOf e_natOf e_atA e_atN e_cutA e_partA e_dropA e_catA e_setA e_repA e_putA e_idxN e_addN e_subN e_minN e_lenCut ee => ?_
  have hnt : bNot true = false := by simp [ee]
  have hnf : bNot false = true := by simp [ee]
  have heq : iEq me me = true := by simp [ee]
  have hor1 : bOr true true = true := by simp [ee]
  have hor2 : bOr false false = false := by simp [ee]
  have hor3 : bOr false true = true := by simp [ee]
  have hor4 : bOr true false = true := by simp [ee]
  have hand : bAnd true true = true := by simp [ee]
  have hand2 : bAnd true (iEq me me) = true := by rw [heq, hand]
  refine fn_body (fn := Try.f5) (n := 41) (ac := Tryc5) (rvs := [.t 4]) rfl (by decide) Tryp5 rfl rfl rfl ?_
  cases fa with
  | false =>
    refine go rfl hX 60 (by conv => lhs; cbv) ?_ ?_
    · first | exact trivial | (simp only [Cd.ok, ee]; and_intros <;> first | omega | rfl | (simp <;> omega))
    refine on_pcall (args := [AV.agg [int tn1, AV.isl 1 eb1, AV.isl 2 ep1, int tk1]]) rfl rfl rfl P10a (by simp [AV.closedL, closed_v, closed_agg, hca]) ?_
    refine go rfl hX 0 (by conv => lhs; cbv; try simp only [hnf, hor1, hor4]; cbv; try simp only [hnf, hor1, hor4]; cbv; try simp only [hnf, hor1, hor4]; cbv; try simp only [hnf, hor1, hor4]; cbv) ?_ ?_
    · first | exact trivial | (simp only [Cd.ok, ee]; and_intros <;> first | omega | rfl | (simp <;> omega))
    refine go rfl hX 60 (by conv => lhs; cbv) ?_ ?_
    · first | exact trivial | (simp only [Cd.ok, ee]; and_intros <;> first | omega | rfl | (simp <;> omega))
    refine on_gskip rfl rfl ?_
    refine go rfl hX 60 (by conv => lhs; cbv) ?_ ?_
    · first | exact trivial | (simp only [Cd.ok, ee]; and_intros <;> first | omega | rfl | (simp <;> omega))
    refine on_pcall (args := []) rfl rfl rfl P11c rfl ?_
    refine go rfl hX 60 (by conv => lhs; cbv) ?_ ?_
    · first | exact trivial | (simp only [Cd.ok, ee]; and_intros <;> first | omega | rfl | (simp <;> omega))
    refine fn_ret rfl rfl (.val ?_)
    rfl
  | true =>
    have P22d := P22c rfl
    cases fb with
    | false =>
      refine go rfl hX 60 (by conv => lhs; cbv) ?_ ?_
      · first | exact trivial | (simp only [Cd.ok, ee]; and_intros <;> first | omega | rfl | (simp <;> omega))
      refine on_pcall (args := [AV.agg [int tn1, AV.isl 1 eb1, AV.isl 2 ep1, int tk1]]) rfl rfl rfl P10a (by simp [AV.closedL, closed_v, closed_agg, hca, hcb]) ?_
      refine go rfl hX 0 (by conv => lhs; cbv; try simp only [hnt, hnf, hor3]; cbv; try simp only [hnt, hnf, hor3]; cbv; try simp only [hnt, hnf, hor3]; cbv; try simp only [hnt, hnf, hor3]; cbv) ?_ ?_
      · first | exact trivial | (simp only [Cd.ok, ee]; and_intros <;> first | omega | rfl | (simp <;> omega))
      refine go rfl hX 60 (by conv => lhs; cbv) ?_ ?_
      · first | exact trivial | (simp only [Cd.ok, ee]; and_intros <;> first | omega | rfl | (simp <;> omega))
      refine on_gpcall (args := [AV.agg [int tn2, AV.isl 1 eb2, AV.isl 2 ep2, int tk2]]) rfl rfl rfl rfl P10b (by simp [AV.closedL, closed_v, closed_agg, hca, hcb]) ?_
      refine go rfl hX 0 (by conv => lhs; cbv; try simp only [hnt, hnf, hor3]; cbv; try simp only [hnt, hnf, hor3]; cbv; try simp only [hnt, hnf, hor3]; cbv; try simp only [hnt, hnf, hor3]; cbv) ?_ ?_
      · first | exact trivial | (simp only [Cd.ok, ee]; and_intros <;> first | omega | rfl | (simp <;> omega))
      refine go rfl hX 60 (by conv => lhs; cbv) ?_ ?_
      · first | exact trivial | (simp only [Cd.ok, ee]; and_intros <;> first | omega | rfl | (simp <;> omega))
      refine on_pcall (args := []) rfl rfl rfl P11c rfl ?_
      refine go rfl hX 60 (by conv => lhs; cbv) ?_ ?_
      · first | exact trivial | (simp only [Cd.ok, ee]; and_intros <;> first | omega | rfl | (simp <;> omega))
      refine fn_ret rfl rfl (.val ?_)
      rfl
    | true =>
      refine go rfl hX 60 (by conv => lhs; cbv) ?_ ?_
      · first | exact trivial | (simp only [Cd.ok, ee]; and_intros <;> first | omega | rfl | (simp <;> omega))
      refine on_pcall (args := [AV.agg [int tn1, AV.isl 1 eb1, AV.isl 2 ep1, int tk1]]) rfl rfl rfl P10a (by simp [AV.closedL, closed_v, closed_agg, hca, hcb, hcm]) ?_
      refine go rfl hX 0 (by conv => lhs; cbv; try simp only [hnt, hor2, heq, hand]; cbv; try simp only [hnt, hor2, heq, hand]; cbv; try simp only [hnt, hor2, heq, hand]; cbv; try simp only [hnt, hor2, heq, hand]; cbv) ?_ ?_
      · first | exact trivial | (simp only [Cd.ok, ee]; and_intros <;> first | omega | rfl | (simp <;> omega))
      refine go rfl hX 60 (by conv => lhs; cbv) ?_ ?_
      · first | exact trivial | (simp only [Cd.ok, ee]; and_intros <;> first | omega | rfl | (simp <;> omega))
      refine on_gpcall (args := [AV.agg [int tn2, AV.isl 1 eb2, AV.isl 2 ep2, int tk2]]) rfl rfl rfl rfl P10b (by simp [AV.closedL, closed_v, closed_agg, hca, hcb, hcm]) ?_
      refine go rfl hX 0 (by conv => lhs; cbv; try simp only [hnt, hor2, heq, hand]; cbv; try simp only [hnt, hor2, heq, hand]; cbv; try simp only [hnt, hor2, heq, hand]; cbv; try simp only [hnt, hor2, heq, hand]; cbv) ?_ ?_
      · first | exact trivial | (simp only [Cd.ok, ee]; and_intros <;> first | omega | rfl | (simp <;> omega))
      refine go rfl hX 60 (by conv => lhs; cbv) ?_ ?_
      · first | exact trivial | (simp only [Cd.ok, ee]; and_intros <;> first | omega | rfl | (simp <;> omega))
      refine on_pcall (args := [AV.agg [int tn1, AV.isl 1 eb1, AV.isl 2 ep1, int tk1], AV.agg [int tn2, AV.isl 1 eb2, AV.isl 2 ep2, int tk2]]) rfl rfl rfl P22d (by simp [AV.closedL, closed_v, closed_agg, hca, hcb, hcm]) ?_
      refine go rfl hX 60 (by conv => lhs; cbv) ?_ ?_
      · first | exact trivial | (simp only [Cd.ok, ee]; and_intros <;> first | omega | rfl | (simp <;> omega))
      refine on_pcall (args := [AV.agg [int tn1, AV.isl 1 eb1, AV.isl 2 ep1, int tk1], AV.agg [int tn2, AV.isl 1 eb2, AV.isl 2 ep2, int tk2]]) rfl rfl rfl P23c (by simp [AV.closedL, closed_v, closed_agg, hca, hcb, hcm]) ?_
      refine go rfl hX 60 (by conv => lhs; cbv) ?_ ?_
      · first | exact trivial | (simp only [Cd.ok, ee]; and_intros <;> first | omega | rfl | (simp <;> omega))
      refine on_pcall (args := []) rfl rfl rfl P11c rfl ?_
      refine go rfl hX 60 (by conv => lhs; cbv) ?_ ?_
      · first | exact trivial | (simp only [Cd.ok, ee]; and_intros <;> first | omega | rfl | (simp <;> omega))
      refine on_gpcall (args := [AV.agg [int tn3, AV.isl 1 eb3, AV.isl 2 ep3, int tk3], AV.agg [int tn3, AV.isl 1 eb3, AV.isl 2 ep3, int tk3]]) rfl rfl rfl rfl P14c (by simp [AV.closedL, closed_v, closed_agg, hca, hcb, hcm]) ?_
      refine go rfl hX 60 (by conv => lhs; cbv) ?_ ?_
      · first | exact trivial | (simp only [Cd.ok, ee]; and_intros <;> first | omega | rfl | (simp <;> omega))
      refine fn_ret rfl rfl (.val ?_)
      (rw [hand2])

set_option maxHeartbeats 2000000 in
theorem P7 (t : Trk) (n : Int) (hf : t.Fine) : PCall EE 7 [t.enc, int n] (.val (.bool true)) := by
  have P10c := P10 t
  have P11c := P11
  have P26c := P26 t n hf
  have P27c := P27 t n hf
  have P28c := P28 t n hf
  have P29c := P29 t n hf
  have hcl := Trk.closed t
  have he : t.enc = .agg [int t.next, .isl 1 (mapE int t.bey), .isl 2 (mapE Pt.enc t.pts), int t.mark] := rfl
  rw [he] at P10c P26c P27c P28c P29c hcl ⊢
  clear he
  generalize hasT t n = hs at *
  generalize missT t n = ms at *
  obtain ⟨h1, h2⟩ := hs
  obtain ⟨m1, m2⟩ := ms
  dsimp only at *
  generalize fewT t = fw at *
  generalize mapE int t.bey = eb at *
  generalize mapE Pt.enc t.pts = ep at *
  generalize t.next = tn at *
  generalize t.mark = tk at *
  refine words fun iLt iLe iEq iNe iAdd iSub iMul iQuo iRem iShr iNeg iCvt iMax iMin bNot bEq bNe bAnd bOr sEq sNe sLen sCat sCut sAt lenA lenN iOf natOf atA atN cutA partA dropA catA setA repA putA idxN addN subN minN lenCut hX e_iLt e_iLe e_iEq e_iNe e_iAdd e_iSub e_iMul e_iQuo e_iRem e_iShr e_iNeg e_iCvt e_iMax e_iMin e_bNot e_bEq e_bNe e_bAnd e_bOr e_sEq e_sNe e_sLen e_sCat e_sCut e_sAt e_lenA e_lenN e_iOf e_natOf e_atA e_atN e_cutA e_partA e_dropA e_catA e_setA e_repA e_putA e_idxN e_addN e_subN e_minN e_lenCut ee => ?_
  have hnt : bNot true = false := by simp [ee]
  have hnf : bNot false = true := by simp [ee]
  have heq1 : iEq h2 h2 = true := by simp [ee]
  have heq2 : iEq m1 m1 = true := by simp [ee]
  have heq3 : iEq m2 m2 = true := by simp [ee]
  have hbe : bEq h1 h1 = true := by simp [ee]
  have hand : bAnd true true = true := by simp [ee]
  refine fn_body (fn := Try.f7) (n := 62) (ac := Tryc7) (rvs := [.t 4]) rfl (by decide) Tryp7 rfl rfl rfl ?_
  cases fw with
  | false =>
    refine go rfl hX 60 (by conv => lhs; cbv) ?_ ?_
    · first | exact trivial | (simp only [Cd.ok, ee]; and_intros <;> first | omega | rfl | (simp <;> omega))
    refine on_pcall (args := [AV.agg [int tn, AV.isl 1 eb, AV.isl 2 ep, int tk]]) rfl rfl rfl P10c (by simp [AV.closedL, closed_v, closed_agg, hcl]) ?_
    refine go rfl hX 0 (by conv => lhs; cbv; try simp only [hnf]; cbv; try simp only [hnf]; cbv; try simp only [hnf]; cbv; try simp only [hnf]; cbv) ?_ ?_
    · first | exact trivial | (simp only [Cd.ok, ee]; and_intros <;> first | omega | rfl | (simp <;> omega))
    refine go rfl hX 60 (by conv => lhs; cbv) ?_ ?_
    · first | exact trivial | (simp only [Cd.ok, ee]; and_intros <;> first | omega | rfl | (simp <;> omega))
    refine on_pcall (args := []) rfl rfl rfl P11c rfl ?_
    refine go rfl hX 60 (by conv => lhs; cbv) ?_ ?_
    · first | exact trivial | (simp only [Cd.ok, ee]; and_intros <;> first | omega | rfl | (simp <;> omega))
    refine fn_ret rfl rfl (.val ?_)
    rfl
  | true =>
    refine go rfl hX 60 (by conv => lhs; cbv) ?_ ?_
    · first | exact trivial | (simp only [Cd.ok, ee]; and_intros <;> first | omega | rfl | (simp <;> omega))
    refine on_pcall (args := [AV.agg [int tn, AV.isl 1 eb, AV.isl 2 ep, int tk]]) rfl rfl rfl P10c (by simp [AV.closedL, closed_v, closed_agg, hcl]) ?_
    refine go rfl hX 0 (by conv => lhs; cbv; try simp only [hnt, heq1, heq2, heq3, hbe, hand]; cbv; try simp only [hnt, heq1, heq2, heq3, hbe, hand]; cbv; try simp only [hnt, heq1, heq2, heq3, hbe, hand]; cbv; try simp only [hnt, heq1, heq2, heq3, hbe, hand]; cbv) ?_ ?_
    · first | exact trivial | (simp only [Cd.ok, ee]; and_intros <;> first | omega | rfl | (simp <;> omega))
    refine go rfl hX 60 (by conv => lhs; cbv) ?_ ?_
    · first | exact trivial | (simp only [Cd.ok, ee]; and_intros <;> first | omega | rfl | (simp <;> omega))
    refine on_pcall (args := [AV.agg [int tn, AV.isl 1 eb, AV.isl 2 ep, int tk], int n]) rfl rfl rfl P26c (by simp [AV.closedL, closed_v, closed_agg, hcl]) ?_
    refine go rfl hX 60 (by conv => lhs; cbv) ?_ ?_
    · first | exact trivial | (simp only [Cd.ok, ee]; and_intros <;> first | omega | rfl | (simp <;> omega))
    refine on_pcall (args := [AV.agg [int tn, AV.isl 1 eb, AV.isl 2 ep, int tk], int n]) rfl rfl rfl P27c (by simp [AV.closedL, closed_v, closed_agg, hcl]) ?_
    refine go rfl hX 60 (by conv => lhs; cbv) ?_ ?_
    · first | exact trivial | (simp only [Cd.ok, ee]; and_intros <;> first | omega | rfl | (simp <;> omega))
    refine on_pcall (args := [AV.agg [int tn, AV.isl 1 eb, AV.isl 2 ep, int tk], int n]) rfl rfl rfl P28c (by simp [AV.closedL, closed_v, closed_agg, hcl]) ?_
    refine go rfl hX 60 (by conv => lhs; cbv) ?_ ?_
    · first | exact trivial | (simp only [Cd.ok, ee]; and_intros <;> first | omega | rfl | (simp <;> omega))
    refine on_pcall (args := [AV.agg [int tn, AV.isl 1 eb, AV.isl 2 ep, int tk], int n]) rfl rfl rfl P29c (by simp [AV.closedL, closed_v, closed_agg, hcl]) ?_
    refine go rfl hX 60 (by conv => lhs; cbv) ?_ ?_
    · first | exact trivial | (simp only [Cd.ok, ee]; and_intros <;> first | omega | rfl | (simp <;> omega))
    refine on_pcall (args := []) rfl rfl rfl P11c rfl ?_
    refine go rfl hX 60 (by conv => lhs; cbv) ?_ ?_
    · first | exact trivial | (simp only [Cd.ok, ee]; and_intros <;> first | omega | rfl | (simp <;> omega))
    refine fn_ret rfl rfl (.val ?_)
    (simp only [heq1, heq2, heq3, hbe, hand])
end Go.Am
end
section
set_option linter.unusedVariables false
set_option linter.unusedSimpArgs false
set_option maxRecDepth 20000
namespace Go.Am
open Go.Proofs

set_option maxHeartbeats 4000000 in
theorem P3 (t : Trk) (n : Int) (hf : t.Fine) : PCall EE 3 [t.enc, int n] (.val (.bool true)) := by
  have P10c := P10 t
  have P11c := P11
  have P12c := fun h : fewT t = true => P12 t n hf (few_pts h)
  have P13c := P13 t n hf
  have P14c := P14 (recvT t n).1 (recvT t n).1 (fine_recv hf)
  have P14b := P14 TrkB TrkB sml_begin.fine
  have P15c := P15 t hf
  have P16c := P16 t hf
  have P17c := P17
  have P18c := P18
  rw [decide_eq_true rfl] at P14c P14b
  have hcl := Trk.closed t
  have hcm := Trk.closed (recvT t n).1
  have hcB := Trk.closed TrkB
  have he : t.enc = .agg [int t.next, .isl 1 (mapE int t.bey), .isl 2 (mapE Pt.enc t.pts), int t.mark] := rfl
  generalize recvT t n = rv at *
  obtain ⟨m, fr, er⟩ := rv
  dsimp only at *
  have hem : m.enc = .agg [int m.next, .isl 1 (mapE int m.bey), .isl 2 (mapE Pt.enc m.pts), int m.mark] := rfl
  rw [hem] at P12c P13c P14c hcm
  rw [he] at P10c P12c P13c P15c P16c hcl ⊢
  clear he hem
  generalize TrkB.enc = bb at *
  generalize checkT t = ck at *
  generalize fewT t = fw at *
  generalize mapE int t.bey = eb at *
  generalize mapE Pt.enc t.pts = ep at *
  generalize t.next = tn at *
  generalize t.mark = tk at *
  generalize mapE int m.bey = eb3 at *
  generalize mapE Pt.enc m.pts = ep3 at *
  generalize m.next = tn3 at *
  generalize m.mark = tk3 at *
  refine words fun iLt iLe iEq iNe iAdd iSub iMul iQuo iRem iShr iNeg iCvt iMax iMin bNot bEq bNe bAnd bOr sEq sNe sLen sCat sCut sAt lenA lenN iOf natOf atA atN cutA partA dropA catA setA repA putA idxN addN subN minN lenCut hX e_iLt e_iLe e_iEq e_iNe e_iAdd e_iSub e_iMul e_iQuo e_iRem e_iShr e_iNeg e_iCvt e_iMax e_iMin e_bNot e_bEq e_bNe e_bAnd e_bOr e_sEq e_sNe e_sLen e_sCat e_sCut e_sAt e_lenA e_lenN e_iOf e_natOf e_atA e_atN e_cutA e_partA e_dropA e_catA e_setA e_repA e_putA e_idxN e_addN e_subN e_minN e_lenCut ee => ?_
  have hnt : bNot true = false := by simp [ee]
  have hnf : bNot false = true := by simp [ee]
  have heq1 : iEq er er = true := by simp [ee]
  have heq2 : iEq ck ck = true := by simp [ee]
  have hbe : bEq fr fr = true := by simp [ee]
  have hand : bAnd true true = true := by simp [ee]
  refine fn_body (fn := Try.f3) (n := 57) (ac := Tryc3) (rvs := [.t 4]) rfl (by decide) Tryp3 rfl rfl rfl ?_
  cases fw with
  | false =>
    refine go rfl hX 60 (by conv => lhs; cbv) ?_ ?_
    · first | exact trivial | (simp only [Cd.ok, ee]; and_intros <;> first | omega | rfl | (simp <;> omega))
    refine on_pcall (args := [AV.agg [int tn, AV.isl 1 eb, AV.isl 2 ep, int tk]]) rfl rfl rfl P10c (by simp [AV.closedL, closed_v, closed_agg, hcl]) ?_
    refine go rfl hX 0 (by conv => lhs; cbv; try simp only [hnf]; cbv; try simp only [hnf]; cbv; try simp only [hnf]; cbv; try simp only [hnf]; cbv) ?_ ?_
    · first | exact trivial | (simp only [Cd.ok, ee]; and_intros <;> first | omega | rfl | (simp <;> omega))
    refine go rfl hX 60 (by conv => lhs; cbv) ?_ ?_
    · first | exact trivial | (simp only [Cd.ok, ee]; and_intros <;> first | omega | rfl | (simp <;> omega))
    refine on_pcall (args := []) rfl rfl rfl P11c rfl ?_
    refine go rfl hX 60 (by conv => lhs; cbv) ?_ ?_
    · first | exact trivial | (simp only [Cd.ok, ee]; and_intros <;> first | omega | rfl | (simp <;> omega))
    refine fn_ret rfl rfl (.val ?_)
    rfl
  | true =>
    have P12d := P12c rfl
    refine go rfl hX 60 (by conv => lhs; cbv) ?_ ?_
    · first | exact trivial | (simp only [Cd.ok, ee]; and_intros <;> first | omega | rfl | (simp <;> omega))
    refine on_pcall (args := [AV.agg [int tn, AV.isl 1 eb, AV.isl 2 ep, int tk]]) rfl rfl rfl P10c (by simp [AV.closedL, closed_v, closed_agg, hcl]) ?_
    refine go rfl hX 0 (by conv => lhs; cbv; try simp only [hnt]; cbv; try simp only [hnt]; cbv; try simp only [hnt]; cbv; try simp only [hnt]; cbv) ?_ ?_
    · first | exact trivial | (simp only [Cd.ok, ee]; and_intros <;> first | omega | rfl | (simp <;> omega))
    refine go rfl hX 60 (by conv => lhs; cbv) ?_ ?_
    · first | exact trivial | (simp only [Cd.ok, ee]; and_intros <;> first | omega | rfl | (simp <;> omega))
    refine on_pcall (args := [AV.agg [int tn, AV.isl 1 eb, AV.isl 2 ep, int tk], int n]) rfl rfl rfl P12d (by simp [AV.closedL, closed_v, closed_agg, hcl]) ?_
    refine go rfl hX 60 (by conv => lhs; cbv) ?_ ?_
    · first | exact trivial | (simp only [Cd.ok, ee]; and_intros <;> first | omega | rfl | (simp <;> omega))
    refine on_pcall (args := [AV.agg [int tn, AV.isl 1 eb, AV.isl 2 ep, int tk], int n]) rfl rfl rfl P13c (by simp [AV.closedL, closed_v, closed_agg, hcl]) ?_
    refine go rfl hX 60 (by conv => lhs; cbv) ?_ ?_
    · first | exact trivial | (simp only [Cd.ok, ee]; and_intros <;> first | omega | rfl | (simp <;> omega))
    refine tr_drawB rfl (by conv => lhs; cbv) rfl ?_
    refine tr_pcall (args := []) rfl rfl rfl P11c rfl ?_
    refine tr_go hX (by conv => lhs; cbv) ?_ ?_
    · first | exact trivial | (simp only [Cd.ok, ee]; and_intros <;> first | omega | rfl | (simp <;> omega))
    refine tr_ung rfl ?_
    refine tr_go hX (by conv => lhs; cbv) ?_ ?_
    · first | exact trivial | (simp only [Cd.ok, ee]; and_intros <;> first | omega | rfl | (simp <;> omega))
    refine tr_ung rfl ?_
    refine tr_go hX (by conv => lhs; cbv) ?_ ?_
    · first | exact trivial | (simp only [Cd.ok, ee]; and_intros <;> first | omega | rfl | (simp <;> omega))
    refine tr_pcall (args := [AV.agg [int tn3, AV.isl 1 eb3, AV.isl 2 ep3, int tk3], AV.agg [int tn3, AV.isl 1 eb3, AV.isl 2 ep3, int tk3]]) rfl rfl rfl P14c (by simp [AV.closedL, closed_v, closed_agg, hcm]) ?_
    refine tr_go hX (by conv => lhs; cbv; simp only [hand,hand]; cbv; simp only [hand,hand]; cbv) ?_ ?_
    · first | exact trivial | (simp only [Cd.ok, ee]; and_intros <;> first | omega | rfl | (simp <;> omega))
    refine tr_ung rfl ?_
    refine tr_go hX (by conv => lhs; cbv) ?_ ?_
    · first | exact trivial | (simp only [Cd.ok, ee]; and_intros <;> first | omega | rfl | (simp <;> omega))
    refine tr_ung rfl ?_
    refine tr_go hX (by conv => lhs; cbv) ?_ ?_
    · first | exact trivial | (simp only [Cd.ok, ee]; and_intros <;> first | omega | rfl | (simp <;> omega))
    refine tr_ung rfl ?_
    refine tr_go hX (by conv => lhs; cbv; simp only [hbe, hand,hbe, hand]; cbv; simp only [hbe, hand,hbe, hand]; cbv) ?_ ?_
    · first | exact trivial | (simp only [Cd.ok, ee]; and_intros <;> first | omega | rfl | (simp <;> omega))
    refine tr_ung rfl ?_
    refine tr_go hX (by conv => lhs; cbv) ?_ ?_
    · first | exact trivial | (simp only [Cd.ok, ee]; and_intros <;> first | omega | rfl | (simp <;> omega))
    refine tr_ung rfl ?_
    refine tr_go hX (by conv => lhs; cbv) ?_ ?_
    · first | exact trivial | (simp only [Cd.ok, ee]; and_intros <;> first | omega | rfl | (simp <;> omega))
    refine tr_ung rfl ?_
    refine tr_go hX (by conv => lhs; cbv; simp only [heq1, hand,heq1, hand]; cbv; simp only [heq1, hand,heq1, hand]; cbv) ?_ ?_
    · first | exact trivial | (simp only [Cd.ok, ee]; and_intros <;> first | omega | rfl | (simp <;> omega))
    refine tr_ung rfl ?_
    refine tr_go hX (by conv => lhs; cbv) ?_ ?_
    · first | exact trivial | (simp only [Cd.ok, ee]; and_intros <;> first | omega | rfl | (simp <;> omega))
    refine tr_pcall (args := [AV.agg [int tn, AV.isl 1 eb, AV.isl 2 ep, int tk]]) rfl rfl rfl P15c (by simp [AV.closedL, closed_v, closed_agg, hcl]) ?_
    refine tr_ung rfl ?_
    refine tr_go hX (by conv => lhs; cbv) ?_ ?_
    · first | exact trivial | (simp only [Cd.ok, ee]; and_intros <;> first | omega | rfl | (simp <;> omega))
    refine tr_pcall (args := [AV.agg [int tn, AV.isl 1 eb, AV.isl 2 ep, int tk]]) rfl rfl rfl P16c (by simp [AV.closedL, closed_v, closed_agg, hcl]) ?_
    refine tr_ung rfl ?_
    refine tr_go hX (by conv => lhs; cbv; simp only [heq2, hand,heq2, hand]; cbv; simp only [heq2, hand,heq2, hand]; cbv) ?_ ?_
    · first | exact trivial | (simp only [Cd.ok, ee]; and_intros <;> first | omega | rfl | (simp <;> omega))
    refine tr_pcall (args := []) rfl rfl rfl P17c rfl ?_
    refine tr_pcall (args := []) rfl rfl rfl P18c rfl ?_
    refine tr_pcall (args := [bb, bb]) rfl rfl rfl P14b (by simp [AV.closedL, hcB]) ?_
    refine tr_go hX (by conv => lhs; cbv; simp only [hand,hand]; cbv; simp only [hand,hand]; cbv) ?_ ?_
    · first | exact trivial | (simp only [Cd.ok, ee]; and_intros <;> first | omega | rfl | (simp <;> omega))
    refine tr_nil ⟨rfl, ?_, ?_⟩
    · simp [LooksL, lookAll]
    refine go rfl hX 60 (by conv => lhs; cbv) ?_ ?_
    · first | exact trivial | (simp only [Cd.ok, ee]; and_intros <;> first | omega | rfl | (simp <;> omega))
    refine fn_ret rfl rfl (.val ?_)
    first | rfl | simp only [hand]
end Go.Am
end
section
set_option linter.unusedVariables false
set_option linter.unusedSimpArgs false
set_option maxRecDepth 20000
namespace Go.Am
open Go.Proofs Go.ChangeShapes Go.WideShapes Go.ChangeAt Go.RowKit

theorem cells70 : Try.prog.cellsOf 70 = 2 := by kernel_rfl
theorem cells3 : Try.prog.cellsOf 3 = 1 := by kernel_rfl
theorem cells5 : Try.prog.cellsOf 5 = 1 := by kernel_rfl
theorem bytes70 : Try.prog.bytesOf 70 = 16 := by kernel_rfl
theorem bytes3 : Try.prog.bytesOf 3 = 8 := by kernel_rfl
theorem agg70 : aggT EE.P 70 = true := by kernel_rfl
theorem agg25 : aggT EE.P 25 = true := by kernel_rfl
theorem agg49 : aggT EE.P 49 = true := by kernel_rfl

theorem short_of {α : Type} {e : α → AV} {l : List α} {k : Nat} (h : (mapE e l).length * (k + 1) ≤ reachBytes) : Short l := by
  rw [mapE_len] at h
  exact Nat.lt_of_le_of_lt (Nat.le_trans (Nat.le_mul_of_pos_right _ (Nat.succ_pos k)) h) (by decide)
theorem rdInt {n : Nat} {x : AV} (h : El EE.P (Cl EE.P n) 3 x) : ∃ i, x = int i ∧ True := by
  obtain ⟨i, h, _⟩ := (h.one (by kernel_rfl)).int Try.underlying3
  exact ⟨i, by simpa using h, trivial⟩
theorem rdPt {n : Nat} {x : AV} (h : El EE.P (Cl EE.P n) 70 x) : ∃ b : Pt, x = b.enc ∧ True := by
  obtain ⟨cs, rfl, g⟩ := h.agg agg70
  obtain ⟨m, a, r, rfl, ha, b, r, rfl, hb, rfl⟩ := g.struct Try.underlying70
  obtain ⟨i, rfl, _⟩ := ha.int Try.underlying3
  obtain ⟨j, rfl, _⟩ := hb.int Try.underlying3
  exact ⟨⟨i, j⟩, rfl, trivial⟩
theorem rdTrk {n : Nat} {x : AV} (h : El EE.P (Cl EE.P n) 25 x) : ∃ t : Trk, x = t.enc ∧ t.Fine := by
  obtain ⟨cs, rfl, g⟩ := h.agg agg25
  obtain ⟨m, a, r, rfl, ha, b, r, rfl, hb, c, r, rfl, hc, d, r, rfl, hd, rfl⟩ := g.struct Try.underlying25
  obtain ⟨i, rfl, _⟩ := ha.int Try.underlying3
  obtain ⟨j, rfl, _⟩ := hd.int Try.underlying3
  obtain ⟨m, es, rfl, hl, he⟩ := hb.slice Try.underlying22
  obtain ⟨l, rfl, _⟩ := list_enc fun x hx => rdInt (he x hx)
  obtain ⟨m, es, rfl, hl2, he2⟩ := hc.slice Try.underlying23
  obtain ⟨p, rfl, _⟩ := list_enc fun x hx => rdPt (he2 x hx)
  refine ⟨⟨i, l, p, j⟩, ?_, short_of (k := 7) (bytes3 ▸ hl), short_of (k := 15) (bytes70 ▸ hl2)⟩
  rw [cells70, cells3]; rfl
theorem rdIntA {n : Nat} {x : AV} (h : El EE.P (Cl EE.P n) 3 x) : ∃ i, x = int i := by
  obtain ⟨i, h, _⟩ := rdInt h
  exact ⟨i, h⟩

theorem Try.own : ownKnob Try.prog.godebug = none := by kernel_rfl
theorem Try.kids : Kids EE.P (· < EE.P.types.size) := kids_rows (by kernel_rfl) (by kernel_rfl)
theorem Try.full : ∀ t e, t < EE.P.types.size → EE.P.underlying t = some (.slice e) → 0 < EE.P.cellsOf e := slices_full_of EE.P (by kernel_rfl)
end Go.Am
end
