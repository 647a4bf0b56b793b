/- Contracts of the program's functions, for every argument that meets the conditions that each theorem names. -/
import Derived.Test.YthhgndcnfdaekaaCt3
import Derived.Test.YthhgndcnfdaekaaAm5
section
set_option linter.unusedVariables false
set_option linter.unusedSimpArgs false
set_option maxRecDepth 20000
namespace Go.Am
open Go.Proofs

set_option maxHeartbeats 2000000 in
theorem P24 (s : Snk) (e : Int) (hf : s.Fine) (hc : countF s < 500000000000) : PCall EE 24 [s.enc, int e] (.tup [(commitF s e).1.enc, int (commitF s e).2]) := by
  have P12c := P12 s hf (by omega)
  have hok := fun h : checkF s = 0 => check_ok h
  have hsum : s.com.length ≤ countF s ∧ ∀ b ∈ s.pend, b.cs.length ≤ countF s := by
    unfold countF
    refine ⟨by omega, fun b hb => ?_⟩
    obtain ⟨d, r, hd⟩ := List.append_of_mem hb
    rw [hd, sumL_append]; simp [sumL]; omega
  have P42c := fun h : checkF s = 0 => P42 s (by have := (hok h).2.2.1; omega) (by omega) (fun b hb => by have := hsum.2 b hb; omega)
  have hspl := fun h : checkF s = 0 => sorted_split s.epoch e s.pend none (hok h).2.2.2.2.1
  have P43c := fun h : checkF s = 0 => P43 s.pend (upto e s.pend) (beyond e s.pend) (e + 1) (hspl h) hf.pend (fun b hb => by have := upto_mem hb; omega) (fun b hb => by have := beyond_mem hb; omega)
  have P39c := P39 (upto e s.pend)
  have hsub : ∀ b ∈ upto e s.pend, b ∈ s.pend := fun b hb => (List.mem_filter.1 hb).1
  have hlu : Short (upto e s.pend) := by
    have := hf.pend; unfold Short at this ⊢
    have h2 : (upto e s.pend).length ≤ s.pend.length := List.length_filter_le _ _
    omega
  have P51c := P51z (.cells [int 0, .val (.slice none 0 0), .val (.slice none 0 0)]) (upto e s.pend) hlu (fun b hb => (hf.bats b (hsub b hb)).1)
  have hpfl : (pendF (upto e s.pend)).length + s.com.length ≤ countF s := by
    rw [pendF_len]; have := sumL_upto e s.pend; unfold countF; omega
  have hcl := Snk.closed s
  have hcom := closedC s.com
  have hcp := closedB s.pend
  have hcu := closedB (upto e s.pend)
  have hcb := closedB (beyond e s.pend)
  have hclc : AV.closedL (mapE Chg.enc s.com) = true := closed_mapE Chg.closed _
  have hclp : AV.closedL (mapE Bat.enc s.pend) = true := closed_mapE Bat.closed _
  have htk : ∀ (l a b : List Bat), l = a ++ b → (mapE Bat.enc l).take a.length = mapE Bat.enc a ∧ (mapE Bat.enc l).drop a.length = mapE Bat.enc b := by
    rintro l a b rfl
    rw [mapE_eq, mapE_eq, mapE_eq, List.map_append, List.take_left' (by simp), List.drop_left' (by simp)]
    exact ⟨rfl, rfl⟩
  have htake := fun h : checkF s = 0 => htk s.pend (upto e s.pend) (beyond e s.pend) (hspl h)
  have hadd : commitF s e = commitF s e := rfl
  unfold commitF at hadd ⊢
  clear hadd
  generalize hck : checkF s = ck at P12c P42c P43c hok hspl htake ⊢
  have henc : s.enc = .agg [int s.epoch, .isl 3 (mapE Chg.enc s.com), .isl 2 (mapE Bat.enc s.pend)] := rfl
  have hres : (⟨e, s.com ++ pendF (upto e s.pend), beyond e s.pend⟩ : Snk).enc = .agg [int e, .isl 3 (mapE Chg.enc (s.com ++ pendF (upto e s.pend))), .isl 2 (mapE Bat.enc (beyond e s.pend))] := rfl
  refine words fun iLt iLe iEq iNe iAdd iSub iMul iQuo iRem iShr iNeg iCvt iMax iMin bNot bEq bNe bAnd bOr sEq sNe sLen sCat sCut sAt lenA lenN iOf natOf atA atN cutA partA dropA catA setA repA putA idxN addN subN minN lenCut hX e_iLt e_iLe e_iEq e_iNe e_iAdd e_iSub e_iMul e_iQuo e_iRem e_iShr e_iNeg e_iCvt e_iMax e_iMin e_bNot e_bEq e_bNe e_bAnd e_bOr e_sEq e_sNe e_sLen e_sCat e_sCut e_sAt e_lenA e_lenN e_iOf e_natOf e_atA e_atN e_cutA e_partA e_dropA e_catA e_setA e_repA e_putA e_idxN e_addN e_subN e_minN e_lenCut ee => ?_
  rw [henc] at P12c P42c hcl ⊢
  generalize hec : mapE Chg.enc s.com = ec at P12c P42c hcl henc hcom hclc
  generalize hep : mapE Bat.enc s.pend = ep at P12c P42c P43c hcl henc hcp hclp htake
  generalize heu : mapE Bat.enc (upto e s.pend) = eu at P39c P51c hcu htake
  generalize hebb : mapE Bat.enc (beyond e s.pend) = eb at htake hcb hres
  have hpl : ep.length = s.pend.length := by rw [← hep, mapE_len]
  have hcl2 : ec.length = s.com.length := by rw [← hec, mapE_len]
  generalize hsp : s.epoch = se at *
  refine fn_body (fn := Try.f24) (n := 59) (ac := Tryc24) (rvs := [.cell 4 3 true, .t 5]) rfl (by decide) Tryp24 rfl rfl rfl ?_
  refine go rfl hX 0 (by conv => lhs; cbv) ?_ ?_
  · first | exact trivial | (simp only [Cd.ok, ee]; and_intros <;> first | omega | rfl | (simp <;> omega))
  refine on_pcall rfl rfl rfl P12c (closed1 hcl) ?_
  refine go rfl hX 0 (by conv => lhs; cbv) ?_ ?_
  · first | exact trivial | (simp only [Cd.ok, ee]; and_intros <;> first | omega | rfl | (simp <;> omega))
  refine on_cond rfl (fun h1 => ?_) (fun h1 => ?_)
  · simp [ee, decide_eq_true_eq, decide_eq_false_iff_not, Bool.and_eq_true, Bool.or_eq_true, Bool.not_eq_true', Bool.not_eq_false', Bool.and_eq_false_iff, Bool.or_eq_false_iff, bne_iff_ne, beq_iff_eq, beq_eq_false_iff_ne, bne_eq_false_iff_eq, ne_eq, Int.not_lt, Int.not_le, Decidable.not_not] at h1
    rw [if_pos h1]
    refine go rfl hX 0 (by conv => lhs; cbv) ?_ ?_
    · first | exact trivial | (simp only [Cd.ok, ee]; and_intros <;> first | omega | rfl | (simp <;> omega))
    exact fn_ret rfl rfl fz0
  simp [ee, decide_eq_true_eq, decide_eq_false_iff_not, Bool.and_eq_true, Bool.or_eq_true, Bool.not_eq_true', Bool.not_eq_false', Bool.and_eq_false_iff, Bool.or_eq_false_iff, bne_iff_ne, beq_iff_eq, beq_eq_false_iff_ne, bne_eq_false_iff_eq, ne_eq, Int.not_lt, Int.not_le, Decidable.not_not] at h1
  subst h1
  rw [if_neg (by simp)]
  have P42c := P42c rfl
  have P43c := P43c rfl
  have hspl := hspl rfl
  have htake := htake rfl
  have hok := hok rfl
  have hul : (upto e s.pend).length ≤ s.pend.length := List.length_filter_le _ _
  generalize hfd : foundF (e + 1) (beyond e s.pend) = fd at P43c
  generalize hdn : (upto e s.pend).length = dn at P43c htake hul
  generalize hcn : s.com.length = cn at P42c hcl2 hpfl hsum
  generalize hpn : s.pend.length = pn at P42c hpl hul hok
  refine go rfl hX 0 (by conv => lhs; cbv) ?_ ?_
  · first | exact trivial | (simp only [Cd.ok, ee]; and_intros <;> first | omega | rfl | (simp <;> omega))
  refine on_cond rfl (fun h2 => ?_) (fun h2 => ?_)
  · simp [ee, decide_eq_true_eq, decide_eq_false_iff_not, Bool.and_eq_true, Bool.or_eq_true, Bool.not_eq_true', Bool.not_eq_false', Bool.and_eq_false_iff, Bool.or_eq_false_iff, bne_iff_ne, beq_iff_eq, beq_eq_false_iff_ne, bne_eq_false_iff_eq, ne_eq, Int.not_lt, Int.not_le, Decidable.not_not] at h2
    rw [if_pos (by omega)]
    refine go rfl hX 0 (by conv => lhs; cbv) ?_ ?_
    · first | exact trivial | (simp only [Cd.ok, ee]; and_intros <;> first | omega | rfl | (simp <;> omega))
    exact fn_ret rfl rfl fz0
  simp [ee, decide_eq_true_eq, decide_eq_false_iff_not, Bool.and_eq_true, Bool.or_eq_true, Bool.not_eq_true', Bool.not_eq_false', Bool.and_eq_false_iff, Bool.or_eq_false_iff, bne_iff_ne, beq_iff_eq, beq_eq_false_iff_ne, bne_eq_false_iff_eq, ne_eq, Int.not_lt, Int.not_le, Decidable.not_not] at h2
  rw [if_neg (by omega)]
  have hadd1 : iAdd .i64 e 1 = e + 1 := add_w e_iAdd (by omega) (by omega)
  generalize he1 : e + 1 = e' at hadd1 P43c
  refine go rfl hX 0 (by conv => lhs; cbv) ?_ ?_
  · first | exact trivial | (simp only [Cd.ok, ee]; and_intros <;> first | omega | rfl | (simp <;> omega))
  refine on_ocall (v' := .agg [int se, .sl 2 3 0 cn, .sl 3 2 0 pn]) (H' := [.arr 3 ec, .arr 2 ep]) rfl rfl rfl P42c (closed1 hcl) rfl (by simp [AObj.sub, subL_closed _ hclc, subL_closed _ hclp]) ?_
  refine go rfl hX 0 (by conv => lhs; cbv) ?_ ?_
  · first | exact trivial | (simp only [Cd.ok, ee]; and_intros <;> first | omega | rfl | (simp <;> omega))
  refine on_cond rfl (fun h3 => ?_) (fun h3 => ?_)
  · simp [ee, decide_eq_true_eq, decide_eq_false_iff_not, Bool.and_eq_true, Bool.or_eq_true, Bool.not_eq_true', Bool.not_eq_false', Bool.and_eq_false_iff, Bool.or_eq_false_iff, bne_iff_ne, beq_iff_eq, beq_eq_false_iff_ne, bne_eq_false_iff_eq, ne_eq, Int.not_lt, Int.not_le, Decidable.not_not] at h3
    rw [if_pos h3]
    refine go rfl hX 0 (by conv => lhs; cbv) ?_ ?_
    · first | exact trivial | (simp only [Cd.ok, ee]; and_intros <;> first | omega | rfl | (simp <;> omega))
    refine fn_ret rfl rfl ⟨[.gone, .gone, .isl 3 ec, .isl 2 ep, .gone], ⟨trivial, trivial, ⟨ec, rfl, (subL_closed _ hclc).symm⟩, ⟨ep, rfl, (subL_closed _ hclp).symm⟩, trivial, trivial⟩, ?_⟩
    dsimp only
    rw [henc]
    exact .tup' ⟨.agg' ⟨.refl _, .of (sub_whole rfl hcl2.symm), .of (sub_whole rfl hpl.symm), trivial⟩, .refl _, trivial⟩
  simp [ee, decide_eq_true_eq, decide_eq_false_iff_not, Bool.and_eq_true, Bool.or_eq_true, Bool.not_eq_true', Bool.not_eq_false', Bool.and_eq_false_iff, Bool.or_eq_false_iff, bne_iff_ne, beq_iff_eq, beq_eq_false_iff_ne, bne_eq_false_iff_eq, ne_eq, Int.not_lt, Int.not_le, Decidable.not_not] at h3
  rw [if_neg (by omega)]
  refine go rfl hX 0 (by conv => lhs; cbv) ?_ ?_
  · first | exact trivial | (simp only [Cd.ok, ee]; and_intros <;> first | omega | rfl | (simp <;> omega))
  generalize hdI : (dn : Int) = dI at P43c
  refine on_lcall (args := [.sl 3 2 0 pn, int (iAdd .i64 e 1)]) (args' := [.isl 2 ep, int e']) [.gone, .gone, .isl 3 ec, .isl 2 ep, .gone] rfl rfl rfl ⟨trivial, trivial, ⟨ec, rfl, (subL_closed _ hclc).symm⟩, ⟨ep, rfl, (subL_closed _ hclp).symm⟩, trivial, trivial⟩ ?_ P43c rfl ?_
  · rw [hadd1]
    show [AV.sub _ (.sl 3 2 0 pn), _] = _
    rw [sub_whole (es := ep) rfl hpl.symm]
    rfl
  refine go rfl hX 0 (by conv => lhs; cbv) ?_ ?_
  · first | exact trivial | (simp only [Cd.ok, ee]; and_intros <;> first | omega | rfl | (simp <;> omega))
  have e1 : idxN 0 0 = 0 := by simp [ee]
  have e2 : lenCut 0 dI = dn := by simp [ee, ← hdI]
  rw [e1, e2]
  refine on_entO (F' := [(42, .isl 2 eu), (8, int dI), (7, .ptr 1 0), (4, .ptr 0 0), (1, int e)]) (H' := [.cells [int 0, .val (.slice none 0 0), .val (.slice none 0 0)], .cells [int se, .sl 2 3 0 cn, .isl 2 ep], .arr 3 ec])
    (ent_sub [.gone, .to 0, .to 2, .isl 2 ep, .to 1] [some 1, some 4, some 2] ⟨trivial, ⟨by simp, rfl⟩, ⟨by simp, rfl⟩, ⟨ep, rfl, (subL_closed _ hclp).symm⟩, ⟨by simp, rfl⟩, trivial⟩
      ⟨osrc_cells (b := 1) rfl rfl rfl ⟨.refl _, .refl _, .refl _, trivial⟩, osrc_cells (b := 4) rfl rfl rfl ⟨.refl _, .refl _, .of (sub_whole rfl hpl.symm), trivial⟩, osrc_arr (b := 2) rfl rfl rfl rfl hclc, trivial⟩
      ⟨.of (sub_part rfl (by omega) (by rw [List.drop_zero]; exact htake.1)), .refl _, .refl _, .refl _, .refl _, trivial⟩) ?_
  refine on_pcall rfl rfl rfl P39c (closed1 hcu) ?_
  refine go rfl hX 0 (by conv => lhs; cbv) ?_ ?_
  · first | exact trivial | (simp only [Cd.ok, ee]; and_intros <;> first | omega | rfl | (simp <;> omega))
  have hfn : (AV.fn 51 [.iptr [.isl 2 eu]]).closed = true := closed1 (v := .iptr [.isl 2 eu]) (closed1 hcu)
  refine on_ent (F' := [(43, .fn 51 [.iptr [.isl 2 eu]]), (8, int dI), (7, .ptr 1 0), (4, .ptr 0 0), (1, int e)]) (ent_fw ⟨.refl _, .refl _, .refl _, .refl _, .refl _, trivial⟩) ?_
  refine on_rfun (g := 51) (cs := [.iptr [.isl 2 eu]]) rfl enters51 ?_
  generalize hasg : ACode.reg [{ dst := some 10, op := AOp.box (Opd.c (AV.agg [AV.val (Value.int IntKind.i64 0), AV.val (Value.int IntKind.i64 0), AV.val (Value.slice none 0 0)])), after := [], guard := none }, { dst := none, op := AOp.st 3 (Opd.t 10) (Opd.t 44), after := [0, 0], guard := none }] = asg
  generalize hbody : ACode.block 1 (ACode.reg [{ dst := some 45, op := AOp.fa 1 (Opd.t 7), after := [], guard := none }, { dst := some 46, op := AOp.ld 1 false (Opd.t 45), after := [0], guard := none }, { dst := some 47, op := AOp.ld 3 true (Opd.t 10), after := [], guard := none }, { dst := some 48, op := AOp.bslice 3 [Opd.t 47], after := [2], guard := none }, { dst := some 49, op := AOp.app 3 40 (Opd.t 46) (Opd.t 48), after := [1, 3], guard := none }, { dst := some 50, op := AOp.fa 1 (Opd.t 7), after := [0, 1, 2, 3, 4], guard := none }, { dst := none, op := AOp.st 1 (Opd.t 50) (Opd.t 49), after := [5, 4, 4, 0, 1, 2, 3, 4], guard := none }]) = body
  generalize hFF : ([(43, .fn 51 [.iptr [.isl 2 eu]]), (8, int dI), (7, .ptr 1 0), (4, .ptr 0 0), (1, int e)] : AFr) = FF
  have hFs : ∀ σ, σ 0 = .to 0 → σ 1 = .to 1 → AFr.sub σ FF = FF := by
    intro σ h0 h1
    subst hFF
    have h2 := sub_closed σ _ _ (Nat.le_refl _) hfn
    have h3 : (AV.ptr 1 0).sub σ = .ptr 1 0 := by simp only [AV.sub, h1]
    have h4 : (AV.ptr 0 0).sub σ = .ptr 0 0 := by simp only [AV.sub, h0]
    have h5 : ∀ n, (int n).sub σ = int n := fun n => by simp only [AV.sub]
    simp only [AFr.sub, List.map, h2, h3, h4, h5]
  have hfwk : ∀ M σ, σ 0 = .to 0 → σ 1 = .to 1 → FWk M σ FF FF := by
    intro M σ h0 h1
    subst hFF
    have h3 : (AV.ptr 1 0).sub σ = .ptr 1 0 := by simp only [AV.sub, h1]
    have h4 : (AV.ptr 0 0).sub σ = .ptr 0 0 := by simp only [AV.sub, h0]
    exact ⟨.cl hfn, .refl _, .of h3, .of h4, .refl _, trivial⟩
  refine ACall.mono (P51c (fun d => .cells [int se, .sl 4 3 0 (cn + d.length), .isl 2 ep]) (fun _ => .dead) (fun d => .arr 3 (mapE Chg.enc (s.com ++ d))) (.loop FF 59 [44] asg body .ready none) _ rfl ?_ ?_ ?_) ?_
  · refine hent_sub [.to 0, .to 1, .to 4, .to 3] [some 0, some 1, some 2, some 3, some 2] rfl ⟨rfl, rfl, rfl, rfl, trivial⟩ (by simp) (by simp) ⟨⟨by simp, rfl⟩, ⟨by simp, rfl⟩, ⟨by simp, rfl⟩, ⟨by simp, rfl⟩, trivial⟩
      ⟨osrc_cells (b := 0) rfl rfl rfl ⟨.refl _, .refl _, .refl _, trivial⟩, osrc_cells (b := 1) rfl rfl rfl ⟨.refl _, .refl _, .cl hcp, trivial⟩, .dead, .some 3 _ _ rfl rfl rfl (.loop _ _ _ _ _ _ _ _ (hfwk _ _ rfl rfl)), osrc_arr (b := 2) rfl rfl rfl (by rw [← hec, List.append_nil]) (closed_mapE Chg.closed _), trivial⟩
  · intro d o ho
    simp only [List.mem_cons, List.not_mem_nil, or_false] at ho
    rcases ho with rfl | rfl | rfl | rfl | rfl
    · rfl
    · show AObj.cells [_, _, AV.sub _ (.isl 2 ep)] = _
      rw [sub_closed _ _ _ (Nat.le_refl _) hcp]; rfl
    · rfl
    · simp only [AObj.sub]; rw [hFs (keepS 5) rfl rfl]
    · simp only [AObj.sub]; rw [subL_closed _ (closed_mapE Chg.closed _)]
  · intro d c r hd
    have hl := congrArg List.length hd
    simp only [List.length_append, List.length_cons] at hl
    have hcc := Chg.closed c
    have hcenc : c.enc = .agg [int c.sign, int c.query, .isl 4 (mapE Bnd.enc c.bs)] := rfl
    have hsn : mapE Chg.enc (s.com ++ (d ++ [c])) = mapE Chg.enc (s.com ++ d) ++ [c.enc] := by rw [← List.append_assoc, mapE_snoc]
    have hln : cn + (d ++ [c]).length = cn + d.length + 1 := by simp; omega
    rw [hsn, hln]
    have hces : AV.closedL (mapE Chg.enc (s.com ++ d)) = true := closed_mapE Chg.closed _
    have hesl : (mapE Chg.enc (s.com ++ d)).length = cn + d.length := by rw [mapE_len, List.length_append, hcn]
    have hnb : cn + d.length < 4097 := by omega
    rw [hcenc] at hcc ⊢
    generalize mapE Chg.enc (s.com ++ d) = es at hces hesl ⊢
    generalize cn + d.length = n at hesl hnb ⊢
    generalize mapE Bnd.enc c.bs = ebn at hcc ⊢
    generalize c.sign = sg at hcc ⊢
    generalize c.query = qu at hcc ⊢
    subst hFF
    refine yield_round (l := 3) rfl rfl ?_
    rw [← hasg]
    refine go rfl hX 0 (by conv => lhs; cbv) ?_ ?_
    · first | exact trivial | (simp only [Cd.ok, ee]; and_intros <;> first | omega | rfl | (simp <;> omega))
    refine ⟨rfl, none, rfl, ?_⟩
    rw [← hbody]
    refine go rfl hX 0 (by conv => lhs; cbv) ?_ ?_
    · first | exact trivial | (simp only [Cd.ok, ee]; and_intros <;> first | omega | rfl | (simp <;> omega))
    refine ⟨none, rfl, rfl, ?_⟩
    refine hent_sub [.to 0, .to 1, .gone, .to 3, .gone, .gone, .gone, .to 4] [some 0, some 1, some 2, some 3, some 7] rfl ⟨rfl, rfl, rfl, rfl, trivial⟩ (by simp) (by simp) ⟨⟨by simp, rfl⟩, ⟨by simp, rfl⟩, trivial, ⟨by simp, rfl⟩, trivial, trivial, trivial, ⟨by simp, rfl⟩, trivial⟩
      ⟨osrc_cells (b := 0) rfl rfl rfl ⟨.refl _, .refl _, .refl _, trivial⟩, osrc_cells (b := 1) rfl rfl rfl ⟨.refl _, .of ?_, .cl hcp, trivial⟩, .dead, .some 3 _ _ rfl rfl rfl (.loop _ _ _ _ _ _ _ _ (hfwk _ _ rfl rfl)), osrc_arr (b := 7) rfl rfl rfl ?_ (closedL_append hces (closed1 hcc)), trivial⟩
    · simp only [ee]; rfl
    · simp only [ee]; rfl
  · rintro v H1 rfl
    refine ⟨.ready, none, rfl, by simp, ?_⟩
    have hces : AV.closedL (mapE Chg.enc (s.com ++ pendF (upto e s.pend))) = true := closed_mapE Chg.closed _
    have hesl : (mapE Chg.enc (s.com ++ pendF (upto e s.pend))).length = cn + (pendF (upto e s.pend)).length := by rw [mapE_len, List.length_append, hcn]
    rw [hres]
    generalize mapE Chg.enc (s.com ++ pendF (upto e s.pend)) = es at hces hesl ⊢
    generalize cn + (pendF (upto e s.pend)).length = n at hesl ⊢
    subst hFF
    show Holds EE 59 0 _ (.out .normal) _ _ _
    refine go rfl hX 0 (by conv => lhs; cbv) ?_ ?_
    · first | exact trivial | (simp only [Cd.ok, ee]; and_intros <;> first | omega | rfl | (simp <;> omega))
    refine tr_drawB rfl (by conv => lhs; cbv) rfl ?_
    refine tr_go hX (by conv => lhs; cbv) ?_ ?_
    · first | exact trivial | (simp only [Cd.ok, ee]; and_intros <;> first | omega | rfl | (simp <;> omega))
    refine tr_nil ⟨rfl, ?_, ?_⟩
    · simp only [LooksL, lookAll, List.append, List.cons_append, List.nil_append, List.append_nil]; and_intros <;> first | trivial | (intro hp; first | rfl | exact absurd (show false = true from hp) Bool.false_ne_true)
    refine go rfl hX 0 (by conv => lhs; cbv) ?_ ?_
    · first | exact trivial | (simp only [Cd.ok, ee]; and_intros <;> first | omega | rfl | (simp <;> omega))
    have hcut : cutA ep dI (lenA ep) = eb := by
      rw [← htake.2, ← hdI]
      simp [ee]
    rw [hcut]
    refine fn_ret rfl rfl ⟨[.gone, .gone, .gone, .gone, .isl 3 es], ⟨trivial, trivial, trivial, trivial, ⟨es, rfl, (subL_closed _ hces).symm⟩, trivial⟩, ?_⟩
    exact .tup' ⟨.agg' ⟨.refl _, .of (sub_whole rfl hesl.symm), .cl hcb, trivial⟩, .refl _, trivial⟩
end Go.Am
end
section
set_option linter.unusedVariables false
set_option linter.unusedSimpArgs false
set_option maxRecDepth 20000
namespace Go.Am
open Go.Proofs

theorem closedL_app2 : ∀ {a b : List AV}, AV.closedL (a ++ b) = true → AV.closedL a = true ∧ AV.closedL b = true
  | [], b, h => ⟨rfl, h⟩
  | x :: a, b, h => by
    simp only [List.cons_append, AV.closedL, Bool.and_eq_true] at h ⊢
    have := closedL_app2 h.2
    exact ⟨⟨h.1, this.1⟩, this.2⟩
theorem ov57 {H : AHeap} {ea eb : List AV} {x0 x1 : AV} (h0 : SlOf 1 2 x0) (h1 : SlOf 0 2 x1) (hka : H[1]? = some (.arr 2 ea)) (hkb : H[0]? = some (.arr 2 eb)) :
    ∀ K w ys, HRep EE K w H → VReps K H.length w [x0, x1] ys → ∃ y, (callFunc 57 ys.toArray).run EE.P w = .ok (.value y) w ∧ VRep K H.length w (.val (.bool false)) y :=
  overlaps_own (fn := Try.f57) (tS := 23) (tR := 4) rfl (by decide) rfl (by rfl) (by rfl) rfl rfl h0 h1 (by decide) hka hkb (by decide)

set_option maxHeartbeats 2000000 in
theorem P44 (es : List AV) (x : AV) (i : Nat) (hi : i ≤ es.length) (hn : es.length < 500000000000) (hce : AV.closedL es = true) (hcx : x.closed = true) (hfe : fitB 2 es = true) (hfx : fitB 2 [x] = true) :
    ACall EE 44 [.sl 0 2 0 es.length, int i, .sl 1 2 0 1] [.arr 2 es, .arr 2 [x]] fun v' H' => v' = .sl 2 2 0 (es.length + 1) ∧ H' = [.dead, .dead, .arr 2 (es.take i ++ x :: es.drop i)] := by
  refine words fun iLt iLe iEq iNe iAdd iSub iMul iQuo iRem iShr iNeg iCvt iMax iMin bNot bEq bNe bAnd bOr sEq sNe sLen sCat sCut sAt lenA lenN iOf natOf atA atN cutA partA dropA catA setA repA putA idxN addN subN minN lenCut hX e_iLt e_iLe e_iEq e_iNe e_iAdd e_iSub e_iMul e_iQuo e_iRem e_iShr e_iNeg e_iCvt e_iMax e_iMin e_bNot e_bEq e_bNe e_bAnd e_bOr e_sEq e_sNe e_sLen e_sCat e_sCut e_sAt e_lenA e_lenN e_iOf e_natOf e_atA e_atN e_cutA e_partA e_dropA e_catA e_setA e_repA e_putA e_idxN e_addN e_subN e_minN e_lenCut ee => ?_
  generalize hnl : es.length = n at *
  generalize hiI : (i : Int) = iI
  refine rcall_body (fn := Try.f44) (n := 95) (ac := Tryc44) (rvs := [.t 6]) rfl Tryp44 rfl rfl rfl ?_
  refine go rfl hX 0 (by conv => lhs; cbv) ?_ ?_
  · first | exact trivial | (simp only [Cd.ok, ee]; and_intros <;> first | omega | rfl | (simp <;> omega))
  refine on_cond rfl (fun h1 => ?_) (fun h1 => ?_)
  · exfalso
    simp [ee, decide_eq_true_eq, decide_eq_false_iff_not, Bool.and_eq_true, Bool.or_eq_true, Bool.not_eq_true', Bool.not_eq_false', Bool.and_eq_false_iff, Bool.or_eq_false_iff, bne_iff_ne, beq_iff_eq, beq_eq_false_iff_ne, bne_eq_false_iff_eq, ne_eq, Int.not_lt, Int.not_le, Decidable.not_not] at h1
  refine go rfl hX 0 (by conv => lhs; cbv) ?_ ?_
  · first | exact trivial | (simp only [Cd.ok, ee]; and_intros <;> first | omega | rfl | (simp <;> omega))
  refine on_cond rfl (fun h2 => ?_) (fun h2 => ?_)
  · simp [ee, decide_eq_true_eq, decide_eq_false_iff_not, Bool.and_eq_true, Bool.or_eq_true, Bool.not_eq_true', Bool.not_eq_false', Bool.and_eq_false_iff, Bool.or_eq_false_iff, bne_iff_ne, beq_iff_eq, beq_eq_false_iff_ne, bne_eq_false_iff_eq, ne_eq, Int.not_lt, Int.not_le, Decidable.not_not] at h2
    refine go rfl hX 0 (by conv => lhs; cbv) ?_ ?_
    · first | exact trivial | (simp only [Cd.ok, ee]; and_intros <;> first | omega | rfl | (simp <;> omega))
    have hin : i = n := by omega
    refine o_ret (F2 := [(6, .sl 2 2 0 (n + 1))]) (H2 := [.dead, .dead, .arr 2 (es ++ [x])]) (ent_subN [.gone, .gone, .to 2] [some 0, some 1, some 2] ⟨rfl, rfl, trivial⟩ (by simp) (by simp) ⟨trivial, trivial, ⟨by simp, rfl⟩, trivial⟩ ⟨.dead, .dead, osrc_arr (b := 2) rfl rfl rfl ?_ ?_, trivial⟩ ⟨.of ?_, trivial⟩) rfl ⟨rfl, ?_⟩
    · simp [ee]
    · exact closedL_append hce (closed1 hcx)
    · simp only [ee]
      rfl
    · rw [hin, ← hnl]; simp
  simp [ee, decide_eq_true_eq, decide_eq_false_iff_not, Bool.and_eq_true, Bool.or_eq_true, Bool.not_eq_true', Bool.not_eq_false', Bool.and_eq_false_iff, Bool.or_eq_false_iff, bne_iff_ne, beq_iff_eq, beq_eq_false_iff_ne, bne_eq_false_iff_eq, ne_eq, Int.not_lt, Int.not_le, Decidable.not_not] at h2
  have hlt : i < n := by omega
  refine on_cap 0 0 2 0 n rfl rfl (by omega) (by omega) (by simp) (fun c hc => ?_)
  have hJl : (es ++ List.replicate (c - n) (junkE 2)).length = c := by simp [hnl]; omega
  have hJt : (es ++ List.replicate (c - n) (junkE 2)).take n = es := by rw [← hnl, List.take_left' rfl]
  have hcJ : AV.closedL (es ++ List.replicate (c - n) (junkE 2)) = true := by
    refine closedL_append hce ?_
    generalize c - n = q
    induction q with
    | zero => rfl
    | succ q ih => rw [List.replicate_succ]; exact closedL_append (a := [junkE 2]) rfl ih
  generalize es ++ List.replicate (c - n) (junkE 2) = J at hJl hJt hcJ
  have hs1 : iAdd .i64 (iOf n) (iOf 1) = (n : Int) + 1 := by rw [e_iOf]; exact add_w e_iAdd (by simp [Wd.iOf]; omega) (by simp [Wd.iOf]; omega)
  have hs3 : iAdd .i64 iI (iOf 1) = iI + 1 := by rw [e_iOf]; exact add_w e_iAdd (by simp [Wd.iOf]; omega) (by simp [Wd.iOf]; omega)
  have hs2 : iSub .i64 ((n : Int) + 1) iI = (n : Int) + 1 - iI := by rw [e_iSub]; simp [Wd.iSub, IntKind.wrap_i64]; omega
  generalize hn1 : (n : Int) + 1 = n1 at hs1 hs2
  generalize hi1 : iI + 1 = i1 at hs3
  generalize hr : n1 - iI = r at hs2
  have hr2 : r = ((n + 1 - i : Nat) : Int) := by omega
  have f1 : idxN 0 0 = 0 := by simp [ee]
  have f2 : lenCut 0 iI = i := by simp [ee]; omega
  have f3 : addN i (natOf r) = n + 1 := by simp [ee]; omega
  have f4 : idxN 0 iI = i := by simp [ee]; omega
  have f5 : lenCut iI (iOf (n + 1)) = n + 1 - i := by simp [ee]; omega
  have f5b : lenCut iI n1 = n + 1 - i := by simp [ee]; omega
  have f6 : partA [x] 0 1 = [x] := by simp [ee]
  have f6b : lenN [x] = 1 := by simp [ee]
  have f7 : minN 1 (n + 1 - i) = 1 := by simp [ee]; omega
  have f8 : idxN 0 i1 = i + 1 := by simp [ee]; omega
  have f9 : lenCut i1 (iOf (n + 1)) = n - i := by simp [ee]; omega
  have f10 : lenCut iI (iOf n) = n - i := by simp [ee]; omega
  have f13 : lenCut 0 n1 = n + 1 := by simp [ee]; omega
  have f14 : subN c 0 = c := by simp [ee]
  have hdl : (es.drop i).length = n - i := by simp [hnl]
  have f11 : partA J i (n - i) = es.drop i := by
    simp only [ee]
    rw [← hJt, List.drop_take]
  have f15 : partA J 0 i = es.take i := by
    simp only [ee]
    rw [← hJt, List.drop_zero, List.take_take, Nat.min_eq_left hi]
  have f11b : lenN (es.drop i) = n - i := by simp [ee]; omega
  have f12 : minN (n - i) (n - i) = n - i := by simp [ee]
  have hfd : fitB 2 (es.drop i) = true := by
    rw [fitB, List.all_eq_true] at hfe ⊢
    exact fun y hy => hfe y (List.mem_of_mem_drop hy)
  have hft : fitB 2 (es.take i) = true := by
    rw [fitB, List.all_eq_true] at hfe ⊢
    exact fun y hy => hfe y (List.mem_of_mem_take hy)
  obtain ⟨z, hz⟩ : ∃ z, z = AV.agg [.val (.int .i64 0), .val (.slice none 0 0)] := ⟨_, rfl⟩
  have htl : (es.take i).length = i := by simp [hnl]; omega
  have hcB : AV.closedL (es.take i ++ x :: es.drop i) = true := by
    rw [show es.take i ++ x :: es.drop i = es.take i ++ [x] ++ es.drop i by simp]
    have hc2 := hce
    rw [← List.take_append_drop i es] at hc2
    refine closedL_append (closedL_append ?_ (closed1 hcx)) ?_
    · exact (closedL_app2 hc2).1
    · exact (closedL_app2 hc2).2
  have hA1 : putA (catA (es.take i) (repA r z)) i 1 [x] = es.take i ++ x :: List.replicate (n - i) z := by
    simp only [ee, putE]
    have hrn : r.toNat = n - i + 1 := by omega
    rw [hrn, List.take_left' htl, List.replicate_succ, List.append_assoc, ← List.drop_drop, List.drop_left' htl]
    rfl
  have hA2 : putA (es.take i ++ x :: List.replicate (n - i) z) (i + 1) (n - i) (es.drop i) = es.take i ++ x :: es.drop i := by
    simp only [ee, putE]
    have g1 : ((es.take i ++ [x]) ++ List.replicate (n - i) z).drop (i + 1 + (n - i)) = [] := List.drop_of_length_le (by simp only [List.length_append, htl, List.length_replicate, List.length_cons, List.length_nil]; omega)
    have g2 : ((es.take i ++ [x]) ++ List.replicate (n - i) z).take (i + 1) = es.take i ++ [x] := List.take_left' (by simp [htl])
    rw [show es.take i ++ x :: List.replicate (n - i) z = (es.take i ++ [x]) ++ List.replicate (n - i) z by simp, g1, g2, List.take_of_length_le (Nat.le_of_eq hdl)]
    simp
  have hB1l : (es.take i ++ x :: List.replicate (n - i) z).length = n + 1 := by simp [hnl]; omega
  have hK : ∃ K, partA J i (n + 1 - i) = K ∧ K.take (n - i) = es.drop i ∧ (n + 1 ≤ c → K.length = n + 1 - i) := by
    refine ⟨_, rfl, ?_⟩
    simp only [ee]
    refine ⟨?_, fun hnc => by simp; omega⟩
    rw [List.take_take, Nat.min_eq_left (by omega), ← hJt, List.drop_take]
  obtain ⟨K, hK1, hK2, hK3⟩ := hK
  have f18 : minN (n + 1 - i) (n - i) = n - i := by simp [ee]; omega
  have hfK : fitB 2 (K.take (n - i)) = true := by rw [hK2]; exact hfd
  have hA3 : ∃ G, putA J (i + 1) (n - i) K = G ∧ (n + 1 ≤ c → G.length = c ∧ (putA G i 1 [x]).take (n + 1) = es.take i ++ x :: es.drop i) := by
    refine ⟨_, rfl, fun hnc => ?_⟩
    simp only [ee, putE]
    have h5 : (J.take (i + 1)).length = i + 1 := by simp; omega
    have h6 : (J.drop (i + 1 + (n - i))).length = c - (n + 1) := by simp; omega
    rw [hK2]
    refine ⟨by simp only [List.length_append, h5, h6, hdl]; omega, ?_⟩
    have h8 : (J.take (i + 1) ++ es.drop i ++ J.drop (i + 1 + (n - i))).take i = es.take i := by
      rw [List.append_assoc, List.take_append_of_le_length (by rw [h5]; omega), List.take_take, Nat.min_eq_left (by omega), ← hJt, List.take_take, Nat.min_eq_left (by omega)]
    have h9 : (J.take (i + 1) ++ es.drop i ++ J.drop (i + 1 + (n - i))).drop (i + 1) = es.drop i ++ J.drop (i + 1 + (n - i)) := by
      rw [List.append_assoc, List.drop_left' h5]
    rw [h8, h9]
    rw [show es.take i ++ List.take 1 [x] ++ (es.drop i ++ J.drop (i + 1 + (n - i))) = (es.take i ++ x :: es.drop i) ++ J.drop (i + 1 + (n - i)) by simp]
    exact List.take_left' (by simp [hnl]; omega)
  obtain ⟨G, hG, hG2⟩ := hA3
  have hB2l : (es.take i ++ x :: es.drop i).length = n + 1 := by simp [hnl]; omega
  generalize hB2 : es.take i ++ x :: es.drop i = B2 at hA2 hG2 hB2l hcB ⊢
  have ge1 : (es.drop i).take (n - i) = es.drop i := List.take_of_length_le (Nat.le_of_eq hdl)
  generalize es.drop i = ed at *
  generalize es.take i = et at *
  generalize hm : n + 1 = m at f3 f5 f7 f9 f13 f5b f18 hK1 hK3 hB1l hB2l hG2 ⊢
  generalize hq : m - i = q at f5 f7 f5b f18 hK1 hK3
  generalize hq2 : n - i = q2 at f9 f10 f11 f11b f12 hA1 hA2 hB1l hG hdl ge1 hK2 f18 hfK
  generalize hie : i + 1 = ie at f8 hA2 hG
  generalize hB1 : et ++ x :: List.replicate q2 z = B1 at hA1 hA2 hB1l
  rw [hz] at hA1
  refine go rfl hX 0 (by conv => lhs; cbv; simp only [hs1]; cbv) ?_ ?_
  · first | exact trivial | (simp only [Cd.ok, ee]; and_intros <;> first | omega | rfl | (simp <;> omega))
  refine on_cond rfl (fun h3 => ?_) (fun h3 => ?_)
  · simp [ee, decide_eq_true_eq, decide_eq_false_iff_not, Bool.and_eq_true, Bool.or_eq_true, Bool.not_eq_true', Bool.not_eq_false', Bool.and_eq_false_iff, Bool.or_eq_false_iff, bne_iff_ne, beq_iff_eq, beq_eq_false_iff_ne, bne_eq_false_iff_eq, ne_eq, Int.not_lt, Int.not_le, Decidable.not_not] at h3
    refine go rfl hX 0 (by conv => lhs; cbv; simp only [hs1,hs2,f1,f2,f3,f4,f5,f6,f6b,f7,f15,hA1,hs1,hs2,f1,f2,f3,f4,f5,f6,f6b,f7,f15,hA1]; cbv; simp only [hs1,hs2,f1,f2,f3,f4,f5,f6,f6b,f7,f15,hA1,hs1,hs2,f1,f2,f3,f4,f5,f6,f6b,f7,f15,hA1]; cbv) ?_ ?_
    · simp only [Cd.ok, ee]; (and_intros <;> first | omega | rfl | (simp only [List.drop_zero, ge1]; assumption) | (simp only [List.drop_zero]; assumption) | (simp only [List.length_append, List.length_replicate, htl]; omega) | skip)
    refine tr_drawB rfl (by conv => lhs; cbv) rfl ?_
    refine tr_go hX (by conv => lhs; cbv; simp only [hs3,f8,f9,f10,f4,f11,f11b,f12,hA2,hs3,f8,f9,f10,f4,f11,f11b,f12,hA2]; cbv; simp only [hs3,f8,f9,f10,f4,f11,f11b,f12,hA2,hs3,f8,f9,f10,f4,f11,f11b,f12,hA2]; cbv) ?_ ?_
    · simp only [Cd.ok, ee]; (and_intros <;> first | omega | rfl | (simp only [List.drop_zero, ge1]; assumption) | (simp only [List.drop_zero]; assumption) | (simp only [List.length_append, List.length_replicate, htl]; omega) | skip)
    refine tr_nil ⟨rfl, ?_, ?_⟩
    · simp [LooksL, lookAll]
    refine go rfl hX 0 (by conv => lhs; cbv) ?_ ?_
    · first | exact trivial | (simp only [Cd.ok, ee]; and_intros <;> first | omega | rfl | (simp <;> omega))
    refine o_ret (F2 := [(6, .sl 2 2 0 m)]) (H2 := [.dead, .dead, .arr 2 B2]) (ent_subN [.gone, .gone, .to 2] [some 0, some 1, some 2] ⟨rfl, rfl, trivial⟩ (by simp) (by simp) ⟨trivial, trivial, ⟨by simp, rfl⟩, trivial⟩ ⟨.dead, .dead, osrc_arr (b := 2) rfl rfl rfl rfl hcB, trivial⟩ ⟨.refl _, trivial⟩) rfl ⟨rfl, rfl⟩
  · simp [ee, decide_eq_true_eq, decide_eq_false_iff_not, Bool.and_eq_true, Bool.or_eq_true, Bool.not_eq_true', Bool.not_eq_false', Bool.and_eq_false_iff, Bool.or_eq_false_iff, bne_iff_ne, beq_iff_eq, beq_eq_false_iff_ne, bne_eq_false_iff_eq, ne_eq, Int.not_lt, Int.not_le, Decidable.not_not] at h3
    refine go rfl hX 0 (by conv => lhs; cbv; simp only [hs1,hs3,f1,f8,f9,f13,f14,hs1,hs3,f1,f8,f9,f13,f14]; cbv; simp only [hs1,hs3,f1,f8,f9,f13,f14,hs1,hs3,f1,f8,f9,f13,f14]; cbv) ?_ ?_
    · simp only [Cd.ok, ee]; (and_intros <;> first | omega | rfl | (simp only [List.drop_zero, ge1]; assumption) | (simp only [List.drop_zero]; assumption) | (simp only [List.length_append, List.length_replicate, htl]; omega) | skip)
    obtain ⟨hGl, hG2⟩ := hG2 (by omega)
    have hK3 := hK3 (by omega)
    have f17 : lenN K = q := by simp [ee]; omega
    refine on_ext rfl rfl rfl (ov57 (.sl _ _) (.slc _ _ _) rfl rfl) ?_
    have hbn : bNot false = true := by simp [ee]
    refine go rfl hX 1 (by conv => lhs; cbv; simp only [hbn,hbn]; cbv; simp only [hbn,hbn]; cbv) ?_ ?_
    · first | exact trivial | (simp only [Cd.ok, ee]; and_intros <;> first | omega | rfl | (simp <;> omega))
    refine tr_drawB rfl (by conv => lhs; cbv) rfl ?_
    refine tr_go hX (by conv => lhs; cbv; simp only [f1,hs3,f8,f9,f4,f5,hK1,f17,f18,hG,f1,hs3,f8,f9,f4,f5,hK1,f17,f18,hG]; cbv; simp only [f1,hs3,f8,f9,f4,f5,hK1,f17,f18,hG,f1,hs3,f8,f9,f4,f5,hK1,f17,f18,hG]; cbv) ?_ ?_
    · simp only [Cd.ok, ee]; (and_intros <;> first | omega | rfl | (simp only [List.drop_zero, ge1]; assumption) | (simp only [List.drop_zero]; assumption) | (simp only [List.length_append, List.length_replicate, htl]; omega) | skip)
    refine tr_nil ⟨rfl, ?_, ?_⟩
    · simp [LooksL, lookAll]
    refine go rfl hX 0 (by conv => lhs; cbv; simp only [f1,hs3,f8,f9,f4,f5,hK1,f17,f18,hG,f6,f6b,f7,f1,hs3,f8,f9,f4,f5,hK1,f17,f18,hG,f6,f6b,f7]; cbv; simp only [f1,hs3,f8,f9,f4,f5,hK1,f17,f18,hG,f6,f6b,f7,f1,hs3,f8,f9,f4,f5,hK1,f17,f18,hG,f6,f6b,f7]; cbv) ?_ ?_
    · simp only [Cd.ok, ee]; (and_intros <;> first | omega | rfl | (simp only [List.drop_zero, ge1]; assumption) | (simp only [List.drop_zero]; assumption) | (simp only [List.length_append, List.length_replicate, htl]; omega) | skip)
    refine o_ret (F2 := [(6, .sl 2 2 0 m)]) (H2 := [.dead, .dead, .arr 2 B2]) (.trans (ent_unslc 6 rfl) (.trans (ent_trunc (b := 0) (m := m) rfl (by simp)) (ent_subN [.to 2, .gone] [some 0, some 1, some 0] ⟨rfl, rfl, trivial⟩ (by simp) (by simp) ⟨⟨by simp, rfl⟩, trivial, trivial⟩ ⟨.dead, .dead, osrc_arr (b := 0) rfl rfl rfl hG2 hcB, trivial⟩ ⟨.refl _, trivial⟩))) rfl ⟨rfl, rfl⟩
end Go.Am
end
section
set_option linter.unusedVariables false
set_option linter.unusedSimpArgs false
set_option maxRecDepth 20000
namespace Go.Am
open Go.Proofs

theorem with_true (e : Int) (cs : List Chg) : ∀ (l : List Bat), (∀ x ∈ l, x.epoch ≠ e) → withF e cs true l = l
  | [], h => by simp [withF]
  | b :: r, h => by
    have hb := h b (by simp)
    have ih := with_true e cs r (fun x hx => h x (by simp [hx]))
    simp [withF, hb, ih]
theorem with_new (e : Int) (cs : List Chg) : ∀ (d r : List Bat), (∀ x ∈ d, x.epoch < e) → (∀ x ∈ r, e < x.epoch) → withF e cs false (d ++ r) = d ++ ⟨e, cs⟩ :: r
  | [], [], hd, hr => by simp [withF]
  | [], b :: r, hd, hr => by
    have hb := hr b (by simp)
    have ih := with_true e cs r (fun x hx => by have := hr x (by simp [hx]); omega)
    have h2 : b.epoch ≠ e := by omega
    simp [withF, hb, h2, ih]
  | b :: d, r, hd, hr => by
    have hb := hd b (by simp)
    have ih := with_new e cs d r (fun x hx => hd x (by simp [hx])) hr
    have h1 : ¬ e < b.epoch := by omega
    have h2 : b.epoch ≠ e := by omega
    simp [withF, h1, h2, ih]
theorem with_old (e : Int) (cs : List Chg) (b : Bat) (hb : b.epoch = e) : ∀ (d r : List Bat), (∀ x ∈ d, x.epoch < e) → (∀ x ∈ r, e < x.epoch) → withF e cs false (d ++ b :: r) = d ++ ⟨e, b.cs ++ cs⟩ :: r
  | [], r, hd, hr => by
    have ih := with_true e cs r (fun x hx => by have := hr x hx; omega)
    simp [withF, hb, ih]
  | c :: d, r, hd, hr => by
    have hc := hd c (by simp)
    have ih := with_old e cs b hb d r (fun x hx => hd x (by simp [hx])) hr
    have h1 : ¬ e < c.epoch := by omega
    have h2 : c.epoch ≠ e := by omega
    simp [withF, h1, h2, ih]

theorem sub_keep {σ : Nat → Sub} {x : AV} {m j n : Nat} (h : σ m = .to j) : AV.subL σ [.agg [x, .sl m 3 0 n]] = [.agg [x.sub σ, .sl j 3 0 n]] := by
  simp [AV.subL, AV.sub, h]

set_option maxHeartbeats 2000000 in
theorem P42k (s : Snk) (dd rr : List Bat) (bb : Bat) (hsp : s.pend = dd ++ bb :: rr) (hp : s.pend.length < 500000000000) (hcm : s.com.length < 500000000000) (hb : ∀ b ∈ s.pend, b.cs.length < 500000000000) :
    OCall EE 42 [s.enc] (.agg [int s.epoch, .sl 0 3 0 s.com.length, .sl 1 2 0 s.pend.length]) [.arr 3 (mapE Chg.enc s.com), .arr 2 (mapE Bat.enc dd ++ [.agg [int bb.epoch, .sl 2 3 0 bb.cs.length]] ++ mapE Bat.enc rr), .arr 3 (mapE Chg.enc bb.cs)] := by
  have P53c := P53 s.com hcm
  have P53b := fun b (h : b ∈ s.pend) => P53 b.cs (hb b h)
  have hcom := closedC s.com
  have hcp := closedB s.pend
  obtain ⟨e, com, pend⟩ := s
  dsimp only at *
  refine words fun iLt iLe iEq iNe iAdd iSub iMul iQuo iRem iShr iNeg iCvt iMax iMin bNot bEq bNe bAnd bOr sEq sNe sLen sCat sCut sAt lenA lenN iOf natOf atA atN cutA partA dropA catA setA repA putA idxN addN subN minN lenCut hX e_iLt e_iLe e_iEq e_iNe e_iAdd e_iSub e_iMul e_iQuo e_iRem e_iShr e_iNeg e_iCvt e_iMax e_iMin e_bNot e_bEq e_bNe e_bAnd e_bOr e_sEq e_sNe e_sLen e_sCat e_sCut e_sAt e_lenA e_lenN e_iOf e_natOf e_atA e_atN e_cutA e_partA e_dropA e_catA e_setA e_repA e_putA e_idxN e_addN e_subN e_minN e_lenCut ee => ?_
  have henc : (⟨e, com, pend⟩ : Snk).enc = .agg [int e, .isl 3 (mapE Chg.enc com), .isl 2 (mapE Bat.enc pend)] := rfl
  rw [henc]
  have hclc : AV.closedL (mapE Chg.enc com) = true := closed_mapE Chg.closed _
  have hclk : AV.closedL (mapE Chg.enc bb.cs) = true := closed_mapE Chg.closed _
  generalize hec : mapE Chg.enc com = ec at *
  generalize hep : mapE Bat.enc pend = ep at *
  generalize hcn : com.length = cn at *
  have hpl : ep.length = pend.length := by rw [← hep, mapE_len]
  refine ocall_body (fn := Try.f42) (n := 32) (ac := Tryc42) (rvs := [.cell 2 3 true]) rfl (by decide) Tryp42 rfl rfl rfl ?_
  refine go rfl hX 0 (by conv => lhs; cbv) ?_ ?_
  · first | exact trivial | (simp only [Cd.ok, ee]; and_intros <;> first | omega | rfl | (simp <;> omega))
  refine trp_drawE [4, 6, 7] [[4, 6, 7], [6, 4, 7]] [(1, .ptr 0 0), (2, .ptr 1 0), (3, .ptr 2 0)] [.cells [int e, .isl 3 ec, .isl 2 ep], .cells [int 0, .val (.slice none 0 0), .val (.slice none 0 0)], .cells [int e, .sl 3 3 0 cn, .val (.slice none 0 0)], .arr 3 ec] rfl rfl rfl (by decide) rfl ?_ ⟨⟨[0, 1, 2, 3, 4, 5, 6, 7], rfl, ?_⟩, ⟨[6, 0, 1, 2, 3, 4, 5, 7], rfl, ?_⟩, trivial⟩
  · refine go rfl hX 0 (by conv => lhs; cbv) ?_ ?_
    · first | exact trivial | (simp only [Cd.ok, ee]; and_intros <;> first | omega | rfl | (simp <;> omega))
    refine on_loopP (ι := Bool × List Bat × List Bat × Int × Nat × List AV) (fun p => match p with
        | (false, p1, p2, i, m, es) => ([(15, int i), (14, int (lenA ep)), (13, .isl 2 ep), (1, .ptr 0 0), (2, .ptr 1 0), (3, .ptr 2 0)], [.cells [int e, .isl 3 ec, .isl 2 ep], .cells [int 0, .val (.slice none 0 0), .val (.slice none 0 0)], .cells [int e, .sl 3 3 0 cn, .sl 4 2 0 m], .arr 3 ec, .arr 2 es])
        | (true, p1, p2, i, m, es) => ([(15, int i), (14, int (lenA ep)), (13, .isl 2 ep), (1, .ptr 0 0), (2, .ptr 1 0), (3, .ptr 2 0)], [.cells [int e, .isl 3 ec, .isl 2 ep], .cells [int 0, .val (.slice none 0 0), .val (.slice none 0 0)], .cells [int e, .sl 3 3 0 cn, .sl 4 2 0 m], .arr 3 ec, .arr 2 es, .arr 3 (mapE Chg.enc bb.cs)]))
      (fun p => pend = p.2.1 ++ p.2.2.1 ∧ p.2.2.2.1 = p.2.1.length ∧ p.2.2.2.2.1 = p.2.1.length ∧ match p.1 with
        | false => p.2.2.2.2.2 = mapE Bat.enc p.2.1 ∧ ∃ q, dd = p.2.1 ++ q ∧ p.2.2.1 = q ++ bb :: rr
        | true => ∃ q, p.2.1 = dd ++ bb :: q ∧ rr = q ++ p.2.2.1 ∧ p.2.2.2.2.2 = mapE Bat.enc dd ++ [.agg [int bb.epoch, .sl 5 3 0 bb.cs.length]] ++ mapE Bat.enc q) (fun p => p.2.2.1.length) (false, [], pend, 0, 0, []) ⟨rfl, rfl, rfl, by simp [mapE_eq], dd, rfl, hsp⟩
      (ent_sub [.to 0, .to 1, .to 2, .to 3] [some 0, some 1, some 2, some 3, none] ⟨⟨by simp, rfl⟩, ⟨by simp, rfl⟩, ⟨by simp, rfl⟩, ⟨by simp, rfl⟩, trivial⟩
        ⟨osrc_cells (b := 0) rfl rfl rfl ⟨.refl _, .cl hcom, .cl hcp, trivial⟩, osrc_cells (b := 1) rfl rfl rfl ⟨.refl _, .refl _, .refl _, trivial⟩, osrc_cells (b := 2) rfl rfl rfl ⟨.refl _, .refl _, .nilS 4 2 0 (by simp), trivial⟩, osrc_arr (b := 3) rfl rfl rfl rfl hclc, .none 2 rfl, trivial⟩ ⟨.refl _, .refl _, .cl hcp, .refl _, .refl _, .refl _, trivial⟩) ?_
    rintro ⟨c, d, r, i, m, es⟩ ⟨g1, gi, gm, ge⟩
    dsimp only at g1 gi gm ge ⊢
    cases c with
    | false =>
      obtain ⟨ge, q, gd, gr⟩ := ge
      have hesl : es.length = m := by rw [ge, mapE_len, gm]
      have hces : AV.closedL es = true := by rw [ge]; exact closed_mapE Bat.closed _
      cases q with
      | nil =>
        rw [List.nil_append] at gr
        subst gr
        rw [List.append_nil] at gd
        have L1 := len_split g1
        try simp only [List.length_cons, List.length_nil] at L1
        have hcd : iLt i (lenA ep) = true := lt_t e_iLt e_lenA (by omega)
        have ha := el_at e_atA hep g1 gi
        have hbenc : Bat.enc bb = .agg [int bb.epoch, .isl 3 (mapE Chg.enc bb.cs)] := rfl
        have P53b := P53b bb (by rw [g1]; simp)
        have hcb := closedC bb.cs
        have hebl : (mapE Chg.enc bb.cs).length = bb.cs.length := mapE_len _ _
        rw [hbenc] at ha
        generalize hbs : mapE Chg.enc bb.cs = ebs at ha hbenc P53b hcb hclk hebl ⊢
        generalize hbn : bb.cs.length = bn at P53b hebl ⊢
        generalize hbe : bb.epoch = be at ha hbenc ⊢
        refine go rfl hX 1 (by conv => lhs; cbv; simp only [hcd,ha]; cbv; simp only [hcd,ha]; cbv) ?_ ?_
        · first | exact trivial | (simp only [Cd.ok, ee]; and_intros <;> first | omega | rfl | (simp <;> omega))
        refine tr_drawB rfl (by conv => lhs; cbv) rfl ?_
        refine tr_go hX (by conv => lhs; cbv) ?_ ?_
        · first | exact trivial | (simp only [Cd.ok, ee]; and_intros <;> first | omega | rfl | (simp <;> omega))
        refine tr_ocall (v' := .sl 6 3 0 bn) (H' := [.arr 3 ebs]) rfl rfl rfl P53b (closed1 hcb) rfl (arr_sh hclk) ?_
        refine tr_go hX (by conv => lhs; cbv) ?_ ?_
        · first | exact trivial | (simp only [Cd.ok, ee]; and_intros <;> first | omega | rfl | (simp <;> omega))
        refine tr_nil ⟨rfl, ?_, ?_⟩
        · simp only [LooksL, lookAll, List.append, List.cons_append, List.nil_append, List.append_nil]; and_intros <;> first | trivial | (intro hp; first | rfl | exact absurd (show false = true from hp) Bool.false_ne_true)
        refine go rfl hX 0 (by conv => lhs; cbv) ?_ ?_
        · first | exact trivial | (simp only [Cd.ok, ee]; and_intros <;> first | omega | rfl | (simp <;> omega))
        refine loopP_next (true, d ++ [bb], rr, iAdd .i64 i 1, m + 1, mapE Bat.enc dd ++ [.agg [int be, .sl 5 3 0 bn]] ++ mapE Bat.enc []) ⟨by simp [g1], ?_, by simp [gm], [], by simp [gd], rfl, rfl⟩ (by simp)
          (ent_sub [.to 0, .to 1, .to 2, .to 3, .gone, .gone, .to 5, .gone, .to 4] [some 0, some 1, some 2, some 3, some 8, some 6] ⟨⟨by simp, rfl⟩, ⟨by simp, rfl⟩, ⟨by simp, rfl⟩, ⟨by simp, rfl⟩, trivial, trivial, ⟨by simp, rfl⟩, trivial, ⟨by simp, rfl⟩, trivial⟩
            ⟨osrc_cells (b := 0) rfl rfl rfl ⟨.refl _, .cl hcom, .cl hcp, trivial⟩, osrc_cells (b := 1) rfl rfl rfl ⟨.refl _, .refl _, .refl _, trivial⟩, osrc_cells (b := 2) rfl rfl rfl ⟨.refl _, .refl _, .of ?_, trivial⟩, osrc_arr (b := 3) rfl rfl rfl rfl hclc, osrc_arrS (b := 8) rfl rfl rfl ?_, osrc_arr (b := 6) rfl rfl rfl ?_ hclk, trivial⟩ ⟨.refl _, .refl _, .cl hcp, .refl _, .refl _, .refl _, trivial⟩)
        · simp only [List.length_append, List.length_cons, List.length_nil]; exact inc_w e_iAdd gi (by omega)
        · simp only [ee]; rfl
        · simp only [ee]
          show AV.subL _ (es.drop 0 ++ [AV.agg [.val (.int .i64 be), .sl 6 3 0 bn]]) = _
          rw [List.drop_zero, subL_append, subL_closed _ hces, ge, gd, mapE_nil, List.append_nil, sub_keep (m := 6) (j := 5) ?_]
          · rfl
          · rfl
        · rfl
      | cons b q =>
        rw [List.cons_append] at gr
        subst gr
        have L1 := len_split g1
        try simp only [List.length_cons, List.length_nil] at L1
        have hcd : iLt i (lenA ep) = true := lt_t e_iLt e_lenA (by omega)
        have ha := el_at e_atA hep g1 gi
        have hbenc : Bat.enc b = .agg [int b.epoch, .isl 3 (mapE Chg.enc b.cs)] := rfl
        have P53b := P53b b (by rw [g1]; simp)
        have hcb := closedC b.cs
        have hclb : AV.closedL (mapE Chg.enc b.cs) = true := closed_mapE Chg.closed _
        have hebl : (mapE Chg.enc b.cs).length = b.cs.length := mapE_len _ _
        rw [hbenc] at ha
        generalize hbs : mapE Chg.enc b.cs = ebs at ha hbenc P53b hcb hclb hebl
        generalize hbn : b.cs.length = bn at P53b hebl
        generalize hbe : b.epoch = be at ha hbenc
        refine go rfl hX 1 (by conv => lhs; cbv; simp only [hcd,ha]; cbv; simp only [hcd,ha]; cbv) ?_ ?_
        · first | exact trivial | (simp only [Cd.ok, ee]; and_intros <;> first | omega | rfl | (simp <;> omega))
        refine tr_drawB rfl (by conv => lhs; cbv) rfl ?_
        refine tr_go hX (by conv => lhs; cbv) ?_ ?_
        · first | exact trivial | (simp only [Cd.ok, ee]; and_intros <;> first | omega | rfl | (simp <;> omega))
        refine tr_ocall (v' := .sl 6 3 0 bn) (H' := [.arr 3 ebs]) rfl rfl rfl P53b (closed1 hcb) rfl (arr_sh hclb) ?_
        refine tr_go hX (by conv => lhs; cbv) ?_ ?_
        · first | exact trivial | (simp only [Cd.ok, ee]; and_intros <;> first | omega | rfl | (simp <;> omega))
        refine tr_nil ⟨rfl, ?_, ?_⟩
        · simp only [LooksL, lookAll, List.append, List.cons_append, List.nil_append, List.append_nil]; and_intros <;> first | trivial | (intro hp; first | rfl | exact absurd (show false = true from hp) Bool.false_ne_true)
        refine go rfl hX 0 (by conv => lhs; cbv) ?_ ?_
        · first | exact trivial | (simp only [Cd.ok, ee]; and_intros <;> first | omega | rfl | (simp <;> omega))
        refine loopP_next (false, d ++ [b], q ++ bb :: rr, iAdd .i64 i 1, m + 1, mapE Bat.enc (d ++ [b])) ⟨by simp [g1], ?_, by simp [gm], rfl, q, by simp [gd], rfl⟩ (by simp)
          (ent_sub [.to 0, .to 1, .to 2, .to 3, .gone, .gone, .isl 3 ebs, .gone, .to 4] [some 0, some 1, some 2, some 3, some 8] ⟨⟨by simp, rfl⟩, ⟨by simp, rfl⟩, ⟨by simp, rfl⟩, ⟨by simp, rfl⟩, trivial, trivial, ⟨ebs, rfl, (subL_closed _ hclb).symm⟩, trivial, ⟨by simp, rfl⟩, trivial⟩
            ⟨osrc_cells (b := 0) rfl rfl rfl ⟨.refl _, .cl hcom, .cl hcp, trivial⟩, osrc_cells (b := 1) rfl rfl rfl ⟨.refl _, .refl _, .refl _, trivial⟩, osrc_cells (b := 2) rfl rfl rfl ⟨.refl _, .refl _, .of ?_, trivial⟩, osrc_arr (b := 3) rfl rfl rfl rfl hclc, osrc_arrS (b := 8) rfl rfl rfl ?_, trivial⟩ ⟨.refl _, .refl _, .cl hcp, .refl _, .refl _, .refl _, trivial⟩)
        · simp only [List.length_append, List.length_cons, List.length_nil]; exact inc_w e_iAdd gi (by omega)
        · simp only [ee]; rfl
        · simp only [ee]
          show AV.subL _ (es.drop 0 ++ [AV.agg [.val (.int .i64 be), .sl 6 3 0 bn]]) = _
          rw [List.drop_zero, subL_append, subL_closed _ hces, ge, ← mapE_snoc, hbenc]
          congr 1
          show [AV.agg [_, AV.sub _ (.sl 6 3 0 bn)]] = _
          rw [sub_whole (es := ebs) rfl hebl.symm]
          rfl
    | true =>
      obtain ⟨q, gd, gr, ge⟩ := ge
      have hdd : AV.closedL (mapE Bat.enc dd) = true := closed_mapE Bat.closed _
      have hqq : AV.closedL (mapE Bat.enc q) = true := closed_mapE Bat.closed _
      have hesl : es.length = m := by rw [ge, gm, gd]; simp [mapE_len] <;> omega
      generalize hebk : mapE Chg.enc bb.cs = ebk at hclk ⊢
      generalize hbkn : bb.cs.length = bkn at ge ⊢
      generalize hbke : bb.epoch = bke at ge ⊢
      cases r with
      | nil =>
        have L1 := len_split g1
        try simp only [List.length_cons, List.length_nil] at L1
        have hcd : iLt i (lenA ep) = false := lt_f e_iLt e_lenA (by omega)
        refine go rfl hX 1 (by conv => lhs; cbv; simp only [hcd]; cbv) ?_ ?_
        · first | exact trivial | (simp only [Cd.ok, ee]; and_intros <;> first | omega | rfl | (simp <;> omega))
        refine loopP_exit ?_
        refine go rfl hX 0 (by conv => lhs; cbv) ?_ ?_
        · first | exact trivial | (simp only [Cd.ok, ee]; and_intros <;> first | omega | rfl | (simp <;> omega))
        rw [List.append_nil] at g1 gr
        subst gr
        refine o_ret (F2 := [(2, .iptr [int e, .sl 0 3 0 cn, .sl 1 2 0 m])]) (H2 := [.arr 3 ec, .arr 2 (mapE Bat.enc dd ++ [.agg [int bke, .sl 2 3 0 bkn]] ++ mapE Bat.enc rr), .arr 3 ebk]) ?_ rfl ⟨?_, rfl⟩
        · refine ent_sub [.gone, .icells [int e, .sl 0 3 0 cn, .sl 1 2 0 m], .gone, .to 0, .to 1, .to 2] [some 3, some 4, some 5] ⟨trivial, ⟨_, rfl, rfl⟩, trivial, ⟨by simp, rfl⟩, ⟨by simp, rfl⟩, ⟨by simp, rfl⟩, trivial⟩ ⟨osrc_arr (b := 3) rfl rfl rfl rfl hclc, osrc_arrS (b := 4) rfl rfl rfl ?_, osrc_arr (b := 5) rfl rfl rfl rfl hclk, trivial⟩ ⟨.refl _, trivial⟩
          rw [ge, subL_append, subL_append, subL_closed _ hdd, subL_closed _ hqq, sub_keep (m := 5) (j := 2) ?_]
          · rfl
          · rfl
        · rw [gm, g1]; rfl
      | cons b r =>
        have L1 := len_split g1
        try simp only [List.length_cons, List.length_nil] at L1
        have hcd : iLt i (lenA ep) = true := lt_t e_iLt e_lenA (by omega)
        have ha := el_at e_atA hep g1 gi
        have hbenc : Bat.enc b = .agg [int b.epoch, .isl 3 (mapE Chg.enc b.cs)] := rfl
        have P53b := P53b b (by rw [g1]; simp)
        have hcb := closedC b.cs
        have hclb : AV.closedL (mapE Chg.enc b.cs) = true := closed_mapE Chg.closed _
        have hebl : (mapE Chg.enc b.cs).length = b.cs.length := mapE_len _ _
        rw [hbenc] at ha
        generalize hbs : mapE Chg.enc b.cs = ebs at ha hbenc P53b hcb hclb hebl
        generalize hbn : b.cs.length = bn at P53b hebl
        generalize hbe : b.epoch = be at ha hbenc
        refine go rfl hX 1 (by conv => lhs; cbv; simp only [hcd,ha]; cbv; simp only [hcd,ha]; cbv) ?_ ?_
        · first | exact trivial | (simp only [Cd.ok, ee]; and_intros <;> first | omega | rfl | (simp <;> omega))
        refine tr_drawB rfl (by conv => lhs; cbv) rfl ?_
        refine tr_go hX (by conv => lhs; cbv) ?_ ?_
        · first | exact trivial | (simp only [Cd.ok, ee]; and_intros <;> first | omega | rfl | (simp <;> omega))
        refine tr_ocall (v' := .sl 7 3 0 bn) (H' := [.arr 3 ebs]) rfl rfl rfl P53b (closed1 hcb) rfl (arr_sh hclb) ?_
        refine tr_go hX (by conv => lhs; cbv) ?_ ?_
        · first | exact trivial | (simp only [Cd.ok, ee]; and_intros <;> first | omega | rfl | (simp <;> omega))
        refine tr_nil ⟨rfl, ?_, ?_⟩
        · simp only [LooksL, lookAll, List.append, List.cons_append, List.nil_append, List.append_nil]; and_intros <;> first | trivial | (intro hp; first | rfl | exact absurd (show false = true from hp) Bool.false_ne_true)
        refine go rfl hX 0 (by conv => lhs; cbv) ?_ ?_
        · first | exact trivial | (simp only [Cd.ok, ee]; and_intros <;> first | omega | rfl | (simp <;> omega))
        refine loopP_next (true, d ++ [b], r, iAdd .i64 i 1, m + 1, mapE Bat.enc dd ++ [.agg [int bke, .sl 5 3 0 bkn]] ++ mapE Bat.enc (q ++ [b])) ⟨by simp [g1], ?_, by simp [gm], q ++ [b], by simp [gd], by simp [gr], rfl⟩ (by simp)
          (ent_sub [.to 0, .to 1, .to 2, .to 3, .gone, .to 5, .gone, .isl 3 ebs, .gone, .to 4] [some 0, some 1, some 2, some 3, some 9, some 5] ⟨⟨by simp, rfl⟩, ⟨by simp, rfl⟩, ⟨by simp, rfl⟩, ⟨by simp, rfl⟩, trivial, ⟨by simp, rfl⟩, trivial, ⟨ebs, rfl, (subL_closed _ hclb).symm⟩, trivial, ⟨by simp, rfl⟩, trivial⟩
            ⟨osrc_cells (b := 0) rfl rfl rfl ⟨.refl _, .cl hcom, .cl hcp, trivial⟩, osrc_cells (b := 1) rfl rfl rfl ⟨.refl _, .refl _, .refl _, trivial⟩, osrc_cells (b := 2) rfl rfl rfl ⟨.refl _, .refl _, .of ?_, trivial⟩, osrc_arr (b := 3) rfl rfl rfl rfl hclc, osrc_arrS (b := 9) rfl rfl rfl ?_, osrc_arr (b := 5) rfl rfl rfl rfl hclk, trivial⟩ ⟨.refl _, .refl _, .cl hcp, .refl _, .refl _, .refl _, trivial⟩)
        · simp only [List.length_append, List.length_cons, List.length_nil]; exact inc_w e_iAdd gi (by omega)
        · simp only [ee]; rfl
        · simp only [ee]
          show AV.subL _ (es.drop 0 ++ [AV.agg [.val (.int .i64 be), .sl 7 3 0 bn]]) = _
          rw [List.drop_zero, subL_append, ge, subL_append, subL_append, subL_closed _ hdd, subL_closed _ hqq, sub_keep (m := 5) (j := 5) ?_, ← mapE_snoc, hbenc, List.append_assoc _ (mapE Bat.enc q)]
          rotate_left
          · rfl
          congr 2
          show [AV.agg [_, AV.sub _ (.sl 7 3 0 bn)]] = _
          rw [sub_whole (es := ebs) rfl hebl.symm]
          rfl
  · refine tr_go hX (by conv => lhs; cbv) ?_ ?_
    · first | exact trivial | (simp only [Cd.ok, ee]; and_intros <;> first | omega | rfl | (simp <;> omega))
    refine tr_ocall (v' := .sl 2 3 0 cn) (H' := [.arr 3 ec]) rfl rfl rfl P53c (closed1 hcom) rfl (arr_sh hclc) ?_
    refine tr_go hX (by conv => lhs; cbv) ?_ ?_
    · first | exact trivial | (simp only [Cd.ok, ee]; and_intros <;> first | omega | rfl | (simp <;> omega))
    refine tr_nil ⟨by simp [effLab], ?_, ?_⟩
    · simp only [LooksP, lookAll, List.append, List.cons_append, List.nil_append, List.append_nil]; and_intros <;> first | trivial | (intro hp; first | rfl | exact absurd (show false = true from hp) Bool.false_ne_true)
    refine ent_sub [.to 0, .to 1, .to 3, .to 2] [some 0, some 1, some 3, some 2] ⟨⟨by simp, rfl⟩, ⟨by simp, rfl⟩, ⟨by simp, rfl⟩, ⟨by simp, rfl⟩, trivial⟩
      ⟨osrc_cells (b := 0) rfl rfl rfl ⟨.refl _, .cl hcom, .cl hcp, trivial⟩, osrc_cells (b := 1) rfl rfl rfl ⟨.refl _, .refl _, .refl _, trivial⟩, osrc_cells (b := 3) rfl rfl rfl ⟨.refl _, .refl _, .refl _, trivial⟩, osrc_arr (b := 2) rfl rfl rfl rfl hclc, trivial⟩ ⟨.refl _, .refl _, .refl _, trivial⟩
  · refine tr_go hX (by conv => lhs; cbv) ?_ ?_
    · first | exact trivial | (simp only [Cd.ok, ee]; and_intros <;> first | omega | rfl | (simp <;> omega))
    refine tr_ocall (v' := .sl 3 3 0 cn) (H' := [.arr 3 ec]) rfl rfl rfl P53c (closed1 hcom) rfl (arr_sh hclc) ?_
    refine tr_go hX (by conv => lhs; cbv) ?_ ?_
    · first | exact trivial | (simp only [Cd.ok, ee]; and_intros <;> first | omega | rfl | (simp <;> omega))
    refine tr_nil ⟨by simp [effLab], ?_, ?_⟩
    · simp only [LooksP, lookAll, List.append, List.cons_append, List.nil_append, List.append_nil]; and_intros <;> first | trivial | (intro hp; first | rfl | exact absurd (show false = true from hp) Bool.false_ne_true)
    refine ent_fw ⟨.refl _, .refl _, .refl _, trivial⟩
end Go.Am
end
section
set_option linter.unusedVariables false
set_option linter.unusedSimpArgs false
set_option maxRecDepth 20000
namespace Go.Am
open Go.Proofs

theorem bats_suffix (se : Int) : ∀ (d r : List Bat) (p : Option Int), batsF se p (d ++ r) = 0 → ∃ q, batsF se q r = 0
  | [], r, p, h => ⟨p, h⟩
  | b :: d, r, p, h => bats_suffix se d r _ (bats_tail h).2
theorem place_cases (se e : Int) (pend : List Bat) (h : batsF se none pend = 0) :
    (∃ d r, pend = d ++ r ∧ (∀ x ∈ d, x.epoch < e) ∧ (∀ x ∈ r, e < x.epoch)) ∨ (∃ d b r, pend = d ++ b :: r ∧ b.epoch = e ∧ (∀ x ∈ d, x.epoch < e) ∧ (∀ x ∈ r, e < x.epoch)) := by
  have h1 := sorted_split se (e - 1) pend none h
  have hd : ∀ x ∈ upto (e - 1) pend, x.epoch < e := fun x hx => by have := upto_mem hx; omega
  have hr : ∀ x ∈ beyond (e - 1) pend, e - 1 < x.epoch := fun x hx => beyond_mem hx
  generalize upto (e - 1) pend = d at h1 hd
  generalize beyond (e - 1) pend = r at h1 hr
  subst h1
  obtain ⟨q, hq⟩ := bats_suffix se d r none h
  cases r with
  | nil => exact .inl ⟨d, [], rfl, hd, by simp⟩
  | cons b r =>
    have hgt := bats_gt se r b.epoch (bats_tail hq).2
    have hb := hr b (by simp)
    by_cases he : b.epoch = e
    · exact .inr ⟨d, b, r, rfl, he, hd, fun x hx => by have := hgt x hx; omega⟩
    · refine .inl ⟨d, b :: r, rfl, hd, fun x hx => ?_⟩
      rcases List.mem_cons.1 hx with rfl | hx
      · omega
      · have := hgt x hx; omega
theorem mapE_app {α : Type} (f : α → AV) (a b : List α) : mapE f (a ++ b) = mapE f a ++ mapE f b := by rw [mapE_eq, mapE_eq, mapE_eq, List.map_append]
theorem mapE_cons {α : Type} (f : α → AV) (a : α) (b : List α) : mapE f (a :: b) = f a :: mapE f b := by rw [mapE_eq, mapE_eq, List.map_cons]
theorem with_mem {e : Int} {cs : List Chg} {x : Bat} : ∀ {l : List Bat} {d : Bool}, x ∈ withF e cs d l → x = ⟨e, cs⟩ ∨ x ∈ l ∨ ∃ b ∈ l, x = ⟨b.epoch, b.cs ++ cs⟩
  | [], d, h => by unfold withF at h; split at h <;> simp at h; exact .inl h
  | b :: r, d, h => by
    unfold withF at h
    simp only [List.mem_append, List.mem_cons] at h
    rcases h with h | h | h
    · split at h
      · simp at h; exact .inl h
      · simp at h
    · split at h
      · exact .inr (.inr ⟨b, by simp, h⟩)
      · exact .inr (.inl (by simp [h]))
    · rcases with_mem h with h | h | ⟨c, h1, h2⟩
      · exact .inl h
      · exact .inr (.inl (by simp [h]))
      · exact .inr (.inr ⟨c, by simp [h1], h2⟩)
theorem fine_app {a b : List Chg} (ha : Fine a) (hb : Fine b) (hl : a.length + b.length < 1152921504606846976) : Fine (a ++ b) :=
  ⟨by unfold Short; rw [List.length_append]; omega, fun c hc => by rcases List.mem_append.1 hc with h | h; exact ha.2 c h; exact hb.2 c h⟩
theorem fine_with {s : Snk} {e : Int} {cs : List Chg} (hf : s.Fine) (hcs : Fine cs) (hp : s.pend.length ≤ 256) (hl : ∀ b ∈ s.pend, b.cs.length < 500000000000) (hn : cs.length < 100000000000) : Snk.Fine ⟨s.epoch, s.com, withF e cs false s.pend⟩ := by
  refine ⟨hf.com, ?_, fun b hb => ?_⟩
  · have := withF_len e cs s.pend false
    unfold Short; dsimp only; omega
  · rcases with_mem hb with rfl | h | ⟨c, h, rfl⟩
    · exact hcs
    · exact hf.bats b h
    · exact fine_app (hf.bats c h) hcs (by have := hl c h; omega)

theorem enters44 : Enters EE.P 44 := enters_of (fn := Try.f44) (n := 95) (ac := Tryc44) rfl (by decide) Tryp44
set_option maxHeartbeats 2000000 in
theorem P22 (s : Snk) (e : Int) (cs : List Chg) (hf : s.Fine) (hfc : Fine cs) (hc : countF s < 500000000000) (hcs : cs.length < 100000000000) : PCall EE 22 [s.enc, int e, .isl 3 (mapE Chg.enc cs)] (.tup [(addF s e cs).1.enc, int (addF s e cs).2]) := by
  have P12c := P12 s hf (by omega)
  have hok := fun h : checkF s = 0 => check_ok h
  have P32c := P32 cs hfc.1
  have hsum : s.com.length ≤ countF s ∧ ∀ b ∈ s.pend, b.cs.length ≤ countF s := by
    unfold countF
    refine ⟨by omega, fun b hb => ?_⟩
    obtain ⟨d, r, hd⟩ := List.append_of_mem hb
    rw [hd, sumL_append]; simp [sumL]; omega
  have P42c := fun h : checkF s = 0 => P42 s (by have := (hok h).2.2.1; omega) (by omega) (fun b hb => by have := hsum.2 b hb; omega)
  have P42kc := fun (h : checkF s = 0) d r b hsp => P42k s d r b hsp (by have := (hok h).2.2.1; omega) (by omega) (fun b hb => by have := hsum.2 b hb; omega)
  have hpc := fun h : checkF s = 0 => place_cases s.epoch e s.pend (hok h).2.2.2.2.1
  have hfw := fun h : checkF s = 0 => fine_with (e := e) hf hfc (hok h).2.2.1 (fun b hb => by have := hsum.2 b hb; omega) hcs
  have P33c := fun h : checkF s = 0 => P33 ⟨s.epoch, s.com, withF e cs false s.pend⟩ (hfw h) (by
    have h1 := sumL_with e cs s.pend false
    have h2 := (check_ok h).2.2.1
    have h3 := (check_ok h).2.2.2.2.2
    have h4 : (s.pend.length + 1) * (2 * cs.length) ≤ 257 * (2 * cs.length) := Nat.mul_le_mul_right _ (by omega)
    unfold countF at h3 ⊢; dsimp only; omega)
  have hcl := Snk.closed s
  have hcom := closedC s.com
  have hcp := closedB s.pend
  have hclc : AV.closedL (mapE Chg.enc s.com) = true := closed_mapE Chg.closed _
  have hclp : AV.closedL (mapE Bat.enc s.pend) = true := closed_mapE Bat.closed _
  have hcc := closedC cs
  have hlcs : AV.closedL (mapE Chg.enc cs) = true := closed_mapE Chg.closed _
  have hadd : addF s e cs = addF s e cs := rfl
  unfold addF at hadd ⊢
  clear hadd
  generalize hck : checkF s = ck at P12c P42c P42kc P33c hok hpc hfw ⊢
  generalize hch : changesF cs = ch at P32c ⊢
  generalize hct : countF ⟨s.epoch, s.com, withF e cs false s.pend⟩ = ct at P33c ⊢
  have henc : s.enc = .agg [int s.epoch, .isl 3 (mapE Chg.enc s.com), .isl 2 (mapE Bat.enc s.pend)] := rfl
  have henc2 : (⟨s.epoch, s.com, withF e cs false s.pend⟩ : Snk).enc = .agg [int s.epoch, .isl 3 (mapE Chg.enc s.com), .isl 2 (mapE Bat.enc (withF e cs false s.pend))] := rfl
  rw [henc2] at P33c
  refine words fun iLt iLe iEq iNe iAdd iSub iMul iQuo iRem iShr iNeg iCvt iMax iMin bNot bEq bNe bAnd bOr sEq sNe sLen sCat sCut sAt lenA lenN iOf natOf atA atN cutA partA dropA catA setA repA putA idxN addN subN minN lenCut hX e_iLt e_iLe e_iEq e_iNe e_iAdd e_iSub e_iMul e_iQuo e_iRem e_iShr e_iNeg e_iCvt e_iMax e_iMin e_bNot e_bEq e_bNe e_bAnd e_bOr e_sEq e_sNe e_sLen e_sCat e_sCut e_sAt e_lenA e_lenN e_iOf e_natOf e_atA e_atN e_cutA e_partA e_dropA e_catA e_setA e_repA e_putA e_idxN e_addN e_subN e_minN e_lenCut ee => ?_
  rw [henc] at P12c P42c P42kc hcl ⊢
  generalize hec : mapE Chg.enc s.com = ec at P12c P42c P42kc P33c hcl henc hcom hclc henc2 ⊢
  generalize hep : mapE Bat.enc s.pend = ep at P12c P42c P42kc hcl henc hcp hclp ⊢
  generalize hecs : mapE Chg.enc cs = ecs at *
  have hcsl : ecs.length = cs.length := by rw [← hecs, mapE_len]
  have hfcs : fitB 3 ecs = true := by rw [← hecs]; exact fitL fitC _
  have hpl : ep.length = s.pend.length := by rw [← hep, mapE_len]
  have hcl2 : ec.length = s.com.length := by rw [← hec, mapE_len]
  generalize hsp : s.epoch = se at *
  refine fn_body (fn := Try.f22) (n := 82) (ac := Tryc22) (rvs := [.cell 6 3 true, .t 7]) rfl (by decide) Tryp22 rfl rfl rfl ?_
  refine go rfl hX 0 (by conv => lhs; cbv) ?_ ?_
  · first | exact trivial | (simp only [Cd.ok, ee]; and_intros <;> first | omega | rfl | (simp <;> omega))
  refine on_pcall rfl rfl rfl P12c (closed1 hcl) ?_
  refine go rfl hX 0 (by conv => lhs; cbv) ?_ ?_
  · first | exact trivial | (simp only [Cd.ok, ee]; and_intros <;> first | omega | rfl | (simp <;> omega))
  refine on_cond rfl (fun h1 => ?_) (fun h1 => ?_)
  · simp [ee, decide_eq_true_eq, decide_eq_false_iff_not, Bool.and_eq_true, Bool.or_eq_true, Bool.not_eq_true', Bool.not_eq_false', Bool.and_eq_false_iff, Bool.or_eq_false_iff, bne_iff_ne, beq_iff_eq, beq_eq_false_iff_ne, bne_eq_false_iff_eq, ne_eq, Int.not_lt, Int.not_le, Decidable.not_not] at h1
    rw [if_pos h1]
    refine go rfl hX 0 (by conv => lhs; cbv) ?_ ?_
    · first | exact trivial | (simp only [Cd.ok, ee]; and_intros <;> first | omega | rfl | (simp <;> omega))
    exact fn_ret rfl rfl fz0
  simp [ee, decide_eq_true_eq, decide_eq_false_iff_not, Bool.and_eq_true, Bool.or_eq_true, Bool.not_eq_true', Bool.not_eq_false', Bool.and_eq_false_iff, Bool.or_eq_false_iff, bne_iff_ne, beq_iff_eq, beq_eq_false_iff_ne, bne_eq_false_iff_eq, ne_eq, Int.not_lt, Int.not_le, Decidable.not_not] at h1
  subst h1
  rw [if_neg (by simp)]
  have P42c := P42c rfl
  have P42kc := P42kc rfl
  have P33c := P33c rfl
  have hpc := hpc rfl
  have hok := hok rfl
  refine go rfl hX 0 (by conv => lhs; cbv) ?_ ?_
  · first | exact trivial | (simp only [Cd.ok, ee]; and_intros <;> first | omega | rfl | (simp <;> omega))
  refine on_cond rfl (fun h2 => ?_) (fun h2 => ?_)
  · simp [ee, decide_eq_true_eq, decide_eq_false_iff_not, Bool.and_eq_true, Bool.or_eq_true, Bool.not_eq_true', Bool.not_eq_false', Bool.and_eq_false_iff, Bool.or_eq_false_iff, bne_iff_ne, beq_iff_eq, beq_eq_false_iff_ne, bne_eq_false_iff_eq, ne_eq, Int.not_lt, Int.not_le, Decidable.not_not] at h2
    rw [if_pos (by omega)]
    refine go rfl hX 0 (by conv => lhs; cbv) ?_ ?_
    · first | exact trivial | (simp only [Cd.ok, ee]; and_intros <;> first | omega | rfl | (simp <;> omega))
    exact fn_ret rfl rfl fz0
  simp [ee, decide_eq_true_eq, decide_eq_false_iff_not, Bool.and_eq_true, Bool.or_eq_true, Bool.not_eq_true', Bool.not_eq_false', Bool.and_eq_false_iff, Bool.or_eq_false_iff, bne_iff_ne, beq_iff_eq, beq_eq_false_iff_ne, bne_eq_false_iff_eq, ne_eq, Int.not_lt, Int.not_le, Decidable.not_not] at h2
  rw [if_neg (by omega)]
  refine go rfl hX 0 (by conv => lhs; cbv) ?_ ?_
  · first | exact trivial | (simp only [Cd.ok, ee]; and_intros <;> first | omega | rfl | (simp <;> omega))
  refine on_pcall rfl rfl rfl P32c (closed1 hcc) ?_
  refine go rfl hX 0 (by conv => lhs; cbv) ?_ ?_
  · first | exact trivial | (simp only [Cd.ok, ee]; and_intros <;> first | omega | rfl | (simp <;> omega))
  refine on_cond rfl (fun h3 => ?_) (fun h3 => ?_)
  · simp [ee, decide_eq_true_eq, decide_eq_false_iff_not, Bool.and_eq_true, Bool.or_eq_true, Bool.not_eq_true', Bool.not_eq_false', Bool.and_eq_false_iff, Bool.or_eq_false_iff, bne_iff_ne, beq_iff_eq, beq_eq_false_iff_ne, bne_eq_false_iff_eq, ne_eq, Int.not_lt, Int.not_le, Decidable.not_not] at h3
    rw [if_pos h3]
    refine go rfl hX 0 (by conv => lhs; cbv) ?_ ?_
    · first | exact trivial | (simp only [Cd.ok, ee]; and_intros <;> first | omega | rfl | (simp <;> omega))
    exact fn_ret rfl rfl fz0
  simp [ee, decide_eq_true_eq, decide_eq_false_iff_not, Bool.and_eq_true, Bool.or_eq_true, Bool.not_eq_true', Bool.not_eq_false', Bool.and_eq_false_iff, Bool.or_eq_false_iff, bne_iff_ne, beq_iff_eq, beq_eq_false_iff_ne, bne_eq_false_iff_eq, ne_eq, Int.not_lt, Int.not_le, Decidable.not_not] at h3
  rw [if_neg (by omega)]
  refine go rfl hX 0 (by conv => lhs; cbv) ?_ ?_
  · first | exact trivial | (simp only [Cd.ok, ee]; and_intros <;> first | omega | rfl | (simp <;> omega))
  generalize hcn : s.com.length = cn at P42c P42kc hcl2 hsum
  generalize hpn : s.pend.length = pn at P42c P42kc hpl hok
  rcases hpc with ⟨d, r, hspl, hd, hr⟩ | ⟨d, b, r, hspl, hb, hd, hr⟩
  · refine on_ocall (v' := .agg [int se, .sl 2 3 0 cn, .sl 3 2 0 pn]) (H' := [.arr 3 ec, .arr 2 ep]) rfl rfl rfl P42c (closed1 hcl) rfl (by simp [AObj.sub, subL_closed _ hclc, subL_closed _ hclp]) ?_
    refine go rfl hX 0 (by conv => lhs; cbv) ?_ ?_
    · first | exact trivial | (simp only [Cd.ok, ee]; and_intros <;> first | omega | rfl | (simp <;> omega))
    refine on_cond rfl (fun h4 => ?_) (fun h4 => ?_)
    · simp [ee, decide_eq_true_eq, decide_eq_false_iff_not, Bool.and_eq_true, Bool.or_eq_true, Bool.not_eq_true', Bool.not_eq_false', Bool.and_eq_false_iff, Bool.or_eq_false_iff, bne_iff_ne, beq_iff_eq, beq_eq_false_iff_ne, bne_eq_false_iff_eq, ne_eq, Int.not_lt, Int.not_le, Decidable.not_not] at h4
      rw [h4] at hcsl
      rw [if_pos (List.eq_nil_of_length_eq_zero hcsl.symm)]
      refine go rfl hX 0 (by conv => lhs; cbv) ?_ ?_
      · first | exact trivial | (simp only [Cd.ok, ee]; and_intros <;> first | omega | rfl | (simp <;> omega))
      refine fn_ret rfl rfl ⟨[.gone, .gone, .isl 3 ec, .isl 2 ep, .gone], ⟨trivial, trivial, ⟨ec, rfl, (subL_closed _ hclc).symm⟩, ⟨ep, rfl, (subL_closed _ hclp).symm⟩, trivial, trivial⟩, ?_⟩
      dsimp only
      rw [henc]
      exact .tup' ⟨.agg' ⟨.refl _, .of (sub_whole rfl hcl2.symm), .of (sub_whole rfl hpl.symm), trivial⟩, .refl _, trivial⟩
    simp [ee, decide_eq_true_eq, decide_eq_false_iff_not, Bool.and_eq_true, Bool.or_eq_true, Bool.not_eq_true', Bool.not_eq_false', Bool.and_eq_false_iff, Bool.or_eq_false_iff, bne_iff_ne, beq_iff_eq, beq_eq_false_iff_ne, bne_eq_false_iff_eq, ne_eq, Int.not_lt, Int.not_le, Decidable.not_not] at h4
    rw [if_neg (by intro h; apply h4; exact List.eq_nil_of_length_eq_zero (by rw [hcsl, h]; rfl))]
    have P43c := P43 s.pend d r e hspl hf.pend hd (fun b hb => by have := hr b hb; omega)
    have hff : foundF e r = false := by
      cases r with
      | nil => rfl
      | cons b r => have := hr b (by simp); simp [foundF]; omega
    rw [hff, hep] at P43c
    have hwn := with_new e cs d r hd hr
    rw [← hspl] at hwn
    have hdl : d.length ≤ pn := by rw [← hpn, hspl]; simp
    have hA : ep.take d.length ++ AV.agg [int e, .val (.slice none 0 0)] :: ep.drop d.length = mapE Bat.enc d ++ AV.agg [int e, .val (.slice none 0 0)] :: mapE Bat.enc r := by
      rw [← hep, hspl, mapE_eq, mapE_eq, mapE_eq, List.map_append, List.take_left' (by simp), List.drop_left' (by simp)]
    have P44c := P44 ep (.agg [int e, .val (.slice none 0 0)]) d.length (by omega) (by omega) hclp rfl (by rw [← hep]; exact fitL (fun b => rfl) _) rfl
    rw [hA, hpl] at P44c
    rw [hwn] at hct henc2 P33c ⊢
    have hcld : AV.closedL (mapE Bat.enc d) = true := closed_mapE Bat.closed _
    have hclr : AV.closedL (mapE Bat.enc r) = true := closed_mapE Bat.closed _
    have hel : (mapE Bat.enc d).length = d.length := mapE_len _ _
    have hmw : mapE Bat.enc (d ++ ⟨e, cs⟩ :: r) = mapE Bat.enc d ++ AV.agg [int e, .isl 3 ecs] :: mapE Bat.enc r := by
      rw [mapE_eq, mapE_eq, mapE_eq, List.map_append, List.map_cons]
      show _ ++ AV.agg [int e, .isl 3 (mapE Chg.enc cs)] :: _ = _
      rw [hecs]
    rw [hmw] at henc2 P33c
    have hwl : (d ++ (⟨e, cs⟩ : Bat) :: r).length = pn + 1 := by rw [← hpn, hspl]; simp; omega
    generalize mapE Bat.enc d = ed at *
    generalize mapE Bat.enc r = er at *
    generalize hdn : d.length = dn at P43c P44c hdl hel
    have hclA : AV.closedL (ed ++ AV.agg [int e, .val (.slice none 0 0)] :: er) = true := closedL_append hcld (by simp only [AV.closedL, hclr]; rfl)
    have hAt : atN (ed ++ AV.agg [int e, .val (.slice none 0 0)] :: er) dn = .agg [int e, .val (.slice none 0 0)] := by
      simp only [ee]
      rw [← hel]; simp
    have hAl : (ed ++ AV.agg [int e, .val (.slice none 0 0)] :: er).length = pn + 1 := by
      have := congrArg List.length hA; simp at this ⊢; omega
    generalize hAA : ed ++ AV.agg [int e, .val (.slice none 0 0)] :: er = A at hAt hclA hAl P44c
    have f1 : idxN 0 (dn : Int) = dn := by simp [ee]
    have hdI : (0 : Int) ≤ dn ∧ (dn : Int) < ((pn + 1 : Nat) : Int) := by omega
    generalize hdIe : (dn : Int) = dI at f1 hdI P43c P44c
    generalize hp1 : pn + 1 = p1 at hwl hAl hdI P44c
    refine go rfl hX 0 (by conv => lhs; cbv) ?_ ?_
    · first | exact trivial | (simp only [Cd.ok, ee]; and_intros <;> first | omega | rfl | (simp <;> omega))
    refine on_lcall (args := [.sl 3 2 0 pn, int e]) (args' := [.isl 2 ep, int e]) [.gone, .gone, .isl 3 ec, .isl 2 ep, .gone] rfl rfl rfl ⟨trivial, trivial, ⟨ec, rfl, (subL_closed _ hclc).symm⟩, ⟨ep, rfl, (subL_closed _ hclp).symm⟩, trivial, trivial⟩ ?_ P43c rfl ?_
    · show [AV.sub _ (.sl 3 2 0 pn), _] = _
      rw [sub_whole (es := ep) rfl hpl.symm]
      rfl
    have hbn : bNot false = true := by simp [ee]
    refine go rfl hX 1 (by conv => lhs; cbv; simp only [hbn,hbn]; cbv; simp only [hbn,hbn]; cbv) ?_ ?_
    · first | exact trivial | (simp only [Cd.ok, ee]; and_intros <;> first | omega | rfl | (simp <;> omega))
    refine on_fcall [3, 5] rfl rfl enters44 P44c (by decide) (by simp) ?_ rfl ?_
    · show _ = [AObj.arr 2 (AV.subL _ ep), AObj.arr 2 _]
      rw [subL_closed _ hclp]; rfl
    rintro v0 H1 ⟨rfl, rfl⟩ -
    refine on_entO (F' := [(55, .sl 3 2 0 p1), (11, int dI), (10, .ptr 1 0), (6, .ptr 0 0), (2, .isl 3 ecs)]) (H' := [.cells [int 0, .val (.slice none 0 0), .val (.slice none 0 0)], .cells [int se, .sl 2 3 0 cn, .undef], .arr 3 ec, .arr 2 A])
      (ent_sub [.gone, .to 0, .to 2, .gone, .to 1, .gone, .to 3] [some 1, some 4, some 2, some 6] ⟨trivial, ⟨by simp, rfl⟩, ⟨by simp, rfl⟩, trivial, ⟨by simp, rfl⟩, trivial, ⟨by simp, rfl⟩, trivial⟩
        ⟨osrc_cells (b := 1) rfl rfl rfl ⟨.refl _, .refl _, .refl _, trivial⟩, osrc_cells (b := 4) rfl rfl rfl ⟨.refl _, .refl _, .undef _, trivial⟩, osrc_arr (b := 2) rfl rfl rfl rfl hclc, osrc_arr (b := 6) rfl rfl rfl (subL_closed _ hclA) hclA, trivial⟩
        ⟨.refl _, .refl _, .refl _, .refl _, .cl hcc, trivial⟩) ?_
    refine go rfl hX 0 (by conv => lhs; cbv; simp only [f1,hAt,f1,hAt]; cbv; simp only [f1,hAt,f1,hAt]; cbv) ?_ ?_
    · first | exact trivial | (simp only [Cd.ok, ee]; and_intros <;> first | omega | rfl | (simp <;> omega))
    refine tr_drawB rfl (by conv => lhs; cbv) rfl ?_
    refine tr_go hX (by conv => lhs; cbv; simp only [f1,hAt,f1,hAt]; cbv; simp only [f1,hAt,f1,hAt]; cbv) ?_ ?_
    · simp only [Cd.ok, ee]; (and_intros <;> first | omega | rfl | assumption | skip)
    refine tr_nil ⟨rfl, ?_, ?_⟩
    · simp only [LooksL, lookAll, List.append, List.cons_append, List.nil_append, List.append_nil]; and_intros <;> first | trivial | (intro hp; first | rfl | exact absurd (show false = true from hp) Bool.false_ne_true)
    refine go rfl hX 0 (by conv => lhs; cbv) ?_ ?_
    · first | exact trivial | (simp only [Cd.ok, ee]; and_intros <;> first | omega | rfl | (simp <;> omega))
    refine on_cond rfl (fun h5 => ?_) (fun h5 => ?_)
    · simp [ee, decide_eq_true_eq, decide_eq_false_iff_not, Bool.and_eq_true, Bool.or_eq_true, Bool.not_eq_true', Bool.not_eq_false', Bool.and_eq_false_iff, Bool.or_eq_false_iff, bne_iff_ne, beq_iff_eq, beq_eq_false_iff_ne, bne_eq_false_iff_eq, ne_eq, Int.not_lt, Int.not_le, Decidable.not_not] at h5
      rw [if_pos (by omega)]
      refine go rfl hX 0 (by conv => lhs; cbv) ?_ ?_
      · first | exact trivial | (simp only [Cd.ok, ee]; and_intros <;> first | omega | rfl | (simp <;> omega))
      exact fn_ret rfl rfl fz0
    simp [ee, decide_eq_true_eq, decide_eq_false_iff_not, Bool.and_eq_true, Bool.or_eq_true, Bool.not_eq_true', Bool.not_eq_false', Bool.and_eq_false_iff, Bool.or_eq_false_iff, bne_iff_ne, beq_iff_eq, beq_eq_false_iff_ne, bne_eq_false_iff_eq, ne_eq, Int.not_lt, Int.not_le, Decidable.not_not] at h5
    rw [if_neg (by omega)]
    refine on_ent (F' := [(10, .ptr 1 0), (6, .ptr 0 0)]) (H' := [.cells [int 0, .val (.slice none 0 0), .val (.slice none 0 0)], .cells [int se, .sl 2 3 0 cn, .sl 3 2 0 p1], .arr 3 ec, .arr 2 (ed ++ [.agg [int e, .sl 4 3 0 ecs.length]] ++ er), .arr 3 ecs])
      (ent_sub [.to 0, .to 1, .to 2, .to 3, .to 4] [some 0, some 1, some 2, some 3, some 4] ⟨⟨by simp, rfl⟩, ⟨by simp, rfl⟩, ⟨by simp, rfl⟩, ⟨by simp, rfl⟩, ⟨by simp, rfl⟩, trivial⟩
        ⟨osrc_cells (b := 0) rfl rfl rfl ⟨.refl _, .refl _, .refl _, trivial⟩, osrc_cells (b := 1) rfl rfl rfl ⟨.refl _, .refl _, .refl _, trivial⟩, osrc_arr (b := 2) rfl rfl rfl rfl hclc, osrc_arrS (b := 3) rfl rfl rfl ?_, osrc_arr (b := 4) rfl rfl rfl rfl hlcs, trivial⟩
        ⟨.refl _, .refl _, trivial⟩) ?_
    · show AV.subL _ (setA A dn (.agg [int e, .sl 4 3 0 (lenN ecs)])) = _
      rw [← hAA]
      simp only [ee]
      rw [← hel]
      simp only [List.set_append_right _ _ (Nat.le_refl _), Nat.sub_self, List.set_cons_zero]
      rw [show ed ++ AV.agg [int e, .sl 4 3 0 ecs.length] :: er = ed ++ [.agg [int e, .sl 4 3 0 ecs.length]] ++ er by simp, subL_append, subL_append, subL_closed _ hcld, subL_closed _ hclr, sub_keep (m := 4) (j := 4) ?_]
      · rfl
      · rfl
    have hW : ∀ σ, σ 4 = .isl 3 ecs → AV.subL σ (ed ++ [.agg [int e, .sl 4 3 0 ecs.length]] ++ er) = ed ++ AV.agg [int e, .isl 3 ecs] :: er := by
      intro σ hσ
      rw [subL_append, subL_append, subL_closed _ hcld, subL_closed _ hclr]
      show ed ++ [AV.agg [_, AV.sub σ (.sl 4 3 0 ecs.length)]] ++ er = _
      rw [sub_whole (es := ecs) hσ rfl]
      simp [AV.sub]
    generalize hWW : ed ++ AV.agg [int e, .isl 3 ecs] :: er = W at hW P33c henc2
    generalize hA2 : ed ++ [.agg [int e, .sl 4 3 0 ecs.length]] ++ er = A2 at hW ⊢
    have hA2l : A2.length = p1 := by rw [← hA2, ← hAl, ← hAA]; simp
    have hWl : W.length = p1 := by rw [← hWW, ← hAl, ← hAA]; simp
    refine go rfl hX 0 (by conv => lhs; cbv) ?_ ?_
    · first | exact trivial | (simp only [Cd.ok, ee]; and_intros <;> first | omega | rfl | (simp <;> omega))
    refine on_lcall (args := [.agg [int se, .sl 2 3 0 cn, .sl 3 2 0 p1]]) (args' := [.agg [int se, .isl 3 ec, .isl 2 W]]) [.gone, .gone, .isl 3 ec, .isl 2 W, .isl 3 ecs] rfl rfl rfl ⟨trivial, trivial, ⟨ec, rfl, (subL_closed _ hclc).symm⟩, ⟨A2, rfl, (hW _ rfl).symm⟩, ⟨ecs, rfl, (subL_closed _ hlcs).symm⟩, trivial⟩ ?_ P33c rfl ?_
    · show [AV.agg [_, AV.sub _ (.sl 2 3 0 cn), AV.sub _ (.sl 3 2 0 p1)]] = _
      rw [sub_whole (es := ec) rfl hcl2.symm, sub_whole (es := W) rfl hWl.symm]
      rfl
    refine go rfl hX 0 (by conv => lhs; cbv) ?_ ?_
    · first | exact trivial | (simp only [Cd.ok, ee]; and_intros <;> first | omega | rfl | (simp <;> omega))
    refine on_cond rfl (fun h6 => ?_) (fun h6 => ?_)
    · simp [ee, decide_eq_true_eq, decide_eq_false_iff_not, Bool.and_eq_true, Bool.or_eq_true, Bool.not_eq_true', Bool.not_eq_false', Bool.and_eq_false_iff, Bool.or_eq_false_iff, bne_iff_ne, beq_iff_eq, beq_eq_false_iff_ne, bne_eq_false_iff_eq, ne_eq, Int.not_lt, Int.not_le, Decidable.not_not] at h6
      rw [if_pos (by omega)]
      refine go rfl hX 0 (by conv => lhs; cbv) ?_ ?_
      · first | exact trivial | (simp only [Cd.ok, ee]; and_intros <;> first | omega | rfl | (simp <;> omega))
      exact fn_ret rfl rfl fz0
    simp [ee, decide_eq_true_eq, decide_eq_false_iff_not, Bool.and_eq_true, Bool.or_eq_true, Bool.not_eq_true', Bool.not_eq_false', Bool.and_eq_false_iff, Bool.or_eq_false_iff, bne_iff_ne, beq_iff_eq, beq_eq_false_iff_ne, bne_eq_false_iff_eq, ne_eq, Int.not_lt, Int.not_le, Decidable.not_not] at h6
    rw [if_neg (by omega)]
    refine go rfl hX 0 (by conv => lhs; cbv) ?_ ?_
    · first | exact trivial | (simp only [Cd.ok, ee]; and_intros <;> first | omega | rfl | (simp <;> omega))
    refine fn_ret rfl rfl ⟨[.gone, .gone, .isl 3 ec, .isl 2 W, .isl 3 ecs], ⟨trivial, trivial, ⟨ec, rfl, (subL_closed _ hclc).symm⟩, ⟨A2, rfl, (hW _ rfl).symm⟩, ⟨ecs, rfl, (subL_closed _ hlcs).symm⟩, trivial⟩, ?_⟩
    dsimp only
    rw [henc2]
    exact .tup' ⟨.agg' ⟨.refl _, .of (sub_whole rfl hcl2.symm), .of (sub_whole rfl hWl.symm), trivial⟩, .refl _, trivial⟩
  · subst hb
    have P42c := P42kc d r b hspl
    have hbm : b ∈ s.pend := by rw [hspl]; simp
    have hbl := hsum.2 b hbm
    have P43c := P43 s.pend d (b :: r) b.epoch hspl hf.pend hd (fun x hx => by
      rcases List.mem_cons.1 hx with rfl | hx
      · exact Int.le_refl _
      · have := hr x hx; omega)
    have hff : foundF b.epoch (b :: r) = true := by simp [foundF]
    rw [hff, hep] at P43c
    have hwn := with_old b.epoch cs b rfl d r hd hr
    rw [← hspl] at hwn
    have hdl : d.length < pn := by rw [← hpn, hspl]; simp
    rw [hwn] at hct henc2 P33c ⊢
    have hcld : AV.closedL (mapE Bat.enc d) = true := closed_mapE Bat.closed _
    have hclr : AV.closedL (mapE Bat.enc r) = true := closed_mapE Bat.closed _
    have hclb : AV.closedL (mapE Chg.enc b.cs) = true := closed_mapE Chg.closed _
    have hel : (mapE Bat.enc d).length = d.length := mapE_len _ _
    have hbel : (mapE Chg.enc b.cs).length = b.cs.length := mapE_len _ _
    have hmw : mapE Bat.enc (d ++ ⟨b.epoch, b.cs ++ cs⟩ :: r) = mapE Bat.enc d ++ AV.agg [int b.epoch, .isl 3 (mapE Chg.enc b.cs ++ ecs)] :: mapE Bat.enc r := by
      rw [mapE_app, mapE_cons]
      show _ ++ AV.agg [int b.epoch, .isl 3 (mapE Chg.enc (b.cs ++ cs))] :: _ = _
      rw [mapE_app, hecs]
    rw [hmw] at henc2 P33c
    have hep2 : ep = mapE Bat.enc d ++ AV.agg [int b.epoch, .isl 3 (mapE Chg.enc b.cs)] :: mapE Bat.enc r := by
      rw [← hep, hspl, mapE_app, mapE_cons]
      rfl
    have hwl : (d ++ (⟨b.epoch, b.cs ++ cs⟩ : Bat) :: r).length = pn := by rw [← hpn, hspl]; simp
    have hfeb : fitB 3 (mapE Chg.enc b.cs) = true := fitL fitC _
    generalize mapE Bat.enc d = ed at *
    generalize mapE Bat.enc r = er at *
    generalize mapE Chg.enc b.cs = eb at *
    generalize hbn : b.cs.length = bn at P42c hbel hbl
    generalize hdn : d.length = dn at P43c hdl hel
    generalize hbe : b.epoch = e at *
    have hclA : ∀ σ, σ 4 = .to 4 → AV.subL σ (ed ++ [AV.agg [int e, .sl 4 3 0 bn]] ++ er) = ed ++ [AV.agg [int e, .sl 4 3 0 bn]] ++ er := by
      intro σ hσ
      rw [subL_append, subL_append, subL_closed _ hcld, subL_closed _ hclr, sub_keep (m := 4) (j := 4) hσ]
      rfl
    have hW0 : ∀ σ, σ 4 = .isl 3 eb → AV.subL σ (ed ++ [.agg [int e, .sl 4 3 0 bn]] ++ er) = ep := by
      intro σ hσ
      rw [subL_append, subL_append, subL_closed _ hcld, subL_closed _ hclr]
      show ed ++ [AV.agg [_, AV.sub σ (.sl 4 3 0 bn)]] ++ er = _
      rw [sub_whole (es := eb) hσ hbel.symm, hep2]
      simp [AV.sub]
    have hAt : atN (ed ++ [AV.agg [int e, .sl 4 3 0 bn]] ++ er) dn = .agg [int e, .sl 4 3 0 bn] := by
      simp only [ee]
      rw [← hel]; simp
    have hAl : (ed ++ [AV.agg [int e, .sl 4 3 0 bn]] ++ er).length = pn := by
      rw [← hpl, hep2]; simp
    have f1 : idxN 0 (dn : Int) = dn := by simp [ee]
    have hdI : (0 : Int) ≤ dn ∧ (dn : Int) < (pn : Int) := by omega
    generalize hdIe : (dn : Int) = dI at f1 hdI P43c
    refine on_ocall (v' := .agg [int se, .sl 2 3 0 cn, .sl 3 2 0 pn]) (H' := [.arr 3 ec, .arr 2 (ed ++ [AV.agg [int e, .sl 4 3 0 bn]] ++ er), .arr 3 eb]) rfl rfl rfl P42c (closed1 hcl) rfl ?_ ?_
    · show [AObj.arr 3 (AV.subL _ ec), AObj.arr 2 (AV.subL _ _), AObj.arr 3 (AV.subL _ eb)] = _
      rw [subL_closed _ hclc, subL_closed _ hclb, subL_append, subL_append, subL_closed _ hcld, subL_closed _ hclr, sub_keep (m := 2) (j := 4) rfl]
      rfl
    generalize hAA : ed ++ [AV.agg [int e, .sl 4 3 0 bn]] ++ er = A at hAt hclA hAl hW0
    refine go rfl hX 0 (by conv => lhs; cbv) ?_ ?_
    · first | exact trivial | (simp only [Cd.ok, ee]; and_intros <;> first | omega | rfl | (simp <;> omega))
    refine on_cond rfl (fun h4 => ?_) (fun h4 => ?_)
    · simp [ee, decide_eq_true_eq, decide_eq_false_iff_not, Bool.and_eq_true, Bool.or_eq_true, Bool.not_eq_true', Bool.not_eq_false', Bool.and_eq_false_iff, Bool.or_eq_false_iff, bne_iff_ne, beq_iff_eq, beq_eq_false_iff_ne, bne_eq_false_iff_eq, ne_eq, Int.not_lt, Int.not_le, Decidable.not_not] at h4
      rw [h4] at hcsl
      rw [if_pos (List.eq_nil_of_length_eq_zero hcsl.symm)]
      refine go rfl hX 0 (by conv => lhs; cbv) ?_ ?_
      · first | exact trivial | (simp only [Cd.ok, ee]; and_intros <;> first | omega | rfl | (simp <;> omega))
      refine fn_ret rfl rfl ⟨[.gone, .gone, .isl 3 ec, .isl 2 ep, .isl 3 eb, .gone], ⟨trivial, trivial, ⟨ec, rfl, (subL_closed _ hclc).symm⟩, ⟨A, rfl, (hW0 _ rfl).symm⟩, ⟨eb, rfl, (subL_closed _ hclb).symm⟩, trivial, trivial⟩, ?_⟩
      dsimp only
      rw [henc]
      exact .tup' ⟨.agg' ⟨.refl _, .of (sub_whole rfl hcl2.symm), .of (sub_whole rfl hpl.symm), trivial⟩, .refl _, trivial⟩
    simp [ee, decide_eq_true_eq, decide_eq_false_iff_not, Bool.and_eq_true, Bool.or_eq_true, Bool.not_eq_true', Bool.not_eq_false', Bool.and_eq_false_iff, Bool.or_eq_false_iff, bne_iff_ne, beq_iff_eq, beq_eq_false_iff_ne, bne_eq_false_iff_eq, ne_eq, Int.not_lt, Int.not_le, Decidable.not_not] at h4
    rw [if_neg (by intro h; apply h4; exact List.eq_nil_of_length_eq_zero (by rw [hcsl, h]; rfl))]
    refine go rfl hX 0 (by conv => lhs; cbv) ?_ ?_
    · first | exact trivial | (simp only [Cd.ok, ee]; and_intros <;> first | omega | rfl | (simp <;> omega))
    refine on_lcall (args := [.sl 3 2 0 pn, int e]) (args' := [.isl 2 ep, int e]) [.gone, .gone, .isl 3 ec, .isl 2 ep, .isl 3 eb, .gone] rfl rfl rfl ⟨trivial, trivial, ⟨ec, rfl, (subL_closed _ hclc).symm⟩, ⟨A, rfl, (hW0 _ rfl).symm⟩, ⟨eb, rfl, (subL_closed _ hclb).symm⟩, trivial, trivial⟩ ?_ P43c rfl ?_
    · show [AV.sub _ (.sl 3 2 0 pn), _] = _
      rw [sub_whole (es := ep) rfl hpl.symm]
      rfl
    have hbt : bNot true = false := by simp [ee]
    refine on_entO (F' := [(43, int e), (44, .tup [int dI, .val (.bool true)]), (10, .ptr 1 0), (6, .ptr 0 0), (2, .isl 3 ecs)]) (H' := [.cells [int 0, .val (.slice none 0 0), .val (.slice none 0 0)], .cells [int se, .sl 2 3 0 cn, .sl 3 2 0 pn], .arr 3 ec, .arr 2 A, .arr 3 eb])
      (ent_sub [.gone, .to 0, .to 2, .to 3, .to 4, .to 1] [some 1, some 5, some 2, some 3, some 4] ⟨trivial, ⟨by simp, rfl⟩, ⟨by simp, rfl⟩, ⟨by simp, rfl⟩, ⟨by simp, rfl⟩, ⟨by simp, rfl⟩, trivial⟩
        ⟨osrc_cells (b := 1) rfl rfl rfl ⟨.refl _, .refl _, .refl _, trivial⟩, osrc_cells (b := 5) rfl rfl rfl ⟨.refl _, .refl _, .refl _, trivial⟩, osrc_arr (b := 2) rfl rfl rfl rfl hclc, osrc_arrS (b := 3) rfl rfl rfl (hclA _ rfl), osrc_arr (b := 4) rfl rfl rfl rfl hclb, trivial⟩
        ⟨.refl _, .refl _, .refl _, .refl _, .cl hcc, trivial⟩) ?_
    refine go rfl hX 1 (by conv => lhs; cbv; simp only [hbt,f1,hAt,hbt,f1,hAt]; cbv; simp only [hbt,f1,hAt,hbt,f1,hAt]; cbv) ?_ ?_
    · first | exact trivial | (simp only [Cd.ok, ee]; and_intros <;> first | omega | rfl | (simp <;> omega))
    refine tr_drawB rfl (by conv => lhs; cbv) rfl ?_
    refine tr_go hX (by conv => lhs; cbv; simp only [f1,hAt,f1,hAt]; cbv; simp only [f1,hAt,f1,hAt]; cbv) ?_ ?_
    · simp only [Cd.ok, ee]; (and_intros <;> first | omega | rfl | assumption | skip)
    refine tr_nil ⟨rfl, ?_, ?_⟩
    · simp only [LooksL, lookAll, List.append, List.cons_append, List.nil_append, List.append_nil]; and_intros <;> first | trivial | (intro hp; first | rfl | exact absurd (show false = true from hp) Bool.false_ne_true)
    refine go rfl hX 0 (by conv => lhs; cbv) ?_ ?_
    · first | exact trivial | (simp only [Cd.ok, ee]; and_intros <;> first | omega | rfl | (simp <;> omega))
    refine on_cond rfl (fun h5 => ?_) (fun h5 => ?_)
    · exfalso
      simp [ee, decide_eq_true_eq, decide_eq_false_iff_not, Bool.and_eq_true, Bool.or_eq_true, Bool.not_eq_true', Bool.not_eq_false', Bool.and_eq_false_iff, Bool.or_eq_false_iff, bne_iff_ne, beq_iff_eq, beq_eq_false_iff_ne, bne_eq_false_iff_eq, ne_eq, Int.not_lt, Int.not_le, Decidable.not_not] at h5
      omega
    simp [ee, decide_eq_true_eq, decide_eq_false_iff_not, Bool.and_eq_true, Bool.or_eq_true, Bool.not_eq_true', Bool.not_eq_false', Bool.and_eq_false_iff, Bool.or_eq_false_iff, bne_iff_ne, beq_iff_eq, beq_eq_false_iff_ne, bne_eq_false_iff_eq, ne_eq, Int.not_lt, Int.not_le, Decidable.not_not] at h5
    rw [if_neg (by omega)]
    have hln : addN bn (lenN ecs) = bn + ecs.length := by simp [ee]
    have hcle : catA (dropA eb 0) ecs = eb ++ ecs := by simp [ee]
    rw [hln, hcle]
    have hebl : (eb ++ ecs).length = bn + ecs.length := by simp [hbel]
    have hcleb : AV.closedL (eb ++ ecs) = true := closedL_append hclb hlcs
    generalize eb ++ ecs = ebs at hebl hcleb P33c henc2 ⊢
    generalize bn + ecs.length = bs at hebl ⊢
    refine on_ent (F' := [(10, .ptr 1 0), (6, .ptr 0 0)]) (H' := [.cells [int 0, .val (.slice none 0 0), .val (.slice none 0 0)], .cells [int se, .sl 2 3 0 cn, .sl 3 2 0 pn], .arr 3 ec, .arr 2 (ed ++ [.agg [int e, .sl 4 3 0 bs]] ++ er), .arr 3 ebs])
      (ent_sub [.to 0, .to 1, .to 2, .to 3, .gone, .to 4] [some 0, some 1, some 2, some 3, some 5] ⟨⟨by simp, rfl⟩, ⟨by simp, rfl⟩, ⟨by simp, rfl⟩, ⟨by simp, rfl⟩, trivial, ⟨by simp, rfl⟩, trivial⟩
        ⟨osrc_cells (b := 0) rfl rfl rfl ⟨.refl _, .refl _, .refl _, trivial⟩, osrc_cells (b := 1) rfl rfl rfl ⟨.refl _, .refl _, .refl _, trivial⟩, osrc_arr (b := 2) rfl rfl rfl rfl hclc, osrc_arrS (b := 3) rfl rfl rfl ?_, osrc_arr (b := 5) rfl rfl rfl rfl hcleb, trivial⟩
        ⟨.refl _, .refl _, trivial⟩) ?_
    · show AV.subL _ (setA A dn (.agg [int e, .sl 5 3 0 bs])) = _
      rw [← hAA]
      simp only [ee]
      rw [← hel, List.append_assoc]
      simp only [List.set_append_right _ _ (Nat.le_refl _), Nat.sub_self, List.cons_append, List.nil_append, List.set_cons_zero]
      rw [show ed ++ AV.agg [int e, .sl 5 3 0 bs] :: er = ed ++ [.agg [int e, .sl 5 3 0 bs]] ++ er by simp, subL_append, subL_append, subL_closed _ hcld, subL_closed _ hclr, sub_keep (m := 5) (j := 4) ?_]
      · simp [AV.sub]
      · rfl
    have hW : ∀ σ, σ 4 = .isl 3 ebs → AV.subL σ (ed ++ [.agg [int e, .sl 4 3 0 bs]] ++ er) = ed ++ AV.agg [int e, .isl 3 ebs] :: er := by
      intro σ hσ
      rw [subL_append, subL_append, subL_closed _ hcld, subL_closed _ hclr]
      show ed ++ [AV.agg [_, AV.sub σ (.sl 4 3 0 bs)]] ++ er = _
      rw [sub_whole (es := ebs) hσ hebl.symm]
      simp [AV.sub]
    have hA2l : (ed ++ [AV.agg [int e, .sl 4 3 0 bs]] ++ er).length = pn := by rw [← hAl, ← hAA]; simp
    have hWl : (ed ++ AV.agg [int e, .isl 3 ebs] :: er).length = pn := by rw [← hAl, ← hAA]; simp
    generalize ed ++ AV.agg [int e, .isl 3 ebs] :: er = W at hW hWl P33c henc2
    generalize ed ++ [AV.agg [int e, .sl 4 3 0 bs]] ++ er = A2 at hW hA2l ⊢
    refine go rfl hX 0 (by conv => lhs; cbv) ?_ ?_
    · first | exact trivial | (simp only [Cd.ok, ee]; and_intros <;> first | omega | rfl | (simp <;> omega))
    refine on_lcall (args := [.agg [int se, .sl 2 3 0 cn, .sl 3 2 0 pn]]) (args' := [.agg [int se, .isl 3 ec, .isl 2 W]]) [.gone, .gone, .isl 3 ec, .isl 2 W, .isl 3 ebs] rfl rfl rfl ⟨trivial, trivial, ⟨ec, rfl, (subL_closed _ hclc).symm⟩, ⟨A2, rfl, (hW _ rfl).symm⟩, ⟨ebs, rfl, (subL_closed _ hcleb).symm⟩, trivial⟩ ?_ P33c rfl ?_
    · show [AV.agg [_, AV.sub _ (.sl 2 3 0 cn), AV.sub _ (.sl 3 2 0 pn)]] = _
      rw [sub_whole (es := ec) rfl hcl2.symm, sub_whole (es := W) rfl hWl.symm]
      rfl
    refine go rfl hX 0 (by conv => lhs; cbv) ?_ ?_
    · first | exact trivial | (simp only [Cd.ok, ee]; and_intros <;> first | omega | rfl | (simp <;> omega))
    refine on_cond rfl (fun h6 => ?_) (fun h6 => ?_)
    · simp [ee, decide_eq_true_eq, decide_eq_false_iff_not, Bool.and_eq_true, Bool.or_eq_true, Bool.not_eq_true', Bool.not_eq_false', Bool.and_eq_false_iff, Bool.or_eq_false_iff, bne_iff_ne, beq_iff_eq, beq_eq_false_iff_ne, bne_eq_false_iff_eq, ne_eq, Int.not_lt, Int.not_le, Decidable.not_not] at h6
      rw [if_pos (by omega)]
      refine go rfl hX 0 (by conv => lhs; cbv) ?_ ?_
      · first | exact trivial | (simp only [Cd.ok, ee]; and_intros <;> first | omega | rfl | (simp <;> omega))
      exact fn_ret rfl rfl fz0
    simp [ee, decide_eq_true_eq, decide_eq_false_iff_not, Bool.and_eq_true, Bool.or_eq_true, Bool.not_eq_true', Bool.not_eq_false', Bool.and_eq_false_iff, Bool.or_eq_false_iff, bne_iff_ne, beq_iff_eq, beq_eq_false_iff_ne, bne_eq_false_iff_eq, ne_eq, Int.not_lt, Int.not_le, Decidable.not_not] at h6
    rw [if_neg (by omega)]
    refine go rfl hX 0 (by conv => lhs; cbv) ?_ ?_
    · first | exact trivial | (simp only [Cd.ok, ee]; and_intros <;> first | omega | rfl | (simp <;> omega))
    refine fn_ret rfl rfl ⟨[.gone, .gone, .isl 3 ec, .isl 2 W, .isl 3 ebs], ⟨trivial, trivial, ⟨ec, rfl, (subL_closed _ hclc).symm⟩, ⟨A2, rfl, (hW _ rfl).symm⟩, ⟨ebs, rfl, (subL_closed _ hcleb).symm⟩, trivial⟩, ?_⟩
    dsimp only
    rw [henc2]
    exact .tup' ⟨.agg' ⟨.refl _, .of (sub_whole rfl hcl2.symm), .of (sub_whole rfl hWl.symm), trivial⟩, .refl _, trivial⟩
end Go.Am
end
section
set_option linter.unusedVariables false
set_option linter.unusedSimpArgs false
set_option maxRecDepth 20000
namespace Go.Am
open Go.Proofs

set_option maxHeartbeats 1000000 in
theorem P50 (bs : List Bat) (hbs : Short bs) (hcs : ∀ b ∈ bs, Short b.cs) (hn : (pendF bs).length < 500000000000) : PCall EE 50 [.val (.slice none 0 0), .fn 51 [.iptr [.isl 2 (mapE Bat.enc bs)]]] (.isl 3 (mapE Chg.enc (pendF bs))) := by
  have P51c := P51 bs hbs hcs
  have hcp := closedB bs
  refine words fun iLt iLe iEq iNe iAdd iSub iMul iQuo iRem iShr iNeg iCvt iMax iMin bNot bEq bNe bAnd bOr sEq sNe sLen sCat sCut sAt lenA lenN iOf natOf atA atN cutA partA dropA catA setA repA putA idxN addN subN minN lenCut hX e_iLt e_iLe e_iEq e_iNe e_iAdd e_iSub e_iMul e_iQuo e_iRem e_iShr e_iNeg e_iCvt e_iMax e_iMin e_bNot e_bEq e_bNe e_bAnd e_bOr e_sEq e_sNe e_sLen e_sCat e_sCut e_sAt e_lenA e_lenN e_iOf e_natOf e_atA e_atN e_cutA e_partA e_dropA e_catA e_setA e_repA e_putA e_idxN e_addN e_subN e_minN e_lenCut ee => ?_
  generalize hep : mapE Bat.enc bs = ep at P51c hcp ⊢
  have hfn : (AV.fn 51 [.iptr [.isl 2 ep]]).closed = true := closed1 (v := .iptr [.isl 2 ep]) (closed1 hcp)
  refine fn_body (fn := Try.f50) (n := 13) (ac := Tryc50) (rvs := [.t 4]) rfl (by decide) Tryp50 rfl rfl rfl ?_
  refine go rfl hX 0 (by conv => lhs; cbv) ?_ ?_
  · first | exact trivial | (simp only [Cd.ok, ee]; and_intros <;> first | omega | rfl | (simp <;> omega))
  refine on_ent (F' := [(6, .fn 51 [.iptr [.isl 2 ep]]), (2, .ptr 0 0)]) (H' := [.cells [.val (.slice none 0 0)], .dead]) (ent_sub [.to 0] [some 0, none] ⟨⟨by simp, rfl⟩, trivial⟩ ⟨osrc_cells (b := 0) rfl rfl rfl ⟨.refl _, trivial⟩, .dead, trivial⟩ ⟨.cl hfn, .refl _, trivial⟩) ?_
  refine on_rfun (g := 51) (cs := [.iptr [.isl 2 ep]]) rfl enters51 ?_
  generalize hasg : ACode.reg [{ dst := some 5, op := AOp.box (Opd.c (AV.agg [AV.val (Value.int IntKind.i64 0), AV.val (Value.int IntKind.i64 0), AV.val (Value.slice none 0 0)])), after := [], guard := none }, { dst := none, op := AOp.st 3 (Opd.t 5) (Opd.t 7), after := [0, 0], guard := none }] = asg
  generalize hbody : ACode.block 1 _ = body
  generalize hFF : ([(6, .fn 51 [.iptr [.isl 2 ep]]), (2, .ptr 0 0)] : AFr) = FF
  have hFs : ∀ σ, σ 0 = .to 0 → AFr.sub σ FF = FF := by
    intro σ h0
    subst hFF
    have h2 := sub_closed σ _ _ (Nat.le_refl _) hfn
    have h4 : (AV.ptr 0 0).sub σ = .ptr 0 0 := by simp only [AV.sub, h0]
    simp only [AFr.sub, List.map, h2, h4]
  have hfwk : ∀ M σ, σ 0 = .to 0 → FWk M σ FF FF := by
    intro M σ h0
    subst hFF
    have h4 : (AV.ptr 0 0).sub σ = .ptr 0 0 := by simp only [AV.sub, h0]
    exact ⟨.cl hfn, .of h4, trivial⟩
  refine ACall.mono (P51c (fun d => .cells [.sl 3 3 0 d.length]) (fun _ => .dead) (fun d => .arr 3 (mapE Chg.enc d)) (.loop FF 13 [7] asg body .ready none) _ rfl ?_ ?_ ?_) ?_
  · refine hent_sub [.to 0, .gone, .to 2] [some 0, some 1, some 2, none] rfl ⟨rfl, rfl, rfl, trivial⟩ (by simp) (by simp) ⟨⟨by simp, rfl⟩, trivial, ⟨by simp, rfl⟩, trivial⟩
      ⟨osrc_cells (b := 0) rfl rfl rfl ⟨.nilS 3 3 0 (by simp), trivial⟩, .dead, .some 2 _ _ rfl rfl rfl (.loop _ _ _ _ _ _ _ _ (hfwk _ _ rfl)), ?_, trivial⟩
    rw [mapE_nil]
    exact .none 3 rfl
  · intro d o ho
    simp only [List.mem_cons, List.not_mem_nil, or_false] at ho
    rcases ho with rfl | rfl | rfl | rfl
    · rfl
    · rfl
    · simp only [AObj.sub]; rw [hFs (keepS 4) rfl]
    · simp only [AObj.sub]; rw [subL_closed _ (closed_mapE Chg.closed _)]
  · intro d c r hd
    have hl := congrArg List.length hd
    simp only [List.length_append, List.length_cons] at hl
    have hcc := Chg.closed c
    have hcenc : c.enc = .agg [int c.sign, int c.query, .isl 4 (mapE Bnd.enc c.bs)] := rfl
    have hln : (d ++ [c]).length = d.length + 1 := by simp
    rw [← mapE_snoc, hln]
    have hces : AV.closedL (mapE Chg.enc d) = true := closed_mapE Chg.closed _
    have hesl : (mapE Chg.enc d).length = d.length := mapE_len _ _
    have hnb : d.length < 500000000000 := by omega
    rw [hcenc] at hcc ⊢
    generalize mapE Chg.enc d = es at hces hesl ⊢
    generalize d.length = n at hesl hnb ⊢
    generalize mapE Bnd.enc c.bs = ebn at hcc ⊢
    generalize c.sign = sg at hcc ⊢
    generalize c.query = qu at hcc ⊢
    subst hFF
    refine yield_round (l := 2) rfl rfl ?_
    rw [← hasg]
    refine go rfl hX 0 (by conv => lhs; cbv) ?_ ?_
    · first | exact trivial | (simp only [Cd.ok, ee]; and_intros <;> first | omega | rfl | (simp <;> omega))
    refine ⟨rfl, none, rfl, ?_⟩
    rw [← hbody]
    refine go rfl hX 0 (by conv => lhs; cbv) ?_ ?_
    · first | exact trivial | (simp only [Cd.ok, ee]; and_intros <;> first | omega | rfl | (simp <;> omega))
    refine ⟨none, rfl, rfl, ?_⟩
    refine hent_sub [.to 0, .gone, .to 2, .gone, .gone, .gone, .to 3] [some 0, some 1, some 2, some 6] rfl ⟨rfl, rfl, rfl, trivial⟩ (by simp) (by simp) ⟨⟨by simp, rfl⟩, trivial, ⟨by simp, rfl⟩, trivial, trivial, trivial, ⟨by simp, rfl⟩, trivial⟩
      ⟨osrc_cells (b := 0) rfl rfl rfl ⟨.of ?_, trivial⟩, .dead, .some 2 _ _ rfl rfl rfl (.loop _ _ _ _ _ _ _ _ (hfwk _ _ rfl)), osrc_arr (b := 6) rfl rfl rfl ?_ (closedL_append hces (closed1 hcc)), trivial⟩
    · simp only [ee]; rfl
    · simp only [ee]; rfl
  · rintro v H1 rfl
    refine ⟨.ready, none, rfl, by simp, ?_⟩
    have hces : AV.closedL (mapE Chg.enc (pendF bs)) = true := closed_mapE Chg.closed _
    have hesl : (mapE Chg.enc (pendF bs)).length = (pendF bs).length := mapE_len _ _
    generalize mapE Chg.enc (pendF bs) = es at hces hesl ⊢
    generalize (pendF bs).length = n at hesl ⊢
    subst hFF
    show Holds EE 13 0 _ (.out .normal) _ _ _
    refine go rfl hX 0 (by conv => lhs; cbv) ?_ ?_
    · first | exact trivial | (simp only [Cd.ok, ee]; and_intros <;> first | omega | rfl | (simp <;> omega))
    refine fn_ret rfl rfl ⟨[.gone, .gone, .gone, .isl 3 es], ⟨trivial, trivial, trivial, ⟨es, rfl, (subL_closed _ hces).symm⟩, trivial⟩, ?_⟩
    exact .of (sub_whole rfl hesl.symm)
theorem P38 (bs : List Bat) (hbs : Short bs) (hcs : ∀ b ∈ bs, Short b.cs) (hn : (pendF bs).length < 500000000000) : PCall EE 38 [.fn 51 [.iptr [.isl 2 (mapE Bat.enc bs)]]] (.isl 3 (mapE Chg.enc (pendF bs))) := by
  have P50c := P50 bs hbs hcs hn
  have hcp := closedB bs
  have hcl := closedC (pendF bs)
  refine words fun iLt iLe iEq iNe iAdd iSub iMul iQuo iRem iShr iNeg iCvt iMax iMin bNot bEq bNe bAnd bOr sEq sNe sLen sCat sCut sAt lenA lenN iOf natOf atA atN cutA partA dropA catA setA repA putA idxN addN subN minN lenCut hX e_iLt e_iLe e_iEq e_iNe e_iAdd e_iSub e_iMul e_iQuo e_iRem e_iShr e_iNeg e_iCvt e_iMax e_iMin e_bNot e_bEq e_bNe e_bAnd e_bOr e_sEq e_sNe e_sLen e_sCat e_sCut e_sAt e_lenA e_lenN e_iOf e_natOf e_atA e_atN e_cutA e_partA e_dropA e_catA e_setA e_repA e_putA e_idxN e_addN e_subN e_minN e_lenCut ee => ?_
  generalize hep : mapE Bat.enc bs = ep at P50c hcp ⊢
  generalize mapE Chg.enc (pendF bs) = es at P50c hcl ⊢
  have hfn : (AV.fn 51 [.iptr [.isl 2 ep]]).closed = true := closed1 (v := .iptr [.isl 2 ep]) (closed1 hcp)
  refine fn_body (fn := Try.f38) (n := 5) (ac := Tryc38) (rvs := [.t 2]) rfl (by decide) Tryp38 rfl rfl rfl ?_
  refine go rfl hX 0 (by conv => lhs; cbv) ?_ ?_
  · first | exact trivial | (simp only [Cd.ok, ee]; and_intros <;> first | omega | rfl | (simp <;> omega))
  refine on_pcall rfl rfl rfl P50c (closed2 rfl hfn) ?_
  refine go rfl hX 0 (by conv => lhs; cbv) ?_ ?_
  · first | exact trivial | (simp only [Cd.ok, ee]; and_intros <;> first | omega | rfl | (simp <;> omega))
  exact fn_ret rfl rfl (.none (.cl hcl))
theorem P15 (s : Snk) (hf : s.Fine) (hc : countF s < 500000000000) : PCall EE 15 [s.enc] (.isl 3 (mapE Chg.enc (pendF s.pend))) := by
  have P38c := P38 s.pend hf.pend (fun b hb => (hf.bats b hb).1) (by rw [pendF_len]; unfold countF at hc; omega)
  have P39c := P39 s.pend
  have hcp := closedB s.pend
  have hcom := closedC s.com
  have hcl := closedC (pendF s.pend)
  refine words fun iLt iLe iEq iNe iAdd iSub iMul iQuo iRem iShr iNeg iCvt iMax iMin bNot bEq bNe bAnd bOr sEq sNe sLen sCat sCut sAt lenA lenN iOf natOf atA atN cutA partA dropA catA setA repA putA idxN addN subN minN lenCut hX e_iLt e_iLe e_iEq e_iNe e_iAdd e_iSub e_iMul e_iQuo e_iRem e_iShr e_iNeg e_iCvt e_iMax e_iMin e_bNot e_bEq e_bNe e_bAnd e_bOr e_sEq e_sNe e_sLen e_sCat e_sCut e_sAt e_lenA e_lenN e_iOf e_natOf e_atA e_atN e_cutA e_partA e_dropA e_catA e_setA e_repA e_putA e_idxN e_addN e_subN e_minN e_lenCut ee => ?_
  have henc : s.enc = .agg [int s.epoch, .isl 3 (mapE Chg.enc s.com), .isl 2 (mapE Bat.enc s.pend)] := rfl
  rw [henc]
  generalize hep : mapE Bat.enc s.pend = ep at P38c P39c hcp ⊢
  generalize mapE Chg.enc (pendF s.pend) = es at P38c hcl ⊢
  generalize mapE Chg.enc s.com = ec at hcom ⊢
  generalize s.epoch = se
  have hfn : (AV.fn 51 [.iptr [.isl 2 ep]]).closed = true := closed1 (v := .iptr [.isl 2 ep]) (closed1 hcp)
  refine fn_body (fn := Try.f15) (n := 7) (ac := Tryc15) (rvs := [.t 2]) rfl (by decide) Tryp15 rfl rfl rfl ?_
  refine go rfl hX 0 (by conv => lhs; cbv) ?_ ?_
  · first | exact trivial | (simp only [Cd.ok, ee]; and_intros <;> first | omega | rfl | (simp <;> omega))
  refine on_pcall rfl rfl rfl P39c (closed1 hcp) ?_
  refine go rfl hX 0 (by conv => lhs; cbv) ?_ ?_
  · first | exact trivial | (simp only [Cd.ok, ee]; and_intros <;> first | omega | rfl | (simp <;> omega))
  refine on_pcall rfl rfl rfl P38c (closed1 hfn) ?_
  refine go rfl hX 0 (by conv => lhs; cbv) ?_ ?_
  · first | exact trivial | (simp only [Cd.ok, ee]; and_intros <;> first | omega | rfl | (simp <;> omega))
  exact fn_ret rfl rfl (.none (.cl hcl))
end Go.Am
end
section
set_option linter.unusedVariables false
set_option linter.unusedSimpArgs false
set_option maxRecDepth 20000
namespace Go.Am
open Go.Proofs

theorem P52 (n : Nat) (hn : n < 500000000000) : OCall EE 52 [.val (.slice none 0 0), int n] (.sl 0 3 0 0) [.arr 3 []] := by
  have hn0 : (0 : Int) ≤ n := by omega
  have hn1 : (n : Int) < 500000000000 := by omega
  generalize (n : Int) = m at hn0 hn1 ⊢
  refine words fun iLt iLe iEq iNe iAdd iSub iMul iQuo iRem iShr iNeg iCvt iMax iMin bNot bEq bNe bAnd bOr sEq sNe sLen sCat sCut sAt lenA lenN iOf natOf atA atN cutA partA dropA catA setA repA putA idxN addN subN minN lenCut hX e_iLt e_iLe e_iEq e_iNe e_iAdd e_iSub e_iMul e_iQuo e_iRem e_iShr e_iNeg e_iCvt e_iMax e_iMin e_bNot e_bEq e_bNe e_bAnd e_bOr e_sEq e_sNe e_sLen e_sCat e_sCut e_sAt e_lenA e_lenN e_iOf e_natOf e_atA e_atN e_cutA e_partA e_dropA e_catA e_setA e_repA e_putA e_idxN e_addN e_subN e_minN e_lenCut ee => ?_
  refine ocall_body (fn := Try.f52) (n := 27) (ac := Tryc52) (rvs := [.t 4]) rfl (by decide) Tryp52 rfl rfl rfl ?_
  refine go rfl hX 0 (by conv => lhs; cbv) ?_ ?_
  · first | exact trivial | (simp only [Cd.ok, ee]; and_intros <;> first | omega | rfl | (simp <;> omega))
  refine on_cond rfl (fun h1 => ?_) (fun h1 => ?_)
  · exfalso
    simp [ee, decide_eq_true_eq, decide_eq_false_iff_not, Bool.and_eq_true, Bool.or_eq_true, Bool.not_eq_true', Bool.not_eq_false', Bool.and_eq_false_iff, Bool.or_eq_false_iff, bne_iff_ne, beq_iff_eq, beq_eq_false_iff_ne, bne_eq_false_iff_eq, ne_eq, Int.not_lt, Int.not_le, Decidable.not_not] at h1
    omega
  have hs0 : iSub .i64 (Int.ofNat 0) (Int.ofNat 0) = 0 := by rw [e_iSub]; simp [Wd.iSub, IntKind.wrap_i64]
  have hs : iSub .i64 m 0 = m := by
    rw [e_iSub]; simp [Wd.iSub, IntKind.wrap_i64]; omega
  refine go rfl hX 0 (by conv => lhs; cbv; simp only [hs0,hs]; cbv) ?_ ?_
  · first | exact trivial | (simp only [Cd.ok, ee]; and_intros <;> first | omega | rfl | (simp <;> omega))
  refine on_cond rfl (fun h2 => ?_) (fun h2 => ?_)
  · simp [ee, decide_eq_true_eq, decide_eq_false_iff_not, Bool.and_eq_true, Bool.or_eq_true, Bool.not_eq_true', Bool.not_eq_false', Bool.and_eq_false_iff, Bool.or_eq_false_iff, bne_iff_ne, beq_iff_eq, beq_eq_false_iff_ne, bne_eq_false_iff_eq, ne_eq, Int.not_lt, Int.not_le, Decidable.not_not] at h2
    refine go rfl hX 0 (by conv => lhs; cbv) ?_ ?_
    · first | exact trivial | (simp only [Cd.ok, ee]; and_intros <;> first | omega | rfl | (simp <;> omega))
    exact o_ret (F2 := [(4, .sl 0 3 0 0)]) (H2 := [.arr 3 []]) (.trans (ent_trunc (b := 0) (m := 0) rfl (by simp)) (ent_sub [.to 0] [some 0] ⟨⟨by simp, rfl⟩, trivial⟩ ⟨osrc_arr (b := 0) rfl rfl rfl rfl rfl, trivial⟩ ⟨.of (by simp only [ee]; rfl), trivial⟩)) rfl ⟨rfl, rfl⟩
  · simp [ee, decide_eq_true_eq, decide_eq_false_iff_not, Bool.and_eq_true, Bool.or_eq_true, Bool.not_eq_true', Bool.not_eq_false', Bool.and_eq_false_iff, Bool.or_eq_false_iff, bne_iff_ne, beq_iff_eq, beq_eq_false_iff_ne, bne_eq_false_iff_eq, ne_eq, Int.not_lt, Int.not_le, Decidable.not_not] at h2
    refine go rfl hX 0 (by conv => lhs; cbv) ?_ ?_
    · first | exact trivial | (simp only [Cd.ok, ee]; and_intros <;> first | omega | rfl | (simp <;> omega))
    exact o_ret (F2 := [(4, .sl 0 3 0 0)]) (H2 := [.arr 3 []]) (ent_sub [] [none] trivial ⟨.none 3 rfl, trivial⟩ ⟨.nilS 0 3 0 (by simp), trivial⟩) rfl ⟨rfl, rfl⟩

noncomputable def encL (l : List Chg) : AV := .isl 3 (mapE Chg.enc l)
theorem closedL_encL (ls : List (List Chg)) : AV.closedL (mapE encL ls) = true := closed_mapE (fun l => closedC l) _
theorem enters52 : Enters EE.P 52 := enters_of (fn := Try.f52) (n := 27) (ac := Tryc52) rfl (by decide) Tryp52

set_option maxHeartbeats 1000000 in
theorem P41 (ls : List (List Chg)) (hs : Short ls) (hn : ls.flatten.length < 500000000000) : PCall EE 41 [.isl 1 (mapE encL ls)] (.isl 3 (mapE Chg.enc ls.flatten)) := by
  unfold Short at hs
  have P52c := P52 ls.flatten.length hn
  have hcl := closedL_encL ls
  refine words fun iLt iLe iEq iNe iAdd iSub iMul iQuo iRem iShr iNeg iCvt iMax iMin bNot bEq bNe bAnd bOr sEq sNe sLen sCat sCut sAt lenA lenN iOf natOf atA atN cutA partA dropA catA setA repA putA idxN addN subN minN lenCut hX e_iLt e_iLe e_iEq e_iNe e_iAdd e_iSub e_iMul e_iQuo e_iRem e_iShr e_iNeg e_iCvt e_iMax e_iMin e_bNot e_bEq e_bNe e_bAnd e_bOr e_sEq e_sNe e_sLen e_sCat e_sCut e_sAt e_lenA e_lenN e_iOf e_natOf e_atA e_atN e_cutA e_partA e_dropA e_catA e_setA e_repA e_putA e_idxN e_addN e_subN e_minN e_lenCut ee => ?_
  generalize hel : mapE encL ls = el at *
  have hell : el.length = ls.length := by rw [← hel, mapE_len]
  have hcle : (AV.isl 1 el).closed = true := hcl
  refine fn_body (fn := Try.f41) (n := 36) (ac := Tryc41) (rvs := [.t 2]) rfl (by decide) Tryp41 rfl rfl rfl ?_
  refine go rfl hX 0 (by conv => lhs; cbv) ?_ ?_
  · first | exact trivial | (simp only [Cd.ok, ee]; and_intros <;> first | omega | rfl | (simp <;> omega))
  refine on_loopP (ι := List (List Chg) × List (List Chg) × Int × Int) (fun p => ([(11, int p.2.2.1), (10, int (lenA el)), (9, .isl 1 el), (3, int p.2.2.2), (0, .isl 1 el)], []))
    (fun p => ls = p.1 ++ p.2.1 ∧ p.2.2.1 = p.1.length ∧ p.2.2.2 = p.1.flatten.length) (fun p => p.2.1.length) ([], ls, 0, 0) ⟨rfl, rfl, rfl⟩ (ent_fw ⟨.refl _, .refl _, .refl _, .refl _, .refl _, trivial⟩) ?_
  rintro ⟨d, r, i, tot⟩ ⟨g1, gi, gt⟩
  dsimp only at g1 gi gt ⊢
  cases r with
  | nil =>
    have L1 := len_split g1
    try simp only [List.length_cons, List.length_nil] at L1
    have hcd : iLt i (lenA el) = false := lt_f e_iLt e_lenA (by omega)
    refine go rfl hX 1 (by conv => lhs; cbv; simp only [hcd]; cbv) ?_ ?_
    · first | exact trivial | (simp only [Cd.ok, ee]; and_intros <;> first | omega | rfl | (simp <;> omega))
    refine loopP_exit ?_
    rw [List.append_nil] at g1
    rw [← g1] at gt
    rw [gt]
    generalize hN : ls.flatten.length = N at P52c hn
    generalize hNI : (N : Int) = NI at P52c
    refine go rfl hX 0 (by conv => lhs; cbv) ?_ ?_
    · first | exact trivial | (simp only [Cd.ok, ee]; and_intros <;> first | omega | rfl | (simp <;> omega))
    refine on_ocall (v' := .sl 0 3 0 0) (H' := [.arr 3 []]) rfl rfl rfl P52c rfl rfl rfl ?_
    refine go rfl hX 0 (by conv => lhs; cbv) ?_ ?_
    · first | exact trivial | (simp only [Cd.ok, ee]; and_intros <;> first | omega | rfl | (simp <;> omega))
    refine on_loopP (ι := List (List Chg) × List (List Chg) × Int × Nat × List AV) (fun p => ([(27, int p.2.2.1), (26, int (lenA el)), (25, .isl 1 el), (6, .sl 0 3 0 p.2.2.2.1)], [.arr 3 p.2.2.2.2]))
      (fun p => ls = p.1 ++ p.2.1 ∧ p.2.2.1 = p.1.length ∧ p.2.2.2.1 = p.1.flatten.length ∧ p.2.2.2.2 = mapE Chg.enc p.1.flatten) (fun p => p.2.1.length) ([], ls, 0, 0, []) ⟨rfl, rfl, rfl, by rw [mapE_eq]; rfl⟩ (ent_fw ⟨.refl _, .refl _, .refl _, .refl _, trivial⟩) ?_
    rintro ⟨d2, r2, i2, m, es⟩ ⟨k1, ki, km, ke⟩
    dsimp only at k1 ki km ke ⊢
    have hces : AV.closedL es = true := by rw [ke]; exact closed_mapE Chg.closed _
    have hesl : es.length = m := by rw [ke, mapE_len, km]
    cases r2 with
    | nil =>
      have L2 := len_split k1
      try simp only [List.length_cons, List.length_nil] at L2
      have hcd2 : iLt i2 (lenA el) = false := lt_f e_iLt e_lenA (by omega)
      refine go rfl hX 1 (by conv => lhs; cbv; simp only [hcd2]; cbv) ?_ ?_
      · first | exact trivial | (simp only [Cd.ok, ee]; and_intros <;> first | omega | rfl | (simp <;> omega))
      refine loopP_exit ?_
      refine go rfl hX 0 (by conv => lhs; cbv) ?_ ?_
      · first | exact trivial | (simp only [Cd.ok, ee]; and_intros <;> first | omega | rfl | (simp <;> omega))
      rw [List.append_nil] at k1
      rw [k1, ← ke]
      exact fn_ret rfl rfl ⟨[.isl 3 es], ⟨⟨es, rfl, (subL_closed _ hces).symm⟩, trivial⟩, .of (sub_whole rfl hesl.symm)⟩
    | cons l2 r2 =>
      have L2 := len_split k1
      try simp only [List.length_cons, List.length_nil] at L2
      have hcd2 : iLt i2 (lenA el) = true := lt_t e_iLt e_lenA (by omega)
      have ha := el_at e_atA hel k1 ki
      have henc : encL l2 = .isl 3 (mapE Chg.enc l2) := rfl
      have hl2 : (mapE Chg.enc l2).length = l2.length := mapE_len _ _
      have hfl2 : fitB 3 (mapE Chg.enc l2) = true := fitL fitC _
      have hce2 : AV.closedL (mapE Chg.enc l2) = true := closed_mapE Chg.closed _
      have hlt : m + l2.length < 500000000000 := by
        have := congrArg (fun l => (List.flatten l).length) k1
        simp only [List.flatten_append, List.flatten_cons, List.length_append] at this
        omega
      have hmf : mapE Chg.enc (d2 ++ [l2]).flatten = es ++ mapE Chg.enc l2 := by
        rw [ke, List.flatten_append, mapE_app]; simp
      rw [henc] at ha
      generalize mapE Chg.enc l2 = e2 at ha hl2 hfl2 hmf hce2
      refine go rfl hX 1 (by conv => lhs; cbv; simp only [hcd2,ha]; cbv; simp only [hcd2,ha]; cbv) ?_ ?_
      · first | exact trivial | (simp only [Cd.ok, ee]; and_intros <;> first | omega | rfl | (simp <;> omega))
      refine loopP_next (d2 ++ [l2], r2, iAdd .i64 i2 1, m + l2.length, es ++ e2) ⟨by simp [k1], ?_, by simp [km], hmf.symm⟩ (by simp)
        (ent_sub [.gone, .to 0] [some 1] ⟨trivial, ⟨by simp, rfl⟩, trivial⟩ ⟨osrc_arrS (b := 1) rfl rfl rfl ?_, trivial⟩ ⟨.refl _, .refl _, .cl hcle, .of ?_, trivial⟩)
      · simp only [List.length_append, List.length_cons, List.length_nil]; exact inc_w e_iAdd ki (by omega)
      · show AV.subL _ (catA (dropA es 0) e2) = es ++ e2
        simp only [ee, List.drop_zero]
        exact subL_closed _ (closedL_append hces hce2)
      · simp only [ee]
        rw [← hl2]; rfl
  | cons l r =>
    have L1 := len_split g1
    try simp only [List.length_cons, List.length_nil] at L1
    have hcd : iLt i (lenA el) = true := lt_t e_iLt e_lenA (by omega)
    have ha := el_at e_atA hel g1 gi
    have henc : encL l = .isl 3 (mapE Chg.enc l) := rfl
    have hl2 : (mapE Chg.enc l).length = l.length := mapE_len _ _
    have hlt : d.flatten.length + l.length < 500000000000 := by
      have := congrArg (fun l => (List.flatten l).length) g1
      simp only [List.flatten_append, List.flatten_cons, List.length_append] at this
      omega
    rw [henc] at ha
    generalize mapE Chg.enc l = e2 at ha hl2
    have hadd : iAdd .i64 tot (lenA e2) = tot + l.length := by rw [e_lenA]; simp only [Wd.lenA, hl2]; exact add_w e_iAdd (by omega) (by omega)
    generalize hta : tot + l.length = ta at hadd
    refine go rfl hX 1 (by conv => lhs; cbv; simp only [hcd,ha,hadd]; cbv; simp only [hcd,ha,hadd]; cbv; simp only [hcd,ha,hadd]; cbv) ?_ ?_
    · first | exact trivial | (simp only [Cd.ok, ee]; and_intros <;> first | omega | rfl | (simp <;> omega))
    refine on_cond rfl (fun h3 => ?_) (fun h3 => ?_)
    · exfalso
      simp [ee, decide_eq_true_eq, decide_eq_false_iff_not, Bool.and_eq_true, Bool.or_eq_true, Bool.not_eq_true', Bool.not_eq_false', Bool.and_eq_false_iff, Bool.or_eq_false_iff, bne_iff_ne, beq_iff_eq, beq_eq_false_iff_ne, bne_eq_false_iff_eq, ne_eq, Int.not_lt, Int.not_le, Decidable.not_not] at h3
      omega
    refine go rfl hX 0 (by conv => lhs; cbv) ?_ ?_
    · first | exact trivial | (simp only [Cd.ok, ee]; and_intros <;> first | omega | rfl | (simp <;> omega))
    refine loopP_next (d ++ [l], r, iAdd .i64 i 1, ta) ⟨by simp [g1], ?_, by rw [← hta, gt]; simp⟩ (by simp) (ent_fw ⟨.refl _, .refl _, .refl _, .refl _, .refl _, trivial⟩)
    simp only [List.length_append, List.length_cons, List.length_nil]; exact inc_w e_iAdd gi (by omega)
end Go.Am
end
section
set_option linter.unusedVariables false
set_option linter.unusedSimpArgs false
set_option maxRecDepth 20000
namespace Go.Am
open Go.Proofs

theorem enters41 : Enters EE.P 41 := enters_of (fn := Try.f41) (n := 36) (ac := Tryc41) rfl (by decide) Tryp41
theorem P17 (s : Snk) (hf : s.Fine) (hc : countF s < 500000000000) : PCall EE 17 [s.enc] (.isl 3 (mapE Chg.enc (s.com ++ pendF s.pend))) := by
  have P15c := P15 s hf hc
  have P41c := P41 [s.com, pendF s.pend] (by unfold Short; simp) (by simp [pendF_len]; unfold countF at hc; omega)
  have hcs := Snk.closed s
  have hcom := closedC s.com
  have hcpp := closedC (pendF s.pend)
  have hcp := closedB s.pend
  have hcl := closedC (s.com ++ pendF s.pend)
  have henc : s.enc = .agg [int s.epoch, .isl 3 (mapE Chg.enc s.com), .isl 2 (mapE Bat.enc s.pend)] := rfl
  have hels : mapE encL [s.com, pendF s.pend] = [.isl 3 (mapE Chg.enc s.com), .isl 3 (mapE Chg.enc (pendF s.pend))] := by rw [mapE_eq]; rfl
  rw [hels, show [s.com, pendF s.pend].flatten = s.com ++ pendF s.pend by simp] at P41c
  rw [henc] at P15c hcs ⊢
  generalize mapE Chg.enc (s.com ++ pendF s.pend) = er at P41c hcl ⊢
  generalize mapE Chg.enc (pendF s.pend) = epp at P41c P15c hcpp
  generalize mapE Chg.enc s.com = ec at *
  generalize mapE Bat.enc s.pend = ep at *
  generalize s.epoch = se at *
  refine words fun iLt iLe iEq iNe iAdd iSub iMul iQuo iRem iShr iNeg iCvt iMax iMin bNot bEq bNe bAnd bOr sEq sNe sLen sCat sCut sAt lenA lenN iOf natOf atA atN cutA partA dropA catA setA repA putA idxN addN subN minN lenCut hX e_iLt e_iLe e_iEq e_iNe e_iAdd e_iSub e_iMul e_iQuo e_iRem e_iShr e_iNeg e_iCvt e_iMax e_iMin e_bNot e_bEq e_bNe e_bAnd e_bOr e_sEq e_sNe e_sLen e_sCat e_sCut e_sAt e_lenA e_lenN e_iOf e_natOf e_atA e_atN e_cutA e_partA e_dropA e_catA e_setA e_repA e_putA e_idxN e_addN e_subN e_minN e_lenCut ee => ?_
  have hc2 : AV.closedL [.isl 3 ec, .isl 3 epp] = true := closed2 hcom hcpp
  refine fn_body (fn := Try.f17) (n := 9) (ac := Tryc17) (rvs := [.t 2]) rfl (by decide) Tryp17 rfl rfl rfl ?_
  refine go rfl hX 0 (by conv => lhs; cbv) ?_ ?_
  · first | exact trivial | (simp only [Cd.ok, ee]; and_intros <;> first | omega | rfl | (simp <;> omega))
  refine tr_drawB rfl (by conv => lhs; cbv) rfl ?_
  refine tr_go hX (by conv => lhs; cbv) ?_ ?_
  · first | exact trivial | (simp only [Cd.ok, ee]; and_intros <;> first | omega | rfl | (simp <;> omega))
  refine tr_pcall rfl rfl rfl P15c (closed1 hcs) ?_
  refine tr_go hX (by conv => lhs; cbv) ?_ ?_
  · first | exact trivial | (simp only [Cd.ok, ee]; and_intros <;> first | omega | rfl | (simp <;> omega))
  refine tr_ecall (args := [.sl 1 1 0 2]) rfl rfl rfl enters41 (PCall.give (H1 := [.cells [int se, .isl 3 ec, .isl 2 ep], .dead]) [.to 0, .isl 1 [.isl 3 ec, .isl 3 epp]] rfl ⟨⟨by simp, rfl⟩, ⟨_, rfl, (subL_closed _ hc2).symm⟩, trivial⟩ ⟨osrc_cells (b := 0) rfl rfl rfl ⟨.refl _, .cl hcom, .cl hcp, trivial⟩, .dead, trivial⟩ rfl P41c (closed1 hc2)) ?_
  refine tr_go hX (by conv => lhs; cbv) ?_ ?_
  · first | exact trivial | (simp only [Cd.ok, ee]; and_intros <;> first | omega | rfl | (simp <;> omega))
  refine tr_nil ⟨rfl, ?_, ?_⟩
  · simp only [LooksL, lookAll, List.append, List.cons_append, List.nil_append, List.append_nil]; and_intros <;> first | trivial | (intro hp; first | rfl | exact absurd (show false = true from hp) Bool.false_ne_true)
  refine go rfl hX 0 (by conv => lhs; cbv) ?_ ?_
  · first | exact trivial | (simp only [Cd.ok, ee]; and_intros <;> first | omega | rfl | (simp <;> omega))
  exact fn_ret rfl rfl (.none (.cl hcl))

theorem P20 : PCall EE 20 [] Snk0.enc := by
  refine words fun iLt iLe iEq iNe iAdd iSub iMul iQuo iRem iShr iNeg iCvt iMax iMin bNot bEq bNe bAnd bOr sEq sNe sLen sCat sCut sAt lenA lenN iOf natOf atA atN cutA partA dropA catA setA repA putA idxN addN subN minN lenCut hX e_iLt e_iLe e_iEq e_iNe e_iAdd e_iSub e_iMul e_iQuo e_iRem e_iShr e_iNeg e_iCvt e_iMax e_iMin e_bNot e_bEq e_bNe e_bAnd e_bOr e_sEq e_sNe e_sLen e_sCat e_sCut e_sAt e_lenA e_lenN e_iOf e_natOf e_atA e_atN e_cutA e_partA e_dropA e_catA e_setA e_repA e_putA e_idxN e_addN e_subN e_minN e_lenCut ee => ?_
  refine fn_body (fn := Try.f20) (n := 2) (ac := Tryc20) (rvs := [.cell 0 3 true]) rfl (by decide) Tryp20 rfl rfl rfl ?_
  refine go rfl hX 0 (by conv => lhs; cbv) ?_ ?_
  · first | exact trivial | (simp only [Cd.ok, ee]; and_intros <;> first | omega | rfl | (simp <;> omega))
  refine fn_ret rfl rfl (.none ?_)
  unfold Snk0 Snk.enc
  dsimp only
  rw [mapE_nil, mapE_nil]
  exact .agg' ⟨.refl _, .nilI 3, .nilI 2, trivial⟩

def beginsF (xs ys : List Chg) : Bool := decide (ys.length ≤ xs.length ∧ xs.take ys.length = ys)
theorem P28 (xs ys : List Chg) (hx : Fine xs) (hy : Short ys) : PCall EE 28 [.isl 3 (mapE Chg.enc xs), .isl 3 (mapE Chg.enc ys)] (.val (.bool (beginsF xs ys))) := by
  have P14c := P14 (xs.take ys.length) ys ⟨by have := hx.1; unfold Short at *; simp; omega, fun c hc => hx.2 c (List.mem_of_mem_take hc)⟩
  have hcx := closedC xs
  have hcy := closedC ys
  have hct := closedC (xs.take ys.length)
  have htk : (mapE Chg.enc xs).take ys.length = mapE Chg.enc (xs.take ys.length) := by rw [mapE_eq, mapE_eq, List.map_take]
  have hxl : (mapE Chg.enc xs).length = xs.length := mapE_len _ _
  have hyl : (mapE Chg.enc ys).length = ys.length := mapE_len _ _
  have hx1 := hx.1
  unfold Short at hx1 hy
  unfold beginsF
  generalize hdq : decide (xs.take ys.length = ys) = q at P14c
  generalize mapE Chg.enc (xs.take ys.length) = et at *
  generalize mapE Chg.enc xs = ex at *
  generalize mapE Chg.enc ys = ey at *
  refine words fun iLt iLe iEq iNe iAdd iSub iMul iQuo iRem iShr iNeg iCvt iMax iMin bNot bEq bNe bAnd bOr sEq sNe sLen sCat sCut sAt lenA lenN iOf natOf atA atN cutA partA dropA catA setA repA putA idxN addN subN minN lenCut hX e_iLt e_iLe e_iEq e_iNe e_iAdd e_iSub e_iMul e_iQuo e_iRem e_iShr e_iNeg e_iCvt e_iMax e_iMin e_bNot e_bEq e_bNe e_bAnd e_bOr e_sEq e_sNe e_sLen e_sCat e_sCut e_sAt e_lenA e_lenN e_iOf e_natOf e_atA e_atN e_cutA e_partA e_dropA e_catA e_setA e_repA e_putA e_idxN e_addN e_subN e_minN e_lenCut ee => ?_
  refine fn_body (fn := Try.f28) (n := 18) (ac := Tryc28) (rvs := [.t 4]) rfl (by decide) Tryp28 rfl rfl rfl ?_
  by_cases h : ys.length ≤ xs.length
  · have hle : iLe (lenA ey) (lenA ex) = true := by simp [ee, decide_eq_true_eq, decide_eq_false_iff_not, Bool.and_eq_true, Bool.or_eq_true, Bool.not_eq_true', Bool.not_eq_false', Bool.and_eq_false_iff, Bool.or_eq_false_iff, bne_iff_ne, beq_iff_eq, beq_eq_false_iff_ne, bne_eq_false_iff_eq, ne_eq, Int.not_lt, Int.not_le, Decidable.not_not]; omega
    refine go rfl hX 0 (by conv => lhs; cbv; simp only [hle]; cbv) ?_ ?_
    · first | exact trivial | (simp only [Cd.ok, ee]; and_intros <;> first | omega | rfl | (simp <;> omega))
    refine go rfl hX 5 (by conv => lhs; cbv) ?_ ?_
    · first | exact trivial | (simp only [Cd.ok, ee]; and_intros <;> first | omega | rfl | (simp <;> omega))
    refine on_gpcall (args := [.isl 3 et, .isl 3 ey]) rfl rfl rfl ?_ P14c (closed2 hct hcy) ?_
    · show [AV.isl 3 (cutA ex 0 (lenA ey)), _] = _
      simp only [ee]
      rw [← htk, ← hyl]
      simp
      rfl
    refine go rfl hX 0 (by conv => lhs; cbv) ?_ ?_
    · first | exact trivial | (simp only [Cd.ok, ee]; and_intros <;> first | omega | rfl | (simp <;> omega))
    refine fn_ret rfl rfl (.val ?_)
    rw [← hdq]; simp [h]
  · have hle : iLe (lenA ey) (lenA ex) = false := by simp [ee, decide_eq_true_eq, decide_eq_false_iff_not, Bool.and_eq_true, Bool.or_eq_true, Bool.not_eq_true', Bool.not_eq_false', Bool.and_eq_false_iff, Bool.or_eq_false_iff, bne_iff_ne, beq_iff_eq, beq_eq_false_iff_ne, bne_eq_false_iff_eq, ne_eq, Int.not_lt, Int.not_le, Decidable.not_not]; omega
    refine go rfl hX 0 (by conv => lhs; cbv; simp only [hle]; cbv) ?_ ?_
    · first | exact trivial | (simp only [Cd.ok, ee]; and_intros <;> first | omega | rfl | (simp <;> omega))
    refine go rfl hX 5 (by conv => lhs; cbv) ?_ ?_
    · first | exact trivial | (simp only [Cd.ok, ee]; and_intros <;> first | omega | rfl | (simp <;> omega))
    refine on_gskip rfl rfl ?_
    refine go rfl hX 1 (by conv => lhs; cbv) ?_ ?_
    · first | exact trivial | (simp only [Cd.ok, ee]; and_intros <;> first | omega | rfl | (simp <;> omega))
    refine fn_ret rfl rfl (.val ?_)
    simp [h]

theorem P31 (n : Int) : PCall EE 31 [int n] (Chg.enc ⟨1, 0, [⟨0, 1, 0, n⟩]⟩) := by
  refine words fun iLt iLe iEq iNe iAdd iSub iMul iQuo iRem iShr iNeg iCvt iMax iMin bNot bEq bNe bAnd bOr sEq sNe sLen sCat sCut sAt lenA lenN iOf natOf atA atN cutA partA dropA catA setA repA putA idxN addN subN minN lenCut hX e_iLt e_iLe e_iEq e_iNe e_iAdd e_iSub e_iMul e_iQuo e_iRem e_iShr e_iNeg e_iCvt e_iMax e_iMin e_bNot e_bEq e_bNe e_bAnd e_bOr e_sEq e_sNe e_sLen e_sCat e_sCut e_sAt e_lenA e_lenN e_iOf e_natOf e_atA e_atN e_cutA e_partA e_dropA e_catA e_setA e_repA e_putA e_idxN e_addN e_subN e_minN e_lenCut ee => ?_
  refine fn_body (fn := Try.f31) (n := 9) (ac := Tryc31) (rvs := [.cell 2 3 true]) rfl (by decide) Tryp31 rfl rfl rfl ?_
  refine go rfl hX 0 (by conv => lhs; cbv) ?_ ?_
  · first | exact trivial | (simp only [Cd.ok, ee]; and_intros <;> first | omega | rfl | (simp <;> omega))
  have he : Chg.enc ⟨1, 0, [⟨0, 1, 0, n⟩]⟩ = .agg [int 1, int 0, .isl 4 [.agg [int 0, int 1, int 0, int n]]] := by unfold Chg.enc; rw [mapE_eq]; rfl
  rw [he]
  exact fn_ret rfl rfl ⟨[.gone, .isl 4 [.agg [int 0, int 1, int 0, int n]]], ⟨trivial, ⟨_, rfl, rfl⟩, trivial⟩, .agg' ⟨.refl _, .refl _, .of (sub_whole rfl rfl), trivial⟩⟩
end Go.Am
end
section
set_option linter.unusedVariables false
set_option linter.unusedSimpArgs false
set_option maxRecDepth 20000
namespace Go.Am
open Go.Proofs

def emF (n : Int) : Chg := ⟨1, 0, [⟨0, 1, 0, n⟩]⟩
def aw1 : Snk := ⟨0, [], [⟨1, [emF 1, emF 2]⟩]⟩
def aw2 : Snk := ⟨0, [], [⟨1, [emF 1, emF 2]⟩, ⟨3, [emF 3]⟩]⟩
def aw3 : Snk := ⟨0, [], [⟨1, [emF 1, emF 2, emF 4]⟩, ⟨3, [emF 3]⟩]⟩
def aw4 : Snk := ⟨2, [emF 1, emF 2, emF 4], [⟨3, [emF 3]⟩]⟩
def aw5 : Snk := ⟨2, [emF 1, emF 2, emF 4], []⟩
theorem aw_1 : addF Snk0 1 [emF 1, emF 2] = (aw1, 0) := by rfl
theorem aw_2 : addF aw1 3 [emF 3] = (aw2, 0) := by rfl
theorem aw_3 : addF aw2 1 [emF 4] = (aw3, 0) := by rfl
theorem aw_4 : commitF aw3 2 = (aw4, 0) := by rfl
theorem aw_5 : addF aw4 2 [emF 1] = (Snk0, 29) := by rfl
theorem aw_6 : abortF aw4 2 = (aw5, 0) := by rfl
theorem aw_7 : commitF aw5 1 = (aw5, 0) := by rfl
end Go.Am
end
