/- Contracts of the program's functions, for every argument that meets the conditions that each theorem names. -/
import Derived.Test.YtehpdnkachbakaaDoorAm6
import Derived.Test.YtehpdnkachbakaaDoorCt5
import Derived.Test.YtehpdnkachbakaaDoorCt3
import Derived.Test.YtehpdnkachbakaaDoorCt2
import Derived.Test.YtehpdnkachbakaaDoorCt4
section
set_option maxHeartbeats 16000000
set_option maxRecDepth 100000
namespace Go.Am
open Go.Proofs
abbrev u8 (n : Int) : AV := .val (.int .u8 n)
theorem idxE_bd {α : Type} (F : α → Int) : ∀ l : List α, 0 ≤ idxE F l ∧ idxE F l ≤ l.length
 | [] => by simp [idxE]
 | x :: r => by
  have := idxE_bd F r
  rw [idxE, List.length_cons]
  split
  · omega
  split <;> omega
theorem scI_bd (p : Pat) : 0 ≤ p.scI ∧ p.scI ≤ p.cnt := by
 unfold Pat.scI
 split
 · omega
 · have := idxE_bd condE (Pat.lf PlcS p)
   rw [Pat.lf_len] at this
   exact this
theorem leafV_enc (o v : Int) : (leafV o v).enc = .agg [int o, .isl 8 [], int v, int 0, int 0, int 0, int 0, str ⟨#[]⟩] := by
 rw [leafV, Ex.enc_mk, mapE_eq]; rfl
theorem ex0_enc : Ex0.enc = .agg [int 0, .isl 8 [], int 0, int 0, int 0, int 0, int 0, str ⟨#[]⟩] := by
 rw [Ex0, Ex.enc_mk, mapE_eq]; rfl
theorem P_lawRepeats (p : Pat) (v : Int) (hv : 0 ≤ v ∧ v < 256) (hs : p.Sm) : PCall EE 4 [p.enc, u8 v] (bool true) := by
 have q0 := P_pattern_Size p hs
 have q1 := P_ref15_Few p hs
 have q3 := P_pattern_Check p hs
 have q4 := P_awake
 have q5 := P_scCheck p hs
 obtain ⟨w, hw⟩ : ∃ w : Int, w = v.tmod 16 := ⟨_, rfl⟩
 have hw2 : 0 ≤ w ∧ w < 16 := by rw [hw, Int.tmod_eq_emod_of_nonneg hv.1]; omega
 have he0 : Ex0.Sm := by simp [Ex.Sm, Ex0, Ex.cnt, Ex.cntL]
 have q6 := fun h => P_scCheck (wrapP 4 p Ex0) (wrap_sm hs he0 h)
 have hls : ∀ o, (leafV o w).Sm := fun o => by simp [Ex.Sm, leafV, Ex.cnt, Ex.cntL]
 have q7 := fun h => P_Returns (wrapP 4 p Ex0) [leafV 2 w] (wrap_sm hs he0 h) (fun x hx => by rw [List.mem_singleton.1 hx]; exact hls 2) (by simp)
 have q8 := fun h => P_Returns (wrapP 4 p Ex0) [leafV 3 w] (wrap_sm hs he0 h) (fun x hx => by rw [List.mem_singleton.1 hx]; exact hls 3) (by simp)
 have q9 := P_Bound p hs
 have qA := fun h => P_Contains p.bound w (by have := bound_len (chk_wf (p := p) h); omega)
 have hpl := fun h1 h2 h3 => repeats_plain (p := p) h1 h2 h3
 have hrt := fun h1 h2 h3 => repeats_rt (p := p) h1 h2 h3 w hw2
 have hsi := scI_bd p
 have kc1 := Pat.closed p
 have kc2 := closedI_int p.bound
 obtain ⟨n, hn⟩ : ∃ n : Int, n = (p.cnt : Int) := ⟨_, rfl⟩
 obtain ⟨d, hd⟩ : ∃ d : Int, d = (p.dep : Int) := ⟨_, rfl⟩
 rw [← hn, ← hd] at q0
 rw [← hn] at hsi
 generalize p.cnt = pn at *
 generalize p.dep = pd at *
 generalize p.few = fp at *
 generalize p.chk = ck at *
 generalize p.scE = se at *
 generalize p.scI = si at *
 generalize (wrapP 4 p Ex0).scE = we at *
 generalize (wrapP 4 p Ex0).scI = wi at *
 generalize (wrapP 4 p Ex0).rtE [leafV 2 w] = r2 at *
 generalize (wrapP 4 p Ex0).rtE [leafV 3 w] = r3 at *
 generalize (wrapP 4 p Ex0).rtI [leafV 2 w] = i2 at *
 generalize (wrapP 4 p Ex0).rtI [leafV 3 w] = i3 at *
 have hb : ∀ x : Int, (if w ∈ p.bound then x else 10) = if decide (w ∈ p.bound) = true then x else 10 := fun x => by simp
 rw [hb 11, hb 0] at hrt
 generalize decide (w ∈ p.bound) = bd at *
 clear hb hls
 have hwe := Pat.enc_c 4 [p] 0 0 0 0 ex0_enc
 unfold wrapP at q6 q7 q8
 rw [hwe] at q6 q7 q8
 simp only [mapE_eq, List.map_cons, List.map_nil, List.cons_append, List.nil_append, leafV_enc] at q6 q7 q8
 generalize mapE int p.bound = bs at *
 obtain ⟨pO, pA, pT, pV, pS, pN, pCo, pCa, pCv, pCf, pCk, pXk, pXn, pXt, hx⟩ := Pat.form p
 rw [hx] at q0 q1 q3 q5 q6 q7 q8 q9 kc1 ⊢
 have wP : Wk2 0 (.agg [int 4, .isl 14 [.agg [int pO, .isl 14 pA, int pT, int pV, int pS, int pN, int pCo, .isl 8 pCa, int pCv, int pCf, int pCk, int pXk, int pXn, str pXt]], int 0, int 0, int 0, int 0, int 0, .val (.slice none 0 0), int 0, int 0, int 0, int 0, int 0, str ⟨#[]⟩]) (.agg [int 4, .isl 14 [.agg [int pO, .isl 14 pA, int pT, int pV, int pS, int pN, int pCo, .isl 8 pCa, int pCv, int pCf, int pCk, int pXk, int pXn, str pXt]], int 0, int 0, int 0, int 0, int 0, .isl 8 [], int 0, int 0, int 0, int 0, int 0, str ⟨#[]⟩]) :=
  .agg' ⟨.refl _, .refl _, .refl _, .refl _, .refl _, .refl _, .refl _, .nilI _, .refl _, .refl _, .refl _, .refl _, .refl _, .refl _, trivial⟩
 have wE : ∀ o : Int, Wk2 0 (.isl 8 [.agg [int o, .val (.slice none 0 0), int w, int 0, int 0, int 0, int 0, str ⟨#[]⟩]]) (.isl 8 [.agg [int o, .isl 8 [], int w, int 0, int 0, int 0, int 0, str ⟨#[]⟩]]) := fun o =>
  .isl' ⟨⟨.refl _, .nilI _, .refl _, .refl _, .refl _, .refl _, .refl _, .refl _, trivial⟩, trivial⟩
 have q6 := fun h => (q6 h).weakA (args := [_]) ⟨wP, trivial⟩
 have q7 := fun h => (q7 h).weakA (args := [_, _]) ⟨wP, wE 2, trivial⟩
 have q8 := fun h => (q8 h).weakA (args := [_, _]) ⟨wP, wE 3, trivial⟩
 clear hx hs hwe wP wE he0
 have kL1 : AV.closedL [.agg [int pO, .isl 14 pA, int pT, int pV, int pS, int pN, int pCo, .isl 8 pCa, int pCv, int pCf, int pCk, int pXk, int pXn, str pXt]] = true := closed1 kc1
 refine wordsN ?_; unhygienic intros
 have t1 : ∀ x : Int, iEq x x = true := fun x => by simp only [ee]; simp
 have t2 : ∀ x : Int, iNe x x = false := fun x => by simp only [ee]; simp
 have n0 : bNot false = true := by simp only [ee]; rfl
 have n1 : bNot true = false := by simp only [ee]; rfl
 have kw : iCvt .i64 (iRem v 16) = w := by
  simp only [ee]
  rw [← hw, wrap64 (by omega) (by omega)]
 refine fn_body (fn := Tryd.f4) (n := 118) (ac := Trydc4) (rvs := [.t 4]) rfl (by decide) Trydp4 rfl rfl rfl ?_
 cases fp with
 | false =>
  refine goA 60 ?_
  refine oPA q0 ?_
  refine goA 60 ?_
  refine oPA q1 ?_
  refine goB hX 0 (by conv => lhs; cbv; try simp only [n0]; cbv; try simp only [n0]; cbv; try simp only [n0]; cbv; try simp only [n0]; cbv) ?_
  refine on_guard rfl rfl (fun c1 => ?_) (fun c1 => ?_)
  ·
   simp [ee] at c1
   refine goA 60 ?_
   refine on_gskip rfl rfl ?_
   refine goA 60 ?_
   refine oPA q4 ?_
   refine goA 60 ?_
   refine fn_ret rfl rfl (.val ?_)
   rfl
  ·
   simp [ee] at c1
 | true =>
 by_cases h1 : 64 ≤ n
 · have k1 : iLe 64 n = true := by simp only [ee]; simpa using h1
   refine goA 60 ?_
   refine oPA q0 ?_
   refine goA 60 ?_
   refine oPA q1 ?_
   refine goB hX 0 (by conv => lhs; cbv; try simp only [n1, k1]; cbv; try simp only [n1, k1]; cbv; try simp only [n1, k1]; cbv; try simp only [n1, k1]; cbv) ?_
   refine on_guard rfl rfl (fun c1 => ?_) (fun c1 => ?_)
   ·
    simp [ee] at c1
    refine goA 60 ?_
    refine on_gskip rfl rfl ?_
    refine goA 60 ?_
    refine oPA q4 ?_
    refine goA 60 ?_
    refine fn_ret rfl rfl (.val ?_)
    rfl
   ·
    simp [ee] at c1
 have k1 : iLe 64 n = false := by simp only [ee]; simpa using h1
 by_cases h2 : 12 ≤ d
 · have k2 : iLe 12 d = true := by simp only [ee]; simpa using h2
   refine goA 60 ?_
   refine oPA q0 ?_
   refine goA 60 ?_
   refine oPA q1 ?_
   refine goB hX 0 (by conv => lhs; cbv; try simp only [n1, k1, k2]; cbv; try simp only [n1, k1, k2]; cbv; try simp only [n1, k1, k2]; cbv; try simp only [n1, k1, k2]; cbv) ?_
   refine on_guard rfl rfl (fun c1 => ?_) (fun c1 => ?_)
   ·
    simp [ee] at c1
    refine goA 60 ?_
    refine on_gskip rfl rfl ?_
    refine goA 60 ?_
    refine oPA q4 ?_
    refine goA 60 ?_
    refine fn_ret rfl rfl (.val ?_)
    rfl
   ·
    simp [ee] at c1
 have k2 : iLe 12 d = false := by simp only [ee]; simpa using h2
 by_cases h3 : ck = 0
 rotate_left
 · have k3 : iNe ck 0 = true := by simp only [ee]; simpa using h3
   refine goA 60 ?_
   refine oPA q0 ?_
   refine goA 60 ?_
   refine oPA q1 ?_
   refine goB hX 0 (by conv => lhs; cbv; try simp only [n1, k1, k2, k3]; cbv; try simp only [n1, k1, k2, k3]; cbv; try simp only [n1, k1, k2, k3]; cbv; try simp only [n1, k1, k2, k3]; cbv) ?_
   refine on_guard rfl rfl (fun c1 => ?_) (fun c1 => ?_)
   ·
    simp [ee] at c1
   ·
    simp [ee] at c1
    refine goA 60 ?_
    refine oPG q3 ?_
    refine goB hX 0 (by conv => lhs; cbv; try simp only [n1, k1, k2, k3]; cbv; try simp only [n1, k1, k2, k3]; cbv; try simp only [n1, k1, k2, k3]; cbv; try simp only [n1, k1, k2, k3]; cbv) ?_
    refine on_cond rfl (fun c2 => ?_) (fun c2 => ?_)
    ·
     simp [ee] at c2
     refine goA 60 ?_
     refine oPA q4 ?_
     refine goA 60 ?_
     refine fn_ret rfl rfl (.val ?_)
     rfl
    ·
     simp [ee] at c2
 have k3 : iNe ck 0 = false := by simp only [ee]; simpa using h3
 obtain ⟨r1, r4⟩ := hpl h3 (by omega) (by omega)
 obtain ⟨r5, r6⟩ := hrt h3 (by omega) (by omega)
 have q6 := q6 (by omega)
 have q7 := q7 (by omega)
 have q8 := q8 (by omega)
 have qA := qA h3
 clear hpl hrt
 subst r1
 have w1 : ∀ k : Bool, iEq (if k = true then (11 : Int) else 10) 11 = k := fun k => by simp only [ee]; cases k <;> rfl
 cases bd with
 | false =>
  rw [if_neg (by decide)] at r5 r6
  subst r5 r6
  by_cases h4 : we = 0
  · subst h4
    rw [if_neg (by decide)] at r4
    subst r4
    refine goA 60 ?_
    refine oPA q0 ?_
    refine goA 60 ?_
    refine oPA q1 ?_
    refine goB hX 0 (by conv => lhs; cbv; try simp only [n1, k1, k2, k3, t1, t2, kw]; cbv; try simp only [n1, k1, k2, k3, t1, t2, kw]; cbv; try simp only [n1, k1, k2, k3, t1, t2, kw]; cbv; try simp only [n1, k1, k2, k3, t1, t2, kw]; cbv) ?_
    refine on_guard rfl rfl (fun c1 => ?_) (fun c1 => ?_)
    ·
     simp [ee] at c1
    ·
     simp [ee] at c1
     refine goA 60 ?_
     refine oPG q3 ?_
     refine goB hX 0 (by conv => lhs; cbv; try simp only [n1, k1, k2, k3, t1, t2, kw]; cbv; try simp only [n1, k1, k2, k3, t1, t2, kw]; cbv; try simp only [n1, k1, k2, k3, t1, t2, kw]; cbv; try simp only [n1, k1, k2, k3, t1, t2, kw]; cbv) ?_
     refine on_cond rfl (fun c2 => ?_) (fun c2 => ?_)
     ·
      simp [ee] at c2
     ·
      simp [ee] at c2
      refine goA 60 ?_
      refine oPA q5 ?_
      refine goA 60 ?_
      refine on_lend rfl rfl q6 rfl ⟨[.gone, .isl 14 ([AV.agg [AV.val (Value.int IntKind.i64 pO), AV.isl 14 pA, AV.val (Value.int IntKind.i64 pT), AV.val (Value.int IntKind.i64 pV), AV.val (Value.int IntKind.i64 pS), AV.val (Value.int IntKind.i64 pN), AV.val (Value.int IntKind.i64 pCo), AV.isl 8 pCa, AV.val (Value.int IntKind.i64 pCv), AV.val (Value.int IntKind.i64 pCf), AV.val (Value.int IntKind.i64 pCk), AV.val (Value.int IntKind.i64 pXk), AV.val (Value.int IntKind.i64 pXn), AV.val (Value.string pXt)]]), .gone], ⟨trivial, ⟨_, rfl, (subL_closed _ kL1).symm⟩, trivial, trivial⟩, ⟨.refl _, trivial⟩⟩ ?_
      refine goB hX 0 (by conv => lhs; cbv; try simp only [n1, k1, k2, k3, t1, t2, kw]; cbv; try simp only [n1, k1, k2, k3, t1, t2, kw]; cbv; try simp only [n1, k1, k2, k3, t1, t2, kw]; cbv; try simp only [n1, k1, k2, k3, t1, t2, kw]; cbv) ?_
      refine goB hX 1 (by conv => lhs; cbv; try simp only [n1, k1, k2, k3, t1, t2, kw]; cbv; try simp only [n1, k1, k2, k3, t1, t2, kw]; cbv; try simp only [n1, k1, k2, k3, t1, t2, kw]; cbv; try simp only [n1, k1, k2, k3, t1, t2, kw]; cbv) ?_
      refine goB hX 1 (by conv => lhs; cbv; try simp only [n1, k1, k2, k3, t1, t2, kw]; cbv; try simp only [n1, k1, k2, k3, t1, t2, kw]; cbv; try simp only [n1, k1, k2, k3, t1, t2, kw]; cbv; try simp only [n1, k1, k2, k3, t1, t2, kw]; cbv) ?_
      refine goB hX 1 (by conv => lhs; cbv; try simp only [n1, k1, k2, k3, t1, t2, kw]; cbv; try simp only [n1, k1, k2, k3, t1, t2, kw]; cbv; try simp only [n1, k1, k2, k3, t1, t2, kw]; cbv; try simp only [n1, k1, k2, k3, t1, t2, kw]; cbv) ?_
      refine goB hX 1 (by conv => lhs; cbv; try simp only [n1, k1, k2, k3, t1, t2, kw]; cbv; try simp only [n1, k1, k2, k3, t1, t2, kw]; cbv; try simp only [n1, k1, k2, k3, t1, t2, kw]; cbv; try simp only [n1, k1, k2, k3, t1, t2, kw]; cbv) ?_
      refine goB hX 1 (by conv => lhs; cbv; try simp only [n1, k1, k2, k3, t1, t2, kw]; cbv; try simp only [n1, k1, k2, k3, t1, t2, kw]; cbv; try simp only [n1, k1, k2, k3, t1, t2, kw]; cbv; try simp only [n1, k1, k2, k3, t1, t2, kw]; cbv) ?_
      refine goB hX 1 (by conv => lhs; cbv; try simp only [n1, k1, k2, k3, t1, t2, kw]; cbv; try simp only [n1, k1, k2, k3, t1, t2, kw]; cbv; try simp only [n1, k1, k2, k3, t1, t2, kw]; cbv; try simp only [n1, k1, k2, k3, t1, t2, kw]; cbv) ?_
      refine goB hX 1 (by conv => lhs; cbv; try simp only [n1, k1, k2, k3, t1, t2, kw]; cbv; try simp only [n1, k1, k2, k3, t1, t2, kw]; cbv; try simp only [n1, k1, k2, k3, t1, t2, kw]; cbv; try simp only [n1, k1, k2, k3, t1, t2, kw]; cbv) ?_
      refine nsB hX (by conv => lhs; cbv) ?_
      refine goB hX 0 (by conv => lhs; cbv; try simp only [n1, k1, k2, k3, t1, t2, kw]; cbv; try simp only [n1, k1, k2, k3, t1, t2, kw]; cbv; try simp only [n1, k1, k2, k3, t1, t2, kw]; cbv; try simp only [n1, k1, k2, k3, t1, t2, kw]; cbv) ?_
      refine on_cond rfl (fun c3 => ?_) (fun c3 => ?_)
      ·
       simp [ee] at c3
      ·
       simp [ee] at c3
       refine goA 60 ?_
       refine on_lend rfl rfl q7 rfl ⟨[.gone, .isl 14 ([AV.agg [AV.val (Value.int IntKind.i64 pO), AV.isl 14 pA, AV.val (Value.int IntKind.i64 pT), AV.val (Value.int IntKind.i64 pV), AV.val (Value.int IntKind.i64 pS), AV.val (Value.int IntKind.i64 pN), AV.val (Value.int IntKind.i64 pCo), AV.isl 8 pCa, AV.val (Value.int IntKind.i64 pCv), AV.val (Value.int IntKind.i64 pCf), AV.val (Value.int IntKind.i64 pCk), AV.val (Value.int IntKind.i64 pXk), AV.val (Value.int IntKind.i64 pXn), AV.val (Value.string pXt)]]), .gone, .isl 8 ([AV.agg [AV.val (Value.int IntKind.i64 2), AV.val (Value.slice none 0 0), AV.val (Value.int IntKind.i64 (iCvt IntKind.i64 (iRem v 16))), AV.val (Value.int IntKind.i64 0), AV.val (Value.int IntKind.i64 0), AV.val (Value.int IntKind.i64 0), AV.val (Value.int IntKind.i64 0), AV.val (Value.string { data := { toList := [] } })]])], ⟨trivial, ⟨_, rfl, (subL_closed _ kL1).symm⟩, trivial, ⟨_, rfl, (subL_closed _ (by rfl)).symm⟩, trivial⟩, ⟨.refl _, .of (by simp only [n1, k1, k2, k3, t1, t2, kw]; rfl), trivial⟩⟩ ?_
       refine goA 60 ?_
       refine on_lend rfl rfl q8 rfl ⟨[.gone, .isl 14 ([AV.agg [AV.val (Value.int IntKind.i64 pO), AV.isl 14 pA, AV.val (Value.int IntKind.i64 pT), AV.val (Value.int IntKind.i64 pV), AV.val (Value.int IntKind.i64 pS), AV.val (Value.int IntKind.i64 pN), AV.val (Value.int IntKind.i64 pCo), AV.isl 8 pCa, AV.val (Value.int IntKind.i64 pCv), AV.val (Value.int IntKind.i64 pCf), AV.val (Value.int IntKind.i64 pCk), AV.val (Value.int IntKind.i64 pXk), AV.val (Value.int IntKind.i64 pXn), AV.val (Value.string pXt)]]), .gone, .gone, .isl 8 ([AV.agg [AV.val (Value.int IntKind.i64 3), AV.val (Value.slice none 0 0), AV.val (Value.int IntKind.i64 (iCvt IntKind.i64 (iRem v 16))), AV.val (Value.int IntKind.i64 0), AV.val (Value.int IntKind.i64 0), AV.val (Value.int IntKind.i64 0), AV.val (Value.int IntKind.i64 0), AV.val (Value.string { data := { toList := [] } })]])], ⟨trivial, ⟨_, rfl, (subL_closed _ kL1).symm⟩, trivial, trivial, ⟨_, rfl, (subL_closed _ (by rfl)).symm⟩, trivial⟩, ⟨.refl _, .of (by simp only [n1, k1, k2, k3, t1, t2, kw]; rfl), trivial⟩⟩ ?_
       refine goA 60 ?_
       refine oPA q9 ?_
       refine goA 60 ?_
       refine on_lend rfl rfl qA rfl ⟨[.gone, .gone, .gone, .gone, .gone], ⟨trivial, trivial, trivial, trivial, trivial, trivial⟩, ⟨.cl kc2, .of (congrArg int (by assumption)), trivial⟩⟩ ?_
       refine goB hX 0 (by conv => lhs; cbv; try simp only [n1, k1, k2, k3, t1, t2, kw]; cbv; try simp only [n1, k1, k2, k3, t1, t2, kw]; cbv; try simp only [n1, k1, k2, k3, t1, t2, kw]; cbv; try simp only [n1, k1, k2, k3, t1, t2, kw]; cbv) ?_
       refine goB hX 1 (by conv => lhs; cbv; try simp only [n1, k1, k2, k3, t1, t2, kw]; cbv; try simp only [n1, k1, k2, k3, t1, t2, kw]; cbv; try simp only [n1, k1, k2, k3, t1, t2, kw]; cbv; try simp only [n1, k1, k2, k3, t1, t2, kw]; cbv) ?_
       refine on_guard rfl rfl (fun c4 => ?_) (fun c4 => ?_)
       ·
        simp [ee] at c4
        refine oPG q4 ?_
        refine goA 60 ?_
        refine fn_ret rfl rfl (.val ?_)
        rfl
       ·
        simp [ee] at c4
  · rw [if_pos h4] at r4
    have k4 : iNe we 0 = true := by simp only [ee]; simpa using h4
    have k5 : iEq we 0 = false := by simp only [ee]; simpa using h4
    have k6 : iAdd .i64 si 1 = wi := by simp only [ee]; rw [wrap64 (by omega) (by omega)]; exact r4.symm
    refine goA 60 ?_
    refine oPA q0 ?_
    refine goA 60 ?_
    refine oPA q1 ?_
    refine goB hX 0 (by conv => lhs; cbv; try simp only [n1, k1, k2, k3, k4, k5, k6, t1, t2, kw]; cbv; try simp only [n1, k1, k2, k3, k4, k5, k6, t1, t2, kw]; cbv; try simp only [n1, k1, k2, k3, k4, k5, k6, t1, t2, kw]; cbv; try simp only [n1, k1, k2, k3, k4, k5, k6, t1, t2, kw]; cbv) ?_
    refine on_guard rfl rfl (fun c1 => ?_) (fun c1 => ?_)
    ·
     simp [ee] at c1
    ·
     simp [ee] at c1
     refine goA 60 ?_
     refine oPG q3 ?_
     refine goB hX 0 (by conv => lhs; cbv; try simp only [n1, k1, k2, k3, k4, k5, k6, t1, t2, kw]; cbv; try simp only [n1, k1, k2, k3, k4, k5, k6, t1, t2, kw]; cbv; try simp only [n1, k1, k2, k3, k4, k5, k6, t1, t2, kw]; cbv; try simp only [n1, k1, k2, k3, k4, k5, k6, t1, t2, kw]; cbv) ?_
     refine on_cond rfl (fun c2 => ?_) (fun c2 => ?_)
     ·
      simp [ee] at c2
     ·
      simp [ee] at c2
      refine goA 60 ?_
      refine oPA q5 ?_
      refine goA 60 ?_
      refine on_lend rfl rfl q6 rfl ⟨[.gone, .isl 14 ([AV.agg [AV.val (Value.int IntKind.i64 pO), AV.isl 14 pA, AV.val (Value.int IntKind.i64 pT), AV.val (Value.int IntKind.i64 pV), AV.val (Value.int IntKind.i64 pS), AV.val (Value.int IntKind.i64 pN), AV.val (Value.int IntKind.i64 pCo), AV.isl 8 pCa, AV.val (Value.int IntKind.i64 pCv), AV.val (Value.int IntKind.i64 pCf), AV.val (Value.int IntKind.i64 pCk), AV.val (Value.int IntKind.i64 pXk), AV.val (Value.int IntKind.i64 pXn), AV.val (Value.string pXt)]]), .gone], ⟨trivial, ⟨_, rfl, (subL_closed _ kL1).symm⟩, trivial, trivial⟩, ⟨.refl _, trivial⟩⟩ ?_
      refine goB hX 0 (by conv => lhs; cbv; try simp only [n1, k1, k2, k3, k4, k5, k6, t1, t2, kw]; cbv; try simp only [n1, k1, k2, k3, k4, k5, k6, t1, t2, kw]; cbv; try simp only [n1, k1, k2, k3, k4, k5, k6, t1, t2, kw]; cbv; try simp only [n1, k1, k2, k3, k4, k5, k6, t1, t2, kw]; cbv) ?_
      refine goB hX 1 (by conv => lhs; cbv; try simp only [n1, k1, k2, k3, k4, k5, k6, t1, t2, kw]; cbv; try simp only [n1, k1, k2, k3, k4, k5, k6, t1, t2, kw]; cbv; try simp only [n1, k1, k2, k3, k4, k5, k6, t1, t2, kw]; cbv; try simp only [n1, k1, k2, k3, k4, k5, k6, t1, t2, kw]; cbv) ?_
      refine goB hX 1 (by conv => lhs; cbv; try simp only [n1, k1, k2, k3, k4, k5, k6, t1, t2, kw]; cbv; try simp only [n1, k1, k2, k3, k4, k5, k6, t1, t2, kw]; cbv; try simp only [n1, k1, k2, k3, k4, k5, k6, t1, t2, kw]; cbv; try simp only [n1, k1, k2, k3, k4, k5, k6, t1, t2, kw]; cbv) ?_
      refine goB hX 1 (by conv => lhs; cbv; try simp only [n1, k1, k2, k3, k4, k5, k6, t1, t2, kw]; cbv; try simp only [n1, k1, k2, k3, k4, k5, k6, t1, t2, kw]; cbv; try simp only [n1, k1, k2, k3, k4, k5, k6, t1, t2, kw]; cbv; try simp only [n1, k1, k2, k3, k4, k5, k6, t1, t2, kw]; cbv) ?_
      refine goB hX 1 (by conv => lhs; cbv; try simp only [n1, k1, k2, k3, k4, k5, k6, t1, t2, kw]; cbv; try simp only [n1, k1, k2, k3, k4, k5, k6, t1, t2, kw]; cbv; try simp only [n1, k1, k2, k3, k4, k5, k6, t1, t2, kw]; cbv; try simp only [n1, k1, k2, k3, k4, k5, k6, t1, t2, kw]; cbv) ?_
      refine goB hX 1 (by conv => lhs; cbv; try simp only [n1, k1, k2, k3, k4, k5, k6, t1, t2, kw]; cbv; try simp only [n1, k1, k2, k3, k4, k5, k6, t1, t2, kw]; cbv; try simp only [n1, k1, k2, k3, k4, k5, k6, t1, t2, kw]; cbv; try simp only [n1, k1, k2, k3, k4, k5, k6, t1, t2, kw]; cbv) ?_
      refine goB hX 1 (by conv => lhs; cbv; try simp only [n1, k1, k2, k3, k4, k5, k6, t1, t2, kw]; cbv; try simp only [n1, k1, k2, k3, k4, k5, k6, t1, t2, kw]; cbv; try simp only [n1, k1, k2, k3, k4, k5, k6, t1, t2, kw]; cbv; try simp only [n1, k1, k2, k3, k4, k5, k6, t1, t2, kw]; cbv) ?_
      refine goB hX 1 (by conv => lhs; cbv; try simp only [n1, k1, k2, k3, k4, k5, k6, t1, t2, kw]; cbv; try simp only [n1, k1, k2, k3, k4, k5, k6, t1, t2, kw]; cbv; try simp only [n1, k1, k2, k3, k4, k5, k6, t1, t2, kw]; cbv; try simp only [n1, k1, k2, k3, k4, k5, k6, t1, t2, kw]; cbv) ?_
      refine nsB hX (by conv => lhs; cbv) ?_
      refine goB hX 0 (by conv => lhs; cbv; try simp only [n1, k1, k2, k3, k4, k5, k6, t1, t2, kw]; cbv; try simp only [n1, k1, k2, k3, k4, k5, k6, t1, t2, kw]; cbv; try simp only [n1, k1, k2, k3, k4, k5, k6, t1, t2, kw]; cbv; try simp only [n1, k1, k2, k3, k4, k5, k6, t1, t2, kw]; cbv) ?_
      refine on_cond rfl (fun c3 => ?_) (fun c3 => ?_)
      ·
       simp [ee] at c3
      ·
       simp [ee] at c3
       refine goA 60 ?_
       refine on_lend rfl rfl q7 rfl ⟨[.gone, .isl 14 ([AV.agg [AV.val (Value.int IntKind.i64 pO), AV.isl 14 pA, AV.val (Value.int IntKind.i64 pT), AV.val (Value.int IntKind.i64 pV), AV.val (Value.int IntKind.i64 pS), AV.val (Value.int IntKind.i64 pN), AV.val (Value.int IntKind.i64 pCo), AV.isl 8 pCa, AV.val (Value.int IntKind.i64 pCv), AV.val (Value.int IntKind.i64 pCf), AV.val (Value.int IntKind.i64 pCk), AV.val (Value.int IntKind.i64 pXk), AV.val (Value.int IntKind.i64 pXn), AV.val (Value.string pXt)]]), .gone, .isl 8 ([AV.agg [AV.val (Value.int IntKind.i64 2), AV.val (Value.slice none 0 0), AV.val (Value.int IntKind.i64 (iCvt IntKind.i64 (iRem v 16))), AV.val (Value.int IntKind.i64 0), AV.val (Value.int IntKind.i64 0), AV.val (Value.int IntKind.i64 0), AV.val (Value.int IntKind.i64 0), AV.val (Value.string { data := { toList := [] } })]])], ⟨trivial, ⟨_, rfl, (subL_closed _ kL1).symm⟩, trivial, ⟨_, rfl, (subL_closed _ (by rfl)).symm⟩, trivial⟩, ⟨.refl _, .of (by simp only [n1, k1, k2, k3, k4, k5, k6, t1, t2, kw]; rfl), trivial⟩⟩ ?_
       refine goA 60 ?_
       refine on_lend rfl rfl q8 rfl ⟨[.gone, .isl 14 ([AV.agg [AV.val (Value.int IntKind.i64 pO), AV.isl 14 pA, AV.val (Value.int IntKind.i64 pT), AV.val (Value.int IntKind.i64 pV), AV.val (Value.int IntKind.i64 pS), AV.val (Value.int IntKind.i64 pN), AV.val (Value.int IntKind.i64 pCo), AV.isl 8 pCa, AV.val (Value.int IntKind.i64 pCv), AV.val (Value.int IntKind.i64 pCf), AV.val (Value.int IntKind.i64 pCk), AV.val (Value.int IntKind.i64 pXk), AV.val (Value.int IntKind.i64 pXn), AV.val (Value.string pXt)]]), .gone, .gone, .isl 8 ([AV.agg [AV.val (Value.int IntKind.i64 3), AV.val (Value.slice none 0 0), AV.val (Value.int IntKind.i64 (iCvt IntKind.i64 (iRem v 16))), AV.val (Value.int IntKind.i64 0), AV.val (Value.int IntKind.i64 0), AV.val (Value.int IntKind.i64 0), AV.val (Value.int IntKind.i64 0), AV.val (Value.string { data := { toList := [] } })]])], ⟨trivial, ⟨_, rfl, (subL_closed _ kL1).symm⟩, trivial, trivial, ⟨_, rfl, (subL_closed _ (by rfl)).symm⟩, trivial⟩, ⟨.refl _, .of (by simp only [n1, k1, k2, k3, k4, k5, k6, t1, t2, kw]; rfl), trivial⟩⟩ ?_
       refine goA 60 ?_
       refine oPA q9 ?_
       refine goA 60 ?_
       refine on_lend rfl rfl qA rfl ⟨[.gone, .gone, .gone, .gone, .gone], ⟨trivial, trivial, trivial, trivial, trivial, trivial⟩, ⟨.cl kc2, .of (congrArg int (by assumption)), trivial⟩⟩ ?_
       refine goB hX 0 (by conv => lhs; cbv; try simp only [n1, k1, k2, k3, k4, k5, k6, t1, t2, kw]; cbv; try simp only [n1, k1, k2, k3, k4, k5, k6, t1, t2, kw]; cbv; try simp only [n1, k1, k2, k3, k4, k5, k6, t1, t2, kw]; cbv; try simp only [n1, k1, k2, k3, k4, k5, k6, t1, t2, kw]; cbv) ?_
       refine goB hX 1 (by conv => lhs; cbv; try simp only [n1, k1, k2, k3, k4, k5, k6, t1, t2, kw]; cbv; try simp only [n1, k1, k2, k3, k4, k5, k6, t1, t2, kw]; cbv; try simp only [n1, k1, k2, k3, k4, k5, k6, t1, t2, kw]; cbv; try simp only [n1, k1, k2, k3, k4, k5, k6, t1, t2, kw]; cbv) ?_
       refine on_guard rfl rfl (fun c4 => ?_) (fun c4 => ?_)
       ·
        simp [ee] at c4
        refine oPG q4 ?_
        refine goA 60 ?_
        refine fn_ret rfl rfl (.val ?_)
        rfl
       ·
        simp [ee] at c4
 | true =>
  rw [if_pos rfl] at r5 r6
  subst r5 r6
  by_cases h4 : we = 0
  · subst h4
    rw [if_neg (by decide)] at r4
    subst r4
    refine goA 60 ?_
    refine oPA q0 ?_
    refine goA 60 ?_
    refine oPA q1 ?_
    refine goB hX 0 (by conv => lhs; cbv; try simp only [n1, k1, k2, k3, t1, t2, kw]; cbv; try simp only [n1, k1, k2, k3, t1, t2, kw]; cbv; try simp only [n1, k1, k2, k3, t1, t2, kw]; cbv; try simp only [n1, k1, k2, k3, t1, t2, kw]; cbv) ?_
    refine on_guard rfl rfl (fun c1 => ?_) (fun c1 => ?_)
    ·
     simp [ee] at c1
    ·
     simp [ee] at c1
     refine goA 60 ?_
     refine oPG q3 ?_
     refine goB hX 0 (by conv => lhs; cbv; try simp only [n1, k1, k2, k3, t1, t2, kw]; cbv; try simp only [n1, k1, k2, k3, t1, t2, kw]; cbv; try simp only [n1, k1, k2, k3, t1, t2, kw]; cbv; try simp only [n1, k1, k2, k3, t1, t2, kw]; cbv) ?_
     refine on_cond rfl (fun c2 => ?_) (fun c2 => ?_)
     ·
      simp [ee] at c2
     ·
      simp [ee] at c2
      refine goA 60 ?_
      refine oPA q5 ?_
      refine goA 60 ?_
      refine on_lend rfl rfl q6 rfl ⟨[.gone, .isl 14 ([AV.agg [AV.val (Value.int IntKind.i64 pO), AV.isl 14 pA, AV.val (Value.int IntKind.i64 pT), AV.val (Value.int IntKind.i64 pV), AV.val (Value.int IntKind.i64 pS), AV.val (Value.int IntKind.i64 pN), AV.val (Value.int IntKind.i64 pCo), AV.isl 8 pCa, AV.val (Value.int IntKind.i64 pCv), AV.val (Value.int IntKind.i64 pCf), AV.val (Value.int IntKind.i64 pCk), AV.val (Value.int IntKind.i64 pXk), AV.val (Value.int IntKind.i64 pXn), AV.val (Value.string pXt)]]), .gone], ⟨trivial, ⟨_, rfl, (subL_closed _ kL1).symm⟩, trivial, trivial⟩, ⟨.refl _, trivial⟩⟩ ?_
      refine goB hX 0 (by conv => lhs; cbv; try simp only [n1, k1, k2, k3, t1, t2, kw]; cbv; try simp only [n1, k1, k2, k3, t1, t2, kw]; cbv; try simp only [n1, k1, k2, k3, t1, t2, kw]; cbv; try simp only [n1, k1, k2, k3, t1, t2, kw]; cbv) ?_
      refine goB hX 1 (by conv => lhs; cbv; try simp only [n1, k1, k2, k3, t1, t2, kw]; cbv; try simp only [n1, k1, k2, k3, t1, t2, kw]; cbv; try simp only [n1, k1, k2, k3, t1, t2, kw]; cbv; try simp only [n1, k1, k2, k3, t1, t2, kw]; cbv) ?_
      refine goB hX 1 (by conv => lhs; cbv; try simp only [n1, k1, k2, k3, t1, t2, kw]; cbv; try simp only [n1, k1, k2, k3, t1, t2, kw]; cbv; try simp only [n1, k1, k2, k3, t1, t2, kw]; cbv; try simp only [n1, k1, k2, k3, t1, t2, kw]; cbv) ?_
      refine goB hX 1 (by conv => lhs; cbv; try simp only [n1, k1, k2, k3, t1, t2, kw]; cbv; try simp only [n1, k1, k2, k3, t1, t2, kw]; cbv; try simp only [n1, k1, k2, k3, t1, t2, kw]; cbv; try simp only [n1, k1, k2, k3, t1, t2, kw]; cbv) ?_
      refine goB hX 1 (by conv => lhs; cbv; try simp only [n1, k1, k2, k3, t1, t2, kw]; cbv; try simp only [n1, k1, k2, k3, t1, t2, kw]; cbv; try simp only [n1, k1, k2, k3, t1, t2, kw]; cbv; try simp only [n1, k1, k2, k3, t1, t2, kw]; cbv) ?_
      refine goB hX 1 (by conv => lhs; cbv; try simp only [n1, k1, k2, k3, t1, t2, kw]; cbv; try simp only [n1, k1, k2, k3, t1, t2, kw]; cbv; try simp only [n1, k1, k2, k3, t1, t2, kw]; cbv; try simp only [n1, k1, k2, k3, t1, t2, kw]; cbv) ?_
      refine goB hX 1 (by conv => lhs; cbv; try simp only [n1, k1, k2, k3, t1, t2, kw]; cbv; try simp only [n1, k1, k2, k3, t1, t2, kw]; cbv; try simp only [n1, k1, k2, k3, t1, t2, kw]; cbv; try simp only [n1, k1, k2, k3, t1, t2, kw]; cbv) ?_
      refine goB hX 1 (by conv => lhs; cbv; try simp only [n1, k1, k2, k3, t1, t2, kw]; cbv; try simp only [n1, k1, k2, k3, t1, t2, kw]; cbv; try simp only [n1, k1, k2, k3, t1, t2, kw]; cbv; try simp only [n1, k1, k2, k3, t1, t2, kw]; cbv) ?_
      refine nsB hX (by conv => lhs; cbv) ?_
      refine goB hX 0 (by conv => lhs; cbv; try simp only [n1, k1, k2, k3, t1, t2, kw]; cbv; try simp only [n1, k1, k2, k3, t1, t2, kw]; cbv; try simp only [n1, k1, k2, k3, t1, t2, kw]; cbv; try simp only [n1, k1, k2, k3, t1, t2, kw]; cbv) ?_
      refine on_cond rfl (fun c3 => ?_) (fun c3 => ?_)
      ·
       simp [ee] at c3
      ·
       simp [ee] at c3
       refine goA 60 ?_
       refine on_lend rfl rfl q7 rfl ⟨[.gone, .isl 14 ([AV.agg [AV.val (Value.int IntKind.i64 pO), AV.isl 14 pA, AV.val (Value.int IntKind.i64 pT), AV.val (Value.int IntKind.i64 pV), AV.val (Value.int IntKind.i64 pS), AV.val (Value.int IntKind.i64 pN), AV.val (Value.int IntKind.i64 pCo), AV.isl 8 pCa, AV.val (Value.int IntKind.i64 pCv), AV.val (Value.int IntKind.i64 pCf), AV.val (Value.int IntKind.i64 pCk), AV.val (Value.int IntKind.i64 pXk), AV.val (Value.int IntKind.i64 pXn), AV.val (Value.string pXt)]]), .gone, .isl 8 ([AV.agg [AV.val (Value.int IntKind.i64 2), AV.val (Value.slice none 0 0), AV.val (Value.int IntKind.i64 (iCvt IntKind.i64 (iRem v 16))), AV.val (Value.int IntKind.i64 0), AV.val (Value.int IntKind.i64 0), AV.val (Value.int IntKind.i64 0), AV.val (Value.int IntKind.i64 0), AV.val (Value.string { data := { toList := [] } })]])], ⟨trivial, ⟨_, rfl, (subL_closed _ kL1).symm⟩, trivial, ⟨_, rfl, (subL_closed _ (by rfl)).symm⟩, trivial⟩, ⟨.refl _, .of (by simp only [n1, k1, k2, k3, t1, t2, kw]; rfl), trivial⟩⟩ ?_
       refine goA 60 ?_
       refine on_lend rfl rfl q8 rfl ⟨[.gone, .isl 14 ([AV.agg [AV.val (Value.int IntKind.i64 pO), AV.isl 14 pA, AV.val (Value.int IntKind.i64 pT), AV.val (Value.int IntKind.i64 pV), AV.val (Value.int IntKind.i64 pS), AV.val (Value.int IntKind.i64 pN), AV.val (Value.int IntKind.i64 pCo), AV.isl 8 pCa, AV.val (Value.int IntKind.i64 pCv), AV.val (Value.int IntKind.i64 pCf), AV.val (Value.int IntKind.i64 pCk), AV.val (Value.int IntKind.i64 pXk), AV.val (Value.int IntKind.i64 pXn), AV.val (Value.string pXt)]]), .gone, .gone, .isl 8 ([AV.agg [AV.val (Value.int IntKind.i64 3), AV.val (Value.slice none 0 0), AV.val (Value.int IntKind.i64 (iCvt IntKind.i64 (iRem v 16))), AV.val (Value.int IntKind.i64 0), AV.val (Value.int IntKind.i64 0), AV.val (Value.int IntKind.i64 0), AV.val (Value.int IntKind.i64 0), AV.val (Value.string { data := { toList := [] } })]])], ⟨trivial, ⟨_, rfl, (subL_closed _ kL1).symm⟩, trivial, trivial, ⟨_, rfl, (subL_closed _ (by rfl)).symm⟩, trivial⟩, ⟨.refl _, .of (by simp only [n1, k1, k2, k3, t1, t2, kw]; rfl), trivial⟩⟩ ?_
       refine goA 60 ?_
       refine oPA q9 ?_
       refine goA 60 ?_
       refine on_lend rfl rfl qA rfl ⟨[.gone, .gone, .gone, .gone, .gone], ⟨trivial, trivial, trivial, trivial, trivial, trivial⟩, ⟨.cl kc2, .of (congrArg int (by assumption)), trivial⟩⟩ ?_
       refine goB hX 0 (by conv => lhs; cbv; try simp only [n1, k1, k2, k3, t1, t2, kw]; cbv; try simp only [n1, k1, k2, k3, t1, t2, kw]; cbv; try simp only [n1, k1, k2, k3, t1, t2, kw]; cbv; try simp only [n1, k1, k2, k3, t1, t2, kw]; cbv) ?_
       refine goB hX 1 (by conv => lhs; cbv; try simp only [n1, k1, k2, k3, t1, t2, kw]; cbv; try simp only [n1, k1, k2, k3, t1, t2, kw]; cbv; try simp only [n1, k1, k2, k3, t1, t2, kw]; cbv; try simp only [n1, k1, k2, k3, t1, t2, kw]; cbv) ?_
       refine on_guard rfl rfl (fun c4 => ?_) (fun c4 => ?_)
       ·
        simp [ee] at c4
        refine oPG q4 ?_
        refine goA 60 ?_
        refine fn_ret rfl rfl (.val ?_)
        rfl
       ·
        simp [ee] at c4
  · rw [if_pos h4] at r4
    have k4 : iNe we 0 = true := by simp only [ee]; simpa using h4
    have k5 : iEq we 0 = false := by simp only [ee]; simpa using h4
    have k6 : iAdd .i64 si 1 = wi := by simp only [ee]; rw [wrap64 (by omega) (by omega)]; exact r4.symm
    refine goA 60 ?_
    refine oPA q0 ?_
    refine goA 60 ?_
    refine oPA q1 ?_
    refine goB hX 0 (by conv => lhs; cbv; try simp only [n1, k1, k2, k3, k4, k5, k6, t1, t2, kw]; cbv; try simp only [n1, k1, k2, k3, k4, k5, k6, t1, t2, kw]; cbv; try simp only [n1, k1, k2, k3, k4, k5, k6, t1, t2, kw]; cbv; try simp only [n1, k1, k2, k3, k4, k5, k6, t1, t2, kw]; cbv) ?_
    refine on_guard rfl rfl (fun c1 => ?_) (fun c1 => ?_)
    ·
     simp [ee] at c1
    ·
     simp [ee] at c1
     refine goA 60 ?_
     refine oPG q3 ?_
     refine goB hX 0 (by conv => lhs; cbv; try simp only [n1, k1, k2, k3, k4, k5, k6, t1, t2, kw]; cbv; try simp only [n1, k1, k2, k3, k4, k5, k6, t1, t2, kw]; cbv; try simp only [n1, k1, k2, k3, k4, k5, k6, t1, t2, kw]; cbv; try simp only [n1, k1, k2, k3, k4, k5, k6, t1, t2, kw]; cbv) ?_
     refine on_cond rfl (fun c2 => ?_) (fun c2 => ?_)
     ·
      simp [ee] at c2
     ·
      simp [ee] at c2
      refine goA 60 ?_
      refine oPA q5 ?_
      refine goA 60 ?_
      refine on_lend rfl rfl q6 rfl ⟨[.gone, .isl 14 ([AV.agg [AV.val (Value.int IntKind.i64 pO), AV.isl 14 pA, AV.val (Value.int IntKind.i64 pT), AV.val (Value.int IntKind.i64 pV), AV.val (Value.int IntKind.i64 pS), AV.val (Value.int IntKind.i64 pN), AV.val (Value.int IntKind.i64 pCo), AV.isl 8 pCa, AV.val (Value.int IntKind.i64 pCv), AV.val (Value.int IntKind.i64 pCf), AV.val (Value.int IntKind.i64 pCk), AV.val (Value.int IntKind.i64 pXk), AV.val (Value.int IntKind.i64 pXn), AV.val (Value.string pXt)]]), .gone], ⟨trivial, ⟨_, rfl, (subL_closed _ kL1).symm⟩, trivial, trivial⟩, ⟨.refl _, trivial⟩⟩ ?_
      refine goB hX 0 (by conv => lhs; cbv; try simp only [n1, k1, k2, k3, k4, k5, k6, t1, t2, kw]; cbv; try simp only [n1, k1, k2, k3, k4, k5, k6, t1, t2, kw]; cbv; try simp only [n1, k1, k2, k3, k4, k5, k6, t1, t2, kw]; cbv; try simp only [n1, k1, k2, k3, k4, k5, k6, t1, t2, kw]; cbv) ?_
      refine goB hX 1 (by conv => lhs; cbv; try simp only [n1, k1, k2, k3, k4, k5, k6, t1, t2, kw]; cbv; try simp only [n1, k1, k2, k3, k4, k5, k6, t1, t2, kw]; cbv; try simp only [n1, k1, k2, k3, k4, k5, k6, t1, t2, kw]; cbv; try simp only [n1, k1, k2, k3, k4, k5, k6, t1, t2, kw]; cbv) ?_
      refine goB hX 1 (by conv => lhs; cbv; try simp only [n1, k1, k2, k3, k4, k5, k6, t1, t2, kw]; cbv; try simp only [n1, k1, k2, k3, k4, k5, k6, t1, t2, kw]; cbv; try simp only [n1, k1, k2, k3, k4, k5, k6, t1, t2, kw]; cbv; try simp only [n1, k1, k2, k3, k4, k5, k6, t1, t2, kw]; cbv) ?_
      refine goB hX 1 (by conv => lhs; cbv; try simp only [n1, k1, k2, k3, k4, k5, k6, t1, t2, kw]; cbv; try simp only [n1, k1, k2, k3, k4, k5, k6, t1, t2, kw]; cbv; try simp only [n1, k1, k2, k3, k4, k5, k6, t1, t2, kw]; cbv; try simp only [n1, k1, k2, k3, k4, k5, k6, t1, t2, kw]; cbv) ?_
      refine goB hX 1 (by conv => lhs; cbv; try simp only [n1, k1, k2, k3, k4, k5, k6, t1, t2, kw]; cbv; try simp only [n1, k1, k2, k3, k4, k5, k6, t1, t2, kw]; cbv; try simp only [n1, k1, k2, k3, k4, k5, k6, t1, t2, kw]; cbv; try simp only [n1, k1, k2, k3, k4, k5, k6, t1, t2, kw]; cbv) ?_
      refine goB hX 1 (by conv => lhs; cbv; try simp only [n1, k1, k2, k3, k4, k5, k6, t1, t2, kw]; cbv; try simp only [n1, k1, k2, k3, k4, k5, k6, t1, t2, kw]; cbv; try simp only [n1, k1, k2, k3, k4, k5, k6, t1, t2, kw]; cbv; try simp only [n1, k1, k2, k3, k4, k5, k6, t1, t2, kw]; cbv) ?_
      refine goB hX 1 (by conv => lhs; cbv; try simp only [n1, k1, k2, k3, k4, k5, k6, t1, t2, kw]; cbv; try simp only [n1, k1, k2, k3, k4, k5, k6, t1, t2, kw]; cbv; try simp only [n1, k1, k2, k3, k4, k5, k6, t1, t2, kw]; cbv; try simp only [n1, k1, k2, k3, k4, k5, k6, t1, t2, kw]; cbv) ?_
      refine goB hX 1 (by conv => lhs; cbv; try simp only [n1, k1, k2, k3, k4, k5, k6, t1, t2, kw]; cbv; try simp only [n1, k1, k2, k3, k4, k5, k6, t1, t2, kw]; cbv; try simp only [n1, k1, k2, k3, k4, k5, k6, t1, t2, kw]; cbv; try simp only [n1, k1, k2, k3, k4, k5, k6, t1, t2, kw]; cbv) ?_
      refine nsB hX (by conv => lhs; cbv) ?_
      refine goB hX 0 (by conv => lhs; cbv; try simp only [n1, k1, k2, k3, k4, k5, k6, t1, t2, kw]; cbv; try simp only [n1, k1, k2, k3, k4, k5, k6, t1, t2, kw]; cbv; try simp only [n1, k1, k2, k3, k4, k5, k6, t1, t2, kw]; cbv; try simp only [n1, k1, k2, k3, k4, k5, k6, t1, t2, kw]; cbv) ?_
      refine on_cond rfl (fun c3 => ?_) (fun c3 => ?_)
      ·
       simp [ee] at c3
      ·
       simp [ee] at c3
       refine goA 60 ?_
       refine on_lend rfl rfl q7 rfl ⟨[.gone, .isl 14 ([AV.agg [AV.val (Value.int IntKind.i64 pO), AV.isl 14 pA, AV.val (Value.int IntKind.i64 pT), AV.val (Value.int IntKind.i64 pV), AV.val (Value.int IntKind.i64 pS), AV.val (Value.int IntKind.i64 pN), AV.val (Value.int IntKind.i64 pCo), AV.isl 8 pCa, AV.val (Value.int IntKind.i64 pCv), AV.val (Value.int IntKind.i64 pCf), AV.val (Value.int IntKind.i64 pCk), AV.val (Value.int IntKind.i64 pXk), AV.val (Value.int IntKind.i64 pXn), AV.val (Value.string pXt)]]), .gone, .isl 8 ([AV.agg [AV.val (Value.int IntKind.i64 2), AV.val (Value.slice none 0 0), AV.val (Value.int IntKind.i64 (iCvt IntKind.i64 (iRem v 16))), AV.val (Value.int IntKind.i64 0), AV.val (Value.int IntKind.i64 0), AV.val (Value.int IntKind.i64 0), AV.val (Value.int IntKind.i64 0), AV.val (Value.string { data := { toList := [] } })]])], ⟨trivial, ⟨_, rfl, (subL_closed _ kL1).symm⟩, trivial, ⟨_, rfl, (subL_closed _ (by rfl)).symm⟩, trivial⟩, ⟨.refl _, .of (by simp only [n1, k1, k2, k3, k4, k5, k6, t1, t2, kw]; rfl), trivial⟩⟩ ?_
       refine goA 60 ?_
       refine on_lend rfl rfl q8 rfl ⟨[.gone, .isl 14 ([AV.agg [AV.val (Value.int IntKind.i64 pO), AV.isl 14 pA, AV.val (Value.int IntKind.i64 pT), AV.val (Value.int IntKind.i64 pV), AV.val (Value.int IntKind.i64 pS), AV.val (Value.int IntKind.i64 pN), AV.val (Value.int IntKind.i64 pCo), AV.isl 8 pCa, AV.val (Value.int IntKind.i64 pCv), AV.val (Value.int IntKind.i64 pCf), AV.val (Value.int IntKind.i64 pCk), AV.val (Value.int IntKind.i64 pXk), AV.val (Value.int IntKind.i64 pXn), AV.val (Value.string pXt)]]), .gone, .gone, .isl 8 ([AV.agg [AV.val (Value.int IntKind.i64 3), AV.val (Value.slice none 0 0), AV.val (Value.int IntKind.i64 (iCvt IntKind.i64 (iRem v 16))), AV.val (Value.int IntKind.i64 0), AV.val (Value.int IntKind.i64 0), AV.val (Value.int IntKind.i64 0), AV.val (Value.int IntKind.i64 0), AV.val (Value.string { data := { toList := [] } })]])], ⟨trivial, ⟨_, rfl, (subL_closed _ kL1).symm⟩, trivial, trivial, ⟨_, rfl, (subL_closed _ (by rfl)).symm⟩, trivial⟩, ⟨.refl _, .of (by simp only [n1, k1, k2, k3, k4, k5, k6, t1, t2, kw]; rfl), trivial⟩⟩ ?_
       refine goA 60 ?_
       refine oPA q9 ?_
       refine goA 60 ?_
       refine on_lend rfl rfl qA rfl ⟨[.gone, .gone, .gone, .gone, .gone], ⟨trivial, trivial, trivial, trivial, trivial, trivial⟩, ⟨.cl kc2, .of (congrArg int (by assumption)), trivial⟩⟩ ?_
       refine goB hX 0 (by conv => lhs; cbv; try simp only [n1, k1, k2, k3, k4, k5, k6, t1, t2, kw]; cbv; try simp only [n1, k1, k2, k3, k4, k5, k6, t1, t2, kw]; cbv; try simp only [n1, k1, k2, k3, k4, k5, k6, t1, t2, kw]; cbv; try simp only [n1, k1, k2, k3, k4, k5, k6, t1, t2, kw]; cbv) ?_
       refine goB hX 1 (by conv => lhs; cbv; try simp only [n1, k1, k2, k3, k4, k5, k6, t1, t2, kw]; cbv; try simp only [n1, k1, k2, k3, k4, k5, k6, t1, t2, kw]; cbv; try simp only [n1, k1, k2, k3, k4, k5, k6, t1, t2, kw]; cbv; try simp only [n1, k1, k2, k3, k4, k5, k6, t1, t2, kw]; cbv) ?_
       refine on_guard rfl rfl (fun c4 => ?_) (fun c4 => ?_)
       ·
        simp [ee] at c4
        refine oPG q4 ?_
        refine goA 60 ?_
        refine fn_ret rfl rfl (.val ?_)
        rfl
       ·
        simp [ee] at c4
theorem bound_sub {p q : Pat} (h : q ∈ p.nodes) : ∀ n ∈ q.bound, n ∈ p.bound := fun n hn => by
 rw [Pat.bound_mem] at hn ⊢
 unfold bndF at hn ⊢
 obtain ⟨x, hx, rfl⟩ := List.mem_map.1 hn
 obtain ⟨h1, h2⟩ := List.mem_filter.1 hx
 exact List.mem_map.2 ⟨x, List.mem_filter.2 ⟨(cnt_node p q h).2.2 x h1, h2⟩, rfl⟩
theorem arg_nodes {o a t v s n c} {e : Pat} (he : e ∈ a) : e ∈ (Pat.mk o a t v s n c).nodes := by
 rw [Pat.nodes]
 obtain ⟨d, r, rfl⟩ := List.append_of_mem he
 simp [Pat.nodesL_append, Pat.nodesL, Pat.nodes_eq e]
theorem ones_bd : ∀ p : Pat, ∀ n ∈ p.ones, n ∈ p.bound := Pat.ind fun o a t v s n c ih m hm => by
 rw [Pat.ones] at hm
 split at hm
 · split at hm
   · rename_i _ h0
     simp at hm
     subst hm
     rw [Pat.bound_mem, Pat.nodes, bndF_cons, if_pos (show (Pat.mk o a t m s n c).op = 0 from h0)]
     simp [Pat.var]
   · have hL : ∀ (r : List Pat) (acc : List Int), (∀ e ∈ r, e ∈ a) → (∀ k ∈ acc, k ∈ (Pat.mk o a t v s n c).bound) → ∀ k ∈ Pat.onesL acc r, k ∈ (Pat.mk o a t v s n c).bound := by
      intro r
      induction r with
      | nil => intro acc _ ha; rw [Pat.onesL]; exact ha
      | cons x r ihr =>
       intro acc hm ha
       rw [Pat.onesL]
       refine ihr _ (fun e he => hm e (by simp [he])) fun k hk => ?_
       rcases (uni_mem _ _ _).1 hk with h | h
       · exact ha k h
       · exact bound_sub (arg_nodes (hm x (by simp))) k (ih x (hm x (by simp)) k h)
     exact hL a [] (fun _ h => h) (fun _ h => by cases h) m hm
 · cases hm
def Below (m : Nat) (l : List Pat) : Prop := ∀ q ∈ l, typedF q.op = true → 0 ≤ q.var ∧ q.var < m
def Plc.nn (l : Plc) : Prop := (∀ n ∈ l.us, 0 ≤ n) ∧ ∀ n ∈ l.si, 0 ≤ n
theorem bound_nn {m : Nat} {p : Pat} (h : Below m p.nodes) : ∀ n ∈ p.bound, 0 ≤ n := fun n hn => by
 rw [Pat.bound_mem] at hn
 unfold bndF at hn
 obtain ⟨q, hq, rfl⟩ := List.mem_map.1 hn
 obtain ⟨h1, h2⟩ := List.mem_filter.1 hq
 exact (h q h1 (by rw [show q.op = 0 by simpa using h2]; rfl)).1
theorem ones_nn {m : Nat} {p : Pat} (h : Below m p.nodes) : ∀ n ∈ p.ones, 0 ≤ n := fun n hn => bound_nn h n (ones_bd p n hn)
theorem Plc.nn.plus {l : Plc} (h : l.nn) {m : Nat} {e : Pat} (he : Below m e.nodes) : (l.plus e).nn :=
 ⟨fun n hn => by rcases (uni_mem _ _ _).1 hn with k | k; exact h.1 n k; exact bound_nn he n k, fun n hn => by rcases (uni_mem _ _ _).1 hn with k | k; exact h.2 n k; exact ones_nn he n k⟩
end Go.Am
end
