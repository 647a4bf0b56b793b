/- Contracts of the program's functions, for every argument that meets the conditions that each theorem names. -/
import Derived.Test.YtdbikeconboifaaGreatDoorAm6
import Derived.Test.YtdbikeconboifaaGreatDoorCt5
import Derived.Test.YtdbikeconboifaaGreatDoorCt4
import Derived.Test.YtdbikeconboifaaGreatDoorCt2
import Derived.Test.YtdbikeconboifaaGreatDoorCt3
section
set_option maxHeartbeats 16000000
set_option linter.unusedVariables false
set_option linter.unusedSimpArgs false
set_option maxRecDepth 20000
namespace Go.Am
open Go.Proofs
open Classical in
theorem nodeE_red (p : Pat) (hl : p.args.length ≤ 64) : p.nodeE = (if p.op < 0 ∨ 10 < p.op then 1 else if ¬ (if p.op = 0 then p.args.length = 0 else if p.op = 1 ∨ p.op = 2 ∨ p.op = 3 then 2 ≤ p.args.length else if p.op = 8 then p.args.length = 2 else p.args.length = 1) then 15
 else if (typedF p.op && decide (p.ty < 0 ∨ 15 < p.ty)) = true ∨ (typedF p.op && decide (p.var < 0 ∨ 15 < p.var)) = true ∨ (scopeF p.op && decide (p.scope < 0 ∨ 63 < p.scope)) = true ∨ (spanF p.op && decide (p.span < 0 ∨ 1099511627776 < p.span)) = true then 2
 else if condF p.op = true ∧ p.cond.chk ≠ 0 then p.cond.chk
 else if (typedF p.op = false ∧ (p.ty ≠ 0 ∨ p.var ≠ 0)) ∨ (scopeF p.op = false ∧ p.scope ≠ 0) ∨ (spanF p.op = false ∧ p.span ≠ 0) ∨ (condF p.op = false ∧ p.cond ≠ Ex0) then 3 else 0) := by
 unfold Pat.nodeE
 by_cases h1 : p.op < 0 ∨ 11 ≤ p.op
 · rw [if_pos h1, if_pos (show p.op < 0 ∨ 10 < p.op by omega)]
 rw [if_neg h1, if_neg (show ¬ (p.op < 0 ∨ 10 < p.op) by omega)]
 have h2 : ((p.args.length : Int) < leastF p.op ∨ mostF p.op < p.args.length) ↔ ¬ (if p.op = 0 then p.args.length = 0 else if p.op = 1 ∨ p.op = 2 ∨ p.op = 3 then 2 ≤ p.args.length else if p.op = 8 then p.args.length = 2 else p.args.length = 1) := by
  unfold leastF mostF
  (repeat' split) <;> omega
 by_cases h3 : (p.args.length : Int) < leastF p.op ∨ mostF p.op < p.args.length
 · rw [if_pos h3, if_pos (h2.1 h3)]
 rw [if_neg h3, if_neg (fun h => h3 (h2.2 h))]
 have h4 : ((typedF p.op && decide (p.ty < 0 ∨ 15 < p.ty)) = true ∨ (typedF p.op && decide (p.var < 0 ∨ 15 < p.var)) = true ∨ (scopeF p.op && decide (p.scope < 0 ∨ 63 < p.scope)) = true ∨ (spanF p.op && decide (p.span < 0 ∨ 1099511627776 < p.span)) = true) ↔
  (typedF p.op = true ∧ (p.ty < 0 ∨ 15 < p.ty ∨ p.var < 0 ∨ 15 < p.var)) ∨ (scopeF p.op = true ∧ (p.scope < 0 ∨ 63 < p.scope)) ∨ (spanF p.op = true ∧ (p.span < 0 ∨ 1099511627776 < p.span)) := by
  cases typedF p.op <;> cases scopeF p.op <;> cases spanF p.op <;> simp <;> omega
 by_cases h5 : (typedF p.op = true ∧ (p.ty < 0 ∨ 15 < p.ty ∨ p.var < 0 ∨ 15 < p.var)) ∨ (scopeF p.op = true ∧ (p.scope < 0 ∨ 63 < p.scope)) ∨ (spanF p.op = true ∧ (p.span < 0 ∨ 1099511627776 < p.span))
 · rw [if_pos h5, if_pos (h4.2 h5)]
 rw [if_neg h5, if_neg (fun h => h5 (h4.1 h))]
 by_cases h6 : condF p.op = true ∧ p.cond.chk ≠ 0
 · rw [if_pos h6, if_pos h6]
 rw [if_neg h6, if_neg h6]
 by_cases h7 : (condF p.op = false ∧ p.cond ≠ Ex0) ∨ (typedF p.op = false ∧ (p.ty ≠ 0 ∨ p.var ≠ 0)) ∨ (scopeF p.op = false ∧ p.scope ≠ 0) ∨ (spanF p.op = false ∧ p.span ≠ 0)
 · rw [if_pos h7]
   refine (if_pos ?_).symm
   rcases h7 with h | h | h | h
   · exact .inr (.inr (.inr h))
   · exact .inl h
   · exact .inr (.inl h)
   · exact .inr (.inr (.inl h))
 · rw [if_neg h7]
   refine (if_neg ?_).symm
   rintro (h | h | h | h)
   · exact h7 (.inr (.inl h))
   · exact h7 (.inr (.inr (.inl h)))
   · exact h7 (.inr (.inr (.inr h)))
   · exact h7 (.inl h)
theorem P_ref09_node (p : Pat) (hs : p.Sm) (hlen : p.args.length ≤ 64) : PCall EE 55 [p.enc] (int p.nodeE) := by
 have h1 := P_ref09_arity p (by omega)
 have h2 := P_variable p
 have h3 := P_Negates p
 have h4 := P_Times p
 have h5 := P_condition p
 have h6 := P_ref08_Check p.cond hs.cond'
 have h7 := P_ref08_Same p.cond Ex0 hs.cond'
 rw [Ex0.form] at h7
 have hsc : scopeF p.op = (decide (p.op = 5 ∨ p.op = 9) || spanF p.op) := by unfold scopeF spanF; rw [Bool.eq_iff_iff]; simp; omega
 obtain ⟨R, hR⟩ : ∃ R, R = p.nodeE := ⟨_, rfl⟩
 rw [← hR]
 have hb : p.cond ≠ Ex0 ↔ eqB p.cond Ex0 = false := ⟨fun h => eqB_f h, fun h e => (by rw [eqB_t e] at h; cases h)⟩
 rw [nodeE_red p hlen, hsc] at hR
 simp only [hb] at hR
 clear hb
 have hcl := Pat.closed p
 have hccl := Ex.closed p.cond
 generalize hab : (decide (if p.op = 0 then p.args.length = 0 else if p.op = 1 ∨ p.op = 2 ∨ p.op = 3 then 2 ≤ p.args.length else if p.op = 8 then p.args.length = 2 else p.args.length = 1)) = ab at *
 have hab2 : (if p.op = 0 then p.args.length = 0 else if p.op = 1 ∨ p.op = 2 ∨ p.op = 3 then 2 ≤ p.args.length else if p.op = 8 then p.args.length = 2 else p.args.length = 1) ↔ ab = true := by rw [← hab]; simp
 simp only [hab2] at hR
 clear hab hab2 hsc
 have hco : (typedF p.op = true ∧ decide (p.op = 5 ∨ p.op = 9) = false ∧ spanF p.op = false ∧ condF p.op = true) ∨ (typedF p.op = true ∧ decide (p.op = 5 ∨ p.op = 9) = true ∧ spanF p.op = false ∧ condF p.op = true) ∨ (typedF p.op = false ∧ decide (p.op = 5 ∨ p.op = 9) = false ∧ spanF p.op = true ∧ condF p.op = false) ∨
  (typedF p.op = false ∧ decide (p.op = 5 ∨ p.op = 9) = false ∧ spanF p.op = false ∧ condF p.op = true) ∨ (typedF p.op = false ∧ decide (p.op = 5 ∨ p.op = 9) = false ∧ spanF p.op = false ∧ condF p.op = false) := by
  unfold typedF spanF condF
  simp only [decide_eq_true_eq, decide_eq_false_iff_not]
  omega
 generalize typedF p.op = ty at *
 generalize decide (p.op = 5 ∨ p.op = 9) = ng at *
 generalize spanF p.op = sp at *
 generalize condF p.op = cd at *
 generalize eqB p.cond Ex0 = eq at *
 generalize p.cond.chk = ck at *
 obtain ⟨pO, pA, pT, pV, pS, pN, pCo, pCa, pCv, pCf, pCk, pXk, pXn, pXt, hx, hxc, hpO, hpA, hpT, hpV, hpS, hpN⟩ := Pat.form2 p
 rw [hx] at h1 h2 h3 h4 h5 hcl ⊢
 rw [hxc] at h6 h7 hccl
 rw [← hpO, ← hpT, ← hpV, ← hpS, ← hpN] at hR
 have b1 := P_bad ty pT 15
 have b2 := P_bad ty pV 15
 have b3t := P_bad true pS 63
 have b3f := P_bad false pS 63
 have b4 := P_bad sp pN 1099511627776
 generalize decide (pT < 0 ∨ 15 < pT) = d1 at *
 generalize decide (pV < 0 ∨ 15 < pV) = d2 at *
 generalize decide (pS < 0 ∨ 63 < pS) = d3 at *
 generalize decide (pN < 0 ∨ 1099511627776 < pN) = d4 at *
 clear hpO hpA hpT hpV hpS hpN hx hxc hs hlen
 refine wordsN ?_; unhygienic intros
 refine fn_body (fn := Tryz.f55) (n := 100) (ac := Tryzc55) (rvs := [.t 2]) rfl (by decide) Tryzp55 rfl rfl rfl ?_
 rcases hco with ⟨rfl, rfl, rfl, rfl⟩ | ⟨rfl, rfl, rfl, rfl⟩ | ⟨rfl, rfl, rfl, rfl⟩ | ⟨rfl, rfl, rfl, rfl⟩ | ⟨rfl, rfl, rfl, rfl⟩
 ·
  refine goA 0 ?_
  refine on_cond rfl (fun c1 => ?_) (fun c1 => ?_)
  ·
   simp [ee] at c1
   refine goA 60 ?_
   refine fn_ret rfl rfl (.val ?_)
   exact congrArg (Value.int .i64) (by rw [hR]; clear ee hX; grind)
  ·
   simp [ee] at c1
   refine goA 60 ?_
   refine pcA h1 ?_
   refine goA 0 ?_
   refine on_cond rfl (fun c2 => ?_) (fun c2 => ?_)
   ·
    simp [ee] at c2
    refine goA 60 ?_
    refine fn_ret rfl rfl (.val ?_)
    exact congrArg (Value.int .i64) (by rw [hR]; clear ee hX; grind)
   ·
    simp [ee] at c2
    refine goA 60 ?_
    refine tr_drawB rfl (by conv => lhs; cbv) rfl ?_
    refine tgA ?_
    refine pcT h2 ?_
    refine tgA ?_
    refine pcT h3 ?_
    refine tgA ?_
    refine tr_ung rfl ?_
    refine tgA ?_
    refine tr_ung rfl ?_
    refine pcT h4 ?_
    refine tgA ?_
    refine pcT h5 ?_
    refine tgA ?_
    refine tr_nil ⟨rfl, by simp [LooksL, lookAll], ?_⟩
    refine goA 60 ?_
    refine tr_drawB rfl (by conv => lhs; cbv) rfl ?_
    refine tgA ?_
    refine pcT b1 ?_
    refine tgA ?_
    cases d1
    ·
     refine tr_ung rfl ?_
     refine tgA ?_
     refine tr_ung rfl ?_
     refine tgA ?_
     refine tr_ung rfl ?_
     refine tgA ?_
     refine tr_ung rfl ?_
     refine pcT b2 ?_
     refine tgA ?_
     cases d2
     ·
      refine tr_ung rfl ?_
      refine tgA ?_
      refine tr_ung rfl ?_
      refine tgA ?_
      refine tr_ung rfl ?_
      refine tgA ?_
      refine tr_ung rfl ?_
      refine pcT b3f ?_
      refine tgA ?_
      refine tr_ung rfl ?_
      refine tgA ?_
      refine tr_ung rfl ?_
      refine pcT h4 ?_
      refine tr_ung rfl ?_
      refine tgA ?_
      refine tr_ung rfl ?_
      refine tgA ?_
      refine tr_ung rfl ?_
      refine pcT b4 ?_
      refine tgA ?_
      refine tr_nil ⟨rfl, by simp [LooksL, lookAll], ?_⟩
      refine goA 60 ?_
      refine pcA h6 ?_
      refine goA 0 ?_
      refine on_cond rfl (fun c3 => ?_) (fun c3 => ?_)
      ·
       simp [ee] at c3
       refine goA 60 ?_
       refine fn_ret rfl rfl (.val ?_)
       exact congrArg (Value.int .i64) (by rw [hR]; clear ee hX; grind)
      ·
       simp [ee] at c3
       refine goA 0 ?_
       refine nsB hX (by conv => lhs; cbv) ?_
       refine goA 0 ?_
       refine nsB hX (by conv => lhs; cbv) ?_
       refine goA 0 ?_
       refine on_guard rfl rfl (fun c4 => ?_) (fun c4 => ?_)
       ·
        simp [ee] at c4
        refine goA 60 ?_
        refine on_gskip rfl rfl ?_
        refine goA 60 ?_
        refine on_gskip rfl rfl ?_
        refine goA 60 ?_
        refine fn_ret rfl rfl (.val ?_)
        exact congrArg (Value.int .i64) (by rw [hR]; clear ee hX; grind)
       ·
        simp [ee] at c4
        refine goA 60 ?_
        refine pcG h4 ?_
        refine goA 0 ?_
        refine goA 1 ?_
        refine goA 1 ?_
        refine nsB hX (by conv => lhs; cbv) ?_
        refine goA 0 ?_
        refine on_guard rfl rfl (fun c5 => ?_) (fun c5 => ?_)
        ·
         simp [ee] at c5
         refine goA 60 ?_
         refine on_gskip rfl rfl ?_
         refine goA 60 ?_
         refine fn_ret rfl rfl (.val ?_)
         exact congrArg (Value.int .i64) (by rw [hR]; clear ee hX; grind)
        ·
         simp [ee] at c5
         refine goA 1 ?_
         refine goA 1 ?_
         refine goA 1 ?_
         refine on_guard rfl rfl (fun c6 => ?_) (fun c6 => ?_)
         ·
          simp [ee] at c6
         ·
          simp [ee] at c6
          refine goA 1 ?_
          refine goA 1 ?_
          refine goA 1 ?_
          refine goA 1 ?_
          refine goA 1 ?_
          refine on_cond rfl (fun c7 => ?_) (fun c7 => ?_)
          ·
           simp [ee] at c7
          ·
           simp [ee] at c7
           refine goA 60 ?_
           refine fn_ret rfl rfl (.val ?_)
           exact congrArg (Value.int .i64) (by rw [hR]; clear ee hX; grind)
     ·
      refine tr_skipq (.inl rfl) ?_
      refine tr_skipq (.inl rfl) ?_
      refine tr_skipq (.inl rfl) ?_
      refine tr_skipq (.inl rfl) ?_
      refine tgA ?_
      refine tr_skipq (.inl rfl) ?_
      refine tr_skipq (.inl rfl) ?_
      refine tr_skipq (.inl rfl) ?_
      refine tr_skipq (.inl rfl) ?_
      refine tr_skipq (.inl rfl) ?_
      refine tgA ?_
      refine tr_nil ⟨rfl, by simp [LooksL, lookAll], ?_⟩
      refine goA 60 ?_
      refine fn_ret rfl rfl (.val ?_)
      exact congrArg (Value.int .i64) (by rw [hR]; clear ee hX; grind)
    ·
     refine tr_skipq (.inl rfl) ?_
     refine tr_skipq (.inl rfl) ?_
     refine tr_skipq (.inl rfl) ?_
     refine tr_skipq (.inl rfl) ?_
     refine tgA ?_
     refine tr_skipq (.inl rfl) ?_
     refine tr_skipq (.inl rfl) ?_
     refine tr_skipq (.inl rfl) ?_
     refine tr_skipq (.inl rfl) ?_
     refine tgA ?_
     refine tr_skipq (.inl rfl) ?_
     refine tr_skipq (.inl rfl) ?_
     refine tr_skipq (.inl rfl) ?_
     refine tr_skipq (.inl rfl) ?_
     refine tr_skipq (.inl rfl) ?_
     refine tgA ?_
     refine tr_nil ⟨rfl, by simp [LooksL, lookAll], ?_⟩
     refine goA 60 ?_
     refine fn_ret rfl rfl (.val ?_)
     exact congrArg (Value.int .i64) (by rw [hR]; clear ee hX; grind)
 ·
  refine goA 0 ?_
  refine on_cond rfl (fun c1 => ?_) (fun c1 => ?_)
  ·
   simp [ee] at c1
   refine goA 60 ?_
   refine fn_ret rfl rfl (.val ?_)
   exact congrArg (Value.int .i64) (by rw [hR]; clear ee hX; grind)
  ·
   simp [ee] at c1
   refine goA 60 ?_
   refine pcA h1 ?_
   refine goA 0 ?_
   refine on_cond rfl (fun c2 => ?_) (fun c2 => ?_)
   ·
    simp [ee] at c2
    refine goA 60 ?_
    refine fn_ret rfl rfl (.val ?_)
    exact congrArg (Value.int .i64) (by rw [hR]; clear ee hX; grind)
   ·
    simp [ee] at c2
    refine goA 60 ?_
    refine tr_drawB rfl (by conv => lhs; cbv) rfl ?_
    refine tgA ?_
    refine pcT h2 ?_
    refine tgA ?_
    refine pcT h3 ?_
    refine tgA ?_
    refine tr_skipq (.inl rfl) ?_
    refine tr_skipq (.inl rfl) ?_
    refine tgA ?_
    refine pcT h5 ?_
    refine tgA ?_
    refine tr_nil ⟨rfl, by simp [LooksL, lookAll], ?_⟩
    refine goA 60 ?_
    refine tr_drawB rfl (by conv => lhs; cbv) rfl ?_
    refine tgA ?_
    refine pcT b1 ?_
    refine tgA ?_
    cases d1
    ·
     refine tr_ung rfl ?_
     refine tgA ?_
     refine tr_ung rfl ?_
     refine tgA ?_
     refine tr_ung rfl ?_
     refine tgA ?_
     refine tr_ung rfl ?_
     refine pcT b2 ?_
     refine tgA ?_
     cases d2
     ·
      refine tr_ung rfl ?_
      refine tgA ?_
      refine tr_ung rfl ?_
      refine tgA ?_
      refine tr_ung rfl ?_
      refine tgA ?_
      refine tr_ung rfl ?_
      refine pcT b3t ?_
      refine tgA ?_
      cases d3
      ·
       refine tr_ung rfl ?_
       refine tgA ?_
       refine tr_ung rfl ?_
       refine pcT h4 ?_
       refine tr_ung rfl ?_
       refine tgA ?_
       refine tr_ung rfl ?_
       refine tgA ?_
       refine tr_ung rfl ?_
       refine pcT b4 ?_
       refine tgA ?_
       refine tr_nil ⟨rfl, by simp [LooksL, lookAll], ?_⟩
       refine goA 60 ?_
       refine pcA h6 ?_
       refine goA 0 ?_
       refine on_cond rfl (fun c3 => ?_) (fun c3 => ?_)
       ·
        simp [ee] at c3
        refine goA 60 ?_
        refine fn_ret rfl rfl (.val ?_)
        exact congrArg (Value.int .i64) (by rw [hR]; clear ee hX; grind)
       ·
        simp [ee] at c3
        refine goA 0 ?_
        refine nsB hX (by conv => lhs; cbv) ?_
        refine goA 0 ?_
        refine nsB hX (by conv => lhs; cbv) ?_
        refine goA 0 ?_
        refine on_guard rfl rfl (fun c4 => ?_) (fun c4 => ?_)
        ·
         simp [ee] at c4
        ·
         simp [ee] at c4
         refine goA 60 ?_
         refine pcG h4 ?_
         refine goA 0 ?_
         refine goA 1 ?_
         refine goA 1 ?_
         refine nsB hX (by conv => lhs; cbv) ?_
         refine goA 0 ?_
         refine on_guard rfl rfl (fun c5 => ?_) (fun c5 => ?_)
         ·
          simp [ee] at c5
          refine goA 60 ?_
          refine on_gskip rfl rfl ?_
          refine goA 60 ?_
          refine fn_ret rfl rfl (.val ?_)
          exact congrArg (Value.int .i64) (by rw [hR]; clear ee hX; grind)
         ·
          simp [ee] at c5
          refine goA 1 ?_
          refine goA 1 ?_
          refine goA 1 ?_
          refine on_guard rfl rfl (fun c6 => ?_) (fun c6 => ?_)
          ·
           simp [ee] at c6
          ·
           simp [ee] at c6
           refine goA 1 ?_
           refine goA 1 ?_
           refine goA 1 ?_
           refine goA 1 ?_
           refine goA 1 ?_
           refine on_cond rfl (fun c7 => ?_) (fun c7 => ?_)
           ·
            simp [ee] at c7
           ·
            simp [ee] at c7
            refine goA 60 ?_
            refine fn_ret rfl rfl (.val ?_)
            exact congrArg (Value.int .i64) (by rw [hR]; clear ee hX; grind)
      ·
       refine tr_skipq (.inl rfl) ?_
       refine tr_skipq (.inl rfl) ?_
       refine tr_skipq (.inl rfl) ?_
       refine tr_skipq (.inl rfl) ?_
       refine tr_skipq (.inl rfl) ?_
       refine tgA ?_
       refine tr_nil ⟨rfl, by simp [LooksL, lookAll], ?_⟩
       refine goA 60 ?_
       refine fn_ret rfl rfl (.val ?_)
       exact congrArg (Value.int .i64) (by rw [hR]; clear ee hX; grind)
     ·
      refine tr_skipq (.inl rfl) ?_
      refine tr_skipq (.inl rfl) ?_
      refine tr_skipq (.inl rfl) ?_
      refine tr_skipq (.inl rfl) ?_
      refine tgA ?_
      refine tr_skipq (.inl rfl) ?_
      refine tr_skipq (.inl rfl) ?_
      refine tr_skipq (.inl rfl) ?_
      refine tr_skipq (.inl rfl) ?_
      refine tr_skipq (.inl rfl) ?_
      refine tgA ?_
      refine tr_nil ⟨rfl, by simp [LooksL, lookAll], ?_⟩
      refine goA 60 ?_
      refine fn_ret rfl rfl (.val ?_)
      exact congrArg (Value.int .i64) (by rw [hR]; clear ee hX; grind)
    ·
     refine tr_skipq (.inl rfl) ?_
     refine tr_skipq (.inl rfl) ?_
     refine tr_skipq (.inl rfl) ?_
     refine tr_skipq (.inl rfl) ?_
     refine tgA ?_
     refine tr_skipq (.inl rfl) ?_
     refine tr_skipq (.inl rfl) ?_
     refine tr_skipq (.inl rfl) ?_
     refine tr_skipq (.inl rfl) ?_
     refine tgA ?_
     refine tr_skipq (.inl rfl) ?_
     refine tr_skipq (.inl rfl) ?_
     refine tr_skipq (.inl rfl) ?_
     refine tr_skipq (.inl rfl) ?_
     refine tr_skipq (.inl rfl) ?_
     refine tgA ?_
     refine tr_nil ⟨rfl, by simp [LooksL, lookAll], ?_⟩
     refine goA 60 ?_
     refine fn_ret rfl rfl (.val ?_)
     exact congrArg (Value.int .i64) (by rw [hR]; clear ee hX; grind)
 ·
  refine goA 0 ?_
  refine on_cond rfl (fun c1 => ?_) (fun c1 => ?_)
  ·
   simp [ee] at c1
   refine goA 60 ?_
   refine fn_ret rfl rfl (.val ?_)
   exact congrArg (Value.int .i64) (by rw [hR]; clear ee hX; grind)
  ·
   simp [ee] at c1
   refine goA 60 ?_
   refine pcA h1 ?_
   refine goA 0 ?_
   refine on_cond rfl (fun c2 => ?_) (fun c2 => ?_)
   ·
    simp [ee] at c2
    refine goA 60 ?_
    refine fn_ret rfl rfl (.val ?_)
    exact congrArg (Value.int .i64) (by rw [hR]; clear ee hX; grind)
   ·
    simp [ee] at c2
    refine goA 60 ?_
    refine tr_drawB rfl (by conv => lhs; cbv) rfl ?_
    refine tgA ?_
    refine pcT h2 ?_
    refine tgA ?_
    refine pcT h3 ?_
    refine tgA ?_
    refine tr_ung rfl ?_
    refine tgA ?_
    refine tr_ung rfl ?_
    refine pcT h4 ?_
    refine tgA ?_
    refine pcT h5 ?_
    refine tgA ?_
    refine tr_nil ⟨rfl, by simp [LooksL, lookAll], ?_⟩
    refine goA 60 ?_
    refine tr_drawB rfl (by conv => lhs; cbv) rfl ?_
    refine tgA ?_
    refine pcT b1 ?_
    refine tgA ?_
    refine tr_ung rfl ?_
    refine tgA ?_
    refine tr_ung rfl ?_
    refine tgA ?_
    refine tr_ung rfl ?_
    refine tgA ?_
    refine tr_ung rfl ?_
    refine pcT b2 ?_
    refine tgA ?_
    refine tr_ung rfl ?_
    refine tgA ?_
    refine tr_ung rfl ?_
    refine tgA ?_
    refine tr_ung rfl ?_
    refine tgA ?_
    refine tr_ung rfl ?_
    refine pcT b3t ?_
    refine tgA ?_
    cases d3
    ·
     refine tr_ung rfl ?_
     refine tgA ?_
     refine tr_ung rfl ?_
     refine pcT h4 ?_
     refine tr_ung rfl ?_
     refine tgA ?_
     refine tr_ung rfl ?_
     refine tgA ?_
     refine tr_ung rfl ?_
     refine pcT b4 ?_
     refine tgA ?_
     refine tr_nil ⟨rfl, by simp [LooksL, lookAll], ?_⟩
     refine goA 0 ?_
     refine on_cond rfl (fun c3 => ?_) (fun c3 => ?_)
     ·
      refine goA 60 ?_
      refine fn_ret rfl rfl (.val ?_)
      exact congrArg (Value.int .i64) (by rw [hR]; clear ee hX; grind)
     ·
      refine goA 0 ?_
      refine goA 1 ?_
      refine nsB hX (by conv => lhs; cbv) ?_
      refine goA 0 ?_
      refine nsB hX (by conv => lhs; cbv) ?_
      refine goA 0 ?_
      refine on_guard rfl rfl (fun c4 => ?_) (fun c4 => ?_)
      ·
       simp [ee] at c4
       refine goA 60 ?_
       refine on_gskip rfl rfl ?_
       refine goA 60 ?_
       refine on_gskip rfl rfl ?_
       refine goA 60 ?_
       refine fn_ret rfl rfl (.val ?_)
       exact congrArg (Value.int .i64) (by rw [hR]; clear ee hX; grind)
      ·
       simp [ee] at c4
       refine goA 60 ?_
       refine pcG h4 ?_
       refine goA 0 ?_
       refine goA 1 ?_
       refine goA 1 ?_
       refine nsB hX (by conv => lhs; cbv) ?_
       refine goA 0 ?_
       refine on_guard rfl rfl (fun c5 => ?_) (fun c5 => ?_)
       ·
        simp [ee] at c5
       ·
        simp [ee] at c5
        refine goA 1 ?_
        refine goA 1 ?_
        refine goA 1 ?_
        refine on_guard rfl rfl (fun c6 => ?_) (fun c6 => ?_)
        ·
         simp [ee] at c6
         refine goA 60 ?_
         refine on_lend rfl rfl h7 rfl ⟨[.gone], ⟨trivial, trivial⟩, ⟨.cl hccl, .agg' ⟨.refl _, .nilI _, .refl _, .refl _, .refl _, .refl _, .refl _, .refl _, trivial⟩, trivial⟩⟩ ?_
         refine goA 0 ?_
         refine goA 1 ?_
         refine on_cond rfl (fun c7 => ?_) (fun c7 => ?_)
         ·
          simp [ee] at c7
          refine goA 60 ?_
          refine fn_ret rfl rfl (.val ?_)
          exact congrArg (Value.int .i64) (by rw [hR]; clear ee hX; grind)
         ·
          simp [ee] at c7
          refine goA 60 ?_
          refine fn_ret rfl rfl (.val ?_)
          exact congrArg (Value.int .i64) (by rw [hR]; clear ee hX; grind)
        ·
         simp [ee] at c6
    ·
     refine tr_skipq (.inl rfl) ?_
     refine tr_skipq (.inl rfl) ?_
     refine tr_skipq (.inl rfl) ?_
     refine tr_skipq (.inl rfl) ?_
     refine tr_skipq (.inl rfl) ?_
     refine tgA ?_
     refine tr_nil ⟨rfl, by simp [LooksL, lookAll], ?_⟩
     refine goA 60 ?_
     refine fn_ret rfl rfl (.val ?_)
     exact congrArg (Value.int .i64) (by rw [hR]; clear ee hX; grind)
 ·
  refine goA 0 ?_
  refine on_cond rfl (fun c1 => ?_) (fun c1 => ?_)
  ·
   simp [ee] at c1
   refine goA 60 ?_
   refine fn_ret rfl rfl (.val ?_)
   exact congrArg (Value.int .i64) (by rw [hR]; clear ee hX; grind)
  ·
   simp [ee] at c1
   refine goA 60 ?_
   refine pcA h1 ?_
   refine goA 0 ?_
   refine on_cond rfl (fun c2 => ?_) (fun c2 => ?_)
   ·
    simp [ee] at c2
    refine goA 60 ?_
    refine fn_ret rfl rfl (.val ?_)
    exact congrArg (Value.int .i64) (by rw [hR]; clear ee hX; grind)
   ·
    simp [ee] at c2
    refine goA 60 ?_
    refine tr_drawB rfl (by conv => lhs; cbv) rfl ?_
    refine tgA ?_
    refine pcT h2 ?_
    refine tgA ?_
    refine pcT h3 ?_
    refine tgA ?_
    refine tr_ung rfl ?_
    refine tgA ?_
    refine tr_ung rfl ?_
    refine pcT h4 ?_
    refine tgA ?_
    refine pcT h5 ?_
    refine tgA ?_
    refine tr_nil ⟨rfl, by simp [LooksL, lookAll], ?_⟩
    refine goA 60 ?_
    refine tr_drawB rfl (by conv => lhs; cbv) rfl ?_
    refine tgA ?_
    refine pcT b1 ?_
    refine tgA ?_
    refine tr_ung rfl ?_
    refine tgA ?_
    refine tr_ung rfl ?_
    refine tgA ?_
    refine tr_ung rfl ?_
    refine tgA ?_
    refine tr_ung rfl ?_
    refine pcT b2 ?_
    refine tgA ?_
    refine tr_ung rfl ?_
    refine tgA ?_
    refine tr_ung rfl ?_
    refine tgA ?_
    refine tr_ung rfl ?_
    refine tgA ?_
    refine tr_ung rfl ?_
    refine pcT b3f ?_
    refine tgA ?_
    refine tr_ung rfl ?_
    refine tgA ?_
    refine tr_ung rfl ?_
    refine pcT h4 ?_
    refine tr_ung rfl ?_
    refine tgA ?_
    refine tr_ung rfl ?_
    refine tgA ?_
    refine tr_ung rfl ?_
    refine pcT b4 ?_
    refine tgA ?_
    refine tr_nil ⟨rfl, by simp [LooksL, lookAll], ?_⟩
    refine goA 60 ?_
    refine pcA h6 ?_
    refine goA 0 ?_
    refine on_cond rfl (fun c3 => ?_) (fun c3 => ?_)
    ·
     simp [ee] at c3
     refine goA 60 ?_
     refine fn_ret rfl rfl (.val ?_)
     exact congrArg (Value.int .i64) (by rw [hR]; clear ee hX; grind)
    ·
     simp [ee] at c3
     refine goA 0 ?_
     refine nsB hX (by conv => lhs; cbv) ?_
     refine goA 0 ?_
     refine nsB hX (by conv => lhs; cbv) ?_
     refine goA 0 ?_
     refine on_guard rfl rfl (fun c4 => ?_) (fun c4 => ?_)
     ·
      simp [ee] at c4
      refine goA 60 ?_
      refine on_gskip rfl rfl ?_
      refine goA 60 ?_
      refine on_gskip rfl rfl ?_
      refine goA 60 ?_
      refine fn_ret rfl rfl (.val ?_)
      exact congrArg (Value.int .i64) (by rw [hR]; clear ee hX; grind)
     ·
      simp [ee] at c4
      refine goA 60 ?_
      refine pcG h4 ?_
      refine goA 0 ?_
      refine goA 1 ?_
      refine goA 1 ?_
      refine nsB hX (by conv => lhs; cbv) ?_
      refine goA 0 ?_
      refine on_guard rfl rfl (fun c5 => ?_) (fun c5 => ?_)
      ·
       simp [ee] at c5
       refine goA 60 ?_
       refine on_gskip rfl rfl ?_
       refine goA 60 ?_
       refine fn_ret rfl rfl (.val ?_)
       exact congrArg (Value.int .i64) (by rw [hR]; clear ee hX; grind)
      ·
       simp [ee] at c5
       refine goA 1 ?_
       refine goA 1 ?_
       refine goA 1 ?_
       refine on_guard rfl rfl (fun c6 => ?_) (fun c6 => ?_)
       ·
        simp [ee] at c6
       ·
        simp [ee] at c6
        refine goA 1 ?_
        refine goA 1 ?_
        refine goA 1 ?_
        refine goA 1 ?_
        refine goA 1 ?_
        refine on_cond rfl (fun c7 => ?_) (fun c7 => ?_)
        ·
         simp [ee] at c7
        ·
         simp [ee] at c7
         refine goA 60 ?_
         refine fn_ret rfl rfl (.val ?_)
         exact congrArg (Value.int .i64) (by rw [hR]; clear ee hX; grind)
 ·
  refine goA 0 ?_
  refine on_cond rfl (fun c1 => ?_) (fun c1 => ?_)
  ·
   simp [ee] at c1
   refine goA 60 ?_
   refine fn_ret rfl rfl (.val ?_)
   exact congrArg (Value.int .i64) (by rw [hR]; clear ee hX; grind)
  ·
   simp [ee] at c1
   refine goA 60 ?_
   refine pcA h1 ?_
   refine goA 0 ?_
   refine on_cond rfl (fun c2 => ?_) (fun c2 => ?_)
   ·
    simp [ee] at c2
    refine goA 60 ?_
    refine fn_ret rfl rfl (.val ?_)
    exact congrArg (Value.int .i64) (by rw [hR]; clear ee hX; grind)
   ·
    simp [ee] at c2
    refine goA 60 ?_
    refine tr_drawB rfl (by conv => lhs; cbv) rfl ?_
    refine tgA ?_
    refine pcT h2 ?_
    refine tgA ?_
    refine pcT h3 ?_
    refine tgA ?_
    refine tr_ung rfl ?_
    refine tgA ?_
    refine tr_ung rfl ?_
    refine pcT h4 ?_
    refine tgA ?_
    refine pcT h5 ?_
    refine tgA ?_
    refine tr_nil ⟨rfl, by simp [LooksL, lookAll], ?_⟩
    refine goA 60 ?_
    refine tr_drawB rfl (by conv => lhs; cbv) rfl ?_
    refine tgA ?_
    refine pcT b1 ?_
    refine tgA ?_
    refine tr_ung rfl ?_
    refine tgA ?_
    refine tr_ung rfl ?_
    refine tgA ?_
    refine tr_ung rfl ?_
    refine tgA ?_
    refine tr_ung rfl ?_
    refine pcT b2 ?_
    refine tgA ?_
    refine tr_ung rfl ?_
    refine tgA ?_
    refine tr_ung rfl ?_
    refine tgA ?_
    refine tr_ung rfl ?_
    refine tgA ?_
    refine tr_ung rfl ?_
    refine pcT b3f ?_
    refine tgA ?_
    refine tr_ung rfl ?_
    refine tgA ?_
    refine tr_ung rfl ?_
    refine pcT h4 ?_
    refine tr_ung rfl ?_
    refine tgA ?_
    refine tr_ung rfl ?_
    refine tgA ?_
    refine tr_ung rfl ?_
    refine pcT b4 ?_
    refine tgA ?_
    refine tr_nil ⟨rfl, by simp [LooksL, lookAll], ?_⟩
    refine goA 0 ?_
    refine goA 1 ?_
    refine goA 1 ?_
    refine nsB hX (by conv => lhs; cbv) ?_
    refine goA 0 ?_
    refine nsB hX (by conv => lhs; cbv) ?_
    refine goA 0 ?_
    refine on_guard rfl rfl (fun c3 => ?_) (fun c3 => ?_)
    ·
     simp [ee] at c3
     refine goA 60 ?_
     refine on_gskip rfl rfl ?_
     refine goA 60 ?_
     refine on_gskip rfl rfl ?_
     refine goA 60 ?_
     refine fn_ret rfl rfl (.val ?_)
     exact congrArg (Value.int .i64) (by rw [hR]; clear ee hX; grind)
    ·
     simp [ee] at c3
     refine goA 60 ?_
     refine pcG h4 ?_
     refine goA 0 ?_
     refine goA 1 ?_
     refine goA 1 ?_
     refine nsB hX (by conv => lhs; cbv) ?_
     refine goA 0 ?_
     refine on_guard rfl rfl (fun c4 => ?_) (fun c4 => ?_)
     ·
      simp [ee] at c4
      refine goA 60 ?_
      refine on_gskip rfl rfl ?_
      refine goA 60 ?_
      refine fn_ret rfl rfl (.val ?_)
      exact congrArg (Value.int .i64) (by rw [hR]; clear ee hX; grind)
     ·
      simp [ee] at c4
      refine goA 1 ?_
      refine goA 1 ?_
      refine goA 1 ?_
      refine on_guard rfl rfl (fun c5 => ?_) (fun c5 => ?_)
      ·
       simp [ee] at c5
       refine goA 60 ?_
       refine on_lend rfl rfl h7 rfl ⟨[.gone], ⟨trivial, trivial⟩, ⟨.cl hccl, .agg' ⟨.refl _, .nilI _, .refl _, .refl _, .refl _, .refl _, .refl _, .refl _, trivial⟩, trivial⟩⟩ ?_
       refine goA 0 ?_
       refine goA 1 ?_
       refine on_cond rfl (fun c6 => ?_) (fun c6 => ?_)
       ·
        simp [ee] at c6
        refine goA 60 ?_
        refine fn_ret rfl rfl (.val ?_)
        exact congrArg (Value.int .i64) (by rw [hR]; clear ee hX; grind)
       ·
        simp [ee] at c6
        refine goA 60 ?_
        refine fn_ret rfl rfl (.val ?_)
        exact congrArg (Value.int .i64) (by rw [hR]; clear ee hX; grind)
      ·
       simp [ee] at c5
end Go.Am
end
section
set_option maxHeartbeats 16000000
set_option linter.unusedVariables false
set_option linter.unusedSimpArgs false
set_option maxRecDepth 20000
namespace Go.Am
open Go.Proofs
mutual
def Pat.tot (lim : Nat) : Pat → Nat
 | .mk _ a _ _ _ _ _ => Pat.totL lim 1 a
def Pat.totL (lim : Nat) : Nat → List Pat → Nat
 | n, [] => n
 | n, e :: r => if n ≤ lim then Pat.totL lim (n + e.tot lim) r else n
end
theorem Pat.totL_le {lim : Nat} {l : List Pat} (h : ∀ e ∈ l, e.tot lim ≤ e.cnt) : ∀ n, Pat.totL lim n l ≤ n + Pat.cntL l := by
 induction l with
 | nil => intro n; simp [Pat.totL]
 | cons e r ih =>
  intro n
  have h1 := h e (by simp)
  have h2 := ih (fun e he => h e (by simp [he])) (n + e.tot lim)
  simp only [Pat.totL, Pat.cntL]; split <;> omega
theorem Pat.tot_le (lim : Nat) : ∀ e : Pat, e.tot lim ≤ e.cnt := Pat.ind fun o a t v s n c h => by
 have := Pat.totL_le h 1
 simp only [Pat.tot, Pat.cnt]; omega
theorem Pat.totL_eq {lim : Nat} {l : List Pat} (h : ∀ e ∈ l, e.cnt ≤ lim → e.tot lim = e.cnt) : ∀ n, n + Pat.cntL l ≤ lim → Pat.totL lim n l = n + Pat.cntL l := by
 induction l with
 | nil => intro n _; simp [Pat.totL, Pat.cntL]
 | cons e r ih =>
  intro n hn
  simp only [Pat.cntL] at hn ⊢
  have h1 := h e (by simp) (by omega)
  rw [Pat.totL, if_pos (by omega), ih (fun e he => h e (by simp [he])) _ (by omega)]; omega
theorem Pat.tot_eq {lim : Nat} : ∀ e : Pat, e.cnt ≤ lim → e.tot lim = e.cnt := Pat.ind fun o a t v s n c h hl => by
 simp only [Pat.tot, Pat.cnt] at hl ⊢
 exact Pat.totL_eq h 1 hl
theorem Pat.totL_gt {lim : Nat} {l : List Pat} (h : ∀ e ∈ l, lim < e.cnt → lim < e.tot lim) : ∀ n, lim < n + Pat.cntL l → lim < Pat.totL lim n l := by
 induction l with
 | nil => intro n hn; simpa [Pat.totL, Pat.cntL] using hn
 | cons e r ih =>
  intro n hn
  simp only [Pat.cntL] at hn
  rw [Pat.totL]
  split
  · refine ih (fun e he => h e (by simp [he])) _ ?_
    by_cases hc : e.cnt ≤ lim
    · rw [Pat.tot_eq e hc]; omega
    · have := h e (by simp) (by omega); omega
  · omega
theorem Pat.tot_gt {lim : Nat} : ∀ e : Pat, lim < e.cnt → lim < e.tot lim := Pat.ind fun o a t v s n c h hl => by
 simp only [Pat.tot, Pat.cnt] at hl ⊢
 exact Pat.totL_gt h 1 hl
theorem Pat.tot_iff (e : Pat) (lim : Nat) : e.tot lim ≤ lim ↔ e.cnt ≤ lim := by
 by_cases h : e.cnt ≤ lim
 · rw [Pat.tot_eq e h]
 · have := Pat.tot_gt (lim := lim) e (by omega); omega
theorem P_ref09_Total (lim : Nat) (hlim : lim ≤ 1099511627776) : ∀ p : Pat, p.Sm → PCall EE 29 [p.enc, int lim] (int (p.tot lim)) := by
 generalize hli : (lim : Int) = li
 refine Pat.ind ?_
 intro o a t v s n c ih hs
 obtain ⟨co, ca, cv, cf, ck, xk, xn, xt⟩ := c
 have hlen := hs.len
 have hih : ∀ q ∈ a, PCall EE 29 [q.enc, int li] (int (q.tot lim)) := fun q hq => ih q hq (hs.arg hq)
 have hcl := Pat.closedI a
 have hce := Ex.closedI ca
 have hcnt : Pat.cntL a ≤ 1048576 := by have hs := hs.1; simp only [Pat.cnt] at hs; omega
 have hde := fun q : Pat => Pat.tot_le lim q
 simp only [Pat.tot]
 obtain ⟨R, hR⟩ : ∃ R, R = Pat.totL lim 1 a := ⟨_, rfl⟩
 rw [← hR, Pat.enc_mk]
 refine wordsN ?_; unhygienic intros
 generalize hes : mapE Pat.enc a = es at *
 generalize mapE Ex.enc ca = ec at *
 have hel : es.length = a.length := by rw [← hes, mapE_len]
 refine fn_body (fn := Tryz.f29) (n := 29) (ac := Tryzc29) (rvs := [.t 4]) rfl (by decide) Tryzp29 rfl rfl rfl ?_
 refine goA 60 ?_
 refine on_loopP (ι := List Pat × List Pat × Int × Int) (fun p => ([(5, int p.2.2.2), (6, int p.2.2.1), (1, int li), (2, .ptr 0 0)], [.cells [int o, .isl 14 es, int t, int v, int s, int n, int co, .isl 8 ec, int cv, int cf, int ck, int xk, int xn, str xt]])) (fun p => a = p.1 ++ p.2.1 ∧ p.2.2.1 = p.1.length ∧ p.2.2.2 ≤ 1 + Pat.cntL p.1 ∧ 0 ≤ p.2.2.2 ∧ R = Pat.totL lim p.2.2.2.toNat p.2.1) (fun p => p.2.1.length) ([], a, 0, 1) ⟨rfl, rfl, by simp [Pat.cntL], by simp, hR⟩ ?_ ?_
 · exact (ent_sub [.to 0] [some 0] ⟨⟨by simp, rfl⟩, trivial⟩ ⟨osrc_cells (b := 0) rfl rfl rfl ⟨.refl _, .cl hcl, .refl _, .refl _, .refl _, .refl _, .refl _, .cl hce, .refl _, .refl _, .refl _, .refl _, .refl _, .refl _, trivial⟩, trivial⟩ ⟨.refl _, .refl _, .refl _, .refl _, trivial⟩)
 rintro ⟨d, r, i, nn⟩ ⟨g1, gi, gn, gp, gt⟩
 dsimp only at g1 gi gn gp gt ⊢
 have hnt : (nn.toNat : Int) = nn := Int.toNat_of_nonneg gp
 cases r with
 | nil =>
  have L1 := len_split g1
  try simp only [List.length_cons, List.length_nil] at L1
  have hc : iLt i (lenA es) = false := lt_f e_iLt e_lenA (by omega)
  rw [Pat.totL] at gt
  have hv : nn = (R : Int) := by omega
  have hb : ∀ b, bAnd false b = false := by simp [ee]
  refine goB hX 0 (by conv => lhs; cbv; try simp only [hc, hb]; cbv; try simp only [hc, hb]; cbv; try simp only [hc, hb]; cbv; try simp only [hc, hb]; cbv) ?_
  refine goA 60 ?_
  refine loopP_exit ?_
  refine goA 60 ?_
  refine fn_ret rfl rfl (.val ?_)
  exact congrArg (Value.int .i64) hv
 | cons q r =>
  have L1 := len_split g1
  try simp only [List.length_cons, List.length_nil] at L1
  have hc : iLt i (lenA es) = true := lt_t e_iLt e_lenA (by omega)
  have hat := el_at e_atA hes g1 gi
  have hq := hih q (by rw [g1]; simp)
  have hqc := Pat.closed q
  have hqd := hde q
  rw [g1, Pat.cntL_append, Pat.cntL] at hcnt
  obtain ⟨qO, qA, qT, qV, qS, qN, qCo, qCa, qCv, qCf, qCk, qXk, qXn, qXt, hx⟩ := Pat.form q
  rw [hx] at hq hat hqc
  have hb : ∀ b, bAnd true b = b := by simp [ee]
  rw [Pat.totL] at gt
  by_cases hle : nn ≤ li
  · have h2 : iLe nn li = true := by simp [ee]; omega
    rw [if_pos (by omega)] at gt
    generalize hqn : (q.tot lim : Int) = qn at hq
    have hn2 : iAdd .i64 nn qn = nn + qn := add_w e_iAdd (by omega) (by omega)
    have hi2 : iAdd .i64 i 1 = ((d ++ [q]).length : Int) := by rw [List.length_append]; exact inc_w e_iAdd gi (by omega)
    have hn4 : iAdd .i64 nn qn ≤ 1 + Pat.cntL (d ++ [q]) ∧ 0 ≤ iAdd .i64 nn qn := by rw [Pat.cntL_append, Pat.cntL, Pat.cntL, hn2]; omega
    have hn3 : (iAdd .i64 nn qn).toNat = nn.toNat + q.tot lim := by omega
    refine goB hX 0 (by conv => lhs; cbv; try simp only [hc, hat, hb, h2]; cbv; try simp only [hc, hat, hb, h2]; cbv; try simp only [hc, hat, hb, h2]; cbv; try simp only [hc, hat, hb, h2]; cbv) ?_
    refine goB hX 1 (by conv => lhs; cbv; try simp only [hc, hat, hb, h2]; cbv; try simp only [hc, hat, hb, h2]; cbv; try simp only [hc, hat, hb, h2]; cbv; try simp only [hc, hat, hb, h2]; cbv) ?_
    refine pcA hq ?_
    refine goA 60 ?_
    refine loopP_next (d ++ [q], r, iAdd .i64 i 1, iAdd .i64 nn qn) ⟨by simp [g1], hi2, hn4.1, hn4.2, hn3 ▸ gt⟩ (by simp) (ent_sub [.to 0] [some 0] ⟨⟨by simp, rfl⟩, trivial⟩ ⟨osrc_cells (b := 0) rfl rfl rfl ⟨.refl _, .cl hcl, .refl _, .refl _, .refl _, .refl _, .refl _, .cl hce, .refl _, .refl _, .refl _, .refl _, .refl _, .refl _, trivial⟩, trivial⟩ ⟨.refl _, .refl _, .refl _, .refl _, trivial⟩)
  · have h2 : iLe nn li = false := by simp [ee]; omega
    rw [if_neg (by omega)] at gt
    have hv : nn = (R : Int) := by omega
    refine goB hX 0 (by conv => lhs; cbv; try simp only [hc, hat, hb, h2]; cbv; try simp only [hc, hat, hb, h2]; cbv; try simp only [hc, hat, hb, h2]; cbv; try simp only [hc, hat, hb, h2]; cbv) ?_
    refine goA 60 ?_
    refine loopP_exit ?_
    refine goA 60 ?_
    refine fn_ret rfl rfl (.val ?_)
    exact congrArg (Value.int .i64) hv
end Go.Am
end
section
set_option maxHeartbeats 16000000
set_option linter.unusedVariables false
set_option linter.unusedSimpArgs false
set_option maxRecDepth 20000
namespace Go.Am
open Go.Proofs
theorem chk_zero {p : Pat} (h : p.chk = 0) : p.wholeE = 0 ∧ (cfold p.nodes).2.2 = true := by
 unfold Pat.chk at h
 split at h
 · exact absurd h (by assumption)
 · rename_i h1
   split at h
   · exact ⟨by simpa using h1, by assumption⟩
   · cases h
theorem cfold_pre (a b : List Pat) (h : (cfold (a ++ b)).2.2 = true) : (cfold a).2.2 = true := by
 unfold cfold at *
 rw [List.foldl_append] at h
 generalize a.foldl cstep (0, 0, true) = s at *
 induction b generalizing s with
 | nil => exact h
 | cons q r ih =>
  have := ih _ h
  simp only [cstep, Bool.and_eq_true] at this
  exact this.1.1
theorem cnt_node : ∀ p : Pat, ∀ q ∈ p.nodes, q.cnt ≤ p.cnt ∧ q.dep ≤ p.dep ∧ (∀ x ∈ q.nodes, x ∈ p.nodes) := by
 refine Pat.ind fun o a t v s n c ih q hq => ?_
 rw [Pat.nodes, List.mem_cons] at hq
 rcases hq with rfl | hq
 · exact ⟨Nat.le_refl _, Nat.le_refl _, fun x hx => hx⟩
 · obtain ⟨e, he, hqe⟩ := Pat.mem_nodesL hq
   obtain ⟨h1, h2, h3⟩ := ih e he q hqe
   have h4 := Pat.cnt_mem he
   have h5 : e.dep ≤ Pat.depL 0 a := by
    have : ∀ (l : List Pat) (d : Nat), d ≤ Pat.depL d l ∧ ∀ e ∈ l, e.dep ≤ Pat.depL d l := by
     intro l
     induction l with
     | nil => intro d; simp [Pat.depL]
     | cons x r ih =>
      intro d
      have := ih (max d x.dep)
      rw [Pat.depL]
      refine ⟨by omega, fun e he => ?_⟩
      rcases List.mem_cons.1 he with rfl | he
      · omega
      · exact this.2 e he
    exact (this a 0).2 e he
   refine ⟨by rw [Pat.cnt]; omega, by rw [Pat.dep]; omega, fun x hx => ?_⟩
   rw [Pat.nodes]
   refine List.mem_cons_of_mem _ ?_
   obtain ⟨l1, l2, rfl⟩ := List.append_of_mem he
   rw [Pat.nodesL_append, Pat.nodesL]
   simp [h3 x hx]
end Go.Am
end
section
set_option maxHeartbeats 16000000
set_option linter.unusedVariables false
set_option linter.unusedSimpArgs false
set_option maxRecDepth 20000
namespace Go.Am
open Go.Proofs
theorem P_ref09_CheckRest (p : Pat) (hs : p.Sm) : PCall EE 20 [p.enc] (int p.chkR) := by
 have h1 := P_ref09_Total 64 (by decide) p hs
 have h2 := P_ref09_Depth p hs
 have h3 := P_ref09_Nodes p hs
 have htot := Pat.tot_iff p 64
 have hnd := hs.node
 have hcn := cnt_node p
 have hcl := Pat.closed p
 obtain ⟨R, hR⟩ : ∃ R, R = p.chkR := ⟨_, rfl⟩
 rw [← hR]
 unfold Pat.chkR at hR
 obtain ⟨tt, htt⟩ : ∃ z : Int, z = p.tot 64 := ⟨_, rfl⟩
 obtain ⟨dp, hdp⟩ : ∃ z : Int, z = p.dep := ⟨_, rfl⟩
 rw [← htt] at h1
 rw [← hdp] at h2
 have hnl := Pat.nodes_len p
 have hqn : p.cnt ≤ 64 → ∀ q ∈ p.nodes, PCall EE 55 [q.enc] (int q.nodeE) := fun hc q hq => P_ref09_node q (hnd q hq) (by
  have h1 := (hcn q hq).1
  obtain ⟨o, a, t, v, s, n, c⟩ := q
  have := Pat.cntL_len a
  simp only [Pat.cnt, Pat.args] at h1 ⊢
  omega)
 have hnc := Pat.closedI p.nodes
 generalize hnn : p.nodes = nl at *
 obtain ⟨pO, pA, pT, pV, pS, pN, pCo, pCa, pCv, pCf, pCk, pXk, pXn, pXt, hx⟩ := Pat.form p
 rw [hx] at h1 h2 h3 hcl ⊢
 refine wordsN ?_; unhygienic intros
 generalize hes : mapE Pat.enc nl = es at *
 have hel : es.length = nl.length := by rw [← hes, mapE_len]
 refine fn_body (fn := Tryz.f20) (n := 28) (ac := Tryzc20) (rvs := [.t 2]) rfl (by decide) Tryzp20 rfl rfl rfl ?_
 by_cases g1 : tt ≤ 64
 rotate_left
 · have k1 : iLt 64 tt = true := by simp only [ee]; simp; omega
   rw [if_pos (by omega)] at hR
   refine goA 60 ?_
   refine pcA h1 ?_
   refine goB hX 0 (by conv => lhs; cbv; try simp only [k1]; cbv; try simp only [k1]; cbv; try simp only [k1]; cbv; try simp only [k1]; cbv) ?_
   refine goA 60 ?_
   refine fn_ret rfl rfl (.val ?_)
   exact congrArg (Value.int .i64) hR.symm
 have k1 : iLt 64 tt = false := by simp only [ee]; simp; omega
 rw [if_neg (by omega)] at hR
 have hqn := hqn (by omega)
 by_cases g2 : dp ≤ 12
 rotate_left
 · have k2 : iLt 12 dp = true := by simp only [ee]; simp; omega
   rw [if_pos (by omega)] at hR
   refine goA 60 ?_
   refine pcA h1 ?_
   refine goB hX 0 (by conv => lhs; cbv; try simp only [k1, k2]; cbv; try simp only [k1, k2]; cbv; try simp only [k1, k2]; cbv; try simp only [k1, k2]; cbv) ?_
   refine goA 60 ?_
   refine pcA h2 ?_
   refine goB hX 0 (by conv => lhs; cbv; try simp only [k1, k2]; cbv; try simp only [k1, k2]; cbv; try simp only [k1, k2]; cbv; try simp only [k1, k2]; cbv) ?_
   refine goA 60 ?_
   refine fn_ret rfl rfl (.val ?_)
   exact congrArg (Value.int .i64) hR.symm
 have k2 : iLt 12 dp = false := by simp only [ee]; simp; omega
 rw [if_neg (by omega)] at hR
 refine goA 60 ?_
 refine pcA h1 ?_
 refine goB hX 0 (by conv => lhs; cbv; try simp only [k1, k2]; cbv; try simp only [k1, k2]; cbv; try simp only [k1, k2]; cbv; try simp only [k1, k2]; cbv) ?_
 refine goA 60 ?_
 refine pcA h2 ?_
 refine goB hX 0 (by conv => lhs; cbv; try simp only [k1, k2]; cbv; try simp only [k1, k2]; cbv; try simp only [k1, k2]; cbv; try simp only [k1, k2]; cbv) ?_
 refine goA 60 ?_
 refine pcA h3 ?_
 refine goA 60 ?_
 refine on_loopP (ι := List Pat × List Pat × Int) (fun p => ([(4, int p.2.2), (3, .isl 14 es)], [])) (fun p => nl = p.1 ++ p.2.1 ∧ p.2.2 = p.1.length ∧ R = firstE Pat.nodeE p.2.1) (fun p => p.2.1.length) ([], nl, 0) ⟨rfl, rfl, hR⟩ ?_ ?_
 · exact (ent_sub [.gone] [] ⟨trivial, trivial⟩ trivial ⟨.refl _, .cl hnc, trivial⟩)
 rintro ⟨d, r, i⟩ ⟨g1, gi, gR⟩
 dsimp only at g1 gi gR ⊢
 cases r with
 | nil =>
  have L1 := len_split g1
  try simp only [List.length_cons, List.length_nil] at L1
  have hc : iLt i (lenA es) = false := lt_f e_iLt e_lenA (by omega)
  have gR : R = 0 := gR
  refine goB hX 0 (by conv => lhs; cbv; try simp only [hc]; cbv; try simp only [hc]; cbv; try simp only [hc]; cbv; try simp only [hc]; cbv) ?_
  refine goA 60 ?_
  refine loopP_exit ?_
  refine goA 60 ?_
  refine fn_ret rfl rfl (.val ?_)
  exact congrArg (Value.int .i64) gR.symm
 | cons q r =>
  have L1 := len_split g1
  try simp only [List.length_cons, List.length_nil] at L1
  have hc : iLt i (lenA es) = true := lt_t e_iLt e_lenA (by omega)
  have hat := el_at e_atA hes g1 gi
  have hq := hqn q (by rw [g1]; simp)
  have hqc := Pat.closed q
  rw [firstE] at gR
  obtain ⟨qO, qA, qT, qV, qS, qN, qCo, qCa, qCv, qCf, qCk, qXk, qXn, qXt, hy⟩ := Pat.form q
  rw [hy] at hat hqc hq
  have hi2 : iAdd .i64 i 1 = ((d ++ [q]).length : Int) := by rw [List.length_append]; exact inc_w e_iAdd gi (by omega)
  generalize q.nodeE = fq at *
  by_cases h2 : fq = 0
  · have w2 : iNe fq 0 = false := by simp only [ee]; simpa using h2
    rw [if_neg (by simpa using h2)] at gR
    refine goB hX 0 (by conv => lhs; cbv; try simp only [hc, hat, w2]; cbv; try simp only [hc, hat, w2]; cbv; try simp only [hc, hat, w2]; cbv; try simp only [hc, hat, w2]; cbv) ?_
    refine goB hX 1 (by conv => lhs; cbv; try simp only [hc, hat, w2]; cbv; try simp only [hc, hat, w2]; cbv; try simp only [hc, hat, w2]; cbv; try simp only [hc, hat, w2]; cbv) ?_
    refine pcA hq ?_
    refine goB hX 0 (by conv => lhs; cbv; try simp only [hc, hat, w2]; cbv; try simp only [hc, hat, w2]; cbv; try simp only [hc, hat, w2]; cbv; try simp only [hc, hat, w2]; cbv) ?_
    refine goA 60 ?_
    refine loopP_next (d ++ [q], r, iAdd .i64 i 1) ⟨by simp [g1], hi2, gR⟩ (by simp) (ent_sub [] [] trivial trivial ⟨.refl _, .cl hnc, trivial⟩)
  · have w2 : iNe fq 0 = true := by simp only [ee]; simpa using h2
    rw [if_pos h2] at gR
    refine goB hX 0 (by conv => lhs; cbv; try simp only [hc, hat, w2]; cbv; try simp only [hc, hat, w2]; cbv; try simp only [hc, hat, w2]; cbv; try simp only [hc, hat, w2]; cbv) ?_
    refine goB hX 1 (by conv => lhs; cbv; try simp only [hc, hat, w2]; cbv; try simp only [hc, hat, w2]; cbv; try simp only [hc, hat, w2]; cbv; try simp only [hc, hat, w2]; cbv) ?_
    refine pcA hq ?_
    refine goB hX 0 (by conv => lhs; cbv; try simp only [hc, hat, w2]; cbv; try simp only [hc, hat, w2]; cbv; try simp only [hc, hat, w2]; cbv; try simp only [hc, hat, w2]; cbv) ?_
    refine goA 60 ?_
    refine loopP_ret ?_
    refine goA 60 ?_
    refine fn_ret rfl rfl (.val ?_)
    exact congrArg (Value.int .i64) gR.symm
theorem P_ref09_Size (p : Pat) (hs : p.Sm) : PCall EE 14 [p.enc] (.tup [int p.cnt, int p.dep]) := by
 have h1 := P_ref09_Total 1099511627776 (by decide) p hs
 have h2 := P_ref09_Depth p hs
 rw [Pat.tot_eq p (by have := hs.1; omega)] at h1
 have hcl := Pat.closed p
 obtain ⟨c, hc⟩ : ∃ z : Int, z = p.cnt := ⟨_, rfl⟩
 obtain ⟨dp, hd⟩ : ∃ z : Int, z = p.dep := ⟨_, rfl⟩
 rw [← hc] at h1 ⊢
 rw [← hd] at h2 ⊢
 obtain ⟨pO, pA, pT, pV, pS, pN, pCo, pCa, pCv, pCf, pCk, pXk, pXn, pXt, hx⟩ := Pat.form p
 rw [hx] at h1 h2 hcl ⊢
 refine wordsN ?_; unhygienic intros
 refine fn_body (fn := Tryz.f14) (n := 8) (ac := Tryzc14) (rvs := [.t 2, .t 3]) rfl (by decide) Tryzp14 rfl rfl rfl ?_
 refine goA 60 ?_
 refine tr_drawB rfl (by conv => lhs; cbv) rfl ?_
 refine tgA ?_
 refine pcT h1 ?_
 refine tgA ?_
 refine pcT h2 ?_
 refine tgA ?_
 refine tr_nil ⟨rfl, by simp [LooksL, lookAll], ?_⟩
 refine goA 60 ?_
 refine fn_ret rfl rfl ?_
 exact ⟨[.gone], ⟨trivial, trivial⟩, .refl _⟩
def properB (l : List Pat) : Bool := l.all fun q => decide (q.op < 8)
theorem P_proper (nl : List Pat) (hlen : nl.length < 1048577) : PCall EE 45 [.isl 14 (mapE Pat.enc nl)] (bool (properB nl)) := by
 obtain ⟨R, hR⟩ : ∃ R, R = properB nl := ⟨_, rfl⟩
 rw [← hR]
 have hnc := Pat.closedI nl
 refine wordsN ?_; unhygienic intros
 generalize hes : mapE Pat.enc nl = es at *
 have hel : es.length = nl.length := by rw [← hes, mapE_len]
 refine fn_body (fn := Tryz.f45) (n := 16) (ac := Tryzc45) (rvs := [.t 2]) rfl (by decide) Tryzp45 rfl rfl rfl ?_
 refine goA 60 ?_
 refine on_loopP (ι := List Pat × List Pat × Int) (fun p => ([(3, int p.2.2), (0, .isl 14 es)], [])) (fun p => nl = p.1 ++ p.2.1 ∧ p.2.2 = p.1.length ∧ R = properB p.2.1) (fun p => p.2.1.length) ([], nl, 0) ⟨rfl, rfl, hR⟩ ?_ ?_
 · exact (ent_sub [] [] trivial trivial ⟨.refl _, .cl hnc, trivial⟩)
 rintro ⟨d, r, i⟩ ⟨g1, gi, gR⟩
 dsimp only at g1 gi gR ⊢
 cases r with
 | nil =>
  have L1 := len_split g1
  try simp only [List.length_cons, List.length_nil] at L1
  have hc : iLt i (lenA es) = false := lt_f e_iLt e_lenA (by omega)
  have gR : R = true := gR
  refine goB hX 0 (by conv => lhs; cbv; try simp only [hc]; cbv; try simp only [hc]; cbv; try simp only [hc]; cbv; try simp only [hc]; cbv) ?_
  refine goA 60 ?_
  refine loopP_exit ?_
  refine goA 60 ?_
  refine fn_ret rfl rfl (.val ?_)
  exact congrArg Value.bool gR.symm
 | cons q r =>
  have L1 := len_split g1
  try simp only [List.length_cons, List.length_nil] at L1
  have hc : iLt i (lenA es) = true := lt_t e_iLt e_lenA (by omega)
  have hat := el_at e_atA hes g1 gi
  have gR : R = (decide (q.op < 8) && properB r) := gR
  obtain ⟨qO, qA, qT, qV, qS, qN, qCo, qCa, qCv, qCf, qCk, qXk, qXn, qXt, hy, hyc, hqO, hqA, hqT, hqV, hqS, hqN⟩ := Pat.form2 q
  rw [hy] at hat
  rw [← hqO] at gR
  have hi2 : iAdd .i64 i 1 = ((d ++ [q]).length : Int) := by rw [List.length_append]; exact inc_w e_iAdd gi (by omega)
  by_cases h2 : qO < 8
  · have w2 : iLe 8 qO = false := by simp only [ee]; simp; omega
    have gR : R = properB r := by rw [gR]; simp [h2]
    refine goB hX 0 (by conv => lhs; cbv; try simp only [hc, hat, w2]; cbv; try simp only [hc, hat, w2]; cbv; try simp only [hc, hat, w2]; cbv; try simp only [hc, hat, w2]; cbv) ?_
    refine goB hX 1 (by conv => lhs; cbv; try simp only [hc, hat, w2]; cbv; try simp only [hc, hat, w2]; cbv; try simp only [hc, hat, w2]; cbv; try simp only [hc, hat, w2]; cbv) ?_
    refine goA 60 ?_
    refine loopP_next (d ++ [q], r, iAdd .i64 i 1) ⟨by simp [g1], hi2, gR⟩ (by simp) (ent_sub [] [] trivial trivial ⟨.refl _, .cl hnc, trivial⟩)
  · have w2 : iLe 8 qO = true := by simp only [ee]; simp; omega
    have gR : R = false := by rw [gR]; simp [h2]
    refine goB hX 0 (by conv => lhs; cbv; try simp only [hc, hat, w2]; cbv; try simp only [hc, hat, w2]; cbv; try simp only [hc, hat, w2]; cbv; try simp only [hc, hat, w2]; cbv) ?_
    refine goB hX 1 (by conv => lhs; cbv; try simp only [hc, hat, w2]; cbv; try simp only [hc, hat, w2]; cbv; try simp only [hc, hat, w2]; cbv; try simp only [hc, hat, w2]; cbv) ?_
    refine goA 60 ?_
    refine loopP_ret ?_
    refine goA 60 ?_
    refine fn_ret rfl rfl (.val ?_)
    exact congrArg Value.bool gR.symm
end Go.Am
end
section
set_option maxHeartbeats 16000000
set_option linter.unusedVariables false
set_option linter.unusedSimpArgs false
set_option maxRecDepth 20000
namespace Go.Am
open Go.Proofs
theorem scopeF_or (o : Int) : scopeF o = (decide (o = 5 ∨ o = 9) || spanF o) := by unfold scopeF spanF; rw [Bool.eq_iff_iff]; simp; omega
theorem Pat.enc_c (o a t v s n) {c : Ex} {cs : List AV} (h : c.enc = .agg cs) : (Pat.mk o a t v s n c).enc = .agg ([int o, .isl 14 (mapE Pat.enc a), int t, int v, int s, int n] ++ cs) := by
 obtain ⟨co, ca, cv, cf, ck, cx⟩ := c
 rw [Ex.enc_mk] at h
 injection h with h
 rw [Pat.enc_mk, ← h]; rfl
end Go.Am
end
section
set_option maxHeartbeats 16000000
set_option linter.unusedVariables false
set_option linter.unusedSimpArgs false
set_option maxRecDepth 20000
namespace Go.Am
open Go.Proofs
theorem proper_first (l : List Pat) : firstE (fun q : Pat => if 8 ≤ q.op then 1 else 0) l = if properB l = true then 0 else 1 := by
 induction l with
 | nil => rfl
 | cons q r ih =>
  rw [firstE]
  by_cases h : 8 ≤ q.op
  · rw [if_pos h, if_pos (by decide), if_neg (by simp [properB]; omega)]
  · rw [if_neg h, if_neg (by decide), ih]
    have : properB (q :: r) = properB r := by simp [properB]; omega
    rw [this]
theorem Pat.chk_red (p : Pat) : p.chk = if p.chkR ≠ 0 then p.chkR else if properB p.nodes = false then 1 else if (cfold p.nodes).2.2 = true then 0 else 14 := by
 unfold Pat.chk Pat.wholeE
 rw [proper_first]
 by_cases h : p.chkR = 0
 · simp only [h, ne_eq, not_true_eq_false, if_false]
   cases properB p.nodes <;> simp
 · simp [h]
theorem P_ref09_Check (p : Pat) (hs : p.Sm) : PCall EE 18 [p.enc] (int p.chk) := by
 have h1 := P_ref09_CheckRest p hs
 have h2 := P_ref09_Nodes p hs
 have hcl := Pat.closed p
 obtain ⟨R, hR⟩ : ∃ R, R = p.chk := ⟨_, rfl⟩
 rw [← hR]
 rw [Pat.chk_red] at hR
 have hnl := Pat.nodes_len p
 have hs1 := hs.1
 have hnc := Pat.closedI p.nodes
 have h3 := P_proper p.nodes (by omega)
 generalize hnn : p.nodes = nl at *
 generalize p.chkR = ck at *
 generalize properB nl = pr at *
 obtain ⟨pO, pA, pT, pV, pS, pN, pCo, pCa, pCv, pCf, pCk, pXk, pXn, pXt, hx⟩ := Pat.form p
 rw [hx] at h1 h2 hcl ⊢
 refine wordsN ?_; unhygienic intros
 generalize hes : mapE Pat.enc nl = es at *
 have hel : es.length = nl.length := by rw [← hes, mapE_len]
 have n0 : bNot false = true := by simp only [ee]; rfl
 have n1 : bNot true = false := by simp only [ee]; rfl
 refine fn_body (fn := Tryz.f18) (n := 59) (ac := Tryzc18) (rvs := [.t 2]) rfl (by decide) Tryzp18 rfl rfl rfl ?_
 by_cases g1 : ck = 0
 rotate_left
 · have k1 : iNe ck 0 = true := by simp only [ee]; simpa using g1
   rw [if_pos g1] at hR
   refine goA 60 ?_
   refine pcA h1 ?_
   refine goB hX 0 (by conv => lhs; cbv; try simp only [k1]; cbv; try simp only [k1]; cbv; try simp only [k1]; cbv; try simp only [k1]; cbv) ?_
   refine goA 60 ?_
   refine fn_ret rfl rfl (.val ?_)
   exact congrArg (Value.int .i64) hR.symm
 have k1 : iNe ck 0 = false := by simp only [ee]; simpa using g1
 rw [if_neg (by simpa using g1)] at hR
 cases pr with
 | false =>
  rw [if_pos rfl] at hR
  refine goA 60 ?_
  refine pcA h1 ?_
  refine goB hX 0 (by conv => lhs; cbv; try simp only [k1, n0]; cbv; try simp only [k1, n0]; cbv; try simp only [k1, n0]; cbv; try simp only [k1, n0]; cbv) ?_
  refine goA 60 ?_
  refine pcA h2 ?_
  refine goA 60 ?_
  refine pcA h3 ?_
  refine goB hX 0 (by conv => lhs; cbv; try simp only [k1, n0]; cbv; try simp only [k1, n0]; cbv; try simp only [k1, n0]; cbv; try simp only [k1, n0]; cbv) ?_
  refine goA 60 ?_
  refine fn_ret rfl rfl (.val ?_)
  exact congrArg (Value.int .i64) hR.symm
 | true =>
 rw [if_neg (by decide)] at hR
 refine goA 60 ?_
 refine pcA h1 ?_
 refine goB hX 0 (by conv => lhs; cbv; try simp only [k1, n1]; cbv; try simp only [k1, n1]; cbv; try simp only [k1, n1]; cbv; try simp only [k1, n1]; cbv) ?_
 refine goA 60 ?_
 refine pcA h2 ?_
 refine goA 60 ?_
 refine pcA h3 ?_
 refine goB hX 0 (by conv => lhs; cbv; try simp only [k1, n1]; cbv; try simp only [k1, n1]; cbv; try simp only [k1, n1]; cbv; try simp only [k1, n1]; cbv) ?_
 refine goA 60 ?_
 refine on_loopP (ι := List Pat × List Pat × Int × Int × Int) (fun p => ([(7, int p.2.2.1), (4, .isl 14 es), (5, int p.2.2.2.1), (6, int p.2.2.2.2)], [])) (fun p => nl = p.1 ++ p.2.1 ∧ p.2.2.1 = p.1.length ∧ p.2.2.2.1 = (cfold p.1).1 ∧ p.2.2.2.2 = (cfold p.1).2.1 ∧ (cfold p.1).2.2 = true) (fun p => p.2.1.length) ([], nl, 0, 0, 0) ⟨rfl, rfl, rfl, rfl, rfl⟩ ?_ ?_
 · exact (ent_sub [.gone] [] ⟨trivial, trivial⟩ trivial ⟨.refl _, .cl hnc, .refl _, .refl _, trivial⟩)
 rintro ⟨d, r, i, vs, sc⟩ ⟨g1, gi, gv, gs, gok⟩
 dsimp only at g1 gi gv gs gok ⊢
 cases r with
 | nil =>
  have L1 := len_split g1
  try simp only [List.length_cons, List.length_nil] at L1
  have hc : iLt i (lenA es) = false := lt_f e_iLt e_lenA (by omega)
  rw [List.append_nil] at g1
  have gR : R = 0 := by rw [hR, g1, if_pos gok]
  refine goB hX 0 (by conv => lhs; cbv; try simp only [hc]; cbv; try simp only [hc]; cbv; try simp only [hc]; cbv; try simp only [hc]; cbv) ?_
  refine goA 60 ?_
  refine loopP_exit ?_
  refine goA 60 ?_
  refine fn_ret rfl rfl (.val ?_)
  exact congrArg (Value.int .i64) gR.symm
 | cons q r =>
  have L1 := len_split g1
  try simp only [List.length_cons, List.length_nil] at L1
  have hc : iLt i (lenA es) = true := lt_t e_iLt e_lenA (by omega)
  have hat := el_at e_atA hes g1 gi
  have hb := cfold_bd d
  have hbad : (cfold (d ++ [q])).2.2 = false → R = 14 := fun h => by
   rw [hR, if_neg]
   intro hh
   rw [g1, show d ++ q :: r = (d ++ [q]) ++ r by simp] at hh
   rw [cfold_pre _ _ hh] at h; cases h
  have e1 : (cfold (d ++ [q])).1 = _ := congrArg (fun s => s.1) (cfold_snoc d q)
  have e2 : (cfold (d ++ [q])).2.1 = _ := congrArg (fun s => s.2.1) (cfold_snoc d q)
  have e3 : (cfold (d ++ [q])).2.2 = _ := congrArg (fun s => s.2.2) (cfold_snoc d q)
  dsimp only [cstep] at e1 e2 e3
  rw [gok, ← gv, ← gs] at e3
  rw [← gv] at e1
  rw [← gs] at e2
  have q1 := P_variable q
  have q2 := P_Negates q
  have q3 := P_Times q
  have hor := scopeF_or q.op
  generalize scopeF q.op = sf at *
  generalize typedF q.op = tf at *
  generalize decide (q.op = 5 ∨ q.op = 9) = ng at *
  generalize spanF q.op = sp at *
  have hqc := Pat.closed q
  obtain ⟨qO, qA, qT, qV, qS, qN, qCo, qCa, qCv, qCf, qCk, qXk, qXn, qXt, hy, hyc, hqO, hqA, hqT, hqV, hqS, hqN⟩ := Pat.form2 q
  rw [hy] at hat hqc q1 q2 q3
  rw [← hqV] at e3
  rw [← hqS] at e3
  have hi2 : iAdd .i64 i 1 = ((d ++ [q]).length : Int) := by rw [List.length_append]; exact inc_w e_iAdd gi (by omega)
  have a1 : iAdd .i64 vs 1 = vs + 1 := add_w e_iAdd (by omega) (by omega)
  have a2 : iAdd .i64 sc 1 = sc + 1 := add_w e_iAdd (by omega) (by omega)
  clear hy hyc hqO hqA hqT hqV hqS hqN hR gok gv gs hb
  refine goB hX 0 (by conv => lhs; cbv; try simp only [hc, hat]; cbv; try simp only [hc, hat]; cbv; try simp only [hc, hat]; cbv; try simp only [hc, hat]; cbv) ?_
  refine goB hX 1 (by conv => lhs; cbv; try simp only [hc, hat]; cbv; try simp only [hc, hat]; cbv; try simp only [hc, hat]; cbv; try simp only [hc, hat]; cbv) ?_
  refine pcA q1 ?_
  refine goB hX 0 (by conv => lhs; cbv; try simp only [hc, hat]; cbv; try simp only [hc, hat]; cbv; try simp only [hc, hat]; cbv; try simp only [hc, hat]; cbv) ?_
  refine on_cond rfl (fun c1 => ?_) (fun c1 => ?_)
  ·
   refine goB hX 0 (by conv => lhs; cbv; try simp only [hc, hat]; cbv; try simp only [hc, hat]; cbv; try simp only [hc, hat]; cbv; try simp only [hc, hat]; cbv) ?_
   refine on_cond rfl (fun c2 => ?_) (fun c2 => ?_)
   ·
    simp [ee] at c2
    refine goA 60 ?_
    refine loopP_ret ?_
    refine goA 60 ?_
    refine fn_ret rfl rfl (.val ?_)
    exact congrArg (Value.int .i64) (Eq.symm (hbad (by clear ee hX; grind)))
   ·
    simp [ee] at c2
    refine goB hX 0 (by conv => lhs; cbv; try simp only [hc, hat]; cbv; try simp only [hc, hat]; cbv; try simp only [hc, hat]; cbv; try simp only [hc, hat]; cbv) ?_
    refine pcA q2 ?_
    refine goB hX 0 (by conv => lhs; cbv; try simp only [hc, hat]; cbv; try simp only [hc, hat]; cbv; try simp only [hc, hat]; cbv; try simp only [hc, hat]; cbv) ?_
    refine on_guard rfl rfl (fun c3 => ?_) (fun c3 => ?_)
    ·
     refine goB hX 1 (by conv => lhs; cbv; try simp only [hc, hat]; cbv; try simp only [hc, hat]; cbv; try simp only [hc, hat]; cbv; try simp only [hc, hat]; cbv) ?_
     refine goB hX 1 (by conv => lhs; cbv; try simp only [hc, hat]; cbv; try simp only [hc, hat]; cbv; try simp only [hc, hat]; cbv; try simp only [hc, hat]; cbv) ?_
     refine goB hX 1 (by conv => lhs; cbv; try simp only [hc, hat]; cbv; try simp only [hc, hat]; cbv; try simp only [hc, hat]; cbv; try simp only [hc, hat]; cbv) ?_
     refine goB hX 1 (by conv => lhs; cbv; try simp only [hc, hat]; cbv; try simp only [hc, hat]; cbv; try simp only [hc, hat]; cbv; try simp only [hc, hat]; cbv) ?_
     refine goB hX 1 (by conv => lhs; cbv; try simp only [hc, hat]; cbv; try simp only [hc, hat]; cbv; try simp only [hc, hat]; cbv; try simp only [hc, hat]; cbv) ?_
     refine goB hX 1 (by conv => lhs; cbv; try simp only [hc, hat]; cbv; try simp only [hc, hat]; cbv; try simp only [hc, hat]; cbv; try simp only [hc, hat]; cbv) ?_
     refine on_cond rfl (fun c4 => ?_) (fun c4 => ?_)
     ·
      simp [ee] at c4
      refine goA 60 ?_
      refine loopP_ret ?_
      refine goA 60 ?_
      refine fn_ret rfl rfl (.val ?_)
      exact congrArg (Value.int .i64) (Eq.symm (hbad (by clear ee hX; grind)))
     ·
      simp [ee] at c4
      refine goA 60 ?_
      refine loopP_next (d ++ [q], r, iAdd .i64 i 1, iAdd .i64 vs 1, iAdd .i64 sc 1) ⟨by simp [g1], hi2, by clear ee hX; grind, by clear ee hX; grind, by clear ee hX; grind⟩ (by simp) (ent_sub [] [] trivial trivial ⟨.refl _, .cl hnc, .refl _, .refl _, trivial⟩)
    ·
     refine goB hX 1 (by conv => lhs; cbv; try simp only [hc, hat]; cbv; try simp only [hc, hat]; cbv; try simp only [hc, hat]; cbv; try simp only [hc, hat]; cbv) ?_
     refine goB hX 1 (by conv => lhs; cbv; try simp only [hc, hat]; cbv; try simp only [hc, hat]; cbv; try simp only [hc, hat]; cbv; try simp only [hc, hat]; cbv) ?_
     refine goB hX 1 (by conv => lhs; cbv; try simp only [hc, hat]; cbv; try simp only [hc, hat]; cbv; try simp only [hc, hat]; cbv; try simp only [hc, hat]; cbv) ?_
     refine goA 60 ?_
     refine pcG q3 ?_
     refine goB hX 0 (by conv => lhs; cbv; try simp only [hc, hat]; cbv; try simp only [hc, hat]; cbv; try simp only [hc, hat]; cbv; try simp only [hc, hat]; cbv) ?_
     refine on_cond rfl (fun c5 => ?_) (fun c5 => ?_)
     ·
      refine goB hX 0 (by conv => lhs; cbv; try simp only [hc, hat]; cbv; try simp only [hc, hat]; cbv; try simp only [hc, hat]; cbv; try simp only [hc, hat]; cbv) ?_
      refine on_cond rfl (fun c6 => ?_) (fun c6 => ?_)
      ·
       simp [ee] at c6
       refine goA 60 ?_
       refine loopP_ret ?_
       refine goA 60 ?_
       refine fn_ret rfl rfl (.val ?_)
       exact congrArg (Value.int .i64) (Eq.symm (hbad (by clear ee hX; grind)))
      ·
       simp [ee] at c6
       refine goA 60 ?_
       refine loopP_next (d ++ [q], r, iAdd .i64 i 1, iAdd .i64 vs 1, iAdd .i64 sc 1) ⟨by simp [g1], hi2, by clear ee hX; grind, by clear ee hX; grind, by clear ee hX; grind⟩ (by simp) (ent_sub [] [] trivial trivial ⟨.refl _, .cl hnc, .refl _, .refl _, trivial⟩)
     ·
      refine goA 60 ?_
      refine loopP_next (d ++ [q], r, iAdd .i64 i 1, iAdd .i64 vs 1, sc) ⟨by simp [g1], hi2, by clear ee hX; grind, by clear ee hX; grind, by clear ee hX; grind⟩ (by simp) (ent_sub [] [] trivial trivial ⟨.refl _, .cl hnc, .refl _, .refl _, trivial⟩)
  ·
   refine goB hX 0 (by conv => lhs; cbv; try simp only [hc, hat]; cbv; try simp only [hc, hat]; cbv; try simp only [hc, hat]; cbv; try simp only [hc, hat]; cbv) ?_
   refine pcA q2 ?_
   refine goB hX 0 (by conv => lhs; cbv; try simp only [hc, hat]; cbv; try simp only [hc, hat]; cbv; try simp only [hc, hat]; cbv; try simp only [hc, hat]; cbv) ?_
   refine on_guard rfl rfl (fun c7 => ?_) (fun c7 => ?_)
   ·
    refine goB hX 1 (by conv => lhs; cbv; try simp only [hc, hat]; cbv; try simp only [hc, hat]; cbv; try simp only [hc, hat]; cbv; try simp only [hc, hat]; cbv) ?_
    refine goB hX 1 (by conv => lhs; cbv; try simp only [hc, hat]; cbv; try simp only [hc, hat]; cbv; try simp only [hc, hat]; cbv; try simp only [hc, hat]; cbv) ?_
    refine goB hX 1 (by conv => lhs; cbv; try simp only [hc, hat]; cbv; try simp only [hc, hat]; cbv; try simp only [hc, hat]; cbv; try simp only [hc, hat]; cbv) ?_
    refine goB hX 1 (by conv => lhs; cbv; try simp only [hc, hat]; cbv; try simp only [hc, hat]; cbv; try simp only [hc, hat]; cbv; try simp only [hc, hat]; cbv) ?_
    refine goB hX 1 (by conv => lhs; cbv; try simp only [hc, hat]; cbv; try simp only [hc, hat]; cbv; try simp only [hc, hat]; cbv; try simp only [hc, hat]; cbv) ?_
    refine goB hX 1 (by conv => lhs; cbv; try simp only [hc, hat]; cbv; try simp only [hc, hat]; cbv; try simp only [hc, hat]; cbv; try simp only [hc, hat]; cbv) ?_
    refine on_cond rfl (fun c8 => ?_) (fun c8 => ?_)
    ·
     simp [ee] at c8
     refine goA 60 ?_
     refine loopP_ret ?_
     refine goA 60 ?_
     refine fn_ret rfl rfl (.val ?_)
     exact congrArg (Value.int .i64) (Eq.symm (hbad (by clear ee hX; grind)))
    ·
     simp [ee] at c8
     refine goA 60 ?_
     refine loopP_next (d ++ [q], r, iAdd .i64 i 1, vs, iAdd .i64 sc 1) ⟨by simp [g1], hi2, by clear ee hX; grind, by clear ee hX; grind, by clear ee hX; grind⟩ (by simp) (ent_sub [] [] trivial trivial ⟨.refl _, .cl hnc, .refl _, .refl _, trivial⟩)
   ·
    refine goB hX 1 (by conv => lhs; cbv; try simp only [hc, hat]; cbv; try simp only [hc, hat]; cbv; try simp only [hc, hat]; cbv; try simp only [hc, hat]; cbv) ?_
    refine goB hX 1 (by conv => lhs; cbv; try simp only [hc, hat]; cbv; try simp only [hc, hat]; cbv; try simp only [hc, hat]; cbv; try simp only [hc, hat]; cbv) ?_
    refine goB hX 1 (by conv => lhs; cbv; try simp only [hc, hat]; cbv; try simp only [hc, hat]; cbv; try simp only [hc, hat]; cbv; try simp only [hc, hat]; cbv) ?_
    refine goA 60 ?_
    refine pcG q3 ?_
    refine goB hX 0 (by conv => lhs; cbv; try simp only [hc, hat]; cbv; try simp only [hc, hat]; cbv; try simp only [hc, hat]; cbv; try simp only [hc, hat]; cbv) ?_
    refine on_cond rfl (fun c9 => ?_) (fun c9 => ?_)
    ·
     refine goB hX 0 (by conv => lhs; cbv; try simp only [hc, hat]; cbv; try simp only [hc, hat]; cbv; try simp only [hc, hat]; cbv; try simp only [hc, hat]; cbv) ?_
     refine on_cond rfl (fun c10 => ?_) (fun c10 => ?_)
     ·
      simp [ee] at c10
      refine goA 60 ?_
      refine loopP_ret ?_
      refine goA 60 ?_
      refine fn_ret rfl rfl (.val ?_)
      exact congrArg (Value.int .i64) (Eq.symm (hbad (by clear ee hX; grind)))
     ·
      simp [ee] at c10
      refine goA 60 ?_
      refine loopP_next (d ++ [q], r, iAdd .i64 i 1, vs, iAdd .i64 sc 1) ⟨by simp [g1], hi2, by clear ee hX; grind, by clear ee hX; grind, by clear ee hX; grind⟩ (by simp) (ent_sub [] [] trivial trivial ⟨.refl _, .cl hnc, .refl _, .refl _, trivial⟩)
    ·
     refine goA 60 ?_
     refine loopP_next (d ++ [q], r, iAdd .i64 i 1, vs, sc) ⟨by simp [g1], hi2, by clear ee hX; grind, by clear ee hX; grind, by clear ee hX; grind⟩ (by simp) (ent_sub [] [] trivial trivial ⟨.refl _, .cl hnc, .refl _, .refl _, trivial⟩)
noncomputable def Pat.nVars (p : Pat) : Int := if p.chk = 0 then (cfold p.nodes).1 else 0
noncomputable def Pat.nScs (p : Pat) : Int := if p.chk = 0 then (cfold p.nodes).2.1 else 0
theorem P_pattern_Count (p : Pat) (hs : p.Sm) : PCall EE 15 [p.enc] (.tup [int p.nVars, int p.nScs, int p.chk]) := by
 have h1 := P_pattern_Check p hs
 have h2 := fun h : p.chk = 0 => P_count p hs fun q hq => nodeE_op ((wholeE_ok (chk_zero h).1).2.1 q hq)
 have hcl := Pat.closed p
 obtain ⟨A, hA⟩ : ∃ R, R = p.nVars := ⟨_, rfl⟩
 obtain ⟨B, hB⟩ : ∃ R, R = p.nScs := ⟨_, rfl⟩
 rw [← hA, ← hB]
 unfold Pat.nVars at hA
 unfold Pat.nScs at hB
 generalize p.chk = ck at *
 generalize (cfold p.nodes).1 = c1 at *
 generalize (cfold p.nodes).2.1 = c2 at *
 generalize (cfold p.nodes).2.2 = c3 at *
 obtain ⟨pO, pA, pT, pV, pS, pN, pCo, pCa, pCv, pCf, pCk, pXk, pXn, pXt, hx⟩ := Pat.form p
 rw [hx] at h1 h2 hcl ⊢
 refine wordsN ?_; unhygienic intros
 refine fn_body (fn := Tryz.f15) (n := 22) (ac := Tryzc15) (rvs := [.t 2, .t 3, .t 4]) rfl (by decide) Tryzp15 rfl rfl rfl ?_
 by_cases g1 : ck = 0
 · have k1 : iNe ck 0 = false := by simp only [ee]; simpa using g1
   have h2 := h2 g1
   rw [if_pos g1] at hA hB
   rw [hA, hB, g1]
   rw [g1] at h1 k1
   refine goA 60 ?_
   refine pcA h1 ?_
   refine goB hX 0 (by conv => lhs; cbv; try simp only [k1]; cbv; try simp only [k1]; cbv; try simp only [k1]; cbv; try simp only [k1]; cbv) ?_
   refine goA 60 ?_
   refine pcA h2 ?_
   refine goA 60 ?_
   refine fn_ret rfl rfl ?_
   exact ⟨[.gone], ⟨trivial, trivial⟩, .refl _⟩
 · have k1 : iNe ck 0 = true := by simp only [ee]; simpa using g1
   rw [if_neg g1] at hA hB
   rw [hA, hB]
   refine goA 60 ?_
   refine pcA h1 ?_
   refine goB hX 0 (by conv => lhs; cbv; try simp only [k1]; cbv; try simp only [k1]; cbv; try simp only [k1]; cbv; try simp only [k1]; cbv) ?_
   refine goA 60 ?_
   refine fn_ret rfl rfl ?_
   exact ⟨[.gone], ⟨trivial, trivial⟩, .refl _⟩
theorem P_ref09_Count (p : Pat) (hs : p.Sm) : PCall EE 16 [p.enc] (.tup [int p.nVars, int p.nScs, int p.chk]) := by
 have h1 := P_ref09_Check p hs
 have h2 := P_ref09_Nodes p hs
 have hcl := Pat.closed p
 obtain ⟨A, hA⟩ : ∃ R, R = p.nVars := ⟨_, rfl⟩
 obtain ⟨B, hB⟩ : ∃ R, R = p.nScs := ⟨_, rfl⟩
 rw [← hA, ← hB]
 unfold Pat.nVars at hA
 unfold Pat.nScs at hB
 have hnl := Pat.nodes_len p
 have hs1 := hs.1
 have hnc := Pat.closedI p.nodes
 generalize hnn : p.nodes = nl at *
 generalize p.chk = ck at *
 obtain ⟨pO, pA, pT, pV, pS, pN, pCo, pCa, pCv, pCf, pCk, pXk, pXn, pXt, hx⟩ := Pat.form p
 rw [hx] at h1 h2 hcl ⊢
 refine wordsN ?_; unhygienic intros
 generalize hes : mapE Pat.enc nl = es at *
 have hel : es.length = nl.length := by rw [← hes, mapE_len]
 refine fn_body (fn := Tryz.f16) (n := 46) (ac := Tryzc16) (rvs := [.t 2, .t 3, .t 4]) rfl (by decide) Tryzp16 rfl rfl rfl ?_
 by_cases g1 : ck = 0
 rotate_left
 · have k1 : iNe ck 0 = true := by simp only [ee]; simpa using g1
   rw [if_neg g1] at hA hB
   rw [hA, hB]
   refine goA 60 ?_
   refine pcA h1 ?_
   refine goB hX 0 (by conv => lhs; cbv; try simp only [k1]; cbv; try simp only [k1]; cbv; try simp only [k1]; cbv; try simp only [k1]; cbv) ?_
   refine goA 60 ?_
   refine fn_ret rfl rfl ?_
   exact ⟨[.gone], ⟨trivial, trivial⟩, .refl _⟩
 have k1 : iNe ck 0 = false := by simp only [ee]; simpa using g1
 rw [if_pos g1] at hA hB
 rw [g1] at h1 k1 ⊢
 refine goA 60 ?_
 refine pcA h1 ?_
 refine goB hX 0 (by conv => lhs; cbv; try simp only [k1]; cbv; try simp only [k1]; cbv; try simp only [k1]; cbv; try simp only [k1]; cbv) ?_
 refine goA 60 ?_
 refine pcA h2 ?_
 refine goA 60 ?_
 refine on_loopP (ι := List Pat × List Pat × Int × Int × Int) (fun p => ([(9, int p.2.2.1), (8, .isl 14 es), (6, int p.2.2.2.1), (7, int p.2.2.2.2)], [])) (fun p => nl = p.1 ++ p.2.1 ∧ p.2.2.1 = p.1.length ∧ p.2.2.2.1 = (cfold p.1).1 ∧ p.2.2.2.2 = (cfold p.1).2.1) (fun p => p.2.1.length) ([], nl, 0, 0, 0) ⟨rfl, rfl, rfl, rfl⟩ ?_ ?_
 · exact (ent_sub [.gone] [] ⟨trivial, trivial⟩ trivial ⟨.refl _, .cl hnc, .refl _, .refl _, trivial⟩)
 rintro ⟨d, r, i, vs, sc⟩ ⟨g1, gi, gv, gs⟩
 dsimp only at g1 gi gv gs ⊢
 cases r with
 | nil =>
  have L1 := len_split g1
  try simp only [List.length_cons, List.length_nil] at L1
  have hc : iLt i (lenA es) = false := lt_f e_iLt e_lenA (by omega)
  rw [List.append_nil] at g1
  rw [hA, hB, g1, ← gv, ← gs]
  refine goB hX 0 (by conv => lhs; cbv; try simp only [hc]; cbv; try simp only [hc]; cbv; try simp only [hc]; cbv; try simp only [hc]; cbv) ?_
  refine goA 60 ?_
  refine loopP_exit ?_
  refine goA 60 ?_
  refine fn_ret rfl rfl ?_
  exact ⟨[], trivial, .refl _⟩
 | cons q r =>
  have L1 := len_split g1
  try simp only [List.length_cons, List.length_nil] at L1
  have hc : iLt i (lenA es) = true := lt_t e_iLt e_lenA (by omega)
  have hat := el_at e_atA hes g1 gi
  have hb := cfold_bd d
  have e1 : (cfold (d ++ [q])).1 = _ := congrArg (fun s => s.1) (cfold_snoc d q)
  have e2 : (cfold (d ++ [q])).2.1 = _ := congrArg (fun s => s.2.1) (cfold_snoc d q)
  dsimp only [cstep] at e1 e2
  rw [← gv] at e1
  rw [← gs] at e2
  have q1 := P_variable q
  have q2 := P_Negates q
  have q3 := P_Times q
  have hor := scopeF_or q.op
  generalize scopeF q.op = sf at *
  generalize typedF q.op = tf at *
  generalize decide (q.op = 5 ∨ q.op = 9) = ng at *
  generalize spanF q.op = sp at *
  have hqc := Pat.closed q
  obtain ⟨qO, qA, qT, qV, qS, qN, qCo, qCa, qCv, qCf, qCk, qXk, qXn, qXt, hy, hyc, hqO, hqA, hqT, hqV, hqS, hqN⟩ := Pat.form2 q
  rw [hy] at hat hqc q1 q2 q3
  have hi2 : iAdd .i64 i 1 = ((d ++ [q]).length : Int) := by rw [List.length_append]; exact inc_w e_iAdd gi (by omega)
  have a1 : iAdd .i64 vs 1 = vs + 1 := add_w e_iAdd (by omega) (by omega)
  have a2 : iAdd .i64 sc 1 = sc + 1 := add_w e_iAdd (by omega) (by omega)
  clear hy hyc hqO hqA hqT hqV hqS hqN gv gs hb
  refine goB hX 0 (by conv => lhs; cbv; try simp only [hc, hat]; cbv; try simp only [hc, hat]; cbv; try simp only [hc, hat]; cbv; try simp only [hc, hat]; cbv) ?_
  refine goB hX 1 (by conv => lhs; cbv; try simp only [hc, hat]; cbv; try simp only [hc, hat]; cbv; try simp only [hc, hat]; cbv; try simp only [hc, hat]; cbv) ?_
  refine pcA q1 ?_
  refine goB hX 0 (by conv => lhs; cbv; try simp only [hc, hat]; cbv; try simp only [hc, hat]; cbv; try simp only [hc, hat]; cbv; try simp only [hc, hat]; cbv) ?_
  refine on_cond rfl (fun c1 => ?_) (fun c1 => ?_)
  ·
   refine goB hX 0 (by conv => lhs; cbv; try simp only [hc, hat]; cbv; try simp only [hc, hat]; cbv; try simp only [hc, hat]; cbv; try simp only [hc, hat]; cbv) ?_
   refine pcA q2 ?_
   refine goB hX 0 (by conv => lhs; cbv; try simp only [hc, hat]; cbv; try simp only [hc, hat]; cbv; try simp only [hc, hat]; cbv; try simp only [hc, hat]; cbv) ?_
   refine on_guard rfl rfl (fun c2 => ?_) (fun c2 => ?_)
   ·
    refine goA 60 ?_
    refine loopP_next (d ++ [q], r, iAdd .i64 i 1, iAdd .i64 vs 1, iAdd .i64 sc 1) ⟨by simp [g1], hi2, by clear ee hX; grind, by clear ee hX; grind⟩ (by simp) (ent_sub [] [] trivial trivial ⟨.refl _, .cl hnc, .refl _, .refl _, trivial⟩)
   ·
    refine goB hX 1 (by conv => lhs; cbv; try simp only [hc, hat]; cbv; try simp only [hc, hat]; cbv; try simp only [hc, hat]; cbv; try simp only [hc, hat]; cbv) ?_
    refine goB hX 1 (by conv => lhs; cbv; try simp only [hc, hat]; cbv; try simp only [hc, hat]; cbv; try simp only [hc, hat]; cbv; try simp only [hc, hat]; cbv) ?_
    refine goB hX 1 (by conv => lhs; cbv; try simp only [hc, hat]; cbv; try simp only [hc, hat]; cbv; try simp only [hc, hat]; cbv; try simp only [hc, hat]; cbv) ?_
    refine goA 60 ?_
    refine pcG q3 ?_
    refine goB hX 0 (by conv => lhs; cbv; try simp only [hc, hat]; cbv; try simp only [hc, hat]; cbv; try simp only [hc, hat]; cbv; try simp only [hc, hat]; cbv) ?_
    refine on_cond rfl (fun c3 => ?_) (fun c3 => ?_)
    ·
     refine goA 60 ?_
     refine loopP_next (d ++ [q], r, iAdd .i64 i 1, iAdd .i64 vs 1, iAdd .i64 sc 1) ⟨by simp [g1], hi2, by clear ee hX; grind, by clear ee hX; grind⟩ (by simp) (ent_sub [] [] trivial trivial ⟨.refl _, .cl hnc, .refl _, .refl _, trivial⟩)
    ·
     refine goA 60 ?_
     refine loopP_next (d ++ [q], r, iAdd .i64 i 1, iAdd .i64 vs 1, sc) ⟨by simp [g1], hi2, by clear ee hX; grind, by clear ee hX; grind⟩ (by simp) (ent_sub [] [] trivial trivial ⟨.refl _, .cl hnc, .refl _, .refl _, trivial⟩)
  ·
   refine goB hX 0 (by conv => lhs; cbv; try simp only [hc, hat]; cbv; try simp only [hc, hat]; cbv; try simp only [hc, hat]; cbv; try simp only [hc, hat]; cbv) ?_
   refine pcA q2 ?_
   refine goB hX 0 (by conv => lhs; cbv; try simp only [hc, hat]; cbv; try simp only [hc, hat]; cbv; try simp only [hc, hat]; cbv; try simp only [hc, hat]; cbv) ?_
   refine on_guard rfl rfl (fun c4 => ?_) (fun c4 => ?_)
   ·
    refine goA 60 ?_
    refine loopP_next (d ++ [q], r, iAdd .i64 i 1, vs, iAdd .i64 sc 1) ⟨by simp [g1], hi2, by clear ee hX; grind, by clear ee hX; grind⟩ (by simp) (ent_sub [] [] trivial trivial ⟨.refl _, .cl hnc, .refl _, .refl _, trivial⟩)
   ·
    refine goB hX 1 (by conv => lhs; cbv; try simp only [hc, hat]; cbv; try simp only [hc, hat]; cbv; try simp only [hc, hat]; cbv; try simp only [hc, hat]; cbv) ?_
    refine goB hX 1 (by conv => lhs; cbv; try simp only [hc, hat]; cbv; try simp only [hc, hat]; cbv; try simp only [hc, hat]; cbv; try simp only [hc, hat]; cbv) ?_
    refine goB hX 1 (by conv => lhs; cbv; try simp only [hc, hat]; cbv; try simp only [hc, hat]; cbv; try simp only [hc, hat]; cbv; try simp only [hc, hat]; cbv) ?_
    refine goA 60 ?_
    refine pcG q3 ?_
    refine goB hX 0 (by conv => lhs; cbv; try simp only [hc, hat]; cbv; try simp only [hc, hat]; cbv; try simp only [hc, hat]; cbv; try simp only [hc, hat]; cbv) ?_
    refine on_cond rfl (fun c5 => ?_) (fun c5 => ?_)
    ·
     refine goA 60 ?_
     refine loopP_next (d ++ [q], r, iAdd .i64 i 1, vs, iAdd .i64 sc 1) ⟨by simp [g1], hi2, by clear ee hX; grind, by clear ee hX; grind⟩ (by simp) (ent_sub [] [] trivial trivial ⟨.refl _, .cl hnc, .refl _, .refl _, trivial⟩)
    ·
     refine goA 60 ?_
     refine loopP_next (d ++ [q], r, iAdd .i64 i 1, vs, sc) ⟨by simp [g1], hi2, by clear ee hX; grind, by clear ee hX; grind⟩ (by simp) (ent_sub [] [] trivial trivial ⟨.refl _, .cl hnc, .refl _, .refl _, trivial⟩)
end Go.Am
end
section
set_option maxHeartbeats 16000000
set_option linter.unusedVariables false
set_option linter.unusedSimpArgs false
set_option maxRecDepth 20000
namespace Go.Am
open Go.Proofs
def Ex.few (e : Ex) : Bool := decide (e.cnt ≤ 200) && decide (e.dep ≤ 100)
def Pat.few (p : Pat) : Bool := decide (p.cnt ≤ 150) && decide (p.dep ≤ 60) && p.nodes.all (fun q => q.cond.few)
theorem P_ref08_Few (e : Ex) (hs : e.Sm) : PCall EE 32 [e.enc] (bool e.few) := by
 have h1 : PCall EE 63 [e.enc, int 200] (int (e.tot 200)) := P_ref08_Count 200 (by omega) e hs
 have h2 := P_ref08_Depth e hs
 have hcl := Ex.closed e
 obtain ⟨R, hR⟩ : ∃ R, R = e.few := ⟨_, rfl⟩
 rw [← hR]
 unfold Ex.few at hR
 have ht := Ex.tot_iff e 200
 obtain ⟨eO, eA, eV, eF, eK, eXk, eXn, eXt, hx⟩ := Ex.form e
 rw [hx] at h1 h2 hcl ⊢
 refine wordsN ?_; unhygienic intros
 generalize ht1 : (e.tot 200 : Int) = tn at *
 generalize ht2 : (e.dep : Int) = dn at *
 refine fn_body (fn := Tryz.f32) (n := 11) (ac := Tryzc32) (rvs := [.t 2]) rfl (by decide) Tryzp32 rfl rfl rfl ?_
 by_cases hc1 : e.cnt ≤ 200
 · have w1 : iLe tn 200 = true := by simp only [ee]; simp; omega
   by_cases hc2 : e.dep ≤ 100
   · have w2 : iLe dn 100 = true := by simp only [ee]; simp; omega
     have hR : R = true := by rw [hR]; simp [hc1, hc2]
     refine goA 60 ?_
     refine pcA h1 ?_
     refine goB hX 0 (by conv => lhs; cbv; try simp only [w1, w2]; cbv; try simp only [w1, w2]; cbv; try simp only [w1, w2]; cbv; try simp only [w1, w2]; cbv) ?_
     refine goA 60 ?_
     refine pcG h2 ?_
     refine goA 60 ?_
     refine fn_ret rfl rfl (.val ?_)
     exact congrArg Value.bool (by rw [w2, hR]; simp [ee])
   · have w2 : iLe dn 100 = false := by simp only [ee]; simp; omega
     have hR : R = false := by rw [hR]; simp [hc2]
     refine goA 60 ?_
     refine pcA h1 ?_
     refine goB hX 0 (by conv => lhs; cbv; try simp only [w1, w2]; cbv; try simp only [w1, w2]; cbv; try simp only [w1, w2]; cbv; try simp only [w1, w2]; cbv) ?_
     refine goA 60 ?_
     refine pcG h2 ?_
     refine goA 60 ?_
     refine fn_ret rfl rfl (.val ?_)
     exact congrArg Value.bool (by rw [w2, hR]; simp [ee])
 · have w1 : iLe tn 200 = false := by simp only [ee]; simp; omega
   have hR : R = false := by rw [hR]; simp [hc1]
   refine goA 60 ?_
   refine pcA h1 ?_
   refine goB hX 0 (by conv => lhs; cbv; try simp only [w1]; cbv; try simp only [w1]; cbv; try simp only [w1]; cbv; try simp only [w1]; cbv) ?_
   refine goA 60 ?_
   refine on_gskip rfl rfl ?_
   refine goA 60 ?_
   refine fn_ret rfl rfl (.val ?_)
   exact congrArg Value.bool hR.symm
theorem P_ref09_Few (p : Pat) (hs : p.Sm) : PCall EE 7 [p.enc] (bool p.few) := by
 have h1 : PCall EE 29 [p.enc, int 150] (int (p.tot 150)) := P_ref09_Total 150 (by omega) p hs
 have h2 := P_ref09_Depth p hs
 have h3 := P_ref09_Nodes p hs
 have hsn := hs.node
 have hnl := Pat.nodes_len p
 have hcn := hs.1
 have hcl := Pat.closed p
 have hcn2 := Pat.closedI p.nodes
 obtain ⟨R, hR⟩ : ∃ R, R = p.few := ⟨_, rfl⟩
 rw [← hR]
 unfold Pat.few at hR
 have ht := Pat.tot_iff p 150
 obtain ⟨pO, pA, pT, pV, pS, pN, pCo, pCa, pCv, pCf, pCk, pXk, pXn, pXt, hx⟩ := Pat.form p
 rw [hx] at h1 h2 h3 hcl ⊢
 refine wordsN ?_; unhygienic intros
 generalize ht1 : (p.tot 150 : Int) = tn at *
 generalize ht2 : (p.dep : Int) = dn at *
 generalize hnod : p.nodes = nl at *
 generalize hes : mapE Pat.enc nl = es at *
 have hel : es.length = nl.length := by rw [← hes, mapE_len]
 refine fn_body (fn := Tryz.f7) (n := 28) (ac := Tryzc7) (rvs := [.t 2]) rfl (by decide) Tryzp7 rfl rfl rfl ?_
 by_cases hc1 : p.cnt ≤ 150
 rotate_left
 · have w1 : iLt 150 tn = true := by simp only [ee]; simp; omega
   have hR : R = false := by rw [hR]; simp [hc1]
   refine goA 60 ?_
   refine pcA h1 ?_
   refine goB hX 0 (by conv => lhs; cbv; try simp only [w1]; cbv; try simp only [w1]; cbv; try simp only [w1]; cbv; try simp only [w1]; cbv) ?_
   refine goA 60 ?_
   refine on_gskip rfl rfl ?_
   refine goA 60 ?_
   refine fn_ret rfl rfl (.val ?_)
   exact congrArg Value.bool hR.symm
 have w1 : iLt 150 tn = false := by simp only [ee]; simp; omega
 by_cases hc2 : p.dep ≤ 60
 rotate_left
 · have w2 : iLt 60 dn = true := by simp only [ee]; simp; omega
   have hR : R = false := by rw [hR]; simp [hc2]
   refine goA 60 ?_
   refine pcA h1 ?_
   refine goB hX 0 (by conv => lhs; cbv; try simp only [w1, w2]; cbv; try simp only [w1, w2]; cbv; try simp only [w1, w2]; cbv; try simp only [w1, w2]; cbv) ?_
   refine goA 60 ?_
   refine pcG h2 ?_
   refine goB hX 0 (by conv => lhs; cbv; try simp only [w1, w2]; cbv; try simp only [w1, w2]; cbv; try simp only [w1, w2]; cbv; try simp only [w1, w2]; cbv) ?_
   refine on_cond rfl (fun c1 => ?_) (fun c1 => ?_)
   ·
    simp [ee] at c1
    refine goA 60 ?_
    refine fn_ret rfl rfl (.val ?_)
    exact congrArg Value.bool hR.symm
   ·
    simp [ee] at c1
 have w2 : iLt 60 dn = false := by simp only [ee]; simp; omega
 have hR : R = nl.all (fun q => q.cond.few) := by rw [hR]; simp [hc1, hc2]
 have hor : ∀ b, bOr false b = b := by simp [ee]
 refine goA 60 ?_
 refine pcA h1 ?_
 refine goB hX 0 (by conv => lhs; cbv; try simp only [w1, w2, hor]; cbv; try simp only [w1, w2, hor]; cbv; try simp only [w1, w2, hor]; cbv; try simp only [w1, w2, hor]; cbv) ?_
 refine goA 60 ?_
 refine pcG h2 ?_
 refine goB hX 0 (by conv => lhs; cbv; try simp only [w1, w2, hor]; cbv; try simp only [w1, w2, hor]; cbv; try simp only [w1, w2, hor]; cbv; try simp only [w1, w2, hor]; cbv) ?_
 refine goA 60 ?_
 refine pcA h3 ?_
 refine goA 60 ?_
 refine on_loopP (ι := List Pat × List Pat × Int) (fun p => ([(3, .isl 14 es), (4, int p.2.2)], [])) (fun p => nl = p.1 ++ p.2.1 ∧ p.2.2 = p.1.length ∧ R = p.2.1.all (fun q => q.cond.few)) (fun p => p.2.1.length) ([], nl, 0) ⟨rfl, rfl, hR⟩ ?_ ?_
 · exact (ent_sub [.gone] [] ⟨trivial, trivial⟩ trivial ⟨.cl hcn2, .refl _, trivial⟩)
 rintro ⟨d, r, i⟩ ⟨g1, gi, gR⟩
 dsimp only at g1 gi gR ⊢
 cases r with
 | nil =>
  have L1 := len_split g1
  try simp only [List.length_cons, List.length_nil] at L1
  have hc : iLt i (lenA es) = false := lt_f e_iLt e_lenA (by omega)
  have gR : R = true := by rw [gR]; rfl
  refine goB hX 0 (by conv => lhs; cbv; try simp only [hc]; cbv; try simp only [hc]; cbv; try simp only [hc]; cbv; try simp only [hc]; cbv) ?_
  refine goA 60 ?_
  refine loopP_exit ?_
  refine goA 60 ?_
  refine fn_ret rfl rfl (.val ?_)
  exact congrArg Value.bool gR.symm
 | cons q r =>
  have L1 := len_split g1
  try simp only [List.length_cons, List.length_nil] at L1
  have hc : iLt i (lenA es) = true := lt_t e_iLt e_lenA (by omega)
  have hat := el_at e_atA hes g1 gi
  have hqs : q.Sm := hsn q (by rw [g1]; simp)
  have hq := P_ref08_Few q.cond hqs.cond'
  have hqc := Ex.closed q.cond
  rw [List.all_cons] at gR
  obtain ⟨qO, qA, qT, qV, qS, qN, qCo, qCa, qCv, qCf, qCk, qXk, qXn, qXt, hx2, hx2c, hqO, hqA, hqT, hqV, hqS, hqN⟩ := Pat.form2 q
  rw [hx2c] at hq hqc
  rw [hx2] at hat
  have hi2 : iAdd .i64 i 1 = ((d ++ [q]).length : Int) := by rw [List.length_append]; exact inc_w e_iAdd gi (by omega)
  cases hb : q.cond.few with
  | true =>
   rw [hb] at hq gR
   have hnt : bNot true = false := by simp [ee]
   refine goB hX 0 (by conv => lhs; cbv; try simp only [hc, hat, hnt]; cbv; try simp only [hc, hat, hnt]; cbv; try simp only [hc, hat, hnt]; cbv; try simp only [hc, hat, hnt]; cbv) ?_
   refine goB hX 1 (by conv => lhs; cbv; try simp only [hc, hat, hnt]; cbv; try simp only [hc, hat, hnt]; cbv; try simp only [hc, hat, hnt]; cbv; try simp only [hc, hat, hnt]; cbv) ?_
   refine pcA hq ?_
   refine goB hX 0 (by conv => lhs; cbv; try simp only [hc, hat, hnt]; cbv; try simp only [hc, hat, hnt]; cbv; try simp only [hc, hat, hnt]; cbv; try simp only [hc, hat, hnt]; cbv) ?_
   refine goA 60 ?_
   refine loopP_next (d ++ [q], r, iAdd .i64 i 1) ⟨by simp [g1], hi2, by simpa using gR⟩ (by simp) (ent_sub [] [] trivial trivial ⟨.cl hcn2, .refl _, trivial⟩)
  | false =>
   rw [hb] at hq gR
   have gR : R = false := by simpa using gR
   have hnf : bNot false = true := by simp [ee]
   refine goB hX 0 (by conv => lhs; cbv; try simp only [hc, hat, hnf]; cbv; try simp only [hc, hat, hnf]; cbv; try simp only [hc, hat, hnf]; cbv; try simp only [hc, hat, hnf]; cbv) ?_
   refine goB hX 1 (by conv => lhs; cbv; try simp only [hc, hat, hnf]; cbv; try simp only [hc, hat, hnf]; cbv; try simp only [hc, hat, hnf]; cbv; try simp only [hc, hat, hnf]; cbv) ?_
   refine pcA hq ?_
   refine goB hX 0 (by conv => lhs; cbv; try simp only [hc, hat, hnf]; cbv; try simp only [hc, hat, hnf]; cbv; try simp only [hc, hat, hnf]; cbv; try simp only [hc, hat, hnf]; cbv) ?_
   refine goA 60 ?_
   refine loopP_ret ?_
   refine goA 60 ?_
   refine fn_ret rfl rfl (.val ?_)
   exact congrArg Value.bool gR.symm
end Go.Am
end
section
set_option maxHeartbeats 16000000
set_option linter.unusedVariables false
set_option linter.unusedSimpArgs false
set_option maxRecDepth 20000
namespace Go.Am
open Go.Proofs
theorem P_lawChecks (p : Pat) (hs : p.Sm) : PCall EE 4 [p.enc] (bool true) := by
 have q1 := P_ref09_Few p hs
 have q2 := P_awake
 have q3 := P_pattern_Size p hs
 have q4 := P_ref09_Size p hs
 have q5 := P_pattern_Count p hs
 have q6 := P_ref09_Count p hs
 have q7 := P_pattern_Check p hs
 have q8 := P_ref09_Check p hs
 have q9 := P_CheckRest p hs
 have q10 := P_ref09_CheckRest p hs
 have kc1 := Pat.closed p
 obtain ⟨cn, hcn⟩ : ∃ z : Int, z = p.cnt := ⟨_, rfl⟩
 obtain ⟨cd, hcd⟩ : ∃ z : Int, z = p.dep := ⟨_, rfl⟩
 rw [← hcn, ← hcd] at q3 q4
 generalize p.nVars = nv at *
 generalize p.nScs = ns at *
 generalize p.chk = ck at *
 generalize p.chkR = cr at *
 generalize p.few = fw at *
 obtain ⟨pO, pA, pT, pV, pS, pN, pCo, pCa, pCv, pCf, pCk, pXk, pXn, pXt, hx⟩ := Pat.form p
 rw [hx] at q1 q3 q4 q5 q6 q7 q8 q9 q10 kc1 ⊢
 clear hx hs hcn hcd
 refine wordsN ?_; unhygienic intros
 have t1 : ∀ x : Int, iEq x x = true := fun x => by simp only [ee]; simp
 refine fn_body (fn := Tryz.f4) (n := 79) (ac := Tryzc4) (rvs := [.t 2]) rfl (by decide) Tryzp4 rfl rfl rfl ?_
 cases fw with
 | false =>
  refine goA 60 ?_
  refine pcA q1 ?_
  refine goA 0 ?_
  refine on_cond rfl (fun c1 => ?_) (fun c1 => ?_)
  ·
   simp [ee] at c1
   refine goA 60 ?_
   refine pcA q2 ?_
   refine goA 60 ?_
   refine fn_ret rfl rfl (.val ?_)
   rfl
  ·
   simp [ee] at c1
 | true =>
  refine goA 60 ?_
  refine pcA q1 ?_
  refine goB hX 0 (by conv => lhs; cbv; try simp only [t1]; cbv; try simp only [t1]; cbv; try simp only [t1]; cbv; try simp only [t1]; cbv) ?_
  refine on_cond rfl (fun c1 => ?_) (fun c1 => ?_)
  ·
   simp [ee] at c1
  ·
   simp [ee] at c1
   refine goA 60 ?_
   refine pcA q3 ?_
   refine goA 60 ?_
   refine pcA q4 ?_
   refine goA 60 ?_
   refine pcA q5 ?_
   refine goA 60 ?_
   refine pcA q6 ?_
   refine goA 60 ?_
   refine tr_drawB rfl (by conv => lhs; cbv) rfl ?_
   refine pcT q2 ?_
   refine tgA ?_
   refine tr_ung rfl ?_
   refine tgA ?_
   refine tr_ung rfl ?_
   refine pcT q7 ?_
   refine tr_ung rfl ?_
   refine tgA ?_
   refine tr_ung rfl ?_
   refine pcT q8 ?_
   refine tr_ung rfl ?_
   refine tgA ?_
   refine tgB hX (by conv => lhs; cbv; try simp only [t1]; cbv; try simp only [t1]; cbv; try simp only [t1]; cbv; try simp only [t1]; cbv) ?_
   refine tr_ung rfl ?_
   refine tgA ?_
   refine tr_ung rfl ?_
   refine pcT q9 ?_
   refine tr_ung rfl ?_
   refine tgA ?_
   refine tr_ung rfl ?_
   refine pcT q10 ?_
   refine tr_ung rfl ?_
   refine tgA ?_
   refine tgB hX (by conv => lhs; cbv; try simp only [t1]; cbv; try simp only [t1]; cbv; try simp only [t1]; cbv; try simp only [t1]; cbv) ?_
   refine tr_ung rfl ?_
   refine tgA ?_
   refine tr_ung rfl ?_
   refine tgA ?_
   refine tr_ung rfl ?_
   refine tgA ?_
   refine tgB hX (by conv => lhs; cbv; try simp only [t1]; cbv; try simp only [t1]; cbv; try simp only [t1]; cbv; try simp only [t1]; cbv) ?_
   refine tr_ung rfl ?_
   refine tgA ?_
   refine tr_ung rfl ?_
   refine tgA ?_
   refine tr_ung rfl ?_
   refine tgA ?_
   refine tgB hX (by conv => lhs; cbv; try simp only [t1]; cbv; try simp only [t1]; cbv; try simp only [t1]; cbv; try simp only [t1]; cbv) ?_
   refine tr_ung rfl ?_
   refine tgA ?_
   refine tr_ung rfl ?_
   refine tgA ?_
   refine tr_ung rfl ?_
   refine tgA ?_
   refine tgB hX (by conv => lhs; cbv; try simp only [t1]; cbv; try simp only [t1]; cbv; try simp only [t1]; cbv; try simp only [t1]; cbv) ?_
   refine tr_ung rfl ?_
   refine tgA ?_
   refine tr_ung rfl ?_
   refine tgA ?_
   refine tr_ung rfl ?_
   refine tgA ?_
   refine tgB hX (by conv => lhs; cbv; try simp only [t1]; cbv; try simp only [t1]; cbv; try simp only [t1]; cbv; try simp only [t1]; cbv) ?_
   refine tr_ung rfl ?_
   refine tgA ?_
   refine tr_ung rfl ?_
   refine tgA ?_
   refine tr_ung rfl ?_
   refine tgA ?_
   refine tr_nil ⟨rfl, by simp [LooksL, lookAll], ?_⟩
   refine goA 60 ?_
   refine fn_ret rfl rfl (.val ?_)
   exact congrArg Value.bool (t1 _)
end Go.Am
end
section
set_option maxHeartbeats 16000000
set_option linter.unusedVariables false
set_option linter.unusedSimpArgs false
set_option maxRecDepth 20000
namespace Go.Am
open Go.Proofs
theorem P_replaced (to : List Int) (htl : to.length < 1048577) : ∀ p : Pat, p.Sm → (∀ q ∈ p.nodes, typedF q.op = true → 0 ≤ q.var) → PCall EE 47 [p.enc, .isl 1 (mapE int to)] (.tup [(if firstE (nrenE to) p.nodes = 0 then p.ren to else Pat0).enc, int (firstE (nrenE to) p.nodes)]) := by
 refine Pat.ind ?_
 intro o a t v s n c ih hs hv
 have hlen := hs.len
 have hih : ∀ q ∈ a, _ := fun q hq => ih q hq (hs.arg hq) fun q2 hq2 => hv q2 (by
  rw [Pat.nodes]
  obtain ⟨d, r, rfl⟩ := List.append_of_mem hq
  simp [Pat.nodesL_append, Pat.nodesL, hq2])
 have hv0 := hv _ (by rw [Pat.nodes]; exact List.mem_cons_self)
 simp only [Pat.op, Pat.var] at hv0
 have hcl := Pat.closedI a
 have hpc := Pat.closed (.mk o a t v s n c)
 have q1 := P_variable (.mk o a t v s n c)
 have q2 := P_condition (.mk o a t v s n c)
 have q3 := P_ref08_Rename to htl c hs.cond
 simp only [Pat.op] at q1 q2
 have hct := closedL_int to
 have hcI := closedI_int to
 have e0 := Pat0.enc_eq
 obtain ⟨E, hE⟩ : ∃ E, E = firstE (nrenE to) (Pat.mk o a t v s n c).nodes := ⟨_, rfl⟩
 rw [← hE]
 obtain ⟨X, hXX⟩ : ∃ X, X = if E = 0 then (Pat.mk o a t v s n c).ren to else Pat0 := ⟨_, rfl⟩
 rw [← hXX]
 rw [Pat.ren] at hXX
 rw [Pat.nodes, firstE] at hE
 obtain ⟨ne, hne⟩ : ∃ z, z = nrenE to (Pat.mk o a t v s n c) := ⟨_, rfl⟩
 rw [← hne] at hE
 have hrE : nrenE to (.mk o a t v s n c) = if typedF o = true ∧ (to.length : Int) ≤ v then 6 else if typedF o = true ∧ (to.getD v.toNat 0 < 0 ∨ 16 ≤ to.getD v.toNat 0) then 2 else if condF o = true then c.renErr to else 0 := rfl
 rw [hrE] at hne
 clear hrE
 obtain ⟨nv, hnv⟩ : ∃ z, z = (if typedF o then to.getD v.toNat 0 else v) := ⟨_, rfl⟩
 obtain ⟨nc, hnc⟩ : ∃ z, z = (if condF o then c.rename to else c) := ⟨_, rfl⟩
 rw [← hnv, ← hnc] at hXX
 have hncc := Ex.closed nc
 have hccc := Ex.closed c
 have hrc := Ex.closed (c.rename to)
 generalize c.rename to = cr at *
 generalize c.renErr to = ce at *
 have hgt : 0 ≤ v → ¬ (to.length : Int) ≤ v → (mapE int to).getD v.toNat .undef = int (to.getD v.toNat 0) := fun a b => by
  rw [mapE_eq, List.getD_eq_getElem?_getD, List.getElem?_map, List.getD_eq_getElem?_getD, List.getElem?_eq_getElem (by omega)]; rfl
 have hll : (mapE int to).length = to.length := mapE_len ..
 obtain ⟨cO, cA, cV, cF, cK, cXk, cXn, cXt, hcx⟩ := Ex.form c
 obtain ⟨ncO, ncA, ncV, ncF, ncK, ncXk, ncXn, ncXt, hnx⟩ := Ex.form nc
 obtain ⟨crO, crA, crV, crF, crK, crXk, crXn, crXt, hrx⟩ := Ex.form cr
 have hpx := Pat.enc_c o a t v s n hcx
 have hnE := fun l => Pat.enc_c o l t nv s n hnx
 simp only [List.cons_append, List.nil_append] at hpx hnE
 rw [hpx] at q1 q2 hpc ⊢
 rw [hcx, hrx] at q3
 rw [hcx] at hccc
 rw [hnx] at hncc
 rw [hrx] at hrc
 clear ih hs hv hpx
 have hnil : mapE Pat.enc [] = [] := by rw [mapE_eq]; rfl
 have hnl2 : mapE Pat.enc (Pat.renL to []) = [] := by rw [show Pat.renL to [] = [] from by rw [Pat.renL]]; exact hnil
 refine wordsN ?_; unhygienic intros
 generalize hes : mapE Pat.enc a = es at *
 have hel : es.length = a.length := by rw [← hes, mapE_len]
 generalize mapE int to = ts at *
 generalize to.getD v.toNat 0 = tv at *
 have hat : 0 ≤ v → ¬ (to.length : Int) ≤ v → atA ts v = int tv := fun a b => by simp only [ee]; exact hgt a b
 clear hgt
 generalize typedF o = ty at *
 generalize condF o = cd at *
 have k8 : iNe 0 0 = false := by simp only [ee]; rfl
 refine fn_body (fn := Tryz.f47) (n := 86) (ac := Tryzc47) (rvs := [.cell 4 14 true, .t 5]) rfl (by decide) Tryzp47 rfl rfl rfl ?_
 by_cases hnz : ne = 0
 rotate_left
 · rw [if_pos hnz] at hE
   rw [hE, if_neg hnz] at hXX
   rw [hXX, hE, e0]
   by_cases g1 : ty = true ∧ (to.length : Int) ≤ v
   · obtain ⟨rfl, g1⟩ := g1
     rw [if_pos ⟨rfl, g1⟩] at hne
     rw [hne]
     have k3 : iLe (lenA ts) v = true := by simp only [ee]; simp; omega
     refine goA 60 ?_
     refine pcA q1 ?_
     refine goB hX 0 (by conv => lhs; cbv; try simp only [k3]; cbv; try simp only [k3]; cbv; try simp only [k3]; cbv; try simp only [k3]; cbv) ?_
     refine goB hX 1 (by conv => lhs; cbv; try simp only [k3]; cbv; try simp only [k3]; cbv; try simp only [k3]; cbv; try simp only [k3]; cbv) ?_
     refine goA 60 ?_
     refine fn_ret rfl rfl ?_
     exact ⟨[.gone, .gone, .gone], ⟨trivial, trivial, trivial, trivial⟩, .tup' ⟨.agg' ⟨.refl _, .nilI _, .refl _, .refl _, .refl _, .refl _, .refl _, .nilI _, .refl _, .refl _, .refl _, .refl _, .refl _, .refl _, trivial⟩, .refl _, trivial⟩⟩
   rw [if_neg g1] at hne
   by_cases g2 : ty = true ∧ (tv < 0 ∨ 16 ≤ tv)
   · obtain ⟨rfl, g2⟩ := g2
     rw [if_pos ⟨rfl, g2⟩] at hne
     rw [hne]
     have g1 : ¬ (to.length : Int) ≤ v := fun h => g1 ⟨rfl, h⟩
     have hv0 := hv0 rfl
     have hat := hat hv0 g1
     have k3 : iLe (lenA ts) v = false := by simp only [ee]; simp; omega
     have k5 : bOr (iLt tv 0) (iLe 16 tv) = true := by simp only [ee]; simpa using g2
     refine goA 60 ?_
     refine pcA q1 ?_
     refine goB hX 0 (by conv => lhs; cbv; try simp only [k3, hat, k5]; cbv; try simp only [k3, hat, k5]; cbv; try simp only [k3, hat, k5]; cbv; try simp only [k3, hat, k5]; cbv) ?_
     refine goB hX 1 (by conv => lhs; cbv; try simp only [k3, hat, k5]; cbv; try simp only [k3, hat, k5]; cbv; try simp only [k3, hat, k5]; cbv; try simp only [k3, hat, k5]; cbv) ?_
     refine goB hX 1 (by conv => lhs; cbv; try simp only [k3, hat, k5]; cbv; try simp only [k3, hat, k5]; cbv; try simp only [k3, hat, k5]; cbv; try simp only [k3, hat, k5]; cbv) ?_
     refine goA 60 ?_
     refine fn_ret rfl rfl ?_
     exact ⟨[.gone, .gone, .gone], ⟨trivial, trivial, trivial, trivial⟩, .tup' ⟨.agg' ⟨.refl _, .nilI _, .refl _, .refl _, .refl _, .refl _, .refl _, .nilI _, .refl _, .refl _, .refl _, .refl _, .refl _, .refl _, trivial⟩, .refl _, trivial⟩⟩
   rw [if_neg g2] at hne
   cases cd with
   | false => rw [if_neg (by decide)] at hne; exact absurd hne hnz
   | true =>
   rw [if_pos rfl] at hne
   have k6 : iNe ce 0 = true := by simp only [ee]; simp; omega
   rw [hne]
   cases ty with
   | true =>
    have g1 : ¬ (to.length : Int) ≤ v := fun h => g1 ⟨rfl, h⟩
    have g2 : ¬ (tv < 0 ∨ 16 ≤ tv) := fun h => g2 ⟨rfl, h⟩
    have hv0 := hv0 rfl
    have hat := hat hv0 g1
    have k3 : iLe (lenA ts) v = false := by simp only [ee]; simp; omega
    have k5 : bOr (iLt tv 0) (iLe 16 tv) = false := by simp only [ee]; simp; omega
    refine goA 60 ?_
    refine pcA q1 ?_
    refine goB hX 0 (by conv => lhs; cbv; try simp only [k3, hat, k5, k6]; cbv; try simp only [k3, hat, k5, k6]; cbv; try simp only [k3, hat, k5, k6]; cbv; try simp only [k3, hat, k5, k6]; cbv) ?_
    refine goB hX 1 (by conv => lhs; cbv; try simp only [k3, hat, k5, k6]; cbv; try simp only [k3, hat, k5, k6]; cbv; try simp only [k3, hat, k5, k6]; cbv; try simp only [k3, hat, k5, k6]; cbv) ?_
    refine goB hX 1 (by conv => lhs; cbv; try simp only [k3, hat, k5, k6]; cbv; try simp only [k3, hat, k5, k6]; cbv; try simp only [k3, hat, k5, k6]; cbv; try simp only [k3, hat, k5, k6]; cbv) ?_
    refine goB hX 1 (by conv => lhs; cbv; try simp only [k3, hat, k5, k6]; cbv; try simp only [k3, hat, k5, k6]; cbv; try simp only [k3, hat, k5, k6]; cbv; try simp only [k3, hat, k5, k6]; cbv) ?_
    refine pcA q2 ?_
    refine goA 60 ?_
    refine pcA q3 ?_
    refine goB hX 0 (by conv => lhs; cbv; try simp only [k3, hat, k5, k6]; cbv; try simp only [k3, hat, k5, k6]; cbv; try simp only [k3, hat, k5, k6]; cbv; try simp only [k3, hat, k5, k6]; cbv) ?_
    refine goA 60 ?_
    refine fn_ret rfl rfl ?_
    exact ⟨[.gone, .gone, .gone, .gone], ⟨trivial, trivial, trivial, trivial, trivial⟩, .tup' ⟨.agg' ⟨.refl _, .nilI _, .refl _, .refl _, .refl _, .refl _, .refl _, .nilI _, .refl _, .refl _, .refl _, .refl _, .refl _, .refl _, trivial⟩, .refl _, trivial⟩⟩
   | false =>
    refine goA 60 ?_
    refine pcA q1 ?_
    refine goA 60 ?_
    refine pcA q2 ?_
    refine goA 60 ?_
    refine pcA q3 ?_
    refine goB hX 0 (by conv => lhs; cbv; try simp only [k6]; cbv; try simp only [k6]; cbv; try simp only [k6]; cbv; try simp only [k6]; cbv) ?_
    refine goA 60 ?_
    refine fn_ret rfl rfl ?_
    exact ⟨[.gone, .gone, .gone, .gone], ⟨trivial, trivial, trivial, trivial, trivial⟩, .tup' ⟨.agg' ⟨.refl _, .nilI _, .refl _, .refl _, .refl _, .refl _, .refl _, .nilI _, .refl _, .refl _, .refl _, .refl _, .refl _, .refl _, trivial⟩, .refl _, trivial⟩⟩
 rw [if_neg (by omega)] at hE
 rw [hnz] at hne
 have hok1 : ty = true → ¬ (to.length : Int) ≤ v ∧ ¬ (tv < 0 ∨ 16 ≤ tv) := by
  rintro rfl
  refine ⟨fun h => ?_, fun h => ?_⟩
  · rw [if_pos ⟨rfl, h⟩] at hne; cases hne
  · by_cases g : (to.length : Int) ≤ v
    · rw [if_pos ⟨rfl, g⟩] at hne; cases hne
    · rw [if_neg (fun h => g h.2), if_pos ⟨rfl, h⟩] at hne; cases hne
 have hok2 : cd = true → ce = 0 := by
  rintro rfl
  by_cases g1 : ty = true ∧ (to.length : Int) ≤ v
  · exact absurd g1.2 (hok1 g1.1).1
  rw [if_neg g1] at hne
  by_cases g2 : ty = true ∧ (tv < 0 ∨ 16 ≤ tv)
  · exact absurd g2.2 (hok1 g2.1).2
  rw [if_neg g2, if_pos rfl] at hne
  exact hne.symm
 have hnv1 : ty = true → tv = nv := fun h => by rw [hnv, if_pos h]
 have hnv2 : ty = false → v = nv := fun h => by rw [hnv, if_neg (by simp [h])]
 clear hne hnz
 have hcaI : (AV.isl 8 cA).closed = true := by have := hccc; simp [AV.closed, AV.closedL] at this ⊢; exact this
 have hncI : (AV.isl 8 ncA).closed = true := by have := hncc; simp [AV.closed, AV.closedL] at this ⊢; exact this
 refine goA 60 ?_
 refine pcA q1 ?_
 refine goA 0 ?_
 refine on_condJ [(1, .isl 1 ts), (2, .ptr 0 0), (4, .ptr 1 0), (5, int 0), (6, .ptr 2 0)] [.cells [int o, .isl 14 es, int t, int v, int s, int n, int cO, .isl 8 cA, int cV, int cF, int cK, int cXk, int cXn, str cXt], .cells [int 0, .val (.slice none 0 0), int 0, int 0, int 0, int 0, int 0, .val (.slice none 0 0), int 0, int 0, int 0, int 0, int 0, str ⟨#[]⟩], .cells [int o, .val (.slice none 0 0), int t, int nv, int s, int n, int cO, .isl 8 cA, int cV, int cF, int cK, int cXk, int cXn, str cXt]] rfl (fun h => ?_) (fun h => ?_) ?_
 · have hv0 := hv0 h
   have hat := hat hv0 (hok1 h).1
   have g1 := (hok1 h).1
   have g2 := (hok1 h).2
   have k3 : iLe (lenA ts) v = false := by simp only [ee]; simp; omega
   have k5 : bOr (iLt tv 0) (iLe 16 tv) = false := by simp only [ee]; simp; omega
   have hnv1 := hnv1 h
   refine goB hX 0 (by conv => lhs; cbv; try simp only [k3, hat, k5]; cbv; try simp only [k3, hat, k5]; cbv; try simp only [k3, hat, k5]; cbv; try simp only [k3, hat, k5]; cbv) ?_
   refine goB hX 1 (by conv => lhs; cbv; try simp only [k3, hat, k5]; cbv; try simp only [k3, hat, k5]; cbv; try simp only [k3, hat, k5]; cbv; try simp only [k3, hat, k5]; cbv) ?_
   refine goB hX 1 (by conv => lhs; cbv; try simp only [k3, hat, k5]; cbv; try simp only [k3, hat, k5]; cbv; try simp only [k3, hat, k5]; cbv; try simp only [k3, hat, k5]; cbv) ?_
   refine goB hX 1 (by conv => lhs; cbv; try simp only [k3, hat, k5]; cbv; try simp only [k3, hat, k5]; cbv; try simp only [k3, hat, k5]; cbv; try simp only [k3, hat, k5]; cbv) ?_
   refine ⟨rfl, ?_⟩
   exact (ent_sub [.to 0, .to 1, .to 2] [some 0, some 1, some 2] ⟨⟨by simp, rfl⟩, ⟨by simp, rfl⟩, ⟨by simp, rfl⟩, trivial⟩ ⟨osrc_cells (b := 0) rfl rfl rfl ⟨.refl _, .cl hcl, .refl _, .refl _, .refl _, .refl _, .refl _, .cl hcaI, .refl _, .refl _, .refl _, .refl _, .refl _, .refl _, trivial⟩, osrc_cells (b := 1) rfl rfl rfl ⟨.refl _, .refl _, .refl _, .refl _, .refl _, .refl _, .refl _, .refl _, .refl _, .refl _, .refl _, .refl _, .refl _, .refl _, trivial⟩, osrc_cells (b := 2) rfl rfl rfl ⟨.refl _, .refl _, .refl _, .of (congrArg int (by assumption)), .refl _, .refl _, .refl _, .cl hcaI, .refl _, .refl _, .refl _, .refl _, .refl _, .refl _, trivial⟩, trivial⟩ ⟨.cl hcI, .refl _, .refl _, .refl _, .refl _, trivial⟩)
 · have hnv2 := hnv2 h
   refine goA 60 ?_
   refine ⟨rfl, ?_⟩
   exact (ent_sub [.to 0, .to 1, .to 2] [some 0, some 1, some 2] ⟨⟨by simp, rfl⟩, ⟨by simp, rfl⟩, ⟨by simp, rfl⟩, trivial⟩ ⟨osrc_cells (b := 0) rfl rfl rfl ⟨.refl _, .cl hcl, .refl _, .refl _, .refl _, .refl _, .refl _, .cl hcaI, .refl _, .refl _, .refl _, .refl _, .refl _, .refl _, trivial⟩, osrc_cells (b := 1) rfl rfl rfl ⟨.refl _, .refl _, .refl _, .refl _, .refl _, .refl _, .refl _, .refl _, .refl _, .refl _, .refl _, .refl _, .refl _, .refl _, trivial⟩, osrc_cells (b := 2) rfl rfl rfl ⟨.refl _, .refl _, .refl _, .of (congrArg int (by assumption)), .refl _, .refl _, .refl _, .cl hcaI, .refl _, .refl _, .refl _, .refl _, .refl _, .refl _, trivial⟩, trivial⟩ ⟨.cl hcI, .refl _, .refl _, .refl _, .refl _, trivial⟩)
 refine goA 0 ?_
 refine pcA q2 ?_
 refine goA 0 ?_
 refine on_condJ [(1, .isl 1 ts), (2, .ptr 0 0), (4, .ptr 1 0), (5, int 0), (6, .ptr 2 0)] [.cells [int o, .isl 14 es, int t, int v, int s, int n, int cO, .isl 8 cA, int cV, int cF, int cK, int cXk, int cXn, str cXt], .cells [int 0, .val (.slice none 0 0), int 0, int 0, int 0, int 0, int 0, .val (.slice none 0 0), int 0, int 0, int 0, int 0, int 0, str ⟨#[]⟩], .cells [int o, .val (.slice none 0 0), int t, int nv, int s, int n, int ncO, .isl 8 ncA, int ncV, int ncF, int ncK, int ncXk, int ncXn, str ncXt]] rfl (fun h => ?_) (fun h => ?_) ?_
 · have hce := hok2 h
   have hnc1 : nc = cr := by rw [hnc, if_pos h]
   have hq := hnx.symm.trans ((congrArg Ex.enc hnc1).trans hrx)
   injection hq with hq
   simp only [List.cons.injEq, AV.val.injEq, Value.int.injEq, Value.string.injEq, AV.isl.injEq, true_and, and_true] at hq
   obtain ⟨rfl, rfl, rfl, rfl, rfl, rfl, rfl, rfl⟩ := hq
   rw [hce] at q3
   refine goA 60 ?_
   refine pcA q3 ?_
   refine goB hX 0 (by conv => lhs; cbv; try simp only [k8]; cbv; try simp only [k8]; cbv; try simp only [k8]; cbv; try simp only [k8]; cbv) ?_
   refine goB hX 1 (by conv => lhs; cbv; try simp only [k8]; cbv; try simp only [k8]; cbv; try simp only [k8]; cbv; try simp only [k8]; cbv) ?_
   refine ⟨rfl, ?_⟩
   exact (ent_sub [.to 0, .to 1, .to 2, .gone] [some 0, some 1, some 2] ⟨⟨by simp, rfl⟩, ⟨by simp, rfl⟩, ⟨by simp, rfl⟩, trivial, trivial⟩ ⟨osrc_cells (b := 0) rfl rfl rfl ⟨.refl _, .cl hcl, .refl _, .refl _, .refl _, .refl _, .refl _, .cl hcaI, .refl _, .refl _, .refl _, .refl _, .refl _, .refl _, trivial⟩, osrc_cells (b := 1) rfl rfl rfl ⟨.refl _, .refl _, .refl _, .refl _, .refl _, .refl _, .refl _, .refl _, .refl _, .refl _, .refl _, .refl _, .refl _, .refl _, trivial⟩, osrc_cells (b := 2) rfl rfl rfl ⟨.refl _, .refl _, .refl _, .refl _, .refl _, .refl _, .refl _, .cl hncI, .refl _, .refl _, .refl _, .refl _, .refl _, .refl _, trivial⟩, trivial⟩ ⟨.cl hcI, .refl _, .refl _, .refl _, .refl _, trivial⟩)
 · have hnc2 : nc = c := by rw [hnc, if_neg (by simp [h])]
   have hq := hnx.symm.trans ((congrArg Ex.enc hnc2).trans hcx)
   injection hq with hq
   simp only [List.cons.injEq, AV.val.injEq, Value.int.injEq, Value.string.injEq, AV.isl.injEq, true_and, and_true] at hq
   obtain ⟨rfl, rfl, rfl, rfl, rfl, rfl, rfl, rfl⟩ := hq
   refine goA 60 ?_
   refine ⟨rfl, ?_⟩
   exact (ent_sub [.to 0, .to 1, .to 2] [some 0, some 1, some 2] ⟨⟨by simp, rfl⟩, ⟨by simp, rfl⟩, ⟨by simp, rfl⟩, trivial⟩ ⟨osrc_cells (b := 0) rfl rfl rfl ⟨.refl _, .cl hcl, .refl _, .refl _, .refl _, .refl _, .refl _, .cl hncI, .refl _, .refl _, .refl _, .refl _, .refl _, .refl _, trivial⟩, osrc_cells (b := 1) rfl rfl rfl ⟨.refl _, .refl _, .refl _, .refl _, .refl _, .refl _, .refl _, .refl _, .refl _, .refl _, .refl _, .refl _, .refl _, .refl _, trivial⟩, osrc_cells (b := 2) rfl rfl rfl ⟨.refl _, .refl _, .refl _, .refl _, .refl _, .refl _, .refl _, .cl hncI, .refl _, .refl _, .refl _, .refl _, .refl _, .refl _, trivial⟩, trivial⟩ ⟨.cl hcI, .refl _, .refl _, .refl _, .refl _, trivial⟩)
 refine goA 60 ?_
 refine on_loopP (ι := Int × Nat × List AV × List Pat × List Pat) (fun p => ([(9, int p.1), (1, .isl 1 ts), (2, .ptr 0 0), (4, .ptr 1 0), (5, int 0), (6, .ptr 2 0)], [.cells [int o, .isl 14 es, int t, int v, int s, int n, int cO, .isl 8 cA, int cV, int cF, int cK, int cXk, int cXn, str cXt], .cells [int 0, .val (.slice none 0 0), int 0, int 0, int 0, int 0, int 0, .val (.slice none 0 0), int 0, int 0, int 0, int 0, int 0, str ⟨#[]⟩], .cells [int o, .sl 3 14 0 p.2.1, int t, int nv, int s, int n, int ncO, .isl 8 ncA, int ncV, int ncF, int ncK, int ncXk, int ncXn, str ncXt], .arr 14 p.2.2.1])) (fun p => a = p.2.2.2.1 ++ p.2.2.2.2 ∧ p.1 = p.2.2.2.1.length ∧ p.2.1 = p.2.2.1.length ∧ p.2.2.1 = mapE Pat.enc (Pat.renL to p.2.2.2.1) ∧ E = firstE (nrenE to) (Pat.nodesL p.2.2.2.2)) (fun p => p.2.2.2.2.length) (0, 0, [], [], a) ⟨rfl, rfl, rfl, hnl2.symm, hE⟩ ?_ ?_
 · exact (ent_sub [.to 0, .to 1, .to 2] [some 0, some 1, some 2, none] ⟨⟨by simp, rfl⟩, ⟨by simp, rfl⟩, ⟨by simp, rfl⟩, trivial⟩ ⟨osrc_cells (b := 0) rfl rfl rfl ⟨.refl _, .cl hcl, .refl _, .refl _, .refl _, .refl _, .refl _, .cl hcaI, .refl _, .refl _, .refl _, .refl _, .refl _, .refl _, trivial⟩, osrc_cells (b := 1) rfl rfl rfl ⟨.refl _, .refl _, .refl _, .refl _, .refl _, .refl _, .refl _, .refl _, .refl _, .refl _, .refl _, .refl _, .refl _, .refl _, trivial⟩, osrc_cells (b := 2) rfl rfl rfl ⟨.refl _, .nilS _ _ _ (by simp), .refl _, .refl _, .refl _, .refl _, .refl _, .cl hncI, .refl _, .refl _, .refl _, .refl _, .refl _, .refl _, trivial⟩, .none _ rfl, trivial⟩ ⟨.refl _, .cl hcI, .refl _, .refl _, .refl _, .refl _, trivial⟩)
 rintro ⟨i, m, w, d, r⟩ ⟨g1, gi, gm, gw, gE⟩
 dsimp only at g1 gi gm gw gE ⊢
 have hcw : AV.closedL w = true := by rw [gw]; exact Pat.closedL _
 have hwl : w.length = d.length := by rw [gw, mapE_len, Pat.renL_len]
 have hfw : fitB 14 w = true := by rw [gw]; exact fitPat _
 cases r with
 | nil =>
  have L1 := len_split g1
  try simp only [List.length_cons, List.length_nil] at L1
  have hc : iLt i (lenA es) = false := lt_f e_iLt e_lenA (by omega)
  have gE : E = 0 := gE
  rw [List.append_nil] at g1
  rw [if_pos gE] at hXX
  rw [hXX, hnE, g1, ← gw, gE]
  refine goB hX 0 (by conv => lhs; cbv; try simp only [hc]; cbv; try simp only [hc]; cbv; try simp only [hc]; cbv; try simp only [hc]; cbv) ?_
  refine goA 60 ?_
  refine loopP_exit ?_
  refine goA 60 ?_
  refine fn_ret rfl rfl ?_
  exact ⟨[.gone, .gone, .gone, .isl 14 (w)], ⟨trivial, trivial, trivial, ⟨_, rfl, (subL_closed _ hcw).symm⟩, trivial⟩, .tup' ⟨.agg' ⟨.refl _, .of (sub_whole rfl (by assumption)), .refl _, .refl _, .refl _, .refl _, .refl _, .cl hncI, .refl _, .refl _, .refl _, .refl _, .refl _, .refl _, trivial⟩, .refl _, trivial⟩⟩
 | cons q r =>
  have L1 := len_split g1
  try simp only [List.length_cons, List.length_nil] at L1
  have hc : iLt i (lenA es) = true := lt_t e_iLt e_lenA (by omega)
  have hat := el_at e_atA hes g1 gi
  have hq := hih q (by rw [g1]; simp)
  have hqc := Pat.closed q
  rw [Pat.nodesL, firstE_append] at gE
  have hsn : Pat.renL to (d ++ [q]) = Pat.renL to d ++ [q.ren to] := by rw [Pat.renL_append, Pat.renL, Pat.renL]
  have hi2 : iAdd .i64 i 1 = ((d ++ [q]).length : Int) := by rw [List.length_append]; exact inc_w e_iAdd gi (by omega)
  generalize firstE (nrenE to) q.nodes = fq at *
  generalize hqr : q.ren to = qr at *
  have hrc := Pat.closed qr
  by_cases h2 : fq = 0
  · have w2 : iNe fq 0 = false := by simp only [ee]; simpa using h2
    rw [if_neg (by simpa using h2)] at gE
    rw [if_pos h2] at hq
    obtain ⟨qO, qA, qT, qV, qS, qN, qCo, qCa, qCv, qCf, qCk, qXk, qXn, qXt, hx⟩ := Pat.form q
    obtain ⟨qrO, qrA, qrT, qrV, qrS, qrN, qrCo, qrCa, qrCv, qrCf, qrCk, qrXk, qrXn, qrXt, hy⟩ := Pat.form qr
    rw [hx] at hat hqc hq
    rw [hy] at hq hrc
    have u1 : catA (dropA w 0) (partA [.agg [int qrO, .isl 14 qrA, int qrT, int qrV, int qrS, int qrN, int qrCo, .isl 8 qrCa, int qrCv, int qrCf, int qrCk, int qrXk, int qrXn, str qrXt]] 0 1) = mapE Pat.enc (Pat.renL to (d ++ [q])) := by rw [hsn, mapE_eq, List.map_append, ← mapE_eq, ← gw, List.map_cons, List.map_nil, hy]; simp only [ee]; simp
    have u2 : addN m (lenN (partA [.agg [int qrO, .isl 14 qrA, int qrT, int qrV, int qrS, int qrN, int qrCo, .isl 8 qrCa, int qrCv, int qrCf, int qrCk, int qrXk, int qrXn, str qrXt]] 0 1)) = (catA (dropA w 0) (partA [.agg [int qrO, .isl 14 qrA, int qrT, int qrV, int qrS, int qrN, int qrCo, .isl 8 qrCa, int qrCv, int qrCf, int qrCk, int qrXk, int qrXn, str qrXt]] 0 1)).length := by simp only [ee]; simp [gm]
    have u3 : AV.closedL (catA (dropA w 0) (partA [.agg [int qrO, .isl 14 qrA, int qrT, int qrV, int qrS, int qrN, int qrCo, .isl 8 qrCa, int qrCv, int qrCf, int qrCk, int qrXk, int qrXn, str qrXt]] 0 1)) = true := by rw [u1]; exact Pat.closedL _
    refine goB hX 0 (by conv => lhs; cbv; try simp only [hc, hat, w2]; cbv; try simp only [hc, hat, w2]; cbv; try simp only [hc, hat, w2]; cbv; try simp only [hc, hat, w2]; cbv) ?_
    refine goB hX 1 (by conv => lhs; cbv; try simp only [hc, hat, w2]; cbv; try simp only [hc, hat, w2]; cbv; try simp only [hc, hat, w2]; cbv; try simp only [hc, hat, w2]; cbv) ?_
    refine pcA hq ?_
    refine goB hX 0 (by conv => lhs; cbv; try simp only [hc, hat, w2]; cbv; try simp only [hc, hat, w2]; cbv; try simp only [hc, hat, w2]; cbv; try simp only [hc, hat, w2]; cbv) ?_
    refine goA 60 ?_
    refine loopP_next (iAdd .i64 i 1, addN m (lenN (partA [.agg [int qrO, .isl 14 qrA, int qrT, int qrV, int qrS, int qrN, int qrCo, .isl 8 qrCa, int qrCv, int qrCf, int qrCk, int qrXk, int qrXn, str qrXt]] 0 1)), catA (dropA w 0) (partA [.agg [int qrO, .isl 14 qrA, int qrT, int qrV, int qrS, int qrN, int qrCo, .isl 8 qrCa, int qrCv, int qrCf, int qrCk, int qrXk, int qrXn, str qrXt]] 0 1), d ++ [q], r) ⟨by simp [g1], hi2, u2, u1, gE⟩ (by simp) (ent_sub [.to 0, .to 1, .to 2, .gone, .gone, .gone, .to 3] [some 0, some 1, some 2, some 6] ⟨⟨by simp, rfl⟩, ⟨by simp, rfl⟩, ⟨by simp, rfl⟩, trivial, trivial, trivial, ⟨by simp, rfl⟩, trivial⟩ ⟨osrc_cells (b := 0) rfl rfl rfl ⟨.refl _, .cl hcl, .refl _, .refl _, .refl _, .refl _, .refl _, .cl hcaI, .refl _, .refl _, .refl _, .refl _, .refl _, .refl _, trivial⟩, osrc_cells (b := 1) rfl rfl rfl ⟨.refl _, .refl _, .refl _, .refl _, .refl _, .refl _, .refl _, .refl _, .refl _, .refl _, .refl _, .refl _, .refl _, .refl _, trivial⟩, osrc_cells (b := 2) rfl rfl rfl ⟨.refl _, .refl _, .refl _, .refl _, .refl _, .refl _, .refl _, .cl hncI, .refl _, .refl _, .refl _, .refl _, .refl _, .refl _, trivial⟩, osrc_arr (b := 6) rfl rfl rfl rfl u3, trivial⟩ ⟨.refl _, .cl hcI, .refl _, .refl _, .refl _, .refl _, trivial⟩)
  · have w2 : iNe fq 0 = true := by simp only [ee]; simpa using h2
    rw [if_pos h2] at gE
    rw [if_neg h2, e0] at hq
    rw [if_neg (by omega)] at hXX
    rw [hXX, gE, e0]
    obtain ⟨qO, qA, qT, qV, qS, qN, qCo, qCa, qCv, qCf, qCk, qXk, qXn, qXt, hx⟩ := Pat.form q
    rw [hx] at hat hqc hq
    refine goB hX 0 (by conv => lhs; cbv; try simp only [hc, hat, w2]; cbv; try simp only [hc, hat, w2]; cbv; try simp only [hc, hat, w2]; cbv; try simp only [hc, hat, w2]; cbv) ?_
    refine goB hX 1 (by conv => lhs; cbv; try simp only [hc, hat, w2]; cbv; try simp only [hc, hat, w2]; cbv; try simp only [hc, hat, w2]; cbv; try simp only [hc, hat, w2]; cbv) ?_
    refine pcA hq ?_
    refine goB hX 0 (by conv => lhs; cbv; try simp only [hc, hat, w2]; cbv; try simp only [hc, hat, w2]; cbv; try simp only [hc, hat, w2]; cbv; try simp only [hc, hat, w2]; cbv) ?_
    refine goA 60 ?_
    refine loopP_ret ?_
    refine goA 60 ?_
    refine fn_ret rfl rfl ?_
    exact ⟨[.gone, .gone, .gone, .gone, .gone], ⟨trivial, trivial, trivial, trivial, trivial, trivial⟩, .tup' ⟨.agg' ⟨.refl _, .nilI _, .refl _, .refl _, .refl _, .refl _, .refl _, .nilI _, .refl _, .refl _, .refl _, .refl _, .refl _, .refl _, trivial⟩, .refl _, trivial⟩⟩
end Go.Am
end
section
set_option maxHeartbeats 16000000
set_option linter.unusedVariables false
set_option linter.unusedSimpArgs false
set_option maxRecDepth 20000
namespace Go.Am
open Go.Proofs
theorem P_ref09_Rename (to : List Int) (htl : to.length < 1048577) (p : Pat) (hs : p.Sm) : PCall EE 28 [p.enc, .isl 1 (mapE int to)] (.tup [(p.rename to).enc, int (p.renErr to)]) := by
 have h1 := P_ref09_CheckRest p hs
 have h2 := fun (hk : p.chkR = 0) => P_replaced to htl p hs fun q hq ht => (nodeE_var (chkR_nodes hk q hq) ht).1
 have hcl := Pat.closed p
 have hct := closedI_int to
 have hcts := closedL_int to
 obtain ⟨R, hR⟩ : ∃ R, R = p.rename to := ⟨_, rfl⟩
 obtain ⟨R2, hR2⟩ : ∃ R, R = p.renErr to := ⟨_, rfl⟩
 rw [← hR, ← hR2]
 unfold Pat.rename at hR
 rw [← hR2] at hR
 unfold Pat.renErr at hR2
 generalize p.chkR = rn at *
 have hec := Pat.closed R
 have e0 := Pat0.enc_eq
 obtain ⟨pO, pA, pT, pV, pS, pN, pCo, pCa, pCv, pCf, pCk, pXk, pXn, pXt, hx⟩ := Pat.form p
 rw [hx] at h1 h2 hcl ⊢
 by_cases g1 : rn = 0
 · rw [if_neg (by simpa using g1)] at hR2
   have h2 := h2 g1
   rw [← hR2, ← hR] at h2
   obtain ⟨RO, RA, RT, RV, RS, RN, RCo, RCa, RCv, RCf, RCk, RXk, RXn, RXt, hy⟩ := Pat.form R
   rw [hy] at h2 hec ⊢
   refine wordsN ?_; unhygienic intros
   generalize mapE int to = ts at *
   refine fn_body (fn := Tryz.f28) (n := 18) (ac := Tryzc28) (rvs := [.cell 4 14 true, .t 5]) rfl (by decide) Tryzp28 rfl rfl rfl ?_
   have k1 : iNe rn 0 = false := by simp only [ee]; simpa using g1
   refine goA 60 ?_
   refine pcA h1 ?_
   refine goB hX 0 (by conv => lhs; cbv; try simp only [k1]; cbv; try simp only [k1]; cbv; try simp only [k1]; cbv; try simp only [k1]; cbv) ?_
   refine goA 60 ?_
   refine pcA h2 ?_
   refine goA 60 ?_
   refine fn_ret rfl rfl ?_
   exact ⟨[.gone, .gone], ⟨trivial, trivial, trivial⟩, .tup' ⟨.cl hec, .refl _, trivial⟩⟩
 · rw [if_pos g1] at hR2
   rw [if_neg (by omega)] at hR
   rw [hR, hR2, e0]
   refine wordsN ?_; unhygienic intros
   generalize mapE int to = ts at *
   refine fn_body (fn := Tryz.f28) (n := 18) (ac := Tryzc28) (rvs := [.cell 4 14 true, .t 5]) rfl (by decide) Tryzp28 rfl rfl rfl ?_
   have k1 : iNe rn 0 = true := by simp only [ee]; simpa using g1
   refine goA 60 ?_
   refine pcA h1 ?_
   refine goB hX 0 (by conv => lhs; cbv; try simp only [k1]; cbv; try simp only [k1]; cbv; try simp only [k1]; cbv; try simp only [k1]; cbv) ?_
   refine goA 60 ?_
   refine fn_ret rfl rfl ?_
   exact ⟨[.gone, .gone], ⟨trivial, trivial, trivial⟩, .tup' ⟨.agg' ⟨.refl _, .nilI _, .refl _, .refl _, .refl _, .refl _, .refl _, .nilI _, .refl _, .refl _, .refl _, .refl _, .refl _, .refl _, trivial⟩, .refl _, trivial⟩⟩
end Go.Am
end
section
set_option maxHeartbeats 16000000
set_option linter.unusedVariables false
set_option linter.unusedSimpArgs false
set_option maxRecDepth 20000
namespace Go.Am
open Go.Proofs
theorem pat0Sm : Pat0.Sm := by
 refine (Pat.Sm_iff _).2 ⟨by simp [Pat0, Pat.nodes, Pat.nodesL], fun q hq => ?_⟩
 simp [Pat0, Pat.nodes, Pat.nodesL] at hq
 subst hq
 simp [Pat.cond, ex0_sm]
theorem Pat.renameSm {p : Pat} (h : p.Sm) (to : List Int) : (p.rename to).Sm := by
 unfold Pat.rename
 split
 · exact Pat.ren_sm h
 · exact pat0Sm
theorem P_lawRenames (p : Pat) (to : List Int) (hs : p.Sm) : PCall EE 6 [p.enc, .isl 1 (mapE int to)] (bool true) := by
 have q1 := P_ref09_Few p hs
 have q2 := P_awake
 have q3 := fun h : to.length < 1048577 => P_pattern_Rename to p hs h
 have q4 := fun h : to.length < 1048577 => P_ref09_Rename to h p hs
 have q5 := P_ref09_Same (p.rename to) (p.rename to) (Pat.renameSm hs to)
 rw [eqB_t rfl] at q5
 have kc1 := Pat.closed p
 have kc2 := Pat.closed (p.rename to)
 have kc3 := closedI_int to
 have hll : (mapE int to).length = to.length := mapE_len ..
 generalize p.rename to = q at *
 generalize p.renErr to = er at *
 generalize p.few = fw at *
 obtain ⟨pO, pA, pT, pV, pS, pN, pCo, pCa, pCv, pCf, pCk, pXk, pXn, pXt, hx⟩ := Pat.form p
 obtain ⟨qO, qA, qT, qV, qS, qN, qCo, qCa, qCv, qCf, qCk, qXk, qXn, qXt, hx2⟩ := Pat.form q
 rw [hx] at q1 q3 q4 kc1 ⊢
 rw [hx2] at q3 q4 q5 kc2
 clear hx hx2 hs
 refine wordsN ?_; unhygienic intros
 generalize mapE int to = ts at *
 have t1 : ∀ x : Int, iEq x x = true := fun x => by simp only [ee]; simp
 have n0 : bNot false = true := by simp only [ee]; rfl
 have n1 : bNot true = false := by simp only [ee]; rfl
 refine fn_body (fn := Tryz.f6) (n := 41) (ac := Tryzc6) (rvs := [.t 4]) rfl (by decide) Tryzp6 rfl rfl rfl ?_
 cases fw with
 | false =>
  refine goA 60 ?_
  refine pcA q1 ?_
  refine goB hX 0 (by conv => lhs; cbv; try simp only [n0]; cbv; try simp only [n0]; cbv; try simp only [n0]; cbv; try simp only [n0]; cbv) ?_
  refine on_cond rfl (fun c1 => ?_) (fun c1 => ?_)
  ·
   simp [ee] at c1
   refine goA 60 ?_
   refine pcA q2 ?_
   refine goA 60 ?_
   refine fn_ret rfl rfl (.val ?_)
   rfl
  ·
   simp [ee] at c1
 | true =>
  by_cases hl : 30 < to.length
  · have k1 : iLt 30 (lenA ts) = true := by simp only [ee]; simp; omega
    refine goA 60 ?_
    refine pcA q1 ?_
    refine goB hX 0 (by conv => lhs; cbv; try simp only [n1, k1]; cbv; try simp only [n1, k1]; cbv; try simp only [n1, k1]; cbv; try simp only [n1, k1]; cbv) ?_
    refine on_cond rfl (fun c1 => ?_) (fun c1 => ?_)
    ·
     simp [ee] at c1
     refine goA 60 ?_
     refine pcA q2 ?_
     refine goA 60 ?_
     refine fn_ret rfl rfl (.val ?_)
     rfl
    ·
     simp [ee] at c1
  · have k1 : iLt 30 (lenA ts) = false := by simp only [ee]; simp; omega
    have q3 := q3 (by omega)
    have q4 := q4 (by omega)
    refine goA 60 ?_
    refine pcA q1 ?_
    refine goB hX 0 (by conv => lhs; cbv; try simp only [n1, k1, t1]; cbv; try simp only [n1, k1, t1]; cbv; try simp only [n1, k1, t1]; cbv; try simp only [n1, k1, t1]; cbv) ?_
    refine on_cond rfl (fun c1 => ?_) (fun c1 => ?_)
    ·
     simp [ee] at c1
    ·
     simp [ee] at c1
     refine goA 60 ?_
     refine pcA q3 ?_
     refine goA 60 ?_
     refine pcA q4 ?_
     refine goA 60 ?_
     refine pcA q2 ?_
     refine goA 60 ?_
     refine pcG q5 ?_
     refine goA 60 ?_
     refine fn_ret rfl rfl (.val ?_)
     exact congrArg Value.bool (by simp only [ee]; simp)
end Go.Am
end
