/- Contracts of the program's functions, for every argument that meets the conditions that each theorem names. -/
import Derived.Test.YtdbikeconboifaaGreatDoorAm6
import Derived.Test.YtdbikeconboifaaGreatDoorCt5
import Derived.Test.YtdbikeconboifaaGreatDoorCt3
import Derived.Test.YtdbikeconboifaaGreatDoorCt4
section
set_option maxHeartbeats 16000000
set_option maxRecDepth 100000
namespace Go.Am
open Go.Proofs
theorem P_replaced (to : List Int) (htl : to.length < 1048577) : ∀ p : Pat, p.Sm → (∀ q ∈ p.nodes, typedF q.op = true → 0 ≤ q.var) → PCall EE 47 [p.enc, .isl 1 (mapE int to)] (.tup [(if firstE (nrenE to) p.nodes = 0 then p.ren to else Pat0).enc, int (firstE (nrenE to) p.nodes)]) := by
 refine Pat.ind ?_
 intro o a t v s n c ih hs hv
 have hlen := hs.len
 have hih : ∀ q ∈ a, _ := fun q hq => ih q hq (hs.arg hq) fun q2 hq2 => hv q2 (by
  rw [Pat.nodes]
  obtain ⟨d, r, rfl⟩ := List.append_of_mem hq
  simp [Pat.nodesL_append, Pat.nodesL, hq2])
 have hv0 := hv _ (by rw [Pat.nodes]; exact List.mem_cons_self)
 simp only [Pat.op, Pat.var] at hv0
 have hcl := Pat.closedI a
 have hpc := Pat.closed (.mk o a t v s n c)
 have q1 := P_variable (.mk o a t v s n c)
 have q2 := P_condition (.mk o a t v s n c)
 have q3 := P_ref08_Rename to htl c hs.cond
 simp only [Pat.op] at q1 q2
 have hct := closedL_int to
 have hcI := closedI_int to
 have e0 := Pat0.enc_eq
 obtain ⟨E, hE⟩ : ∃ E, E = firstE (nrenE to) (Pat.mk o a t v s n c).nodes := ⟨_, rfl⟩
 rw [← hE]
 obtain ⟨X, hXX⟩ : ∃ X, X = if E = 0 then (Pat.mk o a t v s n c).ren to else Pat0 := ⟨_, rfl⟩
 rw [← hXX]
 rw [Pat.ren] at hXX
 rw [Pat.nodes, firstE] at hE
 obtain ⟨ne, hne⟩ : ∃ z, z = nrenE to (Pat.mk o a t v s n c) := ⟨_, rfl⟩
 rw [← hne] at hE
 have hrE : nrenE to (.mk o a t v s n c) = if typedF o = true ∧ (to.length : Int) ≤ v then 6 else if typedF o = true ∧ (to.getD v.toNat 0 < 0 ∨ 16 ≤ to.getD v.toNat 0) then 2 else if condF o = true then c.renErr to else 0 := rfl
 rw [hrE] at hne
 clear hrE
 obtain ⟨nv, hnv⟩ : ∃ z, z = (if typedF o then to.getD v.toNat 0 else v) := ⟨_, rfl⟩
 obtain ⟨nc, hnc⟩ : ∃ z, z = (if condF o then c.rename to else c) := ⟨_, rfl⟩
 rw [← hnv, ← hnc] at hXX
 have hncc := Ex.closed nc
 have hccc := Ex.closed c
 have hrc := Ex.closed (c.rename to)
 generalize c.rename to = cr at *
 generalize c.renErr to = ce at *
 have hgt : 0 ≤ v → ¬ (to.length : Int) ≤ v → (mapE int to).getD v.toNat .undef = int (to.getD v.toNat 0) := fun a b => by
  rw [mapE_eq, List.getD_eq_getElem?_getD, List.getElem?_map, List.getD_eq_getElem?_getD, List.getElem?_eq_getElem (by omega)]; rfl
 have hll : (mapE int to).length = to.length := mapE_len ..
 obtain ⟨cO, cA, cV, cF, cK, cXk, cXn, cXt, hcx⟩ := Ex.form c
 obtain ⟨ncO, ncA, ncV, ncF, ncK, ncXk, ncXn, ncXt, hnx⟩ := Ex.form nc
 obtain ⟨crO, crA, crV, crF, crK, crXk, crXn, crXt, hrx⟩ := Ex.form cr
 have hpx := Pat.enc_c o a t v s n hcx
 have hnE := fun l => Pat.enc_c o l t nv s n hnx
 simp only [List.cons_append, List.nil_append] at hpx hnE
 rw [hpx] at q1 q2 hpc ⊢
 rw [hcx, hrx] at q3
 rw [hcx] at hccc
 rw [hnx] at hncc
 rw [hrx] at hrc
 clear ih hs hv hpx
 have hnil : mapE Pat.enc [] = [] := by rw [mapE_eq]; rfl
 have hnl2 : mapE Pat.enc (Pat.renL to []) = [] := by rw [show Pat.renL to [] = [] from by rw [Pat.renL]]; exact hnil
 refine wordsN ?_; unhygienic intros
 generalize hes : mapE Pat.enc a = es at *
 have hel : es.length = a.length := by rw [← hes, mapE_len]
 generalize mapE int to = ts at *
 generalize to.getD v.toNat 0 = tv at *
 have hat : 0 ≤ v → ¬ (to.length : Int) ≤ v → atA ts v = int tv := fun a b => by simp only [ee]; exact hgt a b
 clear hgt
 generalize typedF o = ty at *
 generalize condF o = cd at *
 have k8 : iNe 0 0 = false := by simp only [ee]; rfl
 refine fn_body (fn := Tryz.f47) (n := 86) (ac := Tryzc47) (rvs := [.cell 4 14 true, .t 5]) rfl (by decide) Tryzp47 rfl rfl rfl ?_
 by_cases hnz : ne = 0
 rotate_left
 · rw [if_pos hnz] at hE
   rw [hE, if_neg hnz] at hXX
   rw [hXX, hE, e0]
   by_cases g1 : ty = true ∧ (to.length : Int) ≤ v
   · obtain ⟨rfl, g1⟩ := g1
     rw [if_pos ⟨rfl, g1⟩] at hne
     rw [hne]
     have k3 : iLe (lenA ts) v = true := by simp only [ee]; simp; omega
     refine goA 60 ?_
     refine pcA q1 ?_
     refine goB hX 0 (by conv => lhs; cbv; try simp only [k3]; cbv; try simp only [k3]; cbv; try simp only [k3]; cbv; try simp only [k3]; cbv) ?_
     refine goB hX 1 (by conv => lhs; cbv; try simp only [k3]; cbv; try simp only [k3]; cbv; try simp only [k3]; cbv; try simp only [k3]; cbv) ?_
     refine goA 60 ?_
     refine fn_ret rfl rfl ?_
     exact ⟨[.gone, .gone, .gone], ⟨trivial, trivial, trivial, trivial⟩, .tup' ⟨.agg' ⟨.refl _, .nilI _, .refl _, .refl _, .refl _, .refl _, .refl _, .nilI _, .refl _, .refl _, .refl _, .refl _, .refl _, .refl _, trivial⟩, .refl _, trivial⟩⟩
   rw [if_neg g1] at hne
   by_cases g2 : ty = true ∧ (tv < 0 ∨ 16 ≤ tv)
   · obtain ⟨rfl, g2⟩ := g2
     rw [if_pos ⟨rfl, g2⟩] at hne
     rw [hne]
     have g1 : ¬ (to.length : Int) ≤ v := fun h => g1 ⟨rfl, h⟩
     have hv0 := hv0 rfl
     have hat := hat hv0 g1
     have k3 : iLe (lenA ts) v = false := by simp only [ee]; simp; omega
     have k5 : bOr (iLt tv 0) (iLe 16 tv) = true := by simp only [ee]; simpa using g2
     refine goA 60 ?_
     refine pcA q1 ?_
     refine goB hX 0 (by conv => lhs; cbv; try simp only [k3, hat, k5]; cbv; try simp only [k3, hat, k5]; cbv; try simp only [k3, hat, k5]; cbv; try simp only [k3, hat, k5]; cbv) ?_
     refine goB hX 1 (by conv => lhs; cbv; try simp only [k3, hat, k5]; cbv; try simp only [k3, hat, k5]; cbv; try simp only [k3, hat, k5]; cbv; try simp only [k3, hat, k5]; cbv) ?_
     refine goB hX 1 (by conv => lhs; cbv; try simp only [k3, hat, k5]; cbv; try simp only [k3, hat, k5]; cbv; try simp only [k3, hat, k5]; cbv; try simp only [k3, hat, k5]; cbv) ?_
     refine goA 60 ?_
     refine fn_ret rfl rfl ?_
     exact ⟨[.gone, .gone, .gone], ⟨trivial, trivial, trivial, trivial⟩, .tup' ⟨.agg' ⟨.refl _, .nilI _, .refl _, .refl _, .refl _, .refl _, .refl _, .nilI _, .refl _, .refl _, .refl _, .refl _, .refl _, .refl _, trivial⟩, .refl _, trivial⟩⟩
   rw [if_neg g2] at hne
   cases cd with
   | false => rw [if_neg (by decide)] at hne; exact absurd hne hnz
   | true =>
   rw [if_pos rfl] at hne
   have k6 : iNe ce 0 = true := by simp only [ee]; simp; omega
   rw [hne]
   cases ty with
   | true =>
    have g1 : ¬ (to.length : Int) ≤ v := fun h => g1 ⟨rfl, h⟩
    have g2 : ¬ (tv < 0 ∨ 16 ≤ tv) := fun h => g2 ⟨rfl, h⟩
    have hv0 := hv0 rfl
    have hat := hat hv0 g1
    have k3 : iLe (lenA ts) v = false := by simp only [ee]; simp; omega
    have k5 : bOr (iLt tv 0) (iLe 16 tv) = false := by simp only [ee]; simp; omega
    refine goA 60 ?_
    refine pcA q1 ?_
    refine goB hX 0 (by conv => lhs; cbv; try simp only [k3, hat, k5, k6]; cbv; try simp only [k3, hat, k5, k6]; cbv; try simp only [k3, hat, k5, k6]; cbv; try simp only [k3, hat, k5, k6]; cbv) ?_
    refine goB hX 1 (by conv => lhs; cbv; try simp only [k3, hat, k5, k6]; cbv; try simp only [k3, hat, k5, k6]; cbv; try simp only [k3, hat, k5, k6]; cbv; try simp only [k3, hat, k5, k6]; cbv) ?_
    refine goB hX 1 (by conv => lhs; cbv; try simp only [k3, hat, k5, k6]; cbv; try simp only [k3, hat, k5, k6]; cbv; try simp only [k3, hat, k5, k6]; cbv; try simp only [k3, hat, k5, k6]; cbv) ?_
    refine goB hX 1 (by conv => lhs; cbv; try simp only [k3, hat, k5, k6]; cbv; try simp only [k3, hat, k5, k6]; cbv; try simp only [k3, hat, k5, k6]; cbv; try simp only [k3, hat, k5, k6]; cbv) ?_
    refine pcA q2 ?_
    refine goA 60 ?_
    refine pcA q3 ?_
    refine goB hX 0 (by conv => lhs; cbv; try simp only [k3, hat, k5, k6]; cbv; try simp only [k3, hat, k5, k6]; cbv; try simp only [k3, hat, k5, k6]; cbv; try simp only [k3, hat, k5, k6]; cbv) ?_
    refine goA 60 ?_
    refine fn_ret rfl rfl ?_
    exact ⟨[.gone, .gone, .gone, .gone], ⟨trivial, trivial, trivial, trivial, trivial⟩, .tup' ⟨.agg' ⟨.refl _, .nilI _, .refl _, .refl _, .refl _, .refl _, .refl _, .nilI _, .refl _, .refl _, .refl _, .refl _, .refl _, .refl _, trivial⟩, .refl _, trivial⟩⟩
   | false =>
    refine goA 60 ?_
    refine pcA q1 ?_
    refine goA 60 ?_
    refine pcA q2 ?_
    refine goA 60 ?_
    refine pcA q3 ?_
    refine goB hX 0 (by conv => lhs; cbv; try simp only [k6]; cbv; try simp only [k6]; cbv; try simp only [k6]; cbv; try simp only [k6]; cbv) ?_
    refine goA 60 ?_
    refine fn_ret rfl rfl ?_
    exact ⟨[.gone, .gone, .gone, .gone], ⟨trivial, trivial, trivial, trivial, trivial⟩, .tup' ⟨.agg' ⟨.refl _, .nilI _, .refl _, .refl _, .refl _, .refl _, .refl _, .nilI _, .refl _, .refl _, .refl _, .refl _, .refl _, .refl _, trivial⟩, .refl _, trivial⟩⟩
 rw [if_neg (by omega)] at hE
 rw [hnz] at hne
 have hok1 : ty = true → ¬ (to.length : Int) ≤ v ∧ ¬ (tv < 0 ∨ 16 ≤ tv) := by
  rintro rfl
  refine ⟨fun h => ?_, fun h => ?_⟩
  · rw [if_pos ⟨rfl, h⟩] at hne; cases hne
  · by_cases g : (to.length : Int) ≤ v
    · rw [if_pos ⟨rfl, g⟩] at hne; cases hne
    · rw [if_neg (fun h => g h.2), if_pos ⟨rfl, h⟩] at hne; cases hne
 have hok2 : cd = true → ce = 0 := by
  rintro rfl
  by_cases g1 : ty = true ∧ (to.length : Int) ≤ v
  · exact absurd g1.2 (hok1 g1.1).1
  rw [if_neg g1] at hne
  by_cases g2 : ty = true ∧ (tv < 0 ∨ 16 ≤ tv)
  · exact absurd g2.2 (hok1 g2.1).2
  rw [if_neg g2, if_pos rfl] at hne
  exact hne.symm
 have hnv1 : ty = true → tv = nv := fun h => by rw [hnv, if_pos h]
 have hnv2 : ty = false → v = nv := fun h => by rw [hnv, if_neg (by simp [h])]
 clear hne hnz
 have hcaI : (AV.isl 8 cA).closed = true := by have := hccc; simp [AV.closed, AV.closedL] at this ⊢; exact this
 have hncI : (AV.isl 8 ncA).closed = true := by have := hncc; simp [AV.closed, AV.closedL] at this ⊢; exact this
 refine goA 60 ?_
 refine pcA q1 ?_
 refine goA 0 ?_
 refine on_condJ [(1, .isl 1 ts), (2, .ptr 0 0), (4, .ptr 1 0), (5, int 0), (6, .ptr 2 0)] [.cells [int o, .isl 14 es, int t, int v, int s, int n, int cO, .isl 8 cA, int cV, int cF, int cK, int cXk, int cXn, str cXt], .cells [int 0, .val (.slice none 0 0), int 0, int 0, int 0, int 0, int 0, .val (.slice none 0 0), int 0, int 0, int 0, int 0, int 0, str ⟨#[]⟩], .cells [int o, .val (.slice none 0 0), int t, int nv, int s, int n, int cO, .isl 8 cA, int cV, int cF, int cK, int cXk, int cXn, str cXt]] rfl (fun h => ?_) (fun h => ?_) ?_
 · have hv0 := hv0 h
   have hat := hat hv0 (hok1 h).1
   have g1 := (hok1 h).1
   have g2 := (hok1 h).2
   have k3 : iLe (lenA ts) v = false := by simp only [ee]; simp; omega
   have k5 : bOr (iLt tv 0) (iLe 16 tv) = false := by simp only [ee]; simp; omega
   have hnv1 := hnv1 h
   refine goB hX 0 (by conv => lhs; cbv; try simp only [k3, hat, k5]; cbv; try simp only [k3, hat, k5]; cbv; try simp only [k3, hat, k5]; cbv; try simp only [k3, hat, k5]; cbv) ?_
   refine goB hX 1 (by conv => lhs; cbv; try simp only [k3, hat, k5]; cbv; try simp only [k3, hat, k5]; cbv; try simp only [k3, hat, k5]; cbv; try simp only [k3, hat, k5]; cbv) ?_
   refine goB hX 1 (by conv => lhs; cbv; try simp only [k3, hat, k5]; cbv; try simp only [k3, hat, k5]; cbv; try simp only [k3, hat, k5]; cbv; try simp only [k3, hat, k5]; cbv) ?_
   refine goB hX 1 (by conv => lhs; cbv; try simp only [k3, hat, k5]; cbv; try simp only [k3, hat, k5]; cbv; try simp only [k3, hat, k5]; cbv; try simp only [k3, hat, k5]; cbv) ?_
   refine ⟨rfl, ?_⟩
   exact (ent_sub [.to 0, .to 1, .to 2] [some 0, some 1, some 2] ⟨⟨by simp, rfl⟩, ⟨by simp, rfl⟩, ⟨by simp, rfl⟩, trivial⟩ ⟨osrc_cells (b := 0) rfl rfl rfl ⟨.refl _, .cl hcl, .refl _, .refl _, .refl _, .refl _, .refl _, .cl hcaI, .refl _, .refl _, .refl _, .refl _, .refl _, .refl _, trivial⟩, osrc_cells (b := 1) rfl rfl rfl ⟨.refl _, .refl _, .refl _, .refl _, .refl _, .refl _, .refl _, .refl _, .refl _, .refl _, .refl _, .refl _, .refl _, .refl _, trivial⟩, osrc_cells (b := 2) rfl rfl rfl ⟨.refl _, .refl _, .refl _, .of (congrArg int (by assumption)), .refl _, .refl _, .refl _, .cl hcaI, .refl _, .refl _, .refl _, .refl _, .refl _, .refl _, trivial⟩, trivial⟩ ⟨.cl hcI, .refl _, .refl _, .refl _, .refl _, trivial⟩)
 · have hnv2 := hnv2 h
   refine goA 60 ?_
   refine ⟨rfl, ?_⟩
   exact (ent_sub [.to 0, .to 1, .to 2] [some 0, some 1, some 2] ⟨⟨by simp, rfl⟩, ⟨by simp, rfl⟩, ⟨by simp, rfl⟩, trivial⟩ ⟨osrc_cells (b := 0) rfl rfl rfl ⟨.refl _, .cl hcl, .refl _, .refl _, .refl _, .refl _, .refl _, .cl hcaI, .refl _, .refl _, .refl _, .refl _, .refl _, .refl _, trivial⟩, osrc_cells (b := 1) rfl rfl rfl ⟨.refl _, .refl _, .refl _, .refl _, .refl _, .refl _, .refl _, .refl _, .refl _, .refl _, .refl _, .refl _, .refl _, .refl _, trivial⟩, osrc_cells (b := 2) rfl rfl rfl ⟨.refl _, .refl _, .refl _, .of (congrArg int (by assumption)), .refl _, .refl _, .refl _, .cl hcaI, .refl _, .refl _, .refl _, .refl _, .refl _, .refl _, trivial⟩, trivial⟩ ⟨.cl hcI, .refl _, .refl _, .refl _, .refl _, trivial⟩)
 refine goA 0 ?_
 refine pcA q2 ?_
 refine goA 0 ?_
 refine on_condJ [(1, .isl 1 ts), (2, .ptr 0 0), (4, .ptr 1 0), (5, int 0), (6, .ptr 2 0)] [.cells [int o, .isl 14 es, int t, int v, int s, int n, int cO, .isl 8 cA, int cV, int cF, int cK, int cXk, int cXn, str cXt], .cells [int 0, .val (.slice none 0 0), int 0, int 0, int 0, int 0, int 0, .val (.slice none 0 0), int 0, int 0, int 0, int 0, int 0, str ⟨#[]⟩], .cells [int o, .val (.slice none 0 0), int t, int nv, int s, int n, int ncO, .isl 8 ncA, int ncV, int ncF, int ncK, int ncXk, int ncXn, str ncXt]] rfl (fun h => ?_) (fun h => ?_) ?_
 · have hce := hok2 h
   have hnc1 : nc = cr := by rw [hnc, if_pos h]
   have hq := hnx.symm.trans ((congrArg Ex.enc hnc1).trans hrx)
   injection hq with hq
   simp only [List.cons.injEq, AV.val.injEq, Value.int.injEq, Value.string.injEq, AV.isl.injEq, true_and, and_true] at hq
   obtain ⟨rfl, rfl, rfl, rfl, rfl, rfl, rfl, rfl⟩ := hq
   rw [hce] at q3
   refine goA 60 ?_
   refine pcA q3 ?_
   refine goB hX 0 (by conv => lhs; cbv; try simp only [k8]; cbv; try simp only [k8]; cbv; try simp only [k8]; cbv; try simp only [k8]; cbv) ?_
   refine goB hX 1 (by conv => lhs; cbv; try simp only [k8]; cbv; try simp only [k8]; cbv; try simp only [k8]; cbv; try simp only [k8]; cbv) ?_
   refine ⟨rfl, ?_⟩
   exact (ent_sub [.to 0, .to 1, .to 2, .gone] [some 0, some 1, some 2] ⟨⟨by simp, rfl⟩, ⟨by simp, rfl⟩, ⟨by simp, rfl⟩, trivial, trivial⟩ ⟨osrc_cells (b := 0) rfl rfl rfl ⟨.refl _, .cl hcl, .refl _, .refl _, .refl _, .refl _, .refl _, .cl hcaI, .refl _, .refl _, .refl _, .refl _, .refl _, .refl _, trivial⟩, osrc_cells (b := 1) rfl rfl rfl ⟨.refl _, .refl _, .refl _, .refl _, .refl _, .refl _, .refl _, .refl _, .refl _, .refl _, .refl _, .refl _, .refl _, .refl _, trivial⟩, osrc_cells (b := 2) rfl rfl rfl ⟨.refl _, .refl _, .refl _, .refl _, .refl _, .refl _, .refl _, .cl hncI, .refl _, .refl _, .refl _, .refl _, .refl _, .refl _, trivial⟩, trivial⟩ ⟨.cl hcI, .refl _, .refl _, .refl _, .refl _, trivial⟩)
 · have hnc2 : nc = c := by rw [hnc, if_neg (by simp [h])]
   have hq := hnx.symm.trans ((congrArg Ex.enc hnc2).trans hcx)
   injection hq with hq
   simp only [List.cons.injEq, AV.val.injEq, Value.int.injEq, Value.string.injEq, AV.isl.injEq, true_and, and_true] at hq
   obtain ⟨rfl, rfl, rfl, rfl, rfl, rfl, rfl, rfl⟩ := hq
   refine goA 60 ?_
   refine ⟨rfl, ?_⟩
   exact (ent_sub [.to 0, .to 1, .to 2] [some 0, some 1, some 2] ⟨⟨by simp, rfl⟩, ⟨by simp, rfl⟩, ⟨by simp, rfl⟩, trivial⟩ ⟨osrc_cells (b := 0) rfl rfl rfl ⟨.refl _, .cl hcl, .refl _, .refl _, .refl _, .refl _, .refl _, .cl hncI, .refl _, .refl _, .refl _, .refl _, .refl _, .refl _, trivial⟩, osrc_cells (b := 1) rfl rfl rfl ⟨.refl _, .refl _, .refl _, .refl _, .refl _, .refl _, .refl _, .refl _, .refl _, .refl _, .refl _, .refl _, .refl _, .refl _, trivial⟩, osrc_cells (b := 2) rfl rfl rfl ⟨.refl _, .refl _, .refl _, .refl _, .refl _, .refl _, .refl _, .cl hncI, .refl _, .refl _, .refl _, .refl _, .refl _, .refl _, trivial⟩, trivial⟩ ⟨.cl hcI, .refl _, .refl _, .refl _, .refl _, trivial⟩)
 refine goA 60 ?_
 refine on_loopP (ι := Int × Nat × List AV × List Pat × List Pat) (fun p => ([(9, int p.1), (1, .isl 1 ts), (2, .ptr 0 0), (4, .ptr 1 0), (5, int 0), (6, .ptr 2 0)], [.cells [int o, .isl 14 es, int t, int v, int s, int n, int cO, .isl 8 cA, int cV, int cF, int cK, int cXk, int cXn, str cXt], .cells [int 0, .val (.slice none 0 0), int 0, int 0, int 0, int 0, int 0, .val (.slice none 0 0), int 0, int 0, int 0, int 0, int 0, str ⟨#[]⟩], .cells [int o, .sl 3 14 0 p.2.1, int t, int nv, int s, int n, int ncO, .isl 8 ncA, int ncV, int ncF, int ncK, int ncXk, int ncXn, str ncXt], .arr 14 p.2.2.1])) (fun p => a = p.2.2.2.1 ++ p.2.2.2.2 ∧ p.1 = p.2.2.2.1.length ∧ p.2.1 = p.2.2.1.length ∧ p.2.2.1 = mapE Pat.enc (Pat.renL to p.2.2.2.1) ∧ E = firstE (nrenE to) (Pat.nodesL p.2.2.2.2)) (fun p => p.2.2.2.2.length) (0, 0, [], [], a) ⟨rfl, rfl, rfl, hnl2.symm, hE⟩ ?_ ?_
 · exact (ent_sub [.to 0, .to 1, .to 2] [some 0, some 1, some 2, none] ⟨⟨by simp, rfl⟩, ⟨by simp, rfl⟩, ⟨by simp, rfl⟩, trivial⟩ ⟨osrc_cells (b := 0) rfl rfl rfl ⟨.refl _, .cl hcl, .refl _, .refl _, .refl _, .refl _, .refl _, .cl hcaI, .refl _, .refl _, .refl _, .refl _, .refl _, .refl _, trivial⟩, osrc_cells (b := 1) rfl rfl rfl ⟨.refl _, .refl _, .refl _, .refl _, .refl _, .refl _, .refl _, .refl _, .refl _, .refl _, .refl _, .refl _, .refl _, .refl _, trivial⟩, osrc_cells (b := 2) rfl rfl rfl ⟨.refl _, .nilS _ _ _ (by simp), .refl _, .refl _, .refl _, .refl _, .refl _, .cl hncI, .refl _, .refl _, .refl _, .refl _, .refl _, .refl _, trivial⟩, .none _ rfl, trivial⟩ ⟨.refl _, .cl hcI, .refl _, .refl _, .refl _, .refl _, trivial⟩)
 rintro ⟨i, m, w, d, r⟩ ⟨g1, gi, gm, gw, gE⟩
 dsimp only at g1 gi gm gw gE ⊢
 have hcw : AV.closedL w = true := by rw [gw]; exact Pat.closedL _
 have hwl : w.length = d.length := by rw [gw, mapE_len, Pat.renL_len]
 have hfw : fitB 14 w = true := by rw [gw]; exact fitPat _
 cases r with
 | nil =>
  have L1 := len_split g1
  try simp only [List.length_cons, List.length_nil] at L1
  have hc : iLt i (lenA es) = false := lt_f e_iLt e_lenA (by omega)
  have gE : E = 0 := gE
  rw [List.append_nil] at g1
  rw [if_pos gE] at hXX
  rw [hXX, hnE, g1, ← gw, gE]
  refine goB hX 0 (by conv => lhs; cbv; try simp only [hc]; cbv; try simp only [hc]; cbv; try simp only [hc]; cbv; try simp only [hc]; cbv) ?_
  refine goA 60 ?_
  refine loopP_exit ?_
  refine goA 60 ?_
  refine fn_ret rfl rfl ?_
  exact ⟨[.gone, .gone, .gone, .isl 14 (w)], ⟨trivial, trivial, trivial, ⟨_, rfl, (subL_closed _ hcw).symm⟩, trivial⟩, .tup' ⟨.agg' ⟨.refl _, .of (sub_whole rfl (by assumption)), .refl _, .refl _, .refl _, .refl _, .refl _, .cl hncI, .refl _, .refl _, .refl _, .refl _, .refl _, .refl _, trivial⟩, .refl _, trivial⟩⟩
 | cons q r =>
  have L1 := len_split g1
  try simp only [List.length_cons, List.length_nil] at L1
  have hc : iLt i (lenA es) = true := lt_t e_iLt e_lenA (by omega)
  have hat := el_at e_atA hes g1 gi
  have hq := hih q (by rw [g1]; simp)
  have hqc := Pat.closed q
  rw [Pat.nodesL, firstE_append] at gE
  have hsn : Pat.renL to (d ++ [q]) = Pat.renL to d ++ [q.ren to] := by rw [Pat.renL_append, Pat.renL, Pat.renL]
  have hi2 : iAdd .i64 i 1 = ((d ++ [q]).length : Int) := by rw [List.length_append]; exact inc_w e_iAdd gi (by omega)
  generalize firstE (nrenE to) q.nodes = fq at *
  generalize hqr : q.ren to = qr at *
  have hrc := Pat.closed qr
  by_cases h2 : fq = 0
  · have w2 : iNe fq 0 = false := by simp only [ee]; simpa using h2
    rw [if_neg (by simpa using h2)] at gE
    rw [if_pos h2] at hq
    obtain ⟨qO, qA, qT, qV, qS, qN, qCo, qCa, qCv, qCf, qCk, qXk, qXn, qXt, hx⟩ := Pat.form q
    obtain ⟨qrO, qrA, qrT, qrV, qrS, qrN, qrCo, qrCa, qrCv, qrCf, qrCk, qrXk, qrXn, qrXt, hy⟩ := Pat.form qr
    rw [hx] at hat hqc hq
    rw [hy] at hq hrc
    have u1 : catA (dropA w 0) (partA [.agg [int qrO, .isl 14 qrA, int qrT, int qrV, int qrS, int qrN, int qrCo, .isl 8 qrCa, int qrCv, int qrCf, int qrCk, int qrXk, int qrXn, str qrXt]] 0 1) = mapE Pat.enc (Pat.renL to (d ++ [q])) := by rw [hsn, mapE_eq, List.map_append, ← mapE_eq, ← gw, List.map_cons, List.map_nil, hy]; simp only [ee]; simp
    have u2 : addN m (lenN (partA [.agg [int qrO, .isl 14 qrA, int qrT, int qrV, int qrS, int qrN, int qrCo, .isl 8 qrCa, int qrCv, int qrCf, int qrCk, int qrXk, int qrXn, str qrXt]] 0 1)) = (catA (dropA w 0) (partA [.agg [int qrO, .isl 14 qrA, int qrT, int qrV, int qrS, int qrN, int qrCo, .isl 8 qrCa, int qrCv, int qrCf, int qrCk, int qrXk, int qrXn, str qrXt]] 0 1)).length := by simp only [ee]; simp [gm]
    have u3 : AV.closedL (catA (dropA w 0) (partA [.agg [int qrO, .isl 14 qrA, int qrT, int qrV, int qrS, int qrN, int qrCo, .isl 8 qrCa, int qrCv, int qrCf, int qrCk, int qrXk, int qrXn, str qrXt]] 0 1)) = true := by rw [u1]; exact Pat.closedL _
    refine goB hX 0 (by conv => lhs; cbv; try simp only [hc, hat, w2]; cbv; try simp only [hc, hat, w2]; cbv; try simp only [hc, hat, w2]; cbv; try simp only [hc, hat, w2]; cbv) ?_
    refine goB hX 1 (by conv => lhs; cbv; try simp only [hc, hat, w2]; cbv; try simp only [hc, hat, w2]; cbv; try simp only [hc, hat, w2]; cbv; try simp only [hc, hat, w2]; cbv) ?_
    refine pcA hq ?_
    refine goB hX 0 (by conv => lhs; cbv; try simp only [hc, hat, w2]; cbv; try simp only [hc, hat, w2]; cbv; try simp only [hc, hat, w2]; cbv; try simp only [hc, hat, w2]; cbv) ?_
    refine goA 60 ?_
    refine loopP_next (iAdd .i64 i 1, addN m (lenN (partA [.agg [int qrO, .isl 14 qrA, int qrT, int qrV, int qrS, int qrN, int qrCo, .isl 8 qrCa, int qrCv, int qrCf, int qrCk, int qrXk, int qrXn, str qrXt]] 0 1)), catA (dropA w 0) (partA [.agg [int qrO, .isl 14 qrA, int qrT, int qrV, int qrS, int qrN, int qrCo, .isl 8 qrCa, int qrCv, int qrCf, int qrCk, int qrXk, int qrXn, str qrXt]] 0 1), d ++ [q], r) ⟨by simp [g1], hi2, u2, u1, gE⟩ (by simp) (ent_sub [.to 0, .to 1, .to 2, .gone, .gone, .gone, .to 3] [some 0, some 1, some 2, some 6] ⟨⟨by simp, rfl⟩, ⟨by simp, rfl⟩, ⟨by simp, rfl⟩, trivial, trivial, trivial, ⟨by simp, rfl⟩, trivial⟩ ⟨osrc_cells (b := 0) rfl rfl rfl ⟨.refl _, .cl hcl, .refl _, .refl _, .refl _, .refl _, .refl _, .cl hcaI, .refl _, .refl _, .refl _, .refl _, .refl _, .refl _, trivial⟩, osrc_cells (b := 1) rfl rfl rfl ⟨.refl _, .refl _, .refl _, .refl _, .refl _, .refl _, .refl _, .refl _, .refl _, .refl _, .refl _, .refl _, .refl _, .refl _, trivial⟩, osrc_cells (b := 2) rfl rfl rfl ⟨.refl _, .refl _, .refl _, .refl _, .refl _, .refl _, .refl _, .cl hncI, .refl _, .refl _, .refl _, .refl _, .refl _, .refl _, trivial⟩, osrc_arr (b := 6) rfl rfl rfl rfl u3, trivial⟩ ⟨.refl _, .cl hcI, .refl _, .refl _, .refl _, .refl _, trivial⟩)
  · have w2 : iNe fq 0 = true := by simp only [ee]; simpa using h2
    rw [if_pos h2] at gE
    rw [if_neg h2, e0] at hq
    rw [if_neg (by omega)] at hXX
    rw [hXX, gE, e0]
    obtain ⟨qO, qA, qT, qV, qS, qN, qCo, qCa, qCv, qCf, qCk, qXk, qXn, qXt, hx⟩ := Pat.form q
    rw [hx] at hat hqc hq
    refine goB hX 0 (by conv => lhs; cbv; try simp only [hc, hat, w2]; cbv; try simp only [hc, hat, w2]; cbv; try simp only [hc, hat, w2]; cbv; try simp only [hc, hat, w2]; cbv) ?_
    refine goB hX 1 (by conv => lhs; cbv; try simp only [hc, hat, w2]; cbv; try simp only [hc, hat, w2]; cbv; try simp only [hc, hat, w2]; cbv; try simp only [hc, hat, w2]; cbv) ?_
    refine pcA hq ?_
    refine goB hX 0 (by conv => lhs; cbv; try simp only [hc, hat, w2]; cbv; try simp only [hc, hat, w2]; cbv; try simp only [hc, hat, w2]; cbv; try simp only [hc, hat, w2]; cbv) ?_
    refine goA 60 ?_
    refine loopP_ret ?_
    refine goA 60 ?_
    refine fn_ret rfl rfl ?_
    exact ⟨[.gone, .gone, .gone, .gone, .gone], ⟨trivial, trivial, trivial, trivial, trivial, trivial⟩, .tup' ⟨.agg' ⟨.refl _, .nilI _, .refl _, .refl _, .refl _, .refl _, .refl _, .nilI _, .refl _, .refl _, .refl _, .refl _, .refl _, .refl _, trivial⟩, .refl _, trivial⟩⟩
theorem P_ref09_Rename (to : List Int) (htl : to.length < 1048577) (p : Pat) (hs : p.Sm) : PCall EE 28 [p.enc, .isl 1 (mapE int to)] (.tup [(p.rename to).enc, int (p.renErr to)]) := by
 have h1 := P_ref09_CheckRest p hs
 have h2 := fun (hk : p.chkR = 0) => P_replaced to htl p hs fun q hq ht => (nodeE_var (chkR_nodes hk q hq) ht).1
 have hcl := Pat.closed p
 have hct := closedI_int to
 have hcts := closedL_int to
 obtain ⟨R, hR⟩ : ∃ R, R = p.rename to := ⟨_, rfl⟩
 obtain ⟨R2, hR2⟩ : ∃ R, R = p.renErr to := ⟨_, rfl⟩
 rw [← hR, ← hR2]
 unfold Pat.rename at hR
 rw [← hR2] at hR
 unfold Pat.renErr at hR2
 generalize p.chkR = rn at *
 have hec := Pat.closed R
 have e0 := Pat0.enc_eq
 obtain ⟨pO, pA, pT, pV, pS, pN, pCo, pCa, pCv, pCf, pCk, pXk, pXn, pXt, hx⟩ := Pat.form p
 rw [hx] at h1 h2 hcl ⊢
 by_cases g1 : rn = 0
 · rw [if_neg (by simpa using g1)] at hR2
   have h2 := h2 g1
   rw [← hR2, ← hR] at h2
   obtain ⟨RO, RA, RT, RV, RS, RN, RCo, RCa, RCv, RCf, RCk, RXk, RXn, RXt, hy⟩ := Pat.form R
   rw [hy] at h2 hec ⊢
   refine wordsN ?_; unhygienic intros
   generalize mapE int to = ts at *
   refine fn_body (fn := Tryz.f28) (n := 18) (ac := Tryzc28) (rvs := [.cell 4 14 true, .t 5]) rfl (by decide) Tryzp28 rfl rfl rfl ?_
   have k1 : iNe rn 0 = false := by simp only [ee]; simpa using g1
   refine goA 60 ?_
   refine pcA h1 ?_
   refine goB hX 0 (by conv => lhs; cbv; try simp only [k1]; cbv; try simp only [k1]; cbv; try simp only [k1]; cbv; try simp only [k1]; cbv) ?_
   refine goA 60 ?_
   refine pcA h2 ?_
   refine goA 60 ?_
   refine fn_ret rfl rfl ?_
   exact ⟨[.gone, .gone], ⟨trivial, trivial, trivial⟩, .tup' ⟨.cl hec, .refl _, trivial⟩⟩
 · rw [if_pos g1] at hR2
   rw [if_neg (by omega)] at hR
   rw [hR, hR2, e0]
   refine wordsN ?_; unhygienic intros
   generalize mapE int to = ts at *
   refine fn_body (fn := Tryz.f28) (n := 18) (ac := Tryzc28) (rvs := [.cell 4 14 true, .t 5]) rfl (by decide) Tryzp28 rfl rfl rfl ?_
   have k1 : iNe rn 0 = true := by simp only [ee]; simpa using g1
   refine goA 60 ?_
   refine pcA h1 ?_
   refine goB hX 0 (by conv => lhs; cbv; try simp only [k1]; cbv; try simp only [k1]; cbv; try simp only [k1]; cbv; try simp only [k1]; cbv) ?_
   refine goA 60 ?_
   refine fn_ret rfl rfl ?_
   exact ⟨[.gone, .gone], ⟨trivial, trivial, trivial⟩, .tup' ⟨.agg' ⟨.refl _, .nilI _, .refl _, .refl _, .refl _, .refl _, .refl _, .nilI _, .refl _, .refl _, .refl _, .refl _, .refl _, .refl _, trivial⟩, .refl _, trivial⟩⟩
def Ex.few (e : Ex) : Bool := decide (e.cnt ≤ 200) && decide (e.dep ≤ 100)
def Pat.few (p : Pat) : Bool := decide (p.cnt ≤ 150) && decide (p.dep ≤ 60) && p.nodes.all (fun q => q.cond.few)
theorem P_ref08_Few (e : Ex) (hs : e.Sm) : PCall EE 32 [e.enc] (bool e.few) := by
 have h1 : PCall EE 63 [e.enc, int 200] (int (e.tot 200)) := P_ref08_Count 200 (by omega) e hs
 have h2 := P_ref08_Depth e hs
 have hcl := Ex.closed e
 obtain ⟨R, hR⟩ : ∃ R, R = e.few := ⟨_, rfl⟩
 rw [← hR]
 unfold Ex.few at hR
 have ht := Ex.tot_iff e 200
 obtain ⟨eO, eA, eV, eF, eK, eXk, eXn, eXt, hx⟩ := Ex.form e
 rw [hx] at h1 h2 hcl ⊢
 refine wordsN ?_; unhygienic intros
 generalize ht1 : (e.tot 200 : Int) = tn at *
 generalize ht2 : (e.dep : Int) = dn at *
 refine fn_body (fn := Tryz.f32) (n := 11) (ac := Tryzc32) (rvs := [.t 2]) rfl (by decide) Tryzp32 rfl rfl rfl ?_
 by_cases hc1 : e.cnt ≤ 200
 · have w1 : iLe tn 200 = true := by simp only [ee]; simp; omega
   by_cases hc2 : e.dep ≤ 100
   · have w2 : iLe dn 100 = true := by simp only [ee]; simp; omega
     have hR : R = true := by rw [hR]; simp [hc1, hc2]
     refine goA 60 ?_
     refine pcA h1 ?_
     refine goB hX 0 (by conv => lhs; cbv; try simp only [w1, w2]; cbv; try simp only [w1, w2]; cbv; try simp only [w1, w2]; cbv; try simp only [w1, w2]; cbv) ?_
     refine goA 60 ?_
     refine pcG h2 ?_
     refine goA 60 ?_
     refine fn_ret rfl rfl (.val ?_)
     exact congrArg Value.bool (by rw [w2, hR]; simp [ee])
   · have w2 : iLe dn 100 = false := by simp only [ee]; simp; omega
     have hR : R = false := by rw [hR]; simp [hc2]
     refine goA 60 ?_
     refine pcA h1 ?_
     refine goB hX 0 (by conv => lhs; cbv; try simp only [w1, w2]; cbv; try simp only [w1, w2]; cbv; try simp only [w1, w2]; cbv; try simp only [w1, w2]; cbv) ?_
     refine goA 60 ?_
     refine pcG h2 ?_
     refine goA 60 ?_
     refine fn_ret rfl rfl (.val ?_)
     exact congrArg Value.bool (by rw [w2, hR]; simp [ee])
 · have w1 : iLe tn 200 = false := by simp only [ee]; simp; omega
   have hR : R = false := by rw [hR]; simp [hc1]
   refine goA 60 ?_
   refine pcA h1 ?_
   refine goB hX 0 (by conv => lhs; cbv; try simp only [w1]; cbv; try simp only [w1]; cbv; try simp only [w1]; cbv; try simp only [w1]; cbv) ?_
   refine goA 60 ?_
   refine on_gskip rfl rfl ?_
   refine goA 60 ?_
   refine fn_ret rfl rfl (.val ?_)
   exact congrArg Value.bool hR.symm
theorem P_ref09_Few (p : Pat) (hs : p.Sm) : PCall EE 7 [p.enc] (bool p.few) := by
 have h1 : PCall EE 29 [p.enc, int 150] (int (p.tot 150)) := P_ref09_Total 150 (by omega) p hs
 have h2 := P_ref09_Depth p hs
 have h3 := P_ref09_Nodes p hs
 have hsn := hs.node
 have hnl := Pat.nodes_len p
 have hcn := hs.1
 have hcl := Pat.closed p
 have hcn2 := Pat.closedI p.nodes
 obtain ⟨R, hR⟩ : ∃ R, R = p.few := ⟨_, rfl⟩
 rw [← hR]
 unfold Pat.few at hR
 have ht := Pat.tot_iff p 150
 obtain ⟨pO, pA, pT, pV, pS, pN, pCo, pCa, pCv, pCf, pCk, pXk, pXn, pXt, hx⟩ := Pat.form p
 rw [hx] at h1 h2 h3 hcl ⊢
 refine wordsN ?_; unhygienic intros
 generalize ht1 : (p.tot 150 : Int) = tn at *
 generalize ht2 : (p.dep : Int) = dn at *
 generalize hnod : p.nodes = nl at *
 generalize hes : mapE Pat.enc nl = es at *
 have hel : es.length = nl.length := by rw [← hes, mapE_len]
 refine fn_body (fn := Tryz.f7) (n := 28) (ac := Tryzc7) (rvs := [.t 2]) rfl (by decide) Tryzp7 rfl rfl rfl ?_
 by_cases hc1 : p.cnt ≤ 150
 rotate_left
 · have w1 : iLt 150 tn = true := by simp only [ee]; simp; omega
   have hR : R = false := by rw [hR]; simp [hc1]
   refine goA 60 ?_
   refine pcA h1 ?_
   refine goB hX 0 (by conv => lhs; cbv; try simp only [w1]; cbv; try simp only [w1]; cbv; try simp only [w1]; cbv; try simp only [w1]; cbv) ?_
   refine goA 60 ?_
   refine on_gskip rfl rfl ?_
   refine goA 60 ?_
   refine fn_ret rfl rfl (.val ?_)
   exact congrArg Value.bool hR.symm
 have w1 : iLt 150 tn = false := by simp only [ee]; simp; omega
 by_cases hc2 : p.dep ≤ 60
 rotate_left
 · have w2 : iLt 60 dn = true := by simp only [ee]; simp; omega
   have hR : R = false := by rw [hR]; simp [hc2]
   refine goA 60 ?_
   refine pcA h1 ?_
   refine goB hX 0 (by conv => lhs; cbv; try simp only [w1, w2]; cbv; try simp only [w1, w2]; cbv; try simp only [w1, w2]; cbv; try simp only [w1, w2]; cbv) ?_
   refine goA 60 ?_
   refine pcG h2 ?_
   refine goB hX 0 (by conv => lhs; cbv; try simp only [w1, w2]; cbv; try simp only [w1, w2]; cbv; try simp only [w1, w2]; cbv; try simp only [w1, w2]; cbv) ?_
   refine on_cond rfl (fun c1 => ?_) (fun c1 => ?_)
   ·
    simp [ee] at c1
    refine goA 60 ?_
    refine fn_ret rfl rfl (.val ?_)
    exact congrArg Value.bool hR.symm
   ·
    simp [ee] at c1
 have w2 : iLt 60 dn = false := by simp only [ee]; simp; omega
 have hR : R = nl.all (fun q => q.cond.few) := by rw [hR]; simp [hc1, hc2]
 have hor : ∀ b, bOr false b = b := by simp [ee]
 refine goA 60 ?_
 refine pcA h1 ?_
 refine goB hX 0 (by conv => lhs; cbv; try simp only [w1, w2, hor]; cbv; try simp only [w1, w2, hor]; cbv; try simp only [w1, w2, hor]; cbv; try simp only [w1, w2, hor]; cbv) ?_
 refine goA 60 ?_
 refine pcG h2 ?_
 refine goB hX 0 (by conv => lhs; cbv; try simp only [w1, w2, hor]; cbv; try simp only [w1, w2, hor]; cbv; try simp only [w1, w2, hor]; cbv; try simp only [w1, w2, hor]; cbv) ?_
 refine goA 60 ?_
 refine pcA h3 ?_
 refine goA 60 ?_
 refine on_loopP (ι := List Pat × List Pat × Int) (fun p => ([(3, .isl 14 es), (4, int p.2.2)], [])) (fun p => nl = p.1 ++ p.2.1 ∧ p.2.2 = p.1.length ∧ R = p.2.1.all (fun q => q.cond.few)) (fun p => p.2.1.length) ([], nl, 0) ⟨rfl, rfl, hR⟩ ?_ ?_
 · exact (ent_sub [.gone] [] ⟨trivial, trivial⟩ trivial ⟨.cl hcn2, .refl _, trivial⟩)
 rintro ⟨d, r, i⟩ ⟨g1, gi, gR⟩
 dsimp only at g1 gi gR ⊢
 cases r with
 | nil =>
  have L1 := len_split g1
  try simp only [List.length_cons, List.length_nil] at L1
  have hc : iLt i (lenA es) = false := lt_f e_iLt e_lenA (by omega)
  have gR : R = true := by rw [gR]; rfl
  refine goB hX 0 (by conv => lhs; cbv; try simp only [hc]; cbv; try simp only [hc]; cbv; try simp only [hc]; cbv; try simp only [hc]; cbv) ?_
  refine goA 60 ?_
  refine loopP_exit ?_
  refine goA 60 ?_
  refine fn_ret rfl rfl (.val ?_)
  exact congrArg Value.bool gR.symm
 | cons q r =>
  have L1 := len_split g1
  try simp only [List.length_cons, List.length_nil] at L1
  have hc : iLt i (lenA es) = true := lt_t e_iLt e_lenA (by omega)
  have hat := el_at e_atA hes g1 gi
  have hqs : q.Sm := hsn q (by rw [g1]; simp)
  have hq := P_ref08_Few q.cond hqs.cond'
  have hqc := Ex.closed q.cond
  rw [List.all_cons] at gR
  obtain ⟨qO, qA, qT, qV, qS, qN, qCo, qCa, qCv, qCf, qCk, qXk, qXn, qXt, hx2, hx2c, hqO, hqA, hqT, hqV, hqS, hqN⟩ := Pat.form2 q
  rw [hx2c] at hq hqc
  rw [hx2] at hat
  have hi2 : iAdd .i64 i 1 = ((d ++ [q]).length : Int) := by rw [List.length_append]; exact inc_w e_iAdd gi (by omega)
  cases hb : q.cond.few with
  | true =>
   rw [hb] at hq gR
   have hnt : bNot true = false := by simp [ee]
   refine goB hX 0 (by conv => lhs; cbv; try simp only [hc, hat, hnt]; cbv; try simp only [hc, hat, hnt]; cbv; try simp only [hc, hat, hnt]; cbv; try simp only [hc, hat, hnt]; cbv) ?_
   refine goB hX 1 (by conv => lhs; cbv; try simp only [hc, hat, hnt]; cbv; try simp only [hc, hat, hnt]; cbv; try simp only [hc, hat, hnt]; cbv; try simp only [hc, hat, hnt]; cbv) ?_
   refine pcA hq ?_
   refine goB hX 0 (by conv => lhs; cbv; try simp only [hc, hat, hnt]; cbv; try simp only [hc, hat, hnt]; cbv; try simp only [hc, hat, hnt]; cbv; try simp only [hc, hat, hnt]; cbv) ?_
   refine goA 60 ?_
   refine loopP_next (d ++ [q], r, iAdd .i64 i 1) ⟨by simp [g1], hi2, by simpa using gR⟩ (by simp) (ent_sub [] [] trivial trivial ⟨.cl hcn2, .refl _, trivial⟩)
  | false =>
   rw [hb] at hq gR
   have gR : R = false := by simpa using gR
   have hnf : bNot false = true := by simp [ee]
   refine goB hX 0 (by conv => lhs; cbv; try simp only [hc, hat, hnf]; cbv; try simp only [hc, hat, hnf]; cbv; try simp only [hc, hat, hnf]; cbv; try simp only [hc, hat, hnf]; cbv) ?_
   refine goB hX 1 (by conv => lhs; cbv; try simp only [hc, hat, hnf]; cbv; try simp only [hc, hat, hnf]; cbv; try simp only [hc, hat, hnf]; cbv; try simp only [hc, hat, hnf]; cbv) ?_
   refine pcA hq ?_
   refine goB hX 0 (by conv => lhs; cbv; try simp only [hc, hat, hnf]; cbv; try simp only [hc, hat, hnf]; cbv; try simp only [hc, hat, hnf]; cbv; try simp only [hc, hat, hnf]; cbv) ?_
   refine goA 60 ?_
   refine loopP_ret ?_
   refine goA 60 ?_
   refine fn_ret rfl rfl (.val ?_)
   exact congrArg Value.bool gR.symm
theorem pat0Sm : Pat0.Sm := by
 refine (Pat.Sm_iff _).2 ⟨by simp [Pat0, Pat.nodes, Pat.nodesL], fun q hq => ?_⟩
 simp [Pat0, Pat.nodes, Pat.nodesL] at hq
 subst hq
 simp [Pat.cond, ex0_sm]
theorem Pat.renameSm {p : Pat} (h : p.Sm) (to : List Int) : (p.rename to).Sm := by
 unfold Pat.rename
 split
 · exact Pat.ren_sm h
 · exact pat0Sm
theorem P_lawRenames (p : Pat) (to : List Int) (hs : p.Sm) : PCall EE 6 [p.enc, .isl 1 (mapE int to)] (bool true) := by
 have q1 := P_ref09_Few p hs
 have q2 := P_awake
 have q3 := fun h : to.length < 1048577 => P_pattern_Rename to p hs h
 have q4 := fun h : to.length < 1048577 => P_ref09_Rename to h p hs
 have q5 := P_ref09_Same (p.rename to) (p.rename to) (Pat.renameSm hs to)
 rw [eqB_t rfl] at q5
 have kc1 := Pat.closed p
 have kc2 := Pat.closed (p.rename to)
 have kc3 := closedI_int to
 have hll : (mapE int to).length = to.length := mapE_len ..
 generalize p.rename to = q at *
 generalize p.renErr to = er at *
 generalize p.few = fw at *
 obtain ⟨pO, pA, pT, pV, pS, pN, pCo, pCa, pCv, pCf, pCk, pXk, pXn, pXt, hx⟩ := Pat.form p
 obtain ⟨qO, qA, qT, qV, qS, qN, qCo, qCa, qCv, qCf, qCk, qXk, qXn, qXt, hx2⟩ := Pat.form q
 rw [hx] at q1 q3 q4 kc1 ⊢
 rw [hx2] at q3 q4 q5 kc2
 clear hx hx2 hs
 refine wordsN ?_; unhygienic intros
 generalize mapE int to = ts at *
 have t1 : ∀ x : Int, iEq x x = true := fun x => by simp only [ee]; simp
 have n0 : bNot false = true := by simp only [ee]; rfl
 have n1 : bNot true = false := by simp only [ee]; rfl
 refine fn_body (fn := Tryz.f6) (n := 41) (ac := Tryzc6) (rvs := [.t 4]) rfl (by decide) Tryzp6 rfl rfl rfl ?_
 cases fw with
 | false =>
  refine goA 60 ?_
  refine pcA q1 ?_
  refine goB hX 0 (by conv => lhs; cbv; try simp only [n0]; cbv; try simp only [n0]; cbv; try simp only [n0]; cbv; try simp only [n0]; cbv) ?_
  refine on_cond rfl (fun c1 => ?_) (fun c1 => ?_)
  ·
   simp [ee] at c1
   refine goA 60 ?_
   refine pcA q2 ?_
   refine goA 60 ?_
   refine fn_ret rfl rfl (.val ?_)
   rfl
  ·
   simp [ee] at c1
 | true =>
  by_cases hl : 30 < to.length
  · have k1 : iLt 30 (lenA ts) = true := by simp only [ee]; simp; omega
    refine goA 60 ?_
    refine pcA q1 ?_
    refine goB hX 0 (by conv => lhs; cbv; try simp only [n1, k1]; cbv; try simp only [n1, k1]; cbv; try simp only [n1, k1]; cbv; try simp only [n1, k1]; cbv) ?_
    refine on_cond rfl (fun c1 => ?_) (fun c1 => ?_)
    ·
     simp [ee] at c1
     refine goA 60 ?_
     refine pcA q2 ?_
     refine goA 60 ?_
     refine fn_ret rfl rfl (.val ?_)
     rfl
    ·
     simp [ee] at c1
  · have k1 : iLt 30 (lenA ts) = false := by simp only [ee]; simp; omega
    have q3 := q3 (by omega)
    have q4 := q4 (by omega)
    refine goA 60 ?_
    refine pcA q1 ?_
    refine goB hX 0 (by conv => lhs; cbv; try simp only [n1, k1, t1]; cbv; try simp only [n1, k1, t1]; cbv; try simp only [n1, k1, t1]; cbv; try simp only [n1, k1, t1]; cbv) ?_
    refine on_cond rfl (fun c1 => ?_) (fun c1 => ?_)
    ·
     simp [ee] at c1
    ·
     simp [ee] at c1
     refine goA 60 ?_
     refine pcA q3 ?_
     refine goA 60 ?_
     refine pcA q4 ?_
     refine goA 60 ?_
     refine pcA q2 ?_
     refine goA 60 ?_
     refine pcG q5 ?_
     refine goA 60 ?_
     refine fn_ret rfl rfl (.val ?_)
     exact congrArg Value.bool (by simp only [ee]; simp)
noncomputable def Pat.oldE (p : Pat) : Int := open Classical in if (oldsF p.nodes).Nodup then 0 else 7
noncomputable def Pat.oldL (p : Pat) : List Int := if p.oldE = 0 then oldsF p.nodes else []
theorem setB (S : List Bool) (j : Nat) (b : Bool) : mapE bool (S.set j b) = (mapE bool S).set j (bool b) := by simp [mapE_eq, List.map_set]
theorem P_Old (p : Pat) (hs : p.Sm) (hv : ∀ q ∈ p.nodes, typedF q.op = true → 0 ≤ q.var ∧ q.var ≤ 15) : PCall EE 46 [p.enc] (.tup [.isl 1 (mapE int p.oldL), int p.oldE]) := by
 have h1 := P_ref09_Nodes p hs
 have hcl := Pat.closed p
 obtain ⟨L, hL⟩ : ∃ R, R = p.oldL := ⟨_, rfl⟩
 obtain ⟨E, hE⟩ : ∃ R, R = p.oldE := ⟨_, rfl⟩
 rw [← hL, ← hE]
 unfold Pat.oldL at hL
 rw [← hE] at hL
 have hE0 : (oldsF p.nodes).Nodup → E = 0 := fun h => by rw [hE, Pat.oldE, if_pos h]
 have hE7 : ¬ (oldsF p.nodes).Nodup → E = 7 := fun h => by rw [hE, Pat.oldE, if_neg h]
 clear hE
 have hnl := Pat.nodes_len p
 have hs1 := hs.1
 have hnc := Pat.closedI p.nodes
 have hnilI : mapE int [] = [] := by rw [mapE_eq]; rfl
 generalize hnn : p.nodes = nl at *
 obtain ⟨pO, pA, pT, pV, pS, pN, pCo, pCa, pCv, pCf, pCk, pXk, pXn, pXt, hx⟩ := Pat.form p
 rw [hx] at h1 hcl ⊢
 refine wordsN ?_; unhygienic intros
 generalize hes : mapE Pat.enc nl = es at *
 have hel : es.length = nl.length := by rw [← hes, mapE_len]
 have hrep : repA 16 (bool false) = mapE bool (List.replicate 16 false) := by simp only [ee]; rw [mapE_eq]; rfl
 have hnat : natOf 16 = 16 := by simp only [ee]; rfl
 have n0 : bNot false = true := by simp only [ee]; rfl
 have n1 : bNot true = false := by simp only [ee]; rfl
 have hrc : AV.closedL (repA 16 (bool false)) = true := by rw [hrep]; exact closedL_bool _
 have hz : ∀ k, (List.replicate 16 false).getD k false = false := fun k => by rw [List.getD_eq_getElem?_getD, List.getElem?_replicate]; split <;> rfl
 refine fn_body (fn := Tryz.f46) (n := 47) (ac := Tryzc46) (rvs := [.t 2, .t 3]) rfl (by decide) Tryzp46 rfl rfl rfl ?_
 refine goA 60 ?_
 refine pcA h1 ?_
 refine goA 60 ?_
 refine on_loopP (ι := List Pat × List Pat × Int × List Bool × List AV × Nat × List AV) (fun p => ([(7, int p.2.2.1), (4, .isl 14 es), (5, .sl 0 1 0 (natOf 16)), (6, .sl 1 1 0 p.2.2.2.2.2.1), (2, .val (.slice none 0 0)), (3, int 0)], [.arr 1 p.2.2.2.2.1, .arr 1 p.2.2.2.2.2.2])) (fun p => nl = p.1 ++ p.2.1 ∧ p.2.2.1 = p.1.length ∧ p.2.2.2.2.1 = mapE bool p.2.2.2.1 ∧ p.2.2.2.1.length = 16 ∧ (∀ x : Int, 0 ≤ x → x < 16 → p.2.2.2.1.getD x.toNat false = decide (x ∈ oldsF p.1)) ∧ p.2.2.2.2.2.2 = mapE int (oldsF p.1) ∧ p.2.2.2.2.2.1 = p.2.2.2.2.2.2.length ∧ (oldsF p.1).Nodup) (fun p => p.2.1.length) ([], nl, 0, List.replicate 16 false, repA 16 (bool false), 0, []) ⟨rfl, rfl, hrep, rfl, fun x h0 h1 => by rw [hz]; rfl, hnilI.symm, rfl, by simp [oldsF]⟩ ?_ ?_
 · exact (ent_sub [.gone, .to 0] [some 1, none] ⟨trivial, ⟨by simp, rfl⟩, trivial⟩ ⟨osrc_arr (b := 1) rfl rfl rfl rfl hrc, .none _ rfl, trivial⟩ ⟨.refl _, .cl hnc, .refl _, .nilS _ _ _ (by simp), .refl _, .refl _, trivial⟩)
 rintro ⟨d, r, i, S, sl, m, w⟩ ⟨g1, gi, gs, gS, gm, gw, gl, gn⟩
 dsimp only at g1 gi gs gS gm gw gl gn ⊢
 have hcs : AV.closedL sl = true := by rw [gs]; exact closedL_bool _
 have hcw : AV.closedL w = true := by rw [gw]; exact closedL_int _
 have hol := oldsF_len d
 have hwl : w.length ≤ d.length := by rw [gw, mapE_len]; exact hol
 have hfw : fitB 1 w = true := by rw [gw]; exact fitInt _
 have hsl : sl.length = 16 := by rw [gs, mapE_len, gS]
 cases r with
 | nil =>
  have L1 := len_split g1
  try simp only [List.length_cons, List.length_nil] at L1
  have hc : iLt i (lenA es) = false := lt_f e_iLt e_lenA (by omega)
  rw [List.append_nil] at g1
  have hE0 := hE0 (by rw [g1]; exact gn)
  rw [hE0, if_pos rfl, g1] at hL
  rw [hL, ← gw, hE0]
  refine goB hX 0 (by conv => lhs; cbv; try simp only [hc]; cbv; try simp only [hc]; cbv; try simp only [hc]; cbv; try simp only [hc]; cbv) ?_
  refine goA 60 ?_
  refine loopP_exit ?_
  refine goA 60 ?_
  refine fn_ret rfl rfl ?_
  exact ⟨[.gone, .isl 1 (w)], ⟨trivial, ⟨_, rfl, (subL_closed _ hcw).symm⟩, trivial⟩, .tup' ⟨.of (sub_whole rfl (by assumption)), .refl _, trivial⟩⟩
 | cons q r =>
  have L1 := len_split g1
  try simp only [List.length_cons, List.length_nil] at L1
  have hc : iLt i (lenA es) = true := lt_t e_iLt e_lenA (by omega)
  have hat := el_at e_atA hes g1 gi
  have q1 := P_variable q
  have hqv := hv q (by rw [g1]; simp)
  have hqc := Pat.closed q
  have hos := oldsF_snoc d q
  have hoa : typedF q.op = true → oldsF nl = oldsF d ++ [q.var] ++ oldsF r := fun h => by
   rw [g1, show d ++ q :: r = (d ++ [q]) ++ r by simp, oldsF_append, hos, if_pos h]
  have hi2 : iAdd .i64 i 1 = ((d ++ [q]).length : Int) := by rw [List.length_append]; exact inc_w e_iAdd gi (by omega)
  obtain ⟨qO, qA, qT, qV, qS, qN, qCo, qCa, qCv, qCf, qCk, qXk, qXn, qXt, hy, hyc, hqO, hqA, hqT, hqV, hqS, hqN⟩ := Pat.form2 q
  rw [hy] at hat hqc q1
  rw [← hqV] at hqv hos hoa
  clear hy hyc hqO hqA hqT hqV hqS hqN hE0
  generalize typedF q.op = ty at *
  cases ty with
  | false =>
   rw [if_neg (by decide)] at hos
   refine goB hX 0 (by conv => lhs; cbv; try simp only [hc, hat, n0]; cbv; try simp only [hc, hat, n0]; cbv; try simp only [hc, hat, n0]; cbv; try simp only [hc, hat, n0]; cbv) ?_
   refine goB hX 1 (by conv => lhs; cbv; try simp only [hc, hat, n0]; cbv; try simp only [hc, hat, n0]; cbv; try simp only [hc, hat, n0]; cbv; try simp only [hc, hat, n0]; cbv) ?_
   refine pcA q1 ?_
   refine goB hX 0 (by conv => lhs; cbv; try simp only [hc, hat, n0]; cbv; try simp only [hc, hat, n0]; cbv; try simp only [hc, hat, n0]; cbv; try simp only [hc, hat, n0]; cbv) ?_
   refine goA 60 ?_
   refine loopP_next (d ++ [q], r, iAdd .i64 i 1, S, sl, m, w) ⟨by simp [g1], hi2, gs, gS, by rw [hos]; exact gm, by rw [hos]; exact gw, gl, by rw [hos]; exact gn⟩ (by simp) (ent_sub [.to 0, .to 1] [some 0, some 1] ⟨⟨by simp, rfl⟩, ⟨by simp, rfl⟩, trivial⟩ ⟨osrc_arr (b := 0) rfl rfl rfl rfl hcs, osrc_arr (b := 1) rfl rfl rfl rfl hcw, trivial⟩ ⟨.refl _, .cl hnc, .refl _, .refl _, .refl _, .refl _, trivial⟩)
  | true =>
   rw [if_pos rfl] at hos
   have hqv := hqv rfl
   have hoa := hoa rfl
   have hix : idxN 0 qV = qV.toNat := by simp only [ee]; omega
   have hsv := gm qV hqv.1 (by omega)
   have hat2 : atN sl (idxN 0 qV) = bool (decide (qV ∈ oldsF d)) := by
    rw [hix, ← hsv]; simp only [ee]
    rw [gs, mapE_eq, List.getD_eq_getElem?_getD, List.getElem?_map, List.getD_eq_getElem?_getD, List.getElem?_eq_getElem (by omega)]; rfl
   have hqlt : (idxN 0 qV) < sl.length := by rw [hix, hsl]; omega
   by_cases hm : qV ∈ oldsF d
   · rw [decide_eq_true hm] at hat2
     have hE7 := hE7 (by
      rw [hoa]
      intro h
      have := (List.nodup_append.1 (List.nodup_append.1 h).1).2.2
      exact this _ hm _ (by simp) rfl)
     rw [hE7, if_neg (by decide)] at hL
     rw [hL, hE7, hnilI]
     refine goB hX 0 (by conv => lhs; cbv; try simp only [hc, hat, n1, hat2]; cbv; try simp only [hc, hat, n1, hat2]; cbv; try simp only [hc, hat, n1, hat2]; cbv; try simp only [hc, hat, n1, hat2]; cbv) ?_
     refine goB hX 1 (by conv => lhs; cbv; try simp only [hc, hat, n1, hat2]; cbv; try simp only [hc, hat, n1, hat2]; cbv; try simp only [hc, hat, n1, hat2]; cbv; try simp only [hc, hat, n1, hat2]; cbv) ?_
     refine pcA q1 ?_
     refine goB hX 0 (by conv => lhs; cbv; try simp only [hc, hat, n1, hat2]; cbv; try simp only [hc, hat, n1, hat2]; cbv; try simp only [hc, hat, n1, hat2]; cbv; try simp only [hc, hat, n1, hat2]; cbv) ?_
     refine goB hX 1 (by conv => lhs; cbv; try simp only [hc, hat, n1, hat2]; cbv; try simp only [hc, hat, n1, hat2]; cbv; try simp only [hc, hat, n1, hat2]; cbv; try simp only [hc, hat, n1, hat2]; cbv) ?_
     refine goA 60 ?_
     refine loopP_ret ?_
     refine goA 60 ?_
     refine fn_ret rfl rfl ?_
     exact ⟨[.gone, .gone], ⟨trivial, trivial, trivial⟩, .tup' ⟨.nilI _, .refl _, trivial⟩⟩
   · rw [decide_eq_false hm] at hat2
     have v1 : setA sl (idxN 0 qV) (bool true) = mapE bool (S.set qV.toNat true) := by rw [setB, ← gs, hix]; simp only [ee]
     have v2 : ∀ x : Int, 0 ≤ x → x < 16 → (S.set qV.toNat true).getD x.toNat false = decide (x ∈ oldsF (d ++ [q])) := fun x h0 h1 => by
      rw [hos, List.getD_eq_getElem?_getD, List.getElem?_set]
      by_cases e : qV.toNat = x.toNat
      · have : qV = x := by omega
        rw [if_pos e, if_pos (by omega), ← this]; simp
      · rw [if_neg e, ← List.getD_eq_getElem?_getD, gm x h0 h1]
        have : ¬ x = qV := by omega
        simp [this]
     have u1 : catA (dropA w 0) (partA [int qV] 0 1) = mapE int (oldsF (d ++ [q])) := by rw [hos, mapE_snoc, ← gw]; simp only [ee]; simp
     have u2 : addN m (lenN (partA [int qV] 0 1)) = (catA (dropA w 0) (partA [int qV] 0 1)).length := by simp only [ee]; simp [gl]
     have u3 : AV.closedL (catA (dropA w 0) (partA [int qV] 0 1)) = true := by rw [u1]; exact closedL_int _
     have v3 : AV.closedL (setA sl (idxN 0 qV) (bool true)) = true := by rw [v1]; exact closedL_bool _
     have v4 : (oldsF (d ++ [q])).Nodup := by rw [hos, List.nodup_append]; exact ⟨gn, by simp, fun x hx y hy => by simp at hy; rintro rfl; exact hm (hy ▸ hx)⟩
     refine goB hX 0 (by conv => lhs; cbv; try simp only [hc, hat, n1, hat2]; cbv; try simp only [hc, hat, n1, hat2]; cbv; try simp only [hc, hat, n1, hat2]; cbv; try simp only [hc, hat, n1, hat2]; cbv) ?_
     refine goB hX 1 (by conv => lhs; cbv; try simp only [hc, hat, n1, hat2]; cbv; try simp only [hc, hat, n1, hat2]; cbv; try simp only [hc, hat, n1, hat2]; cbv; try simp only [hc, hat, n1, hat2]; cbv) ?_
     refine pcA q1 ?_
     refine goB hX 0 (by conv => lhs; cbv; try simp only [hc, hat, n1, hat2]; cbv; try simp only [hc, hat, n1, hat2]; cbv; try simp only [hc, hat, n1, hat2]; cbv; try simp only [hc, hat, n1, hat2]; cbv) ?_
     refine goB hX 1 (by conv => lhs; cbv; try simp only [hc, hat, n1, hat2]; cbv; try simp only [hc, hat, n1, hat2]; cbv; try simp only [hc, hat, n1, hat2]; cbv; try simp only [hc, hat, n1, hat2]; cbv) ?_
     refine goB hX 1 (by conv => lhs; cbv; try simp only [hc, hat, n1, hat2]; cbv; try simp only [hc, hat, n1, hat2]; cbv; try simp only [hc, hat, n1, hat2]; cbv; try simp only [hc, hat, n1, hat2]; cbv) ?_
     refine loopP_next (d ++ [q], r, iAdd .i64 i 1, S.set qV.toNat true, setA sl (idxN 0 qV) (bool true), addN m (lenN (partA [int qV] 0 1)), catA (dropA w 0) (partA [int qV] 0 1)) ⟨by simp [g1], hi2, v1, by simpa using gS, v2, u1, u2, v4⟩ (by simp) (ent_sub [.to 0, .gone, .gone, .to 1] [some 0, some 3] ⟨⟨by simp, rfl⟩, trivial, trivial, ⟨by simp, rfl⟩, trivial⟩ ⟨osrc_arr (b := 0) rfl rfl rfl rfl v3, osrc_arr (b := 3) rfl rfl rfl rfl u3, trivial⟩ ⟨.refl _, .cl hnc, .refl _, .refl _, .refl _, .refl _, trivial⟩)
def cS (l : List Pat) : Nat := (l.filter fun q => scopeF q.op).length
theorem cS_append (a b : List Pat) : cS (a ++ b) = cS a + cS b := by simp [cS]
theorem cS_one (q : Pat) : cS [q] = if scopeF q.op = true then 1 else 0 := by
 unfold cS; cases h : scopeF q.op <;> simp [h]
theorem Pat.nsc_nodesL {l : List Pat} (h : ∀ e ∈ l, e.nsc = cS e.nodes) : Pat.nscL l = cS (Pat.nodesL l) := by
 induction l with
 | nil => rfl
 | cons x r ih => rw [Pat.nscL, Pat.nodesL, cS_append, h x (by simp), ih fun e he => h e (by simp [he])]
theorem Pat.nsc_nodes : ∀ p : Pat, p.nsc = cS p.nodes := Pat.ind fun o a t v s n c h => by
 rw [Pat.nsc, Pat.nodes, Pat.nsc_nodesL h, ← List.singleton_append, cS_append, cS_one]
 simp only [Pat.op]
 rfl
theorem P_scoped : ∀ p : Pat, p.Sm → ∀ k : Int, 0 ≤ k → k + p.nsc < 1073741824 → PCall EE 48 [p.enc, int k] (p.numb k).enc := by
 refine Pat.ind ?_
 intro o a t v s n c ih hs k hk0 hk1
 have hlen := hs.len
 have hih := fun q hq => ih q hq (hs.arg hq)
 have hqN := fun q (hq : q ∈ a) => P_ref09_Nodes q (hs.arg hq)
 have hqL := fun q (hq : q ∈ a) => (hs.arg hq).1
 have hcl := Pat.closedI a
 have hpc := Pat.closed (.mk o a t v s n c)
 have hcc := Ex.closed c
 have q1 : PCall EE 52 [(Pat.mk o a t v s n c).enc] (bool (decide (o = 5 ∨ o = 9))) := P_Negates (.mk o a t v s n c)
 have q2 : PCall EE 53 [(Pat.mk o a t v s n c).enc] (bool (spanF o)) := P_Times (.mk o a t v s n c)
 have hor := scopeF_or o
 rw [Pat.numb]
 rw [Pat.nsc] at hk1
 obtain ⟨kn, hkn⟩ : ∃ z, z = (if scopeF o then k + 1 else k) := ⟨_, rfl⟩
 obtain ⟨sn, hsn⟩ : ∃ z, z = (if scopeF o then k else s) := ⟨_, rfl⟩
 rw [← hkn, ← hsn]
 have hkb : 0 ≤ kn ∧ kn + Pat.nscL a < 1073741824 := by
  by_cases h : scopeF o = true
  · rw [if_pos h] at hkn hk1; omega
  · rw [if_neg h] at hkn hk1; omega
 have hsc1 : scopeF o = true → k + 1 = kn ∧ k = sn := fun h => by
  rw [hkn, hsn, if_pos h, if_pos h]; exact ⟨rfl, rfl⟩
 have hsc0 : scopeF o = false → k = kn ∧ s = sn := fun h => by rw [hkn, hsn, if_neg (by simp [h]), if_neg (by simp [h])]; exact ⟨rfl, rfl⟩
 obtain ⟨cO, cA, cV, cF, cK, cXk, cXn, cXt, hcx⟩ := Ex.form c
 have hpx := Pat.enc_c o a t v s n hcx
 have hnE := fun l => Pat.enc_c o l t v sn n hcx
 simp only [List.cons_append, List.nil_append] at hpx hnE
 rw [hpx] at q1 q2 hpc ⊢
 rw [hcx] at hcc
 clear ih hs hpx
 have hnil : mapE Pat.enc [] = [] := by rw [mapE_eq]; rfl
 have hnl2 : mapE Pat.enc (Pat.numbL kn []) = [] := by rw [show Pat.numbL kn [] = [] from by rw [Pat.numbL]]; exact hnil
 have hcaI : (AV.isl 8 cA).closed = true := by have := hcc; simp [AV.closed, AV.closedL] at this ⊢; exact this
 refine wordsN ?_; unhygienic intros
 generalize hes : mapE Pat.enc a = es at *
 have hel : es.length = a.length := by rw [← hes, mapE_len]
 generalize scopeF o = sf at *
 generalize decide (o = 5 ∨ o = 9) = ng at *
 generalize spanF o = sp at *
 have hco : (ng = true ∧ sf = true) ∨ (ng = false ∧ sp = true ∧ sf = true) ∨ (ng = false ∧ sp = false ∧ sf = false) := by rw [hor]; cases ng <;> cases sp <;> simp
 clear hkn hsn hor
 refine fn_body (fn := Tryz.f48) (n := 67) (ac := Tryzc48) (rvs := [.cell 4 14 true]) rfl (by decide) Tryzp48 rfl rfl rfl ?_
 rcases hco with ⟨rfl, rfl⟩ | ⟨rfl, rfl, rfl⟩ | ⟨rfl, rfl, rfl⟩
 case' inl =>
  obtain ⟨h1, h2⟩ := hsc1 rfl
  have h1 : iAdd .i64 k 1 = kn := by rw [add_w e_iAdd (by omega) (by omega)]; exact h1
  refine goA 60 ?_
  refine pcA q1 ?_
  refine goA 60 ?_
  refine on_ent (F' := [(6, int 0), (1, int kn), (2, .ptr 0 0), (4, .ptr 1 0), (5, .ptr 2 0)]) (H' := [.cells [int o, .isl 14 es, int t, int v, int s, int n, int cO, .isl 8 cA, int cV, int cF, int cK, int cXk, int cXn, str cXt], .cells [int 0, .val (.slice none 0 0), int 0, int 0, int 0, int 0, int 0, .val (.slice none 0 0), int 0, int 0, int 0, int 0, int 0, str ⟨#[]⟩], .cells [int o, .val (.slice none 0 0), int t, int v, int sn, int n, int cO, .isl 8 cA, int cV, int cF, int cK, int cXk, int cXn, str cXt]]) ?_ ?_
  · exact (ent_sub [.to 0, .to 1, .to 2] [some 0, some 1, some 2] ⟨⟨by simp, rfl⟩, ⟨by simp, rfl⟩, ⟨by simp, rfl⟩, trivial⟩ ⟨osrc_cells (b := 0) rfl rfl rfl ⟨.refl _, .cl hcl, .refl _, .refl _, .refl _, .refl _, .refl _, .cl hcaI, .refl _, .refl _, .refl _, .refl _, .refl _, .refl _, trivial⟩, osrc_cells (b := 1) rfl rfl rfl ⟨.refl _, .refl _, .refl _, .refl _, .refl _, .refl _, .refl _, .refl _, .refl _, .refl _, .refl _, .refl _, .refl _, .refl _, trivial⟩, osrc_cells (b := 2) rfl rfl rfl ⟨.refl _, .refl _, .refl _, .refl _, .of (congrArg int (by assumption)), .refl _, .refl _, .cl hcaI, .refl _, .refl _, .refl _, .refl _, .refl _, .refl _, trivial⟩, trivial⟩ ⟨.refl _, .of (congrArg int (by assumption)), .refl _, .refl _, .refl _, trivial⟩)
  clear h1 h2
 case' inr.inl =>
  obtain ⟨h1, h2⟩ := hsc1 rfl
  have h1 : iAdd .i64 k 1 = kn := by rw [add_w e_iAdd (by omega) (by omega)]; exact h1
  refine goA 60 ?_
  refine pcA q1 ?_
  refine goA 60 ?_
  refine pcG q2 ?_
  refine goA 60 ?_
  refine on_ent (F' := [(6, int 0), (1, int kn), (2, .ptr 0 0), (4, .ptr 1 0), (5, .ptr 2 0)]) (H' := [.cells [int o, .isl 14 es, int t, int v, int s, int n, int cO, .isl 8 cA, int cV, int cF, int cK, int cXk, int cXn, str cXt], .cells [int 0, .val (.slice none 0 0), int 0, int 0, int 0, int 0, int 0, .val (.slice none 0 0), int 0, int 0, int 0, int 0, int 0, str ⟨#[]⟩], .cells [int o, .val (.slice none 0 0), int t, int v, int sn, int n, int cO, .isl 8 cA, int cV, int cF, int cK, int cXk, int cXn, str cXt]]) ?_ ?_
  · exact (ent_sub [.to 0, .to 1, .to 2] [some 0, some 1, some 2] ⟨⟨by simp, rfl⟩, ⟨by simp, rfl⟩, ⟨by simp, rfl⟩, trivial⟩ ⟨osrc_cells (b := 0) rfl rfl rfl ⟨.refl _, .cl hcl, .refl _, .refl _, .refl _, .refl _, .refl _, .cl hcaI, .refl _, .refl _, .refl _, .refl _, .refl _, .refl _, trivial⟩, osrc_cells (b := 1) rfl rfl rfl ⟨.refl _, .refl _, .refl _, .refl _, .refl _, .refl _, .refl _, .refl _, .refl _, .refl _, .refl _, .refl _, .refl _, .refl _, trivial⟩, osrc_cells (b := 2) rfl rfl rfl ⟨.refl _, .refl _, .refl _, .refl _, .of (congrArg int (by assumption)), .refl _, .refl _, .cl hcaI, .refl _, .refl _, .refl _, .refl _, .refl _, .refl _, trivial⟩, trivial⟩ ⟨.refl _, .of (congrArg int (by assumption)), .refl _, .refl _, .refl _, trivial⟩)
  clear h1 h2
 case' inr.inr =>
  obtain ⟨h1, h2⟩ := hsc0 rfl
  refine goA 60 ?_
  refine pcA q1 ?_
  refine goA 60 ?_
  refine pcG q2 ?_
  refine goA 60 ?_
  refine on_ent (F' := [(6, int 0), (1, int kn), (2, .ptr 0 0), (4, .ptr 1 0), (5, .ptr 2 0)]) (H' := [.cells [int o, .isl 14 es, int t, int v, int s, int n, int cO, .isl 8 cA, int cV, int cF, int cK, int cXk, int cXn, str cXt], .cells [int 0, .val (.slice none 0 0), int 0, int 0, int 0, int 0, int 0, .val (.slice none 0 0), int 0, int 0, int 0, int 0, int 0, str ⟨#[]⟩], .cells [int o, .val (.slice none 0 0), int t, int v, int sn, int n, int cO, .isl 8 cA, int cV, int cF, int cK, int cXk, int cXn, str cXt]]) ?_ ?_
  · exact (ent_sub [.to 0, .to 1, .to 2] [some 0, some 1, some 2] ⟨⟨by simp, rfl⟩, ⟨by simp, rfl⟩, ⟨by simp, rfl⟩, trivial⟩ ⟨osrc_cells (b := 0) rfl rfl rfl ⟨.refl _, .cl hcl, .refl _, .refl _, .refl _, .refl _, .refl _, .cl hcaI, .refl _, .refl _, .refl _, .refl _, .refl _, .refl _, trivial⟩, osrc_cells (b := 1) rfl rfl rfl ⟨.refl _, .refl _, .refl _, .refl _, .refl _, .refl _, .refl _, .refl _, .refl _, .refl _, .refl _, .refl _, .refl _, .refl _, trivial⟩, osrc_cells (b := 2) rfl rfl rfl ⟨.refl _, .refl _, .refl _, .refl _, .of (congrArg int (by assumption)), .refl _, .refl _, .cl hcaI, .refl _, .refl _, .refl _, .refl _, .refl _, .refl _, trivial⟩, trivial⟩ ⟨.refl _, .of (congrArg int (by assumption)), .refl _, .refl _, .refl _, trivial⟩)
  clear h1 h2
 all_goals
  clear hsc1 hsc0 q1 q2
  refine on_loopP (ι := Int × Nat × List AV × List Pat × List Pat × Int) (fun p => ([(6, int p.1), (1, int p.2.2.2.2.2), (2, .ptr 0 0), (4, .ptr 1 0), (5, .ptr 2 0)], [.cells [int o, .isl 14 es, int t, int v, int s, int n, int cO, .isl 8 cA, int cV, int cF, int cK, int cXk, int cXn, str cXt], .cells [int 0, .val (.slice none 0 0), int 0, int 0, int 0, int 0, int 0, .val (.slice none 0 0), int 0, int 0, int 0, int 0, int 0, str ⟨#[]⟩], .cells [int o, .sl 3 14 0 p.2.1, int t, int v, int sn, int n, int cO, .isl 8 cA, int cV, int cF, int cK, int cXk, int cXn, str cXt], .arr 14 p.2.2.1])) (fun p => a = p.2.2.2.1 ++ p.2.2.2.2.1 ∧ p.1 = p.2.2.2.1.length ∧ p.2.1 = p.2.2.1.length ∧ p.2.2.1 = mapE Pat.enc (Pat.numbL kn p.2.2.2.1) ∧ p.2.2.2.2.2 = kn + Pat.nscL p.2.2.2.1) (fun p => p.2.2.2.2.1.length) (0, 0, [], [], a, kn) ⟨rfl, rfl, rfl, hnl2.symm, by simp [Pat.nscL]⟩ ?_ ?_
  · exact (ent_sub [.to 0, .to 1, .to 2] [some 0, some 1, some 2, none] ⟨⟨by simp, rfl⟩, ⟨by simp, rfl⟩, ⟨by simp, rfl⟩, trivial⟩ ⟨osrc_cells (b := 0) rfl rfl rfl ⟨.refl _, .cl hcl, .refl _, .refl _, .refl _, .refl _, .refl _, .cl hcaI, .refl _, .refl _, .refl _, .refl _, .refl _, .refl _, trivial⟩, osrc_cells (b := 1) rfl rfl rfl ⟨.refl _, .refl _, .refl _, .refl _, .refl _, .refl _, .refl _, .refl _, .refl _, .refl _, .refl _, .refl _, .refl _, .refl _, trivial⟩, osrc_cells (b := 2) rfl rfl rfl ⟨.refl _, .nilS _ _ _ (by simp), .refl _, .refl _, .refl _, .refl _, .refl _, .cl hcaI, .refl _, .refl _, .refl _, .refl _, .refl _, .refl _, trivial⟩, .none _ rfl, trivial⟩ ⟨.refl _, .refl _, .refl _, .refl _, .refl _, trivial⟩)
  rintro ⟨i, m, w, d, r, fr⟩ ⟨g1, gi, gm, gw, gf⟩
  dsimp only at g1 gi gm gw gf ⊢
  have hcw : AV.closedL w = true := by rw [gw]; exact Pat.closedL _
  have hwl : w.length = d.length := by rw [gw, mapE_len, Pat.numbL_len]
  have hfw : fitB 14 w = true := by rw [gw]; exact fitPat _
  cases r with
  | nil =>
   have L1 := len_split g1
   try simp only [List.length_cons, List.length_nil] at L1
   have hc : iLt i (lenA es) = false := lt_f e_iLt e_lenA (by omega)
   rw [List.append_nil] at g1
   rw [hnE, g1, ← gw]
   refine goB hX 0 (by conv => lhs; cbv; try simp only [hc]; cbv; try simp only [hc]; cbv; try simp only [hc]; cbv; try simp only [hc]; cbv) ?_
   refine goA 60 ?_
   refine loopP_exit ?_
   refine goA 60 ?_
   refine fn_ret rfl rfl ?_
   exact ⟨[.gone, .gone, .gone, .isl 14 (w)], ⟨trivial, trivial, trivial, ⟨_, rfl, (subL_closed _ hcw).symm⟩, trivial⟩, .agg' ⟨.refl _, .of (sub_whole rfl (by assumption)), .refl _, .refl _, .refl _, .refl _, .refl _, .cl hcaI, .refl _, .refl _, .refl _, .refl _, .refl _, .refl _, trivial⟩⟩
  | cons q r =>
   have L1 := len_split g1
   try simp only [List.length_cons, List.length_nil] at L1
   have hc : iLt i (lenA es) = true := lt_t e_iLt e_lenA (by omega)
   have hat := el_at e_atA hes g1 gi
   have hqm : q ∈ a := by rw [g1]; simp
   have hbd : Pat.nscL a = Pat.nscL d + (q.nsc + Pat.nscL r) := by rw [g1, Pat.nscL_append, Pat.nscL]
   have hq := hih q hqm fr (by omega) (by omega)
   have hqn := hqN q hqm
   have hql := hqL q hqm
   have hqc := Pat.closed q
   have hqs := Pat.nsc_nodes q
   have hnl := Pat.nodes_len q
   have hsn : Pat.numbL kn (d ++ [q]) = Pat.numbL kn d ++ [q.numb fr] := by rw [Pat.numbL_append, Pat.numbL, Pat.numbL, gf]
   have hnf : fr + q.nsc = kn + (Pat.nscL (d ++ [q]) : Nat) := by rw [gf, Pat.nscL_append, Pat.nscL, Pat.nscL]; simp; omega
   have hi2 : iAdd .i64 i 1 = ((d ++ [q]).length : Int) := by rw [List.length_append]; exact inc_w e_iAdd gi (by omega)
   have hqnc := Pat.closedI q.nodes
   have hfb : 0 ≤ fr ∧ fr + cS q.nodes < 1073741824 := by omega
   rw [hqs] at hnf
   generalize hqr : q.numb fr = qr at *
   have hrc := Pat.closed qr
   generalize hqq : q.nodes = nl at *
   obtain ⟨qO, qA, qT, qV, qS, qN, qCo, qCa, qCv, qCf, qCk, qXk, qXn, qXt, hx⟩ := Pat.form q
   obtain ⟨qrO, qrA, qrT, qrV, qrS, qrN, qrCo, qrCa, qrCv, qrCf, qrCk, qrXk, qrXn, qrXt, hy⟩ := Pat.form qr
   rw [hx] at hat hqc hq hqn
   rw [hy] at hq hrc
   have u1 : catA (dropA w 0) (partA [.agg [int qrO, .isl 14 qrA, int qrT, int qrV, int qrS, int qrN, int qrCo, .isl 8 qrCa, int qrCv, int qrCf, int qrCk, int qrXk, int qrXn, str qrXt]] 0 1) = mapE Pat.enc (Pat.numbL kn (d ++ [q])) := by rw [hsn, mapE_eq, List.map_append, ← mapE_eq, ← gw, List.map_cons, List.map_nil, hy]; simp only [ee]; simp
   have u2 : addN m (lenN (partA [.agg [int qrO, .isl 14 qrA, int qrT, int qrV, int qrS, int qrN, int qrCo, .isl 8 qrCa, int qrCv, int qrCf, int qrCk, int qrXk, int qrXn, str qrXt]] 0 1)) = (catA (dropA w 0) (partA [.agg [int qrO, .isl 14 qrA, int qrT, int qrV, int qrS, int qrN, int qrCo, .isl 8 qrCa, int qrCv, int qrCf, int qrCk, int qrXk, int qrXn, str qrXt]] 0 1)).length := by simp only [ee]; simp [gm]
   have u3 : AV.closedL (catA (dropA w 0) (partA [.agg [int qrO, .isl 14 qrA, int qrT, int qrV, int qrS, int qrN, int qrCo, .isl 8 qrCa, int qrCv, int qrCf, int qrCk, int qrXk, int qrXn, str qrXt]] 0 1)) = true := by rw [u1]; exact Pat.closedL _
   generalize hns : mapE Pat.enc nl = ns at *
   have hnsl : ns.length = nl.length := by rw [← hns, mapE_len]
   refine goB hX 0 (by conv => lhs; cbv; try simp only [hc, hat]; cbv; try simp only [hc, hat]; cbv; try simp only [hc, hat]; cbv; try simp only [hc, hat]; cbv) ?_
   refine goB hX 1 (by conv => lhs; cbv; try simp only [hc, hat]; cbv; try simp only [hc, hat]; cbv; try simp only [hc, hat]; cbv; try simp only [hc, hat]; cbv) ?_
   refine tr_drawB rfl (by conv => lhs; cbv) rfl ?_
   refine tgB hX (by conv => lhs; cbv; try simp only [hc, hat]; cbv; try simp only [hc, hat]; cbv; try simp only [hc, hat]; cbv; try simp only [hc, hat]; cbv) ?_
   refine pcT hq ?_
   refine tgA ?_
   refine tr_nil ⟨rfl, ?_, ?_⟩
   · simp only [LooksL, lookAll, List.append, List.cons_append, List.nil_append, List.append_nil]; and_intros <;> first | trivial | (intro hp; first | rfl | exact absurd (show false = true from hp) Bool.false_ne_true)
   refine goB hX 0 (by conv => lhs; cbv; try simp only [hc, hat]; cbv; try simp only [hc, hat]; cbv; try simp only [hc, hat]; cbv; try simp only [hc, hat]; cbv) ?_
   refine pcA hqn ?_
   refine goA 60 ?_
   generalize hw2 : catA (dropA w 0) (partA [.agg [int qrO, .isl 14 qrA, int qrT, int qrV, int qrS, int qrN, int qrCo, .isl 8 qrCa, int qrCv, int qrCf, int qrCk, int qrXk, int qrXn, str qrXt]] 0 1) = w2 at *
   generalize hm2 : addN m (lenN (partA [.agg [int qrO, .isl 14 qrA, int qrT, int qrV, int qrS, int qrN, int qrCo, .isl 8 qrCa, int qrCv, int qrCf, int qrCk, int qrXk, int qrXn, str qrXt]] 0 1)) = m2 at *
   refine on_loopP (ι := Int × List Pat × List Pat × Int) (fun p => ([(8, int p.1), (7, .isl 14 ns), (6, int i), (1, int p.2.2.2), (2, .ptr 0 0), (4, .ptr 1 0), (5, .ptr 2 0)], [.cells [int o, .isl 14 es, int t, int v, int s, int n, int cO, .isl 8 cA, int cV, int cF, int cK, int cXk, int cXn, str cXt], .cells [int 0, .val (.slice none 0 0), int 0, int 0, int 0, int 0, int 0, .val (.slice none 0 0), int 0, int 0, int 0, int 0, int 0, str ⟨#[]⟩], .cells [int o, .sl 3 14 0 m2, int t, int v, int sn, int n, int cO, .isl 8 cA, int cV, int cF, int cK, int cXk, int cXn, str cXt], .arr 14 w2])) (fun p => nl = p.2.1 ++ p.2.2.1 ∧ p.1 = p.2.1.length ∧ p.2.2.2 = fr + cS p.2.1) (fun p => p.2.2.1.length) (0, [], nl, fr) ⟨rfl, rfl, by simp [cS]⟩ ?_ ?_
   · exact (ent_sub [.to 0, .to 1, .to 2, .gone, .gone, .to 3] [some 0, some 1, some 2, some 5] ⟨⟨by simp, rfl⟩, ⟨by simp, rfl⟩, ⟨by simp, rfl⟩, trivial, trivial, ⟨by simp, rfl⟩, trivial⟩ ⟨osrc_cells (b := 0) rfl rfl rfl ⟨.refl _, .cl hcl, .refl _, .refl _, .refl _, .refl _, .refl _, .cl hcaI, .refl _, .refl _, .refl _, .refl _, .refl _, .refl _, trivial⟩, osrc_cells (b := 1) rfl rfl rfl ⟨.refl _, .refl _, .refl _, .refl _, .refl _, .refl _, .refl _, .refl _, .refl _, .refl _, .refl _, .refl _, .refl _, .refl _, trivial⟩, osrc_cells (b := 2) rfl rfl rfl ⟨.refl _, .refl _, .refl _, .refl _, .refl _, .refl _, .refl _, .cl hcaI, .refl _, .refl _, .refl _, .refl _, .refl _, .refl _, trivial⟩, osrc_arr (b := 5) rfl rfl rfl rfl u3, trivial⟩ ⟨.refl _, .cl hqnc, .refl _, .refl _, .refl _, .refl _, .refl _, trivial⟩)
   rintro ⟨j, e, u, f2⟩ ⟨v1, vj, vf⟩
   dsimp only at v1 vj vf ⊢
   cases u with
   | nil =>
    have L2 := len_split v1
    try simp only [List.length_cons, List.length_nil] at L2
    have hc2 : iLt j (lenA ns) = false := lt_f e_iLt e_lenA (by omega)
    rw [List.append_nil] at v1
    have hf2 : f2 = kn + (Pat.nscL (d ++ [q]) : Nat) := by rw [vf, ← v1]; exact hnf
    refine goB hX 0 (by conv => lhs; cbv; try simp only [hc2]; cbv; try simp only [hc2]; cbv; try simp only [hc2]; cbv; try simp only [hc2]; cbv) ?_
    refine goA 60 ?_
    refine loopP_exit ?_
    refine goA 60 ?_
    refine loopP_next (iAdd .i64 i 1, m2, w2, d ++ [q], r, f2) ⟨by simp [g1], hi2, u2, u1, hf2⟩ (by simp) (ent_sub [.to 0, .to 1, .to 2, .to 3] [some 0, some 1, some 2, some 3] ⟨⟨by simp, rfl⟩, ⟨by simp, rfl⟩, ⟨by simp, rfl⟩, ⟨by simp, rfl⟩, trivial⟩ ⟨osrc_cells (b := 0) rfl rfl rfl ⟨.refl _, .cl hcl, .refl _, .refl _, .refl _, .refl _, .refl _, .cl hcaI, .refl _, .refl _, .refl _, .refl _, .refl _, .refl _, trivial⟩, osrc_cells (b := 1) rfl rfl rfl ⟨.refl _, .refl _, .refl _, .refl _, .refl _, .refl _, .refl _, .refl _, .refl _, .refl _, .refl _, .refl _, .refl _, .refl _, trivial⟩, osrc_cells (b := 2) rfl rfl rfl ⟨.refl _, .refl _, .refl _, .refl _, .refl _, .refl _, .refl _, .cl hcaI, .refl _, .refl _, .refl _, .refl _, .refl _, .refl _, trivial⟩, osrc_arr (b := 3) rfl rfl rfl rfl u3, trivial⟩ ⟨.refl _, .refl _, .refl _, .refl _, .refl _, trivial⟩)
   | cons x u =>
    have L2 := len_split v1
    try simp only [List.length_cons, List.length_nil] at L2
    have hc2 : iLt j (lenA ns) = true := lt_t e_iLt e_lenA (by omega)
    have hat2 := el_at e_atA hns v1 vj
    have y1 := P_Negates x
    have y2 := P_Times x
    have hxor := scopeF_or x.op
    have hcx2 : (cS (e ++ [x]) : Nat) = cS e + if scopeF x.op = true then 1 else 0 := by rw [cS_append, cS_one]
    have hcx3 : cS nl = cS e + ((if scopeF x.op = true then 1 else 0) + cS u) := by rw [v1, cS_append, ← List.singleton_append, cS_append, cS_one]
    have hj2 : iAdd .i64 j 1 = ((e ++ [x]).length : Int) := by rw [List.length_append]; exact inc_w e_iAdd vj (by omega)
    have a2 : iAdd .i64 f2 1 = f2 + 1 := add_w e_iAdd (by omega) (by omega)
    have hxc := Pat.closed x
    have hT : scopeF x.op = true → iAdd .i64 f2 1 = fr + (cS (e ++ [x]) : Nat) := fun h => by rw [a2, hcx2, if_pos h, vf]; simp; omega
    have hF : scopeF x.op = false → f2 = fr + (cS (e ++ [x]) : Nat) := fun h => by rw [hcx2, if_neg (by simp [h]), vf]; simp
    rw [hxor] at hT hF
    generalize decide (x.op = 5 ∨ x.op = 9) = ng2 at *
    generalize spanF x.op = sp2 at *
    obtain ⟨xO, xA, xT, xV, xS, xN, xCo, xCa, xCv, xCf, xCk, xXk, xXn, xXt, hx2⟩ := Pat.form x
    rw [hx2] at hat2 hxc y1 y2
    cases ng2
    · cases sp2
      · have hF := hF rfl
        refine goB hX 0 (by conv => lhs; cbv; try simp only [hc2, hat2]; cbv; try simp only [hc2, hat2]; cbv; try simp only [hc2, hat2]; cbv; try simp only [hc2, hat2]; cbv) ?_
        refine goB hX 1 (by conv => lhs; cbv; try simp only [hc2, hat2]; cbv; try simp only [hc2, hat2]; cbv; try simp only [hc2, hat2]; cbv; try simp only [hc2, hat2]; cbv) ?_
        refine pcA y1 ?_
        refine goB hX 0 (by conv => lhs; cbv; try simp only [hc2, hat2]; cbv; try simp only [hc2, hat2]; cbv; try simp only [hc2, hat2]; cbv; try simp only [hc2, hat2]; cbv) ?_
        refine goB hX 1 (by conv => lhs; cbv; try simp only [hc2, hat2]; cbv; try simp only [hc2, hat2]; cbv; try simp only [hc2, hat2]; cbv; try simp only [hc2, hat2]; cbv) ?_
        refine goB hX 1 (by conv => lhs; cbv; try simp only [hc2, hat2]; cbv; try simp only [hc2, hat2]; cbv; try simp only [hc2, hat2]; cbv; try simp only [hc2, hat2]; cbv) ?_
        refine goB hX 1 (by conv => lhs; cbv; try simp only [hc2, hat2]; cbv; try simp only [hc2, hat2]; cbv; try simp only [hc2, hat2]; cbv; try simp only [hc2, hat2]; cbv) ?_
        refine goA 60 ?_
        refine pcG y2 ?_
        refine goA 60 ?_
        refine loopP_next (iAdd .i64 j 1, e ++ [x], u, f2) ⟨by simp [v1], hj2, hF⟩ (by simp) (ent_sub [.to 0, .to 1, .to 2, .to 3] [some 0, some 1, some 2, some 3] ⟨⟨by simp, rfl⟩, ⟨by simp, rfl⟩, ⟨by simp, rfl⟩, ⟨by simp, rfl⟩, trivial⟩ ⟨osrc_cells (b := 0) rfl rfl rfl ⟨.refl _, .cl hcl, .refl _, .refl _, .refl _, .refl _, .refl _, .cl hcaI, .refl _, .refl _, .refl _, .refl _, .refl _, .refl _, trivial⟩, osrc_cells (b := 1) rfl rfl rfl ⟨.refl _, .refl _, .refl _, .refl _, .refl _, .refl _, .refl _, .refl _, .refl _, .refl _, .refl _, .refl _, .refl _, .refl _, trivial⟩, osrc_cells (b := 2) rfl rfl rfl ⟨.refl _, .refl _, .refl _, .refl _, .refl _, .refl _, .refl _, .cl hcaI, .refl _, .refl _, .refl _, .refl _, .refl _, .refl _, trivial⟩, osrc_arr (b := 3) rfl rfl rfl rfl u3, trivial⟩ ⟨.refl _, .cl hqnc, .refl _, .refl _, .refl _, .refl _, .refl _, trivial⟩)
      · have hT := hT rfl
        refine goB hX 0 (by conv => lhs; cbv; try simp only [hc2, hat2]; cbv; try simp only [hc2, hat2]; cbv; try simp only [hc2, hat2]; cbv; try simp only [hc2, hat2]; cbv) ?_
        refine goB hX 1 (by conv => lhs; cbv; try simp only [hc2, hat2]; cbv; try simp only [hc2, hat2]; cbv; try simp only [hc2, hat2]; cbv; try simp only [hc2, hat2]; cbv) ?_
        refine pcA y1 ?_
        refine goB hX 0 (by conv => lhs; cbv; try simp only [hc2, hat2]; cbv; try simp only [hc2, hat2]; cbv; try simp only [hc2, hat2]; cbv; try simp only [hc2, hat2]; cbv) ?_
        refine goB hX 1 (by conv => lhs; cbv; try simp only [hc2, hat2]; cbv; try simp only [hc2, hat2]; cbv; try simp only [hc2, hat2]; cbv; try simp only [hc2, hat2]; cbv) ?_
        refine goB hX 1 (by conv => lhs; cbv; try simp only [hc2, hat2]; cbv; try simp only [hc2, hat2]; cbv; try simp only [hc2, hat2]; cbv; try simp only [hc2, hat2]; cbv) ?_
        refine goB hX 1 (by conv => lhs; cbv; try simp only [hc2, hat2]; cbv; try simp only [hc2, hat2]; cbv; try simp only [hc2, hat2]; cbv; try simp only [hc2, hat2]; cbv) ?_
        refine goA 60 ?_
        refine pcG y2 ?_
        refine goA 60 ?_
        refine loopP_next (iAdd .i64 j 1, e ++ [x], u, iAdd .i64 f2 1) ⟨by simp [v1], hj2, hT⟩ (by simp) (ent_sub [.to 0, .to 1, .to 2, .to 3] [some 0, some 1, some 2, some 3] ⟨⟨by simp, rfl⟩, ⟨by simp, rfl⟩, ⟨by simp, rfl⟩, ⟨by simp, rfl⟩, trivial⟩ ⟨osrc_cells (b := 0) rfl rfl rfl ⟨.refl _, .cl hcl, .refl _, .refl _, .refl _, .refl _, .refl _, .cl hcaI, .refl _, .refl _, .refl _, .refl _, .refl _, .refl _, trivial⟩, osrc_cells (b := 1) rfl rfl rfl ⟨.refl _, .refl _, .refl _, .refl _, .refl _, .refl _, .refl _, .refl _, .refl _, .refl _, .refl _, .refl _, .refl _, .refl _, trivial⟩, osrc_cells (b := 2) rfl rfl rfl ⟨.refl _, .refl _, .refl _, .refl _, .refl _, .refl _, .refl _, .cl hcaI, .refl _, .refl _, .refl _, .refl _, .refl _, .refl _, trivial⟩, osrc_arr (b := 3) rfl rfl rfl rfl u3, trivial⟩ ⟨.refl _, .cl hqnc, .refl _, .refl _, .refl _, .refl _, .refl _, trivial⟩)
    · have hT := hT rfl
      refine goB hX 0 (by conv => lhs; cbv; try simp only [hc2, hat2]; cbv; try simp only [hc2, hat2]; cbv; try simp only [hc2, hat2]; cbv; try simp only [hc2, hat2]; cbv) ?_
      refine goB hX 1 (by conv => lhs; cbv; try simp only [hc2, hat2]; cbv; try simp only [hc2, hat2]; cbv; try simp only [hc2, hat2]; cbv; try simp only [hc2, hat2]; cbv) ?_
      refine pcA y1 ?_
      refine goA 60 ?_
      refine loopP_next (iAdd .i64 j 1, e ++ [x], u, iAdd .i64 f2 1) ⟨by simp [v1], hj2, hT⟩ (by simp) (ent_sub [.to 0, .to 1, .to 2, .to 3] [some 0, some 1, some 2, some 3] ⟨⟨by simp, rfl⟩, ⟨by simp, rfl⟩, ⟨by simp, rfl⟩, ⟨by simp, rfl⟩, trivial⟩ ⟨osrc_cells (b := 0) rfl rfl rfl ⟨.refl _, .cl hcl, .refl _, .refl _, .refl _, .refl _, .refl _, .cl hcaI, .refl _, .refl _, .refl _, .refl _, .refl _, .refl _, trivial⟩, osrc_cells (b := 1) rfl rfl rfl ⟨.refl _, .refl _, .refl _, .refl _, .refl _, .refl _, .refl _, .refl _, .refl _, .refl _, .refl _, .refl _, .refl _, .refl _, trivial⟩, osrc_cells (b := 2) rfl rfl rfl ⟨.refl _, .refl _, .refl _, .refl _, .refl _, .refl _, .refl _, .cl hcaI, .refl _, .refl _, .refl _, .refl _, .refl _, .refl _, trivial⟩, osrc_arr (b := 3) rfl rfl rfl rfl u3, trivial⟩ ⟨.refl _, .cl hqnc, .refl _, .refl _, .refl _, .refl _, .refl _, trivial⟩)
theorem proper_first (l : List Pat) : firstE (fun q : Pat => if 8 ≤ q.op then 1 else 0) l = if properB l = true then 0 else 1 := by
 induction l with
 | nil => rfl
 | cons q r ih =>
  rw [firstE]
  by_cases h : 8 ≤ q.op
  · rw [if_pos h, if_pos (by decide), if_neg (by simp [properB]; omega)]
  · rw [if_neg h, if_neg (by decide), ih]
    have : properB (q :: r) = properB r := by simp [properB]; omega
    rw [this]
theorem nodup_len : ∀ (n : Nat) (l : List Int), l.Nodup → (∀ v ∈ l, 0 ≤ v ∧ v < n) → l.length ≤ n
 | 0, l, _, h => by
  cases l with
  | nil => simp
  | cons x r => have := h x (by simp); omega
 | n + 1, l, hn, h => by
  by_cases hm : (n : Int) ∈ l
  · have h1 := nodup_len n (l.erase n) (hn.erase _) (fun v hv => by
     have := (List.Nodup.mem_erase_iff hn).1 hv
     have := h v this.2
     omega)
    rw [List.length_erase_of_mem hm] at h1
    omega
  · have := nodup_len n l hn (fun v hv => by
     have := h v hv
     have : v ≠ n := fun e => hm (e ▸ hv)
     omega)
    omega
theorem toF_bd : ∀ (n : Nat) (l : List Int), l.length = n → (∀ v ∈ l, 0 ≤ v ∧ v < 16) → (∀ v : Int, 0 ≤ v → v < 16 → -1 ≤ (toF l).getD v.toNat 0 ∧ (toF l).getD v.toNat 0 < l.length + (if l.length = 0 then 1 else 0)) ∧ ∀ v ∈ l, 0 ≤ (toF l).getD v.toNat 0 := by
 intro n
 induction n with
 | zero =>
  intro l hl h
  obtain rfl := List.length_eq_zero_iff.1 hl
  refine ⟨fun v h0 h1 => ?_, fun v hv => by cases hv⟩
  have : (toF []).getD v.toNat 0 = -1 := by
   rw [toF, List.foldl_nil, List.getD_eq_getElem?_getD, List.getElem?_replicate, if_pos (by omega)]; rfl
  rw [this]; simp
 | succ n ih =>
  intro l hl h
  have hne : l ≠ [] := by rintro rfl; cases hl
  obtain ⟨d, x, rfl⟩ : ∃ d x, l = d ++ [x] := ⟨l.dropLast, l.getLast hne, (List.dropLast_concat_getLast hne).symm⟩
  have hdl : d.length = n := by simpa using hl
  obtain ⟨i1, i2⟩ := ih d hdl fun v hv => h v (by simp [hv])
  have hx := h x (by simp)
  have hg : ∀ v : Int, 0 ≤ v → v < 16 → (toF (d ++ [x])).getD v.toNat 0 = if v = x then (d.length : Int) else (toF d).getD v.toNat 0 := by
   intro v h0 h1
   rw [toF_snoc, List.getD_eq_getElem?_getD, List.getElem?_set]
   by_cases hv : v = x
   · subst hv; rw [if_pos rfl, if_pos (by rw [toF_len]; omega), if_pos rfl]; rfl
   · rw [if_neg (by omega), if_neg hv, List.getD_eq_getElem?_getD]
  refine ⟨fun v h0 h1 => ?_, fun v hv => ?_⟩
  · have hl2 : (d ++ [x]).length = d.length + 1 := by simp
    rw [hg v h0 h1, hl2, if_neg (show ¬ (d.length + 1 = 0) by omega)]
    have := i1 v h0 h1
    generalize (toF d).getD v.toNat 0 = z at *
    by_cases hvx : v = x
    · rw [if_pos hvx]; exact ⟨by omega, by omega⟩
    · rw [if_neg hvx]; split at this <;> exact ⟨by omega, by omega⟩
  · have hb := h v hv
    rw [hg v hb.1 hb.2]
    split
    · omega
    · rename_i hvx
      exact i2 v (by simp at hv; rcases hv with hv | hv; exact hv; exact absurd hv hvx)
theorem varsU_iff (S : List Bool) (v : Int) : ∀ j : Nat, v ∈ varsU S j ↔ 0 ≤ v ∧ v < j ∧ S.getD v.toNat false = true
 | 0 => by
  rw [varsU]
  exact ⟨fun h => absurd h (by simp), fun h => absurd h.2.1 (by omega)⟩
 | j + 1 => by
  rw [varsU, List.mem_append, varsU_iff S v j]
  have hj : (j : Int).toNat = j := by omega
  by_cases hv : v = j
  · cases h : S.getD j false with
    | true =>
     rw [if_pos rfl]
     exact ⟨fun _ => ⟨by omega, by omega, by rw [hv, hj]; exact h⟩, fun _ => .inr (by simp [hv])⟩
    | false =>
     rw [if_neg (by decide)]
     refine ⟨?_, ?_⟩
     · rintro (h1 | h1)
       · omega
       · cases h1
     · rintro ⟨_, _, h3⟩
       rw [hv, hj, h] at h3; cases h3
  · refine ⟨?_, ?_⟩
    · rintro (⟨a, b, c⟩ | h1)
      · exact ⟨a, by omega, c⟩
      · split at h1
        · exact absurd (by simpa using h1) hv
        · cases h1
    · rintro ⟨a, b, c⟩
      exact .inl ⟨a, by omega, c⟩
theorem rep_false (k : Nat) : (List.replicate 16 false).getD k false = false := by rw [List.getD_eq_getElem?_getD, List.getElem?_replicate]; split <;> rfl
theorem marks_iff (v : Nat) (hv : v < 16) : ∀ (l : List Ex) (s : List Bool), s.length = 16 → ((l.foldl markV s).getD v false = true ↔ s.getD v false = true ∨ ∃ x ∈ l, usesV x.op = true ∧ x.var = v)
 | [], s, _ => by simp
 | x :: l, s, hs => by
  rw [List.foldl_cons, marks_iff v hv l _ (by rw [markV_len]; exact hs)]
  have : (markV s x).getD v false = true ↔ s.getD v false = true ∨ (usesV x.op = true ∧ x.var = v) := by
   unfold markV
   by_cases h : usesV x.op = true ∧ 0 ≤ x.var ∧ x.var < 16
   · rw [if_pos h, List.getD_eq_getElem?_getD, List.getElem?_set]
     by_cases e : x.var.toNat = v
     · rw [if_pos e, if_pos (by omega)]
       simp; exact .inr ⟨h.1, by omega⟩
     · rw [if_neg e, ← List.getD_eq_getElem?_getD]
       have : ¬ (x.var = v) := by omega
       simp [this]
   · rw [if_neg h]
     have : ¬ (usesV x.op = true ∧ x.var = v) := fun ⟨a, b⟩ => h ⟨a, by omega, by omega⟩
     simp [this]
  rw [this]
  simp only [List.mem_cons, exists_eq_or_imp, or_assoc]
theorem Ex.vars_iff (e : Ex) (v : Int) : v ∈ e.vars ↔ 0 ≤ v ∧ v < 16 ∧ ∃ x ∈ e.nodes, usesV x.op = true ∧ x.var = v := by
 unfold Ex.vars Ex.marks
 rw [varsU_iff]
 refine ⟨fun ⟨a, b, c⟩ => ⟨a, b, ?_⟩, fun ⟨a, b, c⟩ => ⟨a, b, ?_⟩⟩
 · rw [marks_iff v.toNat (by omega) _ _ (by simp)] at c
   rcases c with c | ⟨x, hx, h1, h2⟩
   · rw [rep_false] at c; cases c
   · exact ⟨x, hx, h1, by omega⟩
 · rw [marks_iff v.toNat (by omega) _ _ (by simp)]
   obtain ⟨x, hx, h1, h2⟩ := c
   exact .inr ⟨x, hx, h1, by omega⟩
theorem firstE_iff {α : Type} {F : α → Int} {l : List α} : firstE F l = 0 ↔ ∀ q ∈ l, F q = 0 := ⟨firstE_zero, firstE_ok⟩
theorem firstE_mem {α : Type} {F : α → Int} : ∀ {l : List α}, firstE F l ≠ 0 → ∃ q ∈ l, firstE F l = F q
 | [], h => absurd rfl h
 | x :: r, h => by
  by_cases hx : F x = 0
  · rw [firstE, if_neg (by simpa using hx)] at h ⊢
    obtain ⟨q, hq, e⟩ := firstE_mem h
    exact ⟨q, by simp [hq], e⟩
  · exact ⟨x, by simp, by rw [firstE, if_pos hx]⟩
theorem lacksF_first (to : List Int) (l : List Pat) : firstE (lacksF to) l = if firstE (lacksF to) l = 0 then 0 else 6 := by
 by_cases h : firstE (lacksF to) l = 0
 · rw [if_pos h, h]
 · rw [if_neg h]
   obtain ⟨q, hq, e⟩ := firstE_mem h
   rw [e] at h ⊢
   unfold lacksF at h ⊢
   split
   · rfl
   · rename_i hh; rw [if_neg hh] at h; exact absurd rfl h
theorem nodeE_cond {q : Pat} (h : q.nodeE = 0) : condF q.op = true → q.cond.chk = 0 := by
 intro hc
 unfold Pat.nodeE at h
 split at h
 · cases h
 split at h
 · cases h
 split at h
 · cases h
 split at h
 · rename_i hh; exact absurd h hh.2
 · rename_i hh; exact Classical.byContradiction fun hn => hh ⟨hc, hn⟩
theorem num_err {p : Pat} (hk : p.chkR = 0) (hn : (oldsF p.nodes).Nodup) : firstE (nrenE (toF (oldsF p.nodes))) p.nodes = 0 ↔ firstE (lacksF (toF (oldsF p.nodes))) p.nodes = 0 := by
 have hnd := chkR_nodes hk
 have hol : ∀ v ∈ oldsF p.nodes, 0 ≤ v ∧ v < 16 := by
  intro v hv
  unfold oldsF at hv
  obtain ⟨q, hq, rfl⟩ := List.mem_map.1 hv
  have := List.mem_filter.1 hq
  have := nodeE_var (hnd q this.1) this.2
  omega
 have hlen := nodup_len 16 _ hn hol
 obtain ⟨b1, b2⟩ := toF_bd _ _ rfl hol
 have hmem : ∀ q ∈ p.nodes, typedF q.op = true → q.var ∈ oldsF p.nodes := fun q hq ht => List.mem_map.2 ⟨q, List.mem_filter.2 ⟨hq, ht⟩, rfl⟩
 have htl := toF_len (oldsF p.nodes)
 generalize hto : toF (oldsF p.nodes) = to at *
 have hb : ∀ v : Int, 0 ≤ v → v < 16 → to.getD v.toNat 0 < 16 := fun v h0 h1 => by
  have := (b1 v h0 h1).2
  split at this <;> omega
 rw [firstE_iff, firstE_iff]
 have key : ∀ q ∈ p.nodes, (nrenE to q = 0 ↔ lacksF to q = 0) := by
  intro q hq
  have hq0 := hnd q hq
  have n1 : ¬ (typedF q.op = true ∧ (to.length : Int) ≤ q.var) := fun ⟨a, b⟩ => by have := nodeE_var hq0 a; omega
  have n2 : ¬ (typedF q.op = true ∧ (to.getD q.var.toNat 0 < 0 ∨ 16 ≤ to.getD q.var.toNat 0)) := fun ⟨a, b⟩ => by
   have h1 := nodeE_var hq0 a
   have h2 := b2 q.var (hmem q hq a)
   have h3 := hb q.var (by omega) (by omega)
   omega
  unfold nrenE lacksF
  rw [if_neg n1, if_neg n2]
  by_cases hc : condF q.op = true
  · rw [if_pos hc]
    have hck := nodeE_cond hq0 hc
    rw [Ex.renErr, hck, if_neg (by simp), firstE_iff]
    have hx : ∀ x ∈ q.cond.nodes, (renE to x = 0 ↔ ¬ (usesV x.op = true ∧ to.getD x.var.toNat 0 < 0)) := by
     intro x hx
     have hv := Ex.nodeE_var (Ex.chk_nodes hck x hx)
     unfold renE
     cases hu : usesV x.op with
     | false => simp
     | true =>
      have hv := hv hu
      have := hb x.var hv.1 hv.2
      rw [if_neg (by decide), if_neg (by omega)]
      by_cases h : to.getD x.var.toNat 0 < 0
      · rw [if_pos (.inl h)]; exact ⟨fun e => absurd e (by decide), fun hh => absurd ⟨rfl, h⟩ hh⟩
      · rw [if_neg (by omega)]; exact ⟨fun _ hh => h hh.2, fun _ => rfl⟩
    constructor
    · intro h
      refine if_neg ?_
      rintro ⟨_, h2⟩
      rw [List.any_eq_true] at h2
      obtain ⟨v, hv, h3⟩ := h2
      obtain ⟨_, _, x, hx1, hx2, hx3⟩ := (Ex.vars_iff _ v).1 hv
      exact (hx x hx1).1 (h x hx1) ⟨hx2, by rw [hx3]; simpa using h3⟩
    · intro h x hx1
      rw [hx x hx1]
      rintro ⟨h1, h2⟩
      have hv := Ex.nodeE_var (Ex.chk_nodes hck x hx1) h1
      rw [if_pos] at h
      · cases h
      · refine ⟨hc, List.any_eq_true.2 ⟨x.var, (Ex.vars_iff _ _).2 ⟨hv.1, hv.2, x, hx1, h1, rfl⟩, by simpa using h2⟩⟩
  · rw [if_neg hc, if_neg (fun h => hc h.1)]
 exact ⟨fun h q hq => (key q hq).1 (h q hq), fun h q hq => (key q hq).2 (h q hq)⟩
theorem numE_red (p : Pat) : p.numE = (open Classical in if p.chkR ≠ 0 then p.chkR else if properB p.nodes = false then 1 else if ¬ (oldsF p.nodes).Nodup then 7 else if firstE (nrenE (toF (oldsF p.nodes))) p.nodes = 0 then 0 else 6) := by
 unfold Pat.numE Pat.wholeE
 rw [proper_first]
 by_cases h : p.chkR = 0
 · simp only [h, ne_eq, not_true_eq_false, if_false]
   cases properB p.nodes with
   | false => simp
   | true =>
    simp only [if_true, not_true_eq_false, if_false, Bool.true_eq_false]
    by_cases hn : (oldsF p.nodes).Nodup
    · rw [if_neg (by simpa using hn), if_neg (by simpa using hn), lacksF_first]
      by_cases e : firstE (lacksF (toF (oldsF p.nodes))) p.nodes = 0
      · rw [if_pos e, if_pos ((num_err h hn).2 e)]
      · rw [if_neg e, if_neg (fun g => e ((num_err h hn).1 g))]
    · rw [if_pos hn, if_pos hn]
 · simp [h]
theorem fill_set (n k : Nat) (a b : Int) : (List.replicate n a ++ List.replicate (k + 1) b).set n a = List.replicate (n + 1) a ++ List.replicate k b := by
 rw [List.set_append_right _ _ (by simp), List.length_replicate, Nat.sub_self, List.replicate_succ (n := k), List.set_cons_zero, List.replicate_succ', List.append_assoc]; rfl
theorem P_ref09_Number (p : Pat) (hs : p.Sm) : PCall EE 10 [p.enc] (.tup [p.numX.enc, .isl 1 (mapE int p.numO), int p.numE]) := by
 have h1 := P_ref09_CheckRest p hs
 have h2 := P_ref09_Nodes p hs
 have hnl := Pat.nodes_len p
 have hs1 := hs.1
 have h3 := P_proper p.nodes (by omega)
 have hvs := fun (hk : p.chkR = 0) q (hq : q ∈ p.nodes) => nodeE_var (chkR_nodes hk q hq)
 have h4 := fun (hk : p.chkR = 0) => P_Old p hs (hvs hk)
 have h5 := fun (hk : p.chkR = 0) => P_replaced (toF (oldsF p.nodes)) (by rw [toF_len]; decide) p hs fun q hq ht => (hvs hk q hq ht).1
 have h6 := P_scoped (p.ren (toF (oldsF p.nodes))) (Pat.ren_sm hs) 0 (by omega) (by
  have := Pat.nsc_le (p.ren (toF (oldsF p.nodes))); have := (Pat.ren_sm (to := toF (oldsF p.nodes)) hs).1; omega)
 have hcl := Pat.closed p
 obtain ⟨X, hX0⟩ : ∃ R, R = p.numX := ⟨_, rfl⟩
 obtain ⟨O, hO⟩ : ∃ R, R = p.numO := ⟨_, rfl⟩
 obtain ⟨E, hE⟩ : ∃ R, R = p.numE := ⟨_, rfl⟩
 rw [← hX0, ← hO, ← hE]
 unfold Pat.numX at hX0
 unfold Pat.numO at hO
 rw [← hE] at hX0 hO
 rw [numE_red] at hE
 have hoE : p.oldE = 0 ∨ p.oldE = 7 := by unfold Pat.oldE; split <;> simp
 have hoN : ¬ (oldsF p.nodes).Nodup ↔ p.oldE ≠ 0 := by unfold Pat.oldE; split <;> simp_all
 have hoL : p.oldE = 0 → p.oldL = oldsF p.nodes := fun h => by rw [Pat.oldL, if_pos h]
 have hoL7 : p.oldE ≠ 0 → p.oldL = [] := fun h => by rw [Pat.oldL, if_neg h]
 simp only [hoN] at hE
 have hol : p.chkR = 0 → ∀ v ∈ oldsF p.nodes, 0 ≤ v ∧ v ≤ 15 := fun hk v hv => by
  unfold oldsF at hv
  obtain ⟨q, hq, rfl⟩ := List.mem_map.1 hv
  have := List.mem_filter.1 hq
  exact hvs hk q this.1 this.2
 have holn := oldsF_len p.nodes
 have hec := Pat.closed (p.ren (toF (oldsF p.nodes)))
 have hnc2 := Pat.closed ((p.ren (toF (oldsF p.nodes))).numb 0)
 have hnc := Pat.closedI p.nodes
 have hnilI : mapE int [] = [] := by rw [mapE_eq]; rfl
 have e0 := Pat0.enc_eq
 generalize (p.ren (toF (oldsF p.nodes))).numb 0 = en at *
 generalize p.ren (toF (oldsF p.nodes)) = er at *
 generalize firstE (nrenE (toF (oldsF p.nodes))) p.nodes = fe at *
 generalize oldsF p.nodes = L at *
 generalize p.chkR = rn at *
 generalize properB p.nodes = pr at *
 generalize p.oldE = oE at *
 generalize p.oldL = oL at *
 clear hvs hoN
 obtain ⟨pO, pA, pT, pV, pS, pN, pCo, pCa, pCv, pCf, pCk, pXk, pXn, pXt, hx⟩ := Pat.form p
 rw [hx] at h1 h2 h4 h5 hcl ⊢
 have hpA : (AV.isl 14 pA).closed = true := by have := hcl; simp [AV.closed, AV.closedL] at this ⊢; exact this.1
 have hpCa : (AV.isl 8 pCa).closed = true := by have := hcl; simp [AV.closed, AV.closedL] at this ⊢; exact this.2
 refine wordsN ?_; unhygienic intros
 generalize hes : mapE Pat.enc p.nodes = es at *
 have n0 : bNot false = true := by simp only [ee]; rfl
 have n1 : bNot true = false := by simp only [ee]; rfl
 have z0 : iNe 0 0 = false := by simp only [ee]; rfl
 have z7 : iNe 7 0 = true := by simp only [ee]; rfl
 have hrep : repA 16 (int 0) = mapE int (List.replicate 16 0) := by simp only [ee]; rw [mapE_eq]; rfl
 have hrc : AV.closedL (repA 16 (int 0)) = true := by rw [hrep]; exact closedL_int _
 refine fn_body (fn := Tryz.f10) (n := 67) (ac := Tryzc10) (rvs := [.cell 2 14 true, .t 3, .t 4]) rfl (by decide) Tryzp10 rfl rfl rfl ?_
 by_cases g1 : rn = 0
 rotate_left
 · have k1 : iNe rn 0 = true := by simp only [ee]; simpa using g1
   rw [if_pos g1] at hE
   rw [if_neg (by omega)] at hX0 hO
   rw [hX0, hO, hE, e0, hnilI]
   refine goA 60 ?_
   refine pcA h1 ?_
   refine goB hX 0 (by conv => lhs; cbv; try simp only [k1]; cbv; try simp only [k1]; cbv; try simp only [k1]; cbv; try simp only [k1]; cbv) ?_
   refine goA 60 ?_
   refine fn_ret rfl rfl ?_
   exact ⟨[.gone, .gone], ⟨trivial, trivial, trivial⟩, .tup' ⟨.agg' ⟨.refl _, .nilI _, .refl _, .refl _, .refl _, .refl _, .refl _, .nilI _, .refl _, .refl _, .refl _, .refl _, .refl _, .refl _, trivial⟩, .nilI _, .refl _, trivial⟩⟩
 have k1 : iNe rn 0 = false := by simp only [ee]; simpa using g1
 rw [if_neg (by simpa using g1)] at hE
 have h4 := h4 g1
 have h5 := h5 g1
 have hol := hol g1
 cases pr with
 | false =>
  rw [if_pos rfl] at hE
  rw [if_neg (by omega)] at hX0 hO
  rw [hX0, hO, hE, e0, hnilI]
  refine goA 60 ?_
  refine pcA h1 ?_
  refine goB hX 0 (by conv => lhs; cbv; try simp only [k1, n0]; cbv; try simp only [k1, n0]; cbv; try simp only [k1, n0]; cbv; try simp only [k1, n0]; cbv) ?_
  refine goA 60 ?_
  refine pcA h2 ?_
  refine pcA h3 ?_
  refine goB hX 0 (by conv => lhs; cbv; try simp only [k1, n0]; cbv; try simp only [k1, n0]; cbv; try simp only [k1, n0]; cbv; try simp only [k1, n0]; cbv) ?_
  refine goA 60 ?_
  refine fn_ret rfl rfl ?_
  exact ⟨[.gone, .gone], ⟨trivial, trivial, trivial⟩, .tup' ⟨.agg' ⟨.refl _, .nilI _, .refl _, .refl _, .refl _, .refl _, .refl _, .nilI _, .refl _, .refl _, .refl _, .refl _, .refl _, .refl _, trivial⟩, .nilI _, .refl _, trivial⟩⟩
 | true =>
 rw [if_neg (by decide)] at hE
 rcases hoE with hoE | hoE
 rotate_left
 · rw [if_pos (by omega)] at hE
   rw [if_neg (by omega)] at hX0 hO
   rw [hX0, hO, hE, e0, hnilI]
   rw [hoE, hoL7 (by omega), hnilI] at h4
   refine goA 60 ?_
   refine pcA h1 ?_
   refine goB hX 0 (by conv => lhs; cbv; try simp only [k1, n1, z7]; cbv; try simp only [k1, n1, z7]; cbv; try simp only [k1, n1, z7]; cbv; try simp only [k1, n1, z7]; cbv) ?_
   refine goA 60 ?_
   refine pcA h2 ?_
   refine pcA h3 ?_
   refine goB hX 0 (by conv => lhs; cbv; try simp only [k1, n1, z7]; cbv; try simp only [k1, n1, z7]; cbv; try simp only [k1, n1, z7]; cbv; try simp only [k1, n1, z7]; cbv) ?_
   refine goA 60 ?_
   refine pcA h4 ?_
   refine goB hX 0 (by conv => lhs; cbv; try simp only [k1, n1, z7]; cbv; try simp only [k1, n1, z7]; cbv; try simp only [k1, n1, z7]; cbv; try simp only [k1, n1, z7]; cbv) ?_
   refine goA 60 ?_
   refine fn_ret rfl rfl ?_
   exact ⟨[.gone, .gone], ⟨trivial, trivial, trivial⟩, .tup' ⟨.agg' ⟨.refl _, .nilI _, .refl _, .refl _, .refl _, .refl _, .refl _, .nilI _, .refl _, .refl _, .refl _, .refl _, .refl _, .refl _, trivial⟩, .nilI _, .refl _, trivial⟩⟩
 rw [if_neg (by omega)] at hE
 rw [hoE, hoL hoE] at h4
 generalize hols : mapE int L = ol at *
 have holl : ol.length = L.length := by rw [← hols, mapE_len]
 have hoc : (AV.isl 1 ol).closed = true := by rw [← hols]; exact closedI_int _
 refine goA 60 ?_
 refine pcA h1 ?_
 refine goB hX 0 (by conv => lhs; cbv; try simp only [k1, n1, z0]; cbv; try simp only [k1, n1, z0]; cbv; try simp only [k1, n1, z0]; cbv; try simp only [k1, n1, z0]; cbv) ?_
 refine goA 60 ?_
 refine pcA h2 ?_
 refine pcA h3 ?_
 refine goB hX 0 (by conv => lhs; cbv; try simp only [k1, n1, z0]; cbv; try simp only [k1, n1, z0]; cbv; try simp only [k1, n1, z0]; cbv; try simp only [k1, n1, z0]; cbv) ?_
 refine goA 60 ?_
 refine pcA h4 ?_
 refine goB hX 0 (by conv => lhs; cbv; try simp only [k1, n1, z0]; cbv; try simp only [k1, n1, z0]; cbv; try simp only [k1, n1, z0]; cbv; try simp only [k1, n1, z0]; cbv) ?_
 refine goA 60 ?_
 refine on_loopP (ι := Int × List AV) (fun p => ([(9, int p.1), (8, .sl 2 1 0 (natOf 16)), (6, .isl 1 ol), (1, .ptr 0 0), (2, .ptr 1 0)], [.cells [int pO, .isl 14 pA, int pT, int pV, int pS, int pN, int pCo, .isl 8 pCa, int pCv, int pCf, int pCk, int pXk, int pXn, str pXt], .cells [int 0, .val (.slice none 0 0), int 0, int 0, int 0, int 0, int 0, .val (.slice none 0 0), int 0, int 0, int 0, int 0, int 0, str ⟨#[]⟩], .arr 1 p.2])) (fun p => 0 ≤ p.1 ∧ p.1 ≤ 16 ∧ p.2 = mapE int (List.replicate p.1.toNat (-1) ++ List.replicate (16 - p.1.toNat) 0)) (fun p => (16 - p.1).toNat) (0, repA 16 (int 0)) ⟨Int.le_refl 0, (by show (0 : Int) ≤ 16; decide), hrep⟩ ?_ ?_
 · exact (ent_sub [.to 0, .to 1, .to 2] [some 0, some 1, some 2] ⟨⟨by simp, rfl⟩, ⟨by simp, rfl⟩, ⟨by simp, rfl⟩, trivial⟩ ⟨osrc_cells (b := 0) rfl rfl rfl ⟨.refl _, .cl hpA, .refl _, .refl _, .refl _, .refl _, .refl _, .cl hpCa, .refl _, .refl _, .refl _, .refl _, .refl _, .refl _, trivial⟩, osrc_cells (b := 1) rfl rfl rfl ⟨.refl _, .refl _, .refl _, .refl _, .refl _, .refl _, .refl _, .refl _, .refl _, .refl _, .refl _, .refl _, .refl _, .refl _, trivial⟩, osrc_arr (b := 2) rfl rfl rfl rfl hrc, trivial⟩ ⟨.refl _, .refl _, .cl hoc, .refl _, .refl _, trivial⟩)
 rintro ⟨i, w⟩ ⟨gi0, gi1, gw⟩
 dsimp only at gi0 gi1 gw ⊢
 have hwc : AV.closedL w = true := by rw [gw]; exact closedL_int _
 have hwl : w.length = 16 := by rw [gw, mapE_len]; simp; omega
 by_cases hi : i < 16
 · have hc : iLt i (iOf (natOf 16)) = true := by simp only [ee]; simp; omega
   have hix : idxN 0 i = i.toNat := by simp only [ee]; omega
   have hi2 : iAdd .i64 i 1 = i + 1 := add_w e_iAdd (by omega) (by omega)
   have v1 : setA w (idxN 0 i) (int (-1)) = mapE int (List.replicate (iAdd .i64 i 1).toNat (-1) ++ List.replicate (16 - (iAdd .i64 i 1).toNat) 0) := by
    rw [hi2, hix, show (i + 1).toNat = i.toNat + 1 by omega, show 16 - (i.toNat + 1) = 15 - i.toNat by omega, ← fill_set, mapE_set, show 15 - i.toNat + 1 = 16 - i.toNat by omega, ← gw]; simp only [ee]
   have v3 : AV.closedL (setA w (idxN 0 i) (int (-1))) = true := by rw [v1]; exact closedL_int _
   have hlt : idxN 0 i < w.length := by omega
   refine goB hX 0 (by conv => lhs; cbv; try simp only [hc]; cbv; try simp only [hc]; cbv; try simp only [hc]; cbv; try simp only [hc]; cbv) ?_
   refine goA 60 ?_
   refine loopP_next (iAdd .i64 i 1, setA w (idxN 0 i) (int (-1))) ⟨by omega, by omega, v1⟩ (by simp; omega) (ent_sub [.to 0, .to 1, .to 2] [some 0, some 1, some 2] ⟨⟨by simp, rfl⟩, ⟨by simp, rfl⟩, ⟨by simp, rfl⟩, trivial⟩ ⟨osrc_cells (b := 0) rfl rfl rfl ⟨.refl _, .cl hpA, .refl _, .refl _, .refl _, .refl _, .refl _, .cl hpCa, .refl _, .refl _, .refl _, .refl _, .refl _, .refl _, trivial⟩, osrc_cells (b := 1) rfl rfl rfl ⟨.refl _, .refl _, .refl _, .refl _, .refl _, .refl _, .refl _, .refl _, .refl _, .refl _, .refl _, .refl _, .refl _, .refl _, trivial⟩, osrc_arr (b := 2) rfl rfl rfl rfl v3, trivial⟩ ⟨.refl _, .refl _, .cl hoc, .refl _, .refl _, trivial⟩)
 have hc : iLt i (iOf (natOf 16)) = false := by simp only [ee]; simp; omega
 have gw : w = mapE int (toF []) := by rw [gw, show i = 16 by omega]; rfl
 refine goB hX 0 (by conv => lhs; cbv; try simp only [hc]; cbv; try simp only [hc]; cbv; try simp only [hc]; cbv; try simp only [hc]; cbv) ?_
 refine goA 60 ?_
 refine loopP_exit ?_
 refine goA 60 ?_
 refine on_loopP (ι := List Int × List Int × Int × List AV) (fun p => ([(10, int p.2.2.1), (8, .sl 2 1 0 (natOf 16)), (6, .isl 1 ol), (1, .ptr 0 0), (2, .ptr 1 0)], [.cells [int pO, .isl 14 pA, int pT, int pV, int pS, int pN, int pCo, .isl 8 pCa, int pCv, int pCf, int pCk, int pXk, int pXn, str pXt], .cells [int 0, .val (.slice none 0 0), int 0, int 0, int 0, int 0, int 0, .val (.slice none 0 0), int 0, int 0, int 0, int 0, int 0, str ⟨#[]⟩], .arr 1 p.2.2.2])) (fun p => L = p.1 ++ p.2.1 ∧ p.2.2.1 = p.1.length ∧ p.2.2.2 = mapE int (toF p.1)) (fun p => p.2.1.length) ([], L, 0, w) ⟨rfl, rfl, gw⟩ ?_ ?_
 · exact (ent_sub [.to 0, .to 1, .to 2] [some 0, some 1, some 2] ⟨⟨by simp, rfl⟩, ⟨by simp, rfl⟩, ⟨by simp, rfl⟩, trivial⟩ ⟨osrc_cells (b := 0) rfl rfl rfl ⟨.refl _, .cl hpA, .refl _, .refl _, .refl _, .refl _, .refl _, .cl hpCa, .refl _, .refl _, .refl _, .refl _, .refl _, .refl _, trivial⟩, osrc_cells (b := 1) rfl rfl rfl ⟨.refl _, .refl _, .refl _, .refl _, .refl _, .refl _, .refl _, .refl _, .refl _, .refl _, .refl _, .refl _, .refl _, .refl _, trivial⟩, osrc_arr (b := 2) rfl rfl rfl rfl hwc, trivial⟩ ⟨.refl _, .refl _, .cl hoc, .refl _, .refl _, trivial⟩)
 rintro ⟨d, r, j, w2⟩ ⟨v1, vj, vw⟩
 dsimp only at v1 vj vw ⊢
 have hwc2 : AV.closedL w2 = true := by rw [vw]; exact closedL_int _
 have hwl2 : w2.length = 16 := by rw [vw, mapE_len, toF_len]
 cases r with
 | cons v r =>
  have L1 := len_split v1
  try simp only [List.length_cons, List.length_nil] at L1
  have hc2 : iLt j (lenA ol) = true := lt_t e_iLt e_lenA (by omega)
  have hat := el_at e_atA hols v1 vj
  have hv := hol v (by rw [v1]; simp)
  have hi2 : iAdd .i64 j 1 = ((d ++ [v]).length : Int) := by rw [List.length_append]; exact inc_w e_iAdd vj (by omega)
  have hix : idxN 0 v = v.toNat := by simp only [ee]; omega
  have u1 : setA w2 (idxN 0 v) (int j) = mapE int (toF (d ++ [v])) := by rw [toF_snoc, mapE_set, ← vw, hix, vj]; simp only [ee]
  have u3 : AV.closedL (setA w2 (idxN 0 v) (int j)) = true := by rw [u1]; exact closedL_int _
  have hlt : idxN 0 v < w2.length := by omega
  refine goB hX 0 (by conv => lhs; cbv; try simp only [hc2, hat]; cbv; try simp only [hc2, hat]; cbv; try simp only [hc2, hat]; cbv; try simp only [hc2, hat]; cbv) ?_
  refine goB hX 1 (by conv => lhs; cbv; try simp only [hc2, hat]; cbv; try simp only [hc2, hat]; cbv; try simp only [hc2, hat]; cbv; try simp only [hc2, hat]; cbv) ?_
  refine loopP_next (d ++ [v], r, iAdd .i64 j 1, setA w2 (idxN 0 v) (int j)) ⟨by simp [v1], hi2, u1⟩ (by simp) (ent_sub [.to 0, .to 1, .to 2] [some 0, some 1, some 2] ⟨⟨by simp, rfl⟩, ⟨by simp, rfl⟩, ⟨by simp, rfl⟩, trivial⟩ ⟨osrc_cells (b := 0) rfl rfl rfl ⟨.refl _, .cl hpA, .refl _, .refl _, .refl _, .refl _, .refl _, .cl hpCa, .refl _, .refl _, .refl _, .refl _, .refl _, .refl _, trivial⟩, osrc_cells (b := 1) rfl rfl rfl ⟨.refl _, .refl _, .refl _, .refl _, .refl _, .refl _, .refl _, .refl _, .refl _, .refl _, .refl _, .refl _, .refl _, .refl _, trivial⟩, osrc_arr (b := 2) rfl rfl rfl rfl u3, trivial⟩ ⟨.refl _, .refl _, .cl hoc, .refl _, .refl _, trivial⟩)
 | nil =>
  have L1 := len_split v1
  try simp only [List.length_cons, List.length_nil] at L1
  have hc2 : iLt j (lenA ol) = false := lt_f e_iLt e_lenA (by omega)
  rw [List.append_nil] at v1
  rw [← v1] at vw
  rw [← vw] at h5
  have hwI : (AV.isl 1 w2).closed = true := by simp [AV.closed, hwc2]
  refine goB hX 0 (by conv => lhs; cbv; try simp only [hc2]; cbv; try simp only [hc2]; cbv; try simp only [hc2]; cbv; try simp only [hc2]; cbv) ?_
  refine goA 60 ?_
  refine loopP_exit ?_
  have n16 : natOf 16 = w2.length := by simp only [ee]; omega
  refine on_ent (F' := [(8, .isl 1 w2), (6, .isl 1 ol), (1, .ptr 0 0), (2, .ptr 1 0)]) (H' := [.cells [int pO, .isl 14 pA, int pT, int pV, int pS, int pN, int pCo, .isl 8 pCa, int pCv, int pCf, int pCk, int pXk, int pXn, str pXt], .cells [int 0, .val (.slice none 0 0), int 0, int 0, int 0, int 0, int 0, .val (.slice none 0 0), int 0, int 0, int 0, int 0, int 0, str ⟨#[]⟩]]) ?_ ?_
  · exact (ent_sub [.to 0, .to 1, .isl 1 (w2)] [some 0, some 1] ⟨⟨by simp, rfl⟩, ⟨by simp, rfl⟩, ⟨_, rfl, (subL_closed _ hwc2).symm⟩, trivial⟩ ⟨osrc_cells (b := 0) rfl rfl rfl ⟨.refl _, .cl hpA, .refl _, .refl _, .refl _, .refl _, .refl _, .cl hpCa, .refl _, .refl _, .refl _, .refl _, .refl _, .refl _, trivial⟩, osrc_cells (b := 1) rfl rfl rfl ⟨.refl _, .refl _, .refl _, .refl _, .refl _, .refl _, .refl _, .refl _, .refl _, .refl _, .refl _, .refl _, .refl _, .refl _, trivial⟩, trivial⟩ ⟨.of (sub_whole rfl (by assumption)), .cl hoc, .refl _, .refl _, trivial⟩)
  by_cases g2 : fe = 0
  · rw [if_pos g2] at hE
    rw [if_pos hE] at hX0 hO
    rw [if_pos g2, g2] at h5
    rw [hX0, hO, hE, hols]
    obtain ⟨erO, erA, erT, erV, erS, erN, erCo, erCa, erCv, erCf, erCk, erXk, erXn, erXt, hy⟩ := Pat.form er
    obtain ⟨enO, enA, enT, enV, enS, enN, enCo, enCa, enCv, enCf, enCk, enXk, enXn, enXt, hz⟩ := Pat.form en
    rw [hy] at h5 h6 hec
    rw [hz] at h6 hnc2 ⊢
    refine goA 60 ?_
    refine pcA h5 ?_
    refine goB hX 0 (by conv => lhs; cbv; try simp only [z0]; cbv; try simp only [z0]; cbv; try simp only [z0]; cbv; try simp only [z0]; cbv) ?_
    refine goA 60 ?_
    refine pcA h6 ?_
    refine goA 60 ?_
    refine fn_ret rfl rfl ?_
    exact ⟨[.gone, .gone, .gone], ⟨trivial, trivial, trivial, trivial⟩, .tup' ⟨.cl hnc2, .cl hoc, .refl _, trivial⟩⟩
  · have z2 : iNe fe 0 = true := by simp only [ee]; simpa using g2
    rw [if_neg g2] at hE
    rw [if_neg (by omega)] at hX0 hO
    rw [if_neg g2, e0] at h5
    rw [hX0, hO, hE, e0, hnilI]
    refine goA 60 ?_
    refine pcA h5 ?_
    refine goB hX 0 (by conv => lhs; cbv; try simp only [z2]; cbv; try simp only [z2]; cbv; try simp only [z2]; cbv; try simp only [z2]; cbv) ?_
    refine goA 60 ?_
    refine fn_ret rfl rfl ?_
    exact ⟨[.gone, .gone, .gone], ⟨trivial, trivial, trivial, trivial⟩, .tup' ⟨.agg' ⟨.refl _, .nilI _, .refl _, .refl _, .refl _, .refl _, .refl _, .nilI _, .refl _, .refl _, .refl _, .refl _, .refl _, .refl _, trivial⟩, .nilI _, .refl _, trivial⟩⟩
theorem Pat.numb_nodesL {l : List Pat} (h : ∀ e ∈ l, ∀ k, (e.numb k).nodes.length = e.nodes.length ∧ ∀ q ∈ (e.numb k).nodes, ∃ q0 ∈ e.nodes, q.cond = q0.cond) : ∀ k, (Pat.nodesL (Pat.numbL k l)).length = (Pat.nodesL l).length ∧ ∀ q ∈ Pat.nodesL (Pat.numbL k l), ∃ q0 ∈ Pat.nodesL l, q.cond = q0.cond := by
 induction l with
 | nil => intro k; simp [Pat.numbL, Pat.nodesL]
 | cons x r ih =>
  intro k
  obtain ⟨a1, a2⟩ := h x (by simp) k
  obtain ⟨b1, b2⟩ := ih (fun e he => h e (by simp [he])) (k + x.nsc)
  rw [Pat.numbL, Pat.nodesL, Pat.nodesL]
  refine ⟨by simp [a1, b1], fun q hq => ?_⟩
  rcases List.mem_append.1 hq with hq | hq
  · obtain ⟨q0, h0, h1⟩ := a2 q hq; exact ⟨q0, List.mem_append.2 (.inl h0), h1⟩
  · obtain ⟨q0, h0, h1⟩ := b2 q hq; exact ⟨q0, List.mem_append.2 (.inr h0), h1⟩
theorem Pat.numb_nodes : ∀ p : Pat, ∀ k, (p.numb k).nodes.length = p.nodes.length ∧ ∀ q ∈ (p.numb k).nodes, ∃ q0 ∈ p.nodes, q.cond = q0.cond := Pat.ind fun o a t v s n c h k => by
 obtain ⟨b1, b2⟩ := Pat.numb_nodesL h (if scopeF o then k + 1 else k)
 rw [Pat.numb, Pat.nodes, Pat.nodes]
 refine ⟨by simp [b1], fun q hq => ?_⟩
 rcases List.mem_cons.1 hq with rfl | hq
 · exact ⟨_, List.mem_cons_self, rfl⟩
 · obtain ⟨q0, h0, h1⟩ := b2 q hq; exact ⟨q0, List.mem_cons_of_mem _ h0, h1⟩
theorem Pat.numbSm {p : Pat} (h : p.Sm) (k : Int) : (p.numb k).Sm := by
 obtain ⟨h1, h2⟩ := (Pat.Sm_iff p).1 h
 obtain ⟨b1, b2⟩ := Pat.numb_nodes p k
 refine (Pat.Sm_iff _).2 ⟨by rw [b1]; exact h1, fun q hq => ?_⟩
 obtain ⟨q0, h3, h4⟩ := b2 q hq
 rw [h4]; exact h2 q0 h3
theorem Pat.numXSm {p : Pat} (h : p.Sm) : p.numX.Sm := by
 unfold Pat.numX
 split
 · exact Pat.numbSm (Pat.ren_sm h) 0
 · exact pat0Sm
theorem P_lawNumbers (p : Pat) (hs : p.Sm) : PCall EE 3 [p.enc] (bool true) := by
 have q1 := P_ref09_Few p hs
 have q2 := P_awake
 have q3 := P_Number p hs
 have q4 := P_ref09_Number p hs
 have q5 := P_ref09_Same p.numX p.numX (Pat.numXSm hs)
 have hol : p.numO.length < 1048577 := by
  have h1 := oldsF_len p.nodes
  have h2 := Pat.nodes_len p
  have h3 := hs.1
  unfold Pat.numO
  split
  · omega
  · simp
 have q6 := P_SameInts p.numO p.numO hol
 rw [eqB_t rfl] at q5 q6
 have kc1 := Pat.closed p
 have kc2 := Pat.closed p.numX
 have kc3 := closedI_int p.numO
 generalize p.numX = q at *
 generalize p.numE = er at *
 generalize p.few = fw at *
 obtain ⟨pO, pA, pT, pV, pS, pN, pCo, pCa, pCv, pCf, pCk, pXk, pXn, pXt, hx⟩ := Pat.form p
 obtain ⟨qO, qA, qT, qV, qS, qN, qCo, qCa, qCv, qCf, qCk, qXk, qXn, qXt, hx2⟩ := Pat.form q
 rw [hx] at q1 q3 q4 kc1 ⊢
 rw [hx2] at q3 q4 q5 kc2
 clear hx hx2 hs
 refine wordsN ?_; unhygienic intros
 generalize mapE int p.numO = ts at *
 have t1 : ∀ x : Int, iEq x x = true := fun x => by simp only [ee]; simp
 have n0 : bNot false = true := by simp only [ee]; rfl
 have n1 : bNot true = false := by simp only [ee]; rfl
 refine fn_body (fn := Tryz.f3) (n := 41) (ac := Tryzc3) (rvs := [.t 2]) rfl (by decide) Tryzp3 rfl rfl rfl ?_
 cases fw with
 | false =>
  refine goA 60 ?_
  refine pcA q1 ?_
  refine goB hX 0 (by conv => lhs; cbv; try simp only [n0]; cbv; try simp only [n0]; cbv; try simp only [n0]; cbv; try simp only [n0]; cbv) ?_
  refine goA 60 ?_
  refine pcA q2 ?_
  refine goA 60 ?_
  refine fn_ret rfl rfl (.val ?_)
  rfl
 | true =>
  refine goA 60 ?_
  refine pcA q1 ?_
  refine goB hX 0 (by conv => lhs; cbv; try simp only [n1, t1]; cbv; try simp only [n1, t1]; cbv; try simp only [n1, t1]; cbv; try simp only [n1, t1]; cbv) ?_
  refine goA 60 ?_
  refine pcA q3 ?_
  refine goA 60 ?_
  refine pcA q4 ?_
  refine goA 60 ?_
  refine pcA q2 ?_
  refine goA 60 ?_
  refine pcG q5 ?_
  refine goA 60 ?_
  refine pcG q6 ?_
  refine goA 60 ?_
  refine fn_ret rfl rfl (.val ?_)
  exact congrArg Value.bool (by simp only [ee]; simp)
end Go.Am
end
