/- Contracts of the program's functions, for every argument that meets the conditions that each theorem names. -/
import Derived.Test.YtdbikeconboifaaGreatDoorAm6
import Derived.Test.YtdbikeconboifaaGreatDoorCt2
import Derived.Test.YtdbikeconboifaaGreatDoorCt3
section
set_option maxHeartbeats 16000000
set_option maxRecDepth 100000
namespace Go.Am
open Go.Proofs
def oldsF (l : List Pat) : List Int := (l.filter fun q => typedF q.op).map Pat.var
def toS (s : List Int × Int) (v : Int) : List Int × Int := (s.1.set v.toNat s.2, s.2 + 1)
def toF (l : List Int) : List Int := (l.foldl toS (List.replicate 16 (-1), 0)).1
theorem toS_2 : ∀ (l : List Int) (s : List Int × Int), (l.foldl toS s).2 = s.2 + l.length
 | [], s => by simp
 | v :: r, s => by rw [List.foldl_cons, toS_2 r]; simp [toS]; omega
theorem toS_1 : ∀ (l : List Int) (s : List Int × Int), (l.foldl toS s).1.length = s.1.length
 | [], s => by simp
 | v :: r, s => by rw [List.foldl_cons, toS_1 r]; simp [toS]
theorem toF_len (l : List Int) : (toF l).length = 16 := by rw [toF, toS_1]; simp
theorem toF_snoc (l : List Int) (v : Int) : toF (l ++ [v]) = (toF l).set v.toNat l.length := by
 have := toS_2 l (List.replicate 16 (-1), 0)
 simp only [toF, List.foldl_append, List.foldl_cons, List.foldl_nil]
 rw [toS, this]; simp
theorem oldsF_snoc (d : List Pat) (q : Pat) : oldsF (d ++ [q]) = if typedF q.op = true then oldsF d ++ [q.var] else oldsF d := by
 unfold oldsF
 rw [List.filter_append, List.map_append]
 cases h : typedF q.op <;> simp [List.filter_cons, h]
theorem oldsF_append (a b : List Pat) : oldsF (a ++ b) = oldsF a ++ oldsF b := by simp [oldsF]
theorem oldsF_len (d : List Pat) : (oldsF d).length ≤ d.length := by
 unfold oldsF; rw [List.length_map]; exact List.length_filter_le ..
def lacksF (to : List Int) (q : Pat) : Int := if condF q.op = true ∧ (q.cond.vars.any fun v => decide (to.getD v.toNat 0 < 0)) = true then 6 else 0
noncomputable def Pat.numE (p : Pat) : Int := open Classical in
 if p.wholeE ≠ 0 then p.wholeE else if ¬ (oldsF p.nodes).Nodup then 7 else firstE (lacksF (toF (oldsF p.nodes))) p.nodes
noncomputable def Pat.numX (p : Pat) : Pat := if p.numE = 0 then (p.ren (toF (oldsF p.nodes))).numb 0 else Pat0
noncomputable def Pat.numO (p : Pat) : List Int := if p.numE = 0 then oldsF p.nodes else []
theorem wholeE_nodes {p : Pat} (h : p.wholeE = 0) : (∀ q ∈ p.nodes, q.nodeE = 0) ∧ p.chkR = 0 ∧ ∀ q ∈ p.nodes, q.op < 8 := by
 unfold Pat.wholeE at h
 split at h
 · contradiction
 · rename_i h1
   have h1 : p.chkR = 0 := by simpa using h1
   refine ⟨chkR_nodes h1, h1, fun q hq => ?_⟩
   have := firstE_zero h q hq
   by_cases h8 : 8 ≤ q.op
   · simp [h8] at this
   · omega
theorem varsU_mem {S : List Bool} {v : Int} : ∀ {j : Nat}, v ∈ varsU S j → 0 ≤ v ∧ v < j
 | 0, h => by simp [varsU] at h
 | j + 1, h => by
  rw [varsU, List.mem_append] at h
  rcases h with h | h
  · have := varsU_mem h; omega
  · split at h
    · simp at h; omega
    · cases h
theorem Ex.vars_mem {e : Ex} {v : Int} (h : v ∈ e.vars) : 0 ≤ v ∧ v < 16 := by simpa using varsU_mem h
theorem Ex.vars_len (e : Ex) : e.vars.length ≤ 16 := varsU_len _ _
theorem mapE_set (l : List Int) (i : Nat) (v : Int) : mapE int (l.set i v) = (mapE int l).set i (int v) := by simp [mapE_eq, List.map_set]
theorem mapE_snoc (l : List Int) (v : Int) : mapE int (l ++ [v]) = mapE int l ++ [int v] := by simp [mapE_eq]
theorem Ex.reb_cntL {G : Ex → Ex} {l : List Ex} (h : ∀ e ∈ l, (e.reb G).cnt = e.cnt) : Ex.cntL (Ex.rebL G l) = Ex.cntL l := by
 induction l with
 | nil => rfl
 | cons e r ih => rw [Ex.rebL, Ex.cntL, Ex.cntL, h e (by simp), ih fun e he => h e (by simp [he])]
theorem Ex.reb_cnt {G : Ex → Ex} (hG : ∀ q, (G q).cnt = q.cnt) : ∀ e : Ex, (e.reb G).cnt = e.cnt := Ex.ind fun o a v f k x h => by
 rw [Ex.reb, hG, Ex.cnt, Ex.cnt, Ex.reb_cntL h]
theorem renG_cnt (to : List Int) (q : Ex) : (renG to q).cnt = q.cnt := by
 obtain ⟨o, a, v, f, k, x⟩ := q
 rw [renG]; split <;> simp [Ex.cnt, Ex.args]
theorem Ex.rename_sm {to : List Int} {e : Ex} (h : e.Sm) : (e.rename to).Sm := by
 unfold Ex.rename
 split
 · unfold Ex.Sm; rw [Ex.reb_cnt (renG_cnt to)]; exact h
 · simp [Ex.Sm, Ex0, Ex.cnt, Ex.cntL]
theorem Pat.ren_nodesL {to : List Int} {l : List Pat} (h : ∀ e ∈ l, (e.ren to).nodes = e.nodes.map (Pat.ren to)) : Pat.nodesL (Pat.renL to l) = (Pat.nodesL l).map (Pat.ren to) := by
 induction l with
 | nil => simp [Pat.renL, Pat.nodesL]
 | cons e r ih => rw [Pat.renL, Pat.nodesL, Pat.nodesL, h e (by simp), ih fun e he => h e (by simp [he]), List.map_append]
theorem Pat.ren_nodes (to : List Int) : ∀ p : Pat, (p.ren to).nodes = p.nodes.map (Pat.ren to) := Pat.ind fun o a t v s n c h => by
 rw [Pat.ren, Pat.nodes, Pat.nodes, List.map_cons, Pat.ren_nodesL h, Pat.ren]
theorem Pat.ren_op (to : List Int) (p : Pat) : (p.ren to).op = p.op := by obtain ⟨o, a, t, v, s, n, c⟩ := p; rw [Pat.ren]; rfl
theorem Pat.ren_cond (to : List Int) (p : Pat) : (p.ren to).cond = if condF p.op then p.cond.rename to else p.cond := by obtain ⟨o, a, t, v, s, n, c⟩ := p; rw [Pat.ren]; rfl
theorem Pat.exsL_nodes {l : List Pat} (h : ∀ e ∈ l, e.exs = e.nodes.map Pat.cond) : Pat.exsL l = (Pat.nodesL l).map Pat.cond := by
 induction l with
 | nil => simp [Pat.exsL, Pat.nodesL]
 | cons e r ih => rw [Pat.exsL, Pat.nodesL, h e (by simp), ih fun e he => h e (by simp [he]), List.map_append]
theorem Pat.exs_nodes : ∀ p : Pat, p.exs = p.nodes.map Pat.cond := Pat.ind fun o a t v s n c h => by
 rw [Pat.exs, Pat.nodes, List.map_cons, Pat.exsL_nodes h]; rfl
theorem Pat.Sm_iff (p : Pat) : p.Sm ↔ p.nodes.length ≤ 1048576 ∧ ∀ q ∈ p.nodes, q.cond.Sm := by
 rw [Pat.Sm, Pat.nodes_len, Pat.exs_nodes]; simp
theorem Pat.ren_sm {to : List Int} {p : Pat} (h : p.Sm) : (p.ren to).Sm := by
 have h2 := (Pat.Sm_iff p).1 h
 refine (Pat.Sm_iff _).2 ⟨by rw [Pat.ren_nodes]; simpa using h2.1, fun q hq => ?_⟩
 rw [Pat.ren_nodes] at hq
 obtain ⟨q0, hq0, rfl⟩ := List.mem_map.1 hq
 rw [Pat.ren_cond]
 split
 · exact Ex.rename_sm (h2.2 q0 hq0)
 · exact h2.2 q0 hq0
theorem enters_slices_Repeat___int_int_ : Enters EE.P 37 := enters_of (fn := Tryz.f37) (n := 48) (ac := Tryzc37) rfl (by decide) Tryzp37
theorem P_Number (p : Pat) (hs : p.Sm) : PCall EE 9 [p.enc] (.tup [p.numX.enc, .isl 1 (mapE int p.numO), int p.numE]) := by
 have h1 := P_whole p hs
 have hsn := hs.node
 have hs1 := hs.1
 have hnl := Pat.nodes_len p
 have hrep : OCall EE 37 [.isl 1 [int (-1)], int 16] (.sl 0 1 0 16) [.arr 1 (mapE int (toF []))] := ⟨enters_slices_Repeat___int_int_, by
  have e : mapE int (toF []) = List.replicate 16 (int (-1)) := by rw [mapE_eq]; rfl
  rw [e]; exact C_Repeat⟩
 have h2 := fun (hk : p.wholeE = 0) => P_renamed (toF (oldsF p.nodes)) p hs fun q hq => ⟨(nodeE_op ((wholeE_nodes hk).1 q hq)).1, (nodeE_op ((wholeE_nodes hk).1 q hq)).2, fun ht => ⟨(nodeE_var ((wholeE_nodes hk).1 q hq) ht).1, by
  have := (nodeE_var ((wholeE_nodes hk).1 q hq) ht).2; rw [toF_len]; omega⟩⟩
 have h3 := fun (hk : p.wholeE = 0) => P_numbered (p.ren (toF (oldsF p.nodes))) (Pat.ren_sm hs) (fun q hq => by
  rw [Pat.ren_nodes] at hq
  obtain ⟨q0, hq0, rfl⟩ := List.mem_map.1 hq
  rw [Pat.ren_op]
  exact nodeE_op ((wholeE_nodes hk).1 q0 hq0)) 0 (by omega) (by
   have := Pat.nsc_le (p.ren (toF (oldsF p.nodes))); have := (Pat.ren_sm (to := toF (oldsF p.nodes)) hs).1; omega)
 have hnq := fun (hk : p.wholeE = 0) => (wholeE_nodes hk).1
 have hcl := Pat.closed p
 obtain ⟨R, hR⟩ : ∃ R, R = p.numX := ⟨_, rfl⟩
 obtain ⟨R1, hR1⟩ : ∃ R, R = p.numO := ⟨_, rfl⟩
 obtain ⟨R2, hR2⟩ : ∃ R, R = p.numE := ⟨_, rfl⟩
 rw [← hR, ← hR1, ← hR2]
 unfold Pat.numX at hR
 unfold Pat.numO at hR1
 rw [← hR2] at hR hR1
 unfold Pat.numE at hR2
 generalize p.wholeE = rn at *
 have hec := Pat.closed (p.ren (toF (oldsF p.nodes)))
 have hnc := Pat.closed ((p.ren (toF (oldsF p.nodes))).numb 0)
 generalize (p.ren (toF (oldsF p.nodes))).numb 0 = en at *
 generalize (p.ren (toF (oldsF p.nodes))).nsc = ns at *
 generalize p.ren (toF (oldsF p.nodes)) = er at *
 obtain ⟨pcs, hpe⟩ := Pat.some_cells p
 have hpre := P_preorder p hpe
 have hml : (mapE int (toF [])).length = 16 := by rw [mapE_len, toF_len]
 obtain ⟨pO, pA, pT, pV, pS, pN, pCo, pCa, pCv, pCf, pCk, pXk, pXn, pXt, hx⟩ := Pat.form p
 rw [hx] at h1 h2 hcl hpe ⊢
 injection hpe with hpe
 subst hpe
 have hip : (AV.fn 67 [.iptr [int pO, .isl 14 pA, int pT, int pV, int pS, int pN, int pCo, .isl 8 pCa, int pCv, int pCf, int pCk, int pXk, int pXn, str pXt]]).closed = true := by simp only [closed_fn, AV.closedL, closed_iptr, Bool.and_true]; exact hcl
 have hpA : (AV.isl 14 pA).closed = true := by have := hcl; simp [AV.closed, AV.closedL] at this ⊢; exact this.1
 have hpCa : (AV.isl 8 pCa).closed = true := by have := hcl; simp [AV.closed, AV.closedL] at this ⊢; exact this.2
 refine wordsN ?_; unhygienic intros
 refine fn_body (fn := Tryz.f9) (n := 69) (ac := Tryzc9) (rvs := [.cell 2 14 true, .cell 3 1 false, .cell 4 1 false]) rfl (by decide) Tryzp9 rfl rfl rfl ?_
 by_cases g1 : rn = 0
 rotate_left
 · have k1 : iNe rn 0 = true := by simp only [ee]; simpa using g1
   rw [if_pos g1] at hR2
   rw [if_neg (by omega)] at hR hR1
   have hnil : mapE int [] = [] := by rw [mapE_eq]; rfl
   rw [hR, hR1, hR2, Pat0.enc_eq, hnil]
   refine goA 60 ?_
   refine oPA h1 ?_
   refine goB hX 0 (by conv => lhs; cbv; try simp only [k1]; cbv; try simp only [k1]; cbv; try simp only [k1]; cbv; try simp only [k1]; cbv) ?_
   refine goA 60 ?_
   refine fn_ret rfl rfl ?_
   exact ⟨[.gone, .gone, .gone, .gone], ⟨trivial, trivial, trivial, trivial, trivial⟩, .tup' ⟨.agg' ⟨.refl _, .nilI _, .refl _, .refl _, .refl _, .refl _, .refl _, .nilI _, .refl _, .refl _, .refl _, .refl _, .refl _, .refl _, trivial⟩, .nilI _, .refl _, trivial⟩⟩
 have k1 : iNe rn 0 = false := by simp only [ee]; simpa using g1
 rw [if_neg (by simpa using g1)] at hR2
 have h2 := h2 g1
 have h3 := h3 g1
 have hnq := hnq g1
 have hct0 : AV.closedL (mapE int (toF [])) = true := closedL_int _
 generalize hts0 : mapE int (toF []) = ts0 at *
 refine goA 60 ?_
 refine oPA h1 ?_
 refine goB hX 0 (by conv => lhs; cbv; try simp only [k1]; cbv; try simp only [k1]; cbv; try simp only [k1]; cbv; try simp only [k1]; cbv) ?_
 refine goA 60 ?_
 refine on_entO (F' := [(2, .ptr 1 0), (3, .ptr 2 0), (4, .ptr 3 0), (1, .ptr 0 0), (18, .isl 1 [int (-1)])]) (H' := [.cells [int pO, .isl 14 pA, int pT, int pV, int pS, int pN, int pCo, .isl 8 pCa, int pCv, int pCf, int pCk, int pXk, int pXn, str pXt], .cells [int 0, .val (.slice none 0 0), int 0, int 0, int 0, int 0, int 0, .val (.slice none 0 0), int 0, int 0, int 0, int 0, int 0, str ⟨#[]⟩], .cells [.val (.slice none 0 0)], .cells [int 0]]) ?_ ?_
 · exact (ent_sub [.to 0, .to 1, .to 2, .to 3, .isl 1 ([AV.val (Value.int IntKind.i64 (-1))])] [some 0, some 1, some 2, some 3] ⟨⟨by simp, rfl⟩, ⟨by simp, rfl⟩, ⟨by simp, rfl⟩, ⟨by simp, rfl⟩, ⟨_, rfl, (subL_closed _ (by rfl)).symm⟩, trivial⟩ ⟨osrc_cells (b := 0) rfl rfl rfl ⟨.refl _, .cl hpA, .refl _, .refl _, .refl _, .refl _, .refl _, .cl hpCa, .refl _, .refl _, .refl _, .refl _, .refl _, .refl _, trivial⟩, osrc_cells (b := 1) rfl rfl rfl ⟨.refl _, .refl _, .refl _, .refl _, .refl _, .refl _, .refl _, .refl _, .refl _, .refl _, .refl _, .refl _, .refl _, .refl _, trivial⟩, osrc_cells (b := 2) rfl rfl rfl ⟨.refl _, trivial⟩, osrc_cells (b := 3) rfl rfl rfl ⟨.refl _, trivial⟩, trivial⟩ ⟨.refl _, .refl _, .refl _, .refl _, .refl _, trivial⟩)
 refine on_ocall (args := [.isl 1 [int (-1)], int 16]) (v' := .sl 4 1 0 16) (H' := [.arr 1 ts0]) rfl rfl rfl hrep rfl rfl (by simp [AObj.sub, subL_closed _ hct0]) ?_
 refine goA 60 ?_
 refine oPA hpre ?_
 refine goA 60 ?_
 have hpre0 := hpre
 refine on_ent (F' := [(21, .fn 67 [.iptr [int pO, .isl 14 pA, int pT, int pV, int pS, int pN, int pCo, .isl 8 pCa, int pCv, int pCf, int pCk, int pXk, int pXn, str pXt]]), (1, .ptr 0 0), (2, .ptr 1 0), (3, .ptr 2 0), (4, .ptr 3 0), (6, .ptr 4 0), (7, .ptr 5 0)]) (H' := [.cells [int pO, .isl 14 pA, int pT, int pV, int pS, int pN, int pCo, .isl 8 pCa, int pCv, int pCf, int pCk, int pXk, int pXn, str pXt], .cells [int 0, .val (.slice none 0 0), int 0, int 0, int 0, int 0, int 0, .val (.slice none 0 0), int 0, int 0, int 0, int 0, int 0, str ⟨#[]⟩], .cells [.val (.slice none 0 0)], .cells [int 0], .cells [.sl 6 1 0 16], .cells [.val (.slice none 0 0)], .arr 1 ts0]) ?_ ?_
 · exact (ent_sub [.to 0, .to 1, .to 2, .to 3, .to 6, .to 4, .to 5] [some 0, some 1, some 2, some 3, some 5, some 6, some 4] ⟨⟨by simp, rfl⟩, ⟨by simp, rfl⟩, ⟨by simp, rfl⟩, ⟨by simp, rfl⟩, ⟨by simp, rfl⟩, ⟨by simp, rfl⟩, ⟨by simp, rfl⟩, trivial⟩ ⟨osrc_cells (b := 0) rfl rfl rfl ⟨.refl _, .cl hpA, .refl _, .refl _, .refl _, .refl _, .refl _, .cl hpCa, .refl _, .refl _, .refl _, .refl _, .refl _, .refl _, trivial⟩, osrc_cells (b := 1) rfl rfl rfl ⟨.refl _, .refl _, .refl _, .refl _, .refl _, .refl _, .refl _, .refl _, .refl _, .refl _, .refl _, .refl _, .refl _, .refl _, trivial⟩, osrc_cells (b := 2) rfl rfl rfl ⟨.refl _, trivial⟩, osrc_cells (b := 3) rfl rfl rfl ⟨.refl _, trivial⟩, osrc_cells (b := 5) rfl rfl rfl ⟨.refl _, trivial⟩, osrc_cells (b := 6) rfl rfl rfl ⟨.refl _, trivial⟩, osrc_arr (b := 4) rfl rfl rfl rfl hct0, trivial⟩ ⟨.cl hip, .refl _, .refl _, .refl _, .refl _, .refl _, .refl _, trivial⟩)
 refine on_preorder (fun _ => .cells [int pO, .isl 14 pA, int pT, int pV, int pS, int pN, int pCo, .isl 8 pCa, int pCv, int pCf, int pCk, int pXk, int pXn, str pXt]) (fun _ => .cells [int 0, .val (.slice none 0 0), int 0, int 0, int 0, int 0, int 0, .val (.slice none 0 0), int 0, int 0, int 0, int 0, int 0, str ⟨#[]⟩]) (fun _ => .cells [.val (.slice none 0 0)]) (fun _ => .cells [int 0]) (fun _ => .cells [.sl 6 1 0 16]) (fun d => .cells [.sl 8 1 0 (oldsF d).length]) (fun d => .arr 1 (mapE int (toF (oldsF d)))) (fun d => .arr 1 (mapE int (oldsF d))) (fun _ => .dead) (fun d => (oldsF d).Nodup) p hs hx rfl rfl ⟨.cl hip, .ptr (by decide), .ptr (by decide), .ptr (by decide), .ptr (by decide), .ptr (by decide), .ptr (by decide), trivial⟩ List.nodup_nil ?_ (fun _ => .cells ⟨.cl rfl, .cl hpA, .cl rfl, .cl rfl, .cl rfl, .cl rfl, .cl rfl, .cl hpCa, .cl rfl, .cl rfl, .cl rfl, .cl rfl, .cl rfl, .cl rfl, trivial⟩) (fun _ => .cells ⟨.cl rfl, .cl rfl, .cl rfl, .cl rfl, .cl rfl, .cl rfl, .cl rfl, .cl rfl, .cl rfl, .cl rfl, .cl rfl, .cl rfl, .cl rfl, .cl rfl, trivial⟩) (fun _ => .cells ⟨.cl rfl, trivial⟩) (fun _ => .cells ⟨.cl rfl, trivial⟩) (fun _ => .cells ⟨.sl (by decide), trivial⟩) (fun _ => .cells ⟨.sl (by decide), trivial⟩) (fun _ => .arr (closedL_int _)) (fun _ => .arr (closedL_int _)) (fun _ => .dead) (fun hall => ?_) (fun d q r hd hok => ?_)
 · have e : oldsF [] = [] := rfl
   have e2 : mapE int [] = [] := by rw [mapE_eq]; rfl
   rw [e, hts0, e2]
   exact (hent_sub [.to 0, .to 1, .to 2, .to 3, .to 4, .to 5, .to 6, .to 7] [some 0, some 1, some 2, some 3, some 4, some 5, some 6, some 7, none, none] rfl ⟨rfl, rfl, rfl, rfl, rfl, rfl, rfl, rfl, trivial⟩ (by simp) (by simp) ⟨⟨by simp, rfl⟩, ⟨by simp, rfl⟩, ⟨by simp, rfl⟩, ⟨by simp, rfl⟩, ⟨by simp, rfl⟩, ⟨by simp, rfl⟩, ⟨by simp, rfl⟩, ⟨by simp, rfl⟩, trivial⟩ ⟨osrc_cells (b := 0) rfl rfl rfl ⟨.refl _, .cl hpA, .refl _, .refl _, .refl _, .refl _, .refl _, .cl hpCa, .refl _, .refl _, .refl _, .refl _, .refl _, .refl _, trivial⟩, osrc_cells (b := 1) rfl rfl rfl ⟨.refl _, .refl _, .refl _, .refl _, .refl _, .refl _, .refl _, .refl _, .refl _, .refl _, .refl _, .refl _, .refl _, .refl _, trivial⟩, osrc_cells (b := 2) rfl rfl rfl ⟨.refl _, trivial⟩, osrc_cells (b := 3) rfl rfl rfl ⟨.refl _, trivial⟩, osrc_cells (b := 4) rfl rfl rfl ⟨.refl _, trivial⟩, osrc_cells (b := 5) rfl rfl rfl ⟨.nilS _ _ _ (by simp), trivial⟩, osrc_arr (b := 6) rfl rfl rfl rfl hct0, .some 7 _ _ rfl rfl rfl (.loop _ _ _ _ _ _ _ _ ⟨.cl hip, .refl _, .refl _, .refl _, .refl _, .refl _, .refl _, trivial⟩), .none _ rfl, .dead, trivial⟩)
 · rw [if_neg (fun h => h hall)] at hR2
   have hcto := closedL_int (toF (oldsF p.nodes))
   have hcol := closedL_int (oldsF p.nodes)
   have hoe : (mapE int (oldsF p.nodes)).length = (oldsF p.nodes).length := mapE_len ..
   have hoI := closedI_int (oldsF p.nodes)
   have htI := closedI_int (toF (oldsF p.nodes))
   have hlto := toF_len (oldsF p.nodes)
   have hq47 := fun (q : Pat) => P_ContainsFunc 42 [.iptr [.isl 1 (mapE int (toF (oldsF p.nodes)))]] (by simpa [AV.closedL, closed_iptr] using htI) (fun v => decide ((toF (oldsF p.nodes)).getD v.toNat 0 < 0)) q.cond.vars (by have := Ex.vars_len q.cond; omega) (fun x hx => P_num1 _ x (Ex.vars_mem hx).1 (by have := (Ex.vars_mem hx).2; rw [hlto]; exact this))
   generalize hto : toF (oldsF p.nodes) = to at *
   generalize hod : oldsF p.nodes = od at *
   generalize hts : mapE int to = ts at *
   generalize hos : mapE int od = os at *
   generalize od.length = m at *
   have htP : (AV.iptr [.isl 1 ts]).closed = true := by simpa [AV.closedL, closed_iptr] using htI
   refine goA 60 ?_
   refine oPA hpre ?_
   refine goA 60 ?_
   refine on_ent (F' := [(45, .fn 67 [.iptr [int pO, .isl 14 pA, int pT, int pV, int pS, int pN, int pCo, .isl 8 pCa, int pCv, int pCf, int pCk, int pXk, int pXn, str pXt]]), (1, .ptr 0 0), (2, .ptr 1 0), (3, .ptr 2 0), (4, .ptr 3 0), (6, .iptr [.isl 1 ts]), (7, .ptr 4 0)]) (H' := [.cells [int pO, .isl 14 pA, int pT, int pV, int pS, int pN, int pCo, .isl 8 pCa, int pCv, int pCf, int pCk, int pXk, int pXn, str pXt], .cells [int 0, .val (.slice none 0 0), int 0, int 0, int 0, int 0, int 0, .val (.slice none 0 0), int 0, int 0, int 0, int 0, int 0, str ⟨#[]⟩], .cells [.val (.slice none 0 0)], .cells [int 0], .cells [.isl 1 os], .dead, .dead]) ?_ ?_
   · have hl16 : 16 = ts.length := by rw [← hts, mapE_len, hlto]
     exact (ent_sub [.to 0, .to 1, .to 2, .to 3, .icells [.isl 1 ts], .to 4, .isl 1 ts, .gone, .isl 1 os, .gone] [some 0, some 1, some 2, some 3, some 5, none, none] ⟨⟨by simp, rfl⟩, ⟨by simp, rfl⟩, ⟨by simp, rfl⟩, ⟨by simp, rfl⟩, ⟨[.sl 6 1 0 16], rfl, (congrArg (fun x => [x]) (sub_whole (b := 6) (es := ts) rfl hl16)).symm⟩, ⟨by simp, rfl⟩, ⟨ts, rfl, (subL_closed _ hcto).symm⟩, trivial, ⟨os, rfl, (subL_closed _ hcol).symm⟩, trivial, trivial⟩ ⟨osrc_cells (b := 0) rfl rfl rfl ⟨.refl _, .cl hpA, .refl _, .refl _, .refl _, .refl _, .refl _, .cl hpCa, .refl _, .refl _, .refl _, .refl _, .refl _, .refl _, trivial⟩, osrc_cells (b := 1) rfl rfl rfl ⟨.refl _, .refl _, .refl _, .refl _, .refl _, .refl _, .refl _, .refl _, .refl _, .refl _, .refl _, .refl _, .refl _, .refl _, trivial⟩, osrc_cells (b := 2) rfl rfl rfl ⟨.refl _, trivial⟩, osrc_cells (b := 3) rfl rfl rfl ⟨.refl _, trivial⟩, osrc_cells (b := 5) rfl rfl rfl ⟨.of (sub_whole (b := 8) (es := os) rfl hoe.symm), trivial⟩, .dead, .dead, trivial⟩ ⟨.cl hip, .refl _, .refl _, .refl _, .refl _, .refl _, .refl _, trivial⟩)
   refine on_preorder (fun _ => .cells [int pO, .isl 14 pA, int pT, int pV, int pS, int pN, int pCo, .isl 8 pCa, int pCv, int pCf, int pCk, int pXk, int pXn, str pXt]) (fun _ => .cells [int 0, .val (.slice none 0 0), int 0, int 0, int 0, int 0, int 0, .val (.slice none 0 0), int 0, int 0, int 0, int 0, int 0, str ⟨#[]⟩]) (fun _ => .cells [.val (.slice none 0 0)]) (fun _ => .cells [int 0]) (fun _ => .cells [.isl 1 os]) (fun _ => .dead) (fun _ => .dead) (fun _ => .dead) (fun _ => .dead) (fun d => ∀ q ∈ d, lacksF to q = 0) p hs hx rfl rfl ⟨.cl hip, .ptr (by decide), .ptr (by decide), .ptr (by decide), .ptr (by decide), .cl (by simpa [AV.closedL, closed_iptr] using htI), .ptr (by decide), trivial⟩ (fun q hq => by cases hq) ?_ (fun _ => .cells ⟨.cl rfl, .cl hpA, .cl rfl, .cl rfl, .cl rfl, .cl rfl, .cl rfl, .cl hpCa, .cl rfl, .cl rfl, .cl rfl, .cl rfl, .cl rfl, .cl rfl, trivial⟩) (fun _ => .cells ⟨.cl rfl, .cl rfl, .cl rfl, .cl rfl, .cl rfl, .cl rfl, .cl rfl, .cl rfl, .cl rfl, .cl rfl, .cl rfl, .cl rfl, .cl rfl, .cl rfl, trivial⟩) (fun _ => .cells ⟨.cl rfl, trivial⟩) (fun _ => .cells ⟨.cl rfl, trivial⟩) (fun _ => .cells ⟨.cl hoI, trivial⟩) (fun _ => .dead) (fun _ => .dead) (fun _ => .dead) (fun _ => .dead) (fun hall2 => ?_) (fun d q r hd hok => ?_)
   · exact (hent_sub [.to 0, .to 1, .to 2, .to 3, .to 4, .gone, .gone, .to 7] [some 0, some 1, some 2, some 3, some 4, some 5, some 6, some 7, none, none] rfl ⟨rfl, rfl, rfl, rfl, rfl, rfl, rfl, rfl, trivial⟩ (by simp) (by simp) ⟨⟨by simp, rfl⟩, ⟨by simp, rfl⟩, ⟨by simp, rfl⟩, ⟨by simp, rfl⟩, ⟨by simp, rfl⟩, trivial, trivial, ⟨by simp, rfl⟩, trivial⟩ ⟨osrc_cells (b := 0) rfl rfl rfl ⟨.refl _, .cl hpA, .refl _, .refl _, .refl _, .refl _, .refl _, .cl hpCa, .refl _, .refl _, .refl _, .refl _, .refl _, .refl _, trivial⟩, osrc_cells (b := 1) rfl rfl rfl ⟨.refl _, .refl _, .refl _, .refl _, .refl _, .refl _, .refl _, .refl _, .refl _, .refl _, .refl _, .refl _, .refl _, .refl _, trivial⟩, osrc_cells (b := 2) rfl rfl rfl ⟨.refl _, trivial⟩, osrc_cells (b := 3) rfl rfl rfl ⟨.refl _, trivial⟩, osrc_cells (b := 4) rfl rfl rfl ⟨.cl hoI, trivial⟩, .dead, .dead, .some 7 _ _ rfl rfl rfl (.loop _ _ _ _ _ _ _ _ ⟨.cl hip, .refl _, .refl _, .refl _, .refl _, .cl htP, .refl _, trivial⟩), .dead, .dead, trivial⟩)
   · have hz : firstE (lacksF to) p.nodes = 0 := firstE_ok hall2
     rw [hz] at hR2
     rw [if_pos hR2] at hR hR1
     rw [hR1, hos, hR2, hR]
     obtain ⟨erO, erA, erT, erV, erS, erN, erCo, erCa, erCv, erCf, erCk, erXk, erXn, erXt, hxe⟩ := Pat.form er
     obtain ⟨enO, enA, enT, enV, enS, enN, enCo, enCa, enCv, enCf, enCk, enXk, enXn, enXt, hxn⟩ := Pat.form en
     rw [hxe, hxn] at h3
     rw [hxe] at h2 hec
     rw [hxn] at hnc ⊢
     refine goA 60 ?_
     refine oPA h2 ?_
     refine oPA h3 ?_
     refine goA 60 ?_
     refine tr_drawB rfl (by conv => lhs; cbv) rfl ?_
     refine tgA ?_
     refine tr_nil ⟨rfl, ?_, ?_⟩
     · simp only [LooksL, lookAll, List.append, List.cons_append, List.nil_append, List.append_nil]; and_intros <;> first | trivial | (intro hp; first | rfl | exact absurd (show false = true from hp) Bool.false_ne_true)
     refine goA 60 ?_
     refine fn_ret rfl rfl ?_
     exact ⟨[.gone, .gone, .gone, .gone, .gone, .gone, .gone, .gone, .gone, .gone, .gone], ⟨trivial, trivial, trivial, trivial, trivial, trivial, trivial, trivial, trivial, trivial, trivial, trivial⟩, .tup' ⟨.cl hnc, .cl hoI, .refl _, trivial⟩⟩
   · have hqs := hsn q (by rw [hd]; simp)
     have hvr := P_Variables q.cond hqs.cond'
     have hq47 := hq47 q
     have hvI := closedI_int q.cond.vars
     have hqn := hnq q (by rw [hd]; simp)
     have hqo := nodeE_op hqn
     have hrow := shape_row hqo.1 hqo.2
     have hqc := Pat.closed q
     have hqcc := Ex.closed q.cond
     have hfe := fun h => firstE_at (F := lacksF to) (r := r) hok (q := q) h
     rw [← hd] at hfe
     have hok2 : lacksF to q = 0 → ∀ q' ∈ d ++ [q], lacksF to q' = 0 := fun h q' hq' => by
      rcases List.mem_append.1 hq' with h' | h'
      · exact hok q' h'
      · simp at h'; rw [h']; exact h
     have hla : lacksF to q = if condF q.op = true ∧ (q.cond.vars.any fun v => decide (to.getD v.toNat 0 < 0)) = true then 6 else 0 := rfl
     have hrw : rowA (Classical.choice tabBox_ne).g q.op 6 = [int (leastF q.op), int (mostF q.op), bool (typedF q.op), bool (condF q.op), bool (scopeF q.op), bool (spanF q.op)] := by rw [e_rowA]; exact hrow
     generalize leastF q.op = lo at *
     generalize mostF q.op = mo at *
     generalize typedF q.op = ty at *
     generalize hcd : condF q.op = cd at *
     generalize scopeF q.op = sc at *
     generalize spanF q.op = sp at *
     generalize mapE int q.cond.vars = vs at *
     generalize (q.cond.vars.any fun v => decide (to.getD v.toNat 0 < 0)) = hb at *
     generalize lacksF to q = la at *
     clear hrow hcd
     obtain ⟨qO, qA, qT, qV, qS, qN, qCo, qCa, qCv, qCf, qCk, qXk, qXn, qXt, hx2, hx2c, hqO, hqA, hqT, hqV, hqS, hqN⟩ := Pat.form2 q
     rw [hx2] at hqc ⊢
     rw [hx2c] at hvr hqcc
     simp only [← hqO, ← hqV, ← hqS] at *
     clear hx2 hx2c hqO hqA hqT hqV hqS hqN hqn
     cases cd with
     | false =>
      rw [if_neg (fun h => by cases h.1)] at hla
      have hok2 := hok2 hla
      refine goA 60 ?_
      refine rnd_assign rfl ?_
      refine goB hX 0 (by conv => lhs; cbv; try simp only [hrw]; cbv; try simp only [hrw]; cbv; try simp only [hrw]; cbv; try simp only [hrw]; cbv) ?_
      refine goA 60 ?_
      exact rnd_next rfl hok2 (hent_sub [.to 0, .to 1, .to 2, .to 3, .to 4, .gone, .gone, .to 7, .gone, .gone, .gone] [some 0, some 1, some 2, some 3, some 4, some 5, some 6, some 7, none, none] rfl ⟨rfl, rfl, rfl, rfl, rfl, rfl, rfl, rfl, trivial⟩ (by simp) (by simp) ⟨⟨by simp, rfl⟩, ⟨by simp, rfl⟩, ⟨by simp, rfl⟩, ⟨by simp, rfl⟩, ⟨by simp, rfl⟩, trivial, trivial, ⟨by simp, rfl⟩, trivial, trivial, trivial, trivial⟩ ⟨osrc_cells (b := 0) rfl rfl rfl ⟨.refl _, .cl hpA, .refl _, .refl _, .refl _, .refl _, .refl _, .cl hpCa, .refl _, .refl _, .refl _, .refl _, .refl _, .refl _, trivial⟩, osrc_cells (b := 1) rfl rfl rfl ⟨.refl _, .refl _, .refl _, .refl _, .refl _, .refl _, .refl _, .refl _, .refl _, .refl _, .refl _, .refl _, .refl _, .refl _, trivial⟩, osrc_cells (b := 2) rfl rfl rfl ⟨.refl _, trivial⟩, osrc_cells (b := 3) rfl rfl rfl ⟨.refl _, trivial⟩, osrc_cells (b := 4) rfl rfl rfl ⟨.cl hoI, trivial⟩, .dead, .dead, .some 7 _ _ rfl rfl rfl (.loop _ _ _ _ _ _ _ _ ⟨.cl hip, .refl _, .refl _, .refl _, .refl _, .cl htP, .refl _, trivial⟩), .dead, .dead, trivial⟩)
     | true =>
      cases hb with
      | false =>
       rw [if_neg (fun h => by cases h.2)] at hla
       have hok2 := hok2 hla
       refine goA 60 ?_
       refine rnd_assign rfl ?_
       refine goB hX 0 (by conv => lhs; cbv; try simp only [hrw]; cbv; try simp only [hrw]; cbv; try simp only [hrw]; cbv; try simp only [hrw]; cbv) ?_
       refine goA 60 ?_
       refine oPG hvr ?_
       refine goA 60 ?_
       refine oPG hq47 ?_
       refine goA 60 ?_
       exact rnd_next rfl hok2 (hent_sub [.to 0, .to 1, .to 2, .to 3, .to 4, .gone, .gone, .to 7, .gone, .gone, .gone] [some 0, some 1, some 2, some 3, some 4, some 5, some 6, some 7, none, none] rfl ⟨rfl, rfl, rfl, rfl, rfl, rfl, rfl, rfl, trivial⟩ (by simp) (by simp) ⟨⟨by simp, rfl⟩, ⟨by simp, rfl⟩, ⟨by simp, rfl⟩, ⟨by simp, rfl⟩, ⟨by simp, rfl⟩, trivial, trivial, ⟨by simp, rfl⟩, trivial, trivial, trivial, trivial⟩ ⟨osrc_cells (b := 0) rfl rfl rfl ⟨.refl _, .cl hpA, .refl _, .refl _, .refl _, .refl _, .refl _, .cl hpCa, .refl _, .refl _, .refl _, .refl _, .refl _, .refl _, trivial⟩, osrc_cells (b := 1) rfl rfl rfl ⟨.refl _, .refl _, .refl _, .refl _, .refl _, .refl _, .refl _, .refl _, .refl _, .refl _, .refl _, .refl _, .refl _, .refl _, trivial⟩, osrc_cells (b := 2) rfl rfl rfl ⟨.refl _, trivial⟩, osrc_cells (b := 3) rfl rfl rfl ⟨.refl _, trivial⟩, osrc_cells (b := 4) rfl rfl rfl ⟨.cl hoI, trivial⟩, .dead, .dead, .some 7 _ _ rfl rfl rfl (.loop _ _ _ _ _ _ _ _ ⟨.cl hip, .refl _, .refl _, .refl _, .refl _, .cl htP, .refl _, trivial⟩), .dead, .dead, trivial⟩)
      | true =>
       rw [if_pos ⟨rfl, rfl⟩] at hla
       rw [hfe (by omega)] at hR2
       rw [if_neg (by omega)] at hR hR1
       have hnil : mapE int [] = [] := by rw [mapE_eq]; rfl
       rw [hR, hR1, hR2, hla, Pat0.enc_eq, hnil]
       refine goA 60 ?_
       refine rnd_assign rfl ?_
       refine goB hX 0 (by conv => lhs; cbv; try simp only [hrw]; cbv; try simp only [hrw]; cbv; try simp only [hrw]; cbv; try simp only [hrw]; cbv) ?_
       refine goA 60 ?_
       refine oPG hvr ?_
       refine goA 60 ?_
       refine oPG hq47 ?_
       refine goA 60 ?_
       refine rnd_stop (by simp) rfl ?_
       refine goA 60 ?_
       refine fn_ret rfl rfl ?_
       exact ⟨[.gone, .gone, .gone, .gone, .gone, .gone, .gone, .gone, .gone, .gone, .gone], ⟨trivial, trivial, trivial, trivial, trivial, trivial, trivial, trivial, trivial, trivial, trivial, trivial⟩, .tup' ⟨.agg' ⟨.refl _, .nilI _, .refl _, .refl _, .refl _, .refl _, .refl _, .nilI _, .refl _, .refl _, .refl _, .refl _, .refl _, .refl _, trivial⟩, .nilI _, .refl _, trivial⟩⟩
 · have hqn := hnq q (by rw [hd]; simp)
   have hqo := nodeE_op hqn
   have hqv := nodeE_var hqn
   have hrow := shape_row hqo.1 hqo.2
   have hqc := Pat.closed q
   have hdl : d.length < 1048576 := by have := congrArg List.length hd; simp at this; omega
   have hol := oldsF_len d
   have hcon := P_Contains (oldsF d) q.var (by omega)
   have e1 := oldsF_snoc d q
   have e2 := toF_snoc (oldsF d) q.var
   have hrw : rowA (Classical.choice tabBox_ne).g q.op 6 = [int (leastF q.op), int (mostF q.op), bool (typedF q.op), bool (condF q.op), bool (scopeF q.op), bool (spanF q.op)] := by rw [e_rowA]; exact hrow
   have hdup : typedF q.op = true → q.var ∈ oldsF d → ¬ (oldsF p.nodes).Nodup := fun a b h => by
    have e3 : oldsF p.nodes = oldsF (d ++ [q]) ++ oldsF r := by rw [hd, show d ++ q :: r = (d ++ [q]) ++ r by simp, oldsF_append]
    rw [e3, e1, if_pos a] at h
    have := (List.nodup_append.1 (List.nodup_append.1 h).1).2.2 _ b q.var (by simp)
    exact this rfl
   have hndn : typedF q.op = true → q.var ∉ oldsF d → (oldsF d ++ [q.var]).Nodup := fun a b => by
    rw [List.nodup_append]
    refine ⟨hok, by simp, fun x hx y hy => ?_⟩
    simp at hy; subst hy; intro h; subst h; exact b hx
   have hcto := closedL_int (toF (oldsF d))
   have hcol := closedL_int (oldsF d)
   have hlto := toF_len (oldsF d)
   have hlte : (mapE int (toF (oldsF d))).length = 16 := by rw [mapE_len, hlto]
   generalize leastF q.op = lo at *
   generalize mostF q.op = mo at *
   generalize hty : typedF q.op = ty at *
   generalize condF q.op = cd at *
   generalize scopeF q.op = sc at *
   generalize spanF q.op = sp at *
   clear hrow hty
   obtain ⟨qO, qA, qT, qV, qS, qN, qCo, qCa, qCv, qCf, qCk, qXk, qXn, qXt, hx2, hx2c, hqO, hqA, hqT, hqV, hqS, hqN⟩ := Pat.form2 q
   rw [hx2] at hqc ⊢
   simp only [← hqO, ← hqV, ← hqS] at *
   clear hx2 hx2c hqO hqA hqT hqV hqS hqN hqn
   cases ty with
   | false =>
    rw [if_neg (by decide)] at e1
    rw [e1]
    generalize mapE int (toF (oldsF d)) = ts at *
    generalize mapE int (oldsF d) = os at *
    generalize (oldsF d).length = m at *
    refine goA 60 ?_
    refine rnd_assign rfl ?_
    refine goB hX 0 (by conv => lhs; cbv; try simp only [hrw]; cbv; try simp only [hrw]; cbv; try simp only [hrw]; cbv; try simp only [hrw]; cbv) ?_
    refine goA 60 ?_
    exact rnd_next rfl hok (hent_sub [.to 0, .to 1, .to 2, .to 3, .to 4, .to 5, .to 6, .to 7, .to 8, .gone, .gone] [some 0, some 1, some 2, some 3, some 4, some 5, some 6, some 7, some 8, none] rfl ⟨rfl, rfl, rfl, rfl, rfl, rfl, rfl, rfl, trivial⟩ (by simp) (by simp) ⟨⟨by simp, rfl⟩, ⟨by simp, rfl⟩, ⟨by simp, rfl⟩, ⟨by simp, rfl⟩, ⟨by simp, rfl⟩, ⟨by simp, rfl⟩, ⟨by simp, rfl⟩, ⟨by simp, rfl⟩, ⟨by simp, rfl⟩, trivial, trivial, trivial⟩ ⟨osrc_cells (b := 0) rfl rfl rfl ⟨.refl _, .cl hpA, .refl _, .refl _, .refl _, .refl _, .refl _, .cl hpCa, .refl _, .refl _, .refl _, .refl _, .refl _, .refl _, trivial⟩, osrc_cells (b := 1) rfl rfl rfl ⟨.refl _, .refl _, .refl _, .refl _, .refl _, .refl _, .refl _, .refl _, .refl _, .refl _, .refl _, .refl _, .refl _, .refl _, trivial⟩, osrc_cells (b := 2) rfl rfl rfl ⟨.refl _, trivial⟩, osrc_cells (b := 3) rfl rfl rfl ⟨.refl _, trivial⟩, osrc_cells (b := 4) rfl rfl rfl ⟨.refl _, trivial⟩, osrc_cells (b := 5) rfl rfl rfl ⟨.refl _, trivial⟩, osrc_arr (b := 6) rfl rfl rfl rfl hcto, .some 7 _ _ rfl rfl rfl (.loop _ _ _ _ _ _ _ _ ⟨.cl hip, .refl _, .refl _, .refl _, .refl _, .refl _, .refl _, trivial⟩), osrc_arr (b := 8) rfl rfl rfl rfl hcol, .dead, trivial⟩)
   | true =>
    rw [if_pos rfl] at e1
    have hqv := hqv rfl
    by_cases hin : qV ∈ oldsF d
    · have hdup := hdup rfl hin
      rw [decide_eq_true hin] at hcon
      have hoe : (mapE int (oldsF d)).length = (oldsF d).length := mapE_len ..
      rw [if_pos hdup] at hR2
      rw [if_neg (by omega)] at hR hR1
      have hnil : mapE int [] = [] := by rw [mapE_eq]; rfl
      rw [hR, hR1, hR2, Pat0.enc_eq, hnil]
      generalize mapE int (toF (oldsF d)) = ts at *
      generalize mapE int (oldsF d) = os at *
      generalize (oldsF d).length = m at *
      refine goA 60 ?_
      refine rnd_assign rfl ?_
      refine goB hX 0 (by conv => lhs; cbv; try simp only [hrw]; cbv; try simp only [hrw]; cbv; try simp only [hrw]; cbv; try simp only [hrw]; cbv) ?_
      refine goA 60 ?_
      refine on_lcall (args := [.sl 8 1 0 m, int qV]) (args' := [.isl 1 os, int qV]) [.gone, .gone, .gone, .gone, .gone, .gone, .gone, .gone, .isl 1 os, .gone, .gone] rfl rfl rfl ⟨trivial, trivial, trivial, trivial, trivial, trivial, trivial, trivial, ⟨os, rfl, (subL_closed _ hcol).symm⟩, trivial, trivial, trivial⟩ ?_ hcon rfl ?_
      · show [AV.sub _ (.sl 8 1 0 m), _] = _
        rw [sub_whole (es := os) rfl hoe.symm]
        rfl
      refine goA 60 ?_
      refine rnd_stop (by simp) rfl ?_
      refine goA 60 ?_
      refine fn_ret rfl rfl ?_
      exact ⟨[.gone, .gone, .gone, .gone, .gone, .gone, .gone, .gone, .gone, .gone, .gone], ⟨trivial, trivial, trivial, trivial, trivial, trivial, trivial, trivial, trivial, trivial, trivial, trivial⟩, .tup' ⟨.agg' ⟨.refl _, .nilI _, .refl _, .refl _, .refl _, .refl _, .refl _, .nilI _, .refl _, .refl _, .refl _, .refl _, .refl _, .refl _, trivial⟩, .nilI _, .refl _, trivial⟩⟩
    · rw [decide_eq_false hin] at hcon
      have hndn := hndn rfl hin
      rw [e1, e2]
      have hoe : (mapE int (oldsF d)).length = (oldsF d).length := mapE_len ..
      have e4 : mapE int (oldsF d ++ [qV]) = catA (dropA (mapE int (oldsF d)) 0) (partA [int qV] 0 1) := by simp only [ee]; rw [mapE_snoc]; simp
      have e5 : (oldsF d ++ [qV]).length = addN (oldsF d).length (lenN (partA [int qV] 0 1)) := by simp only [ee]; simp
      have e6 : mapE int ((toF (oldsF d)).set qV.toNat (oldsF d).length) = setA (mapE int (toF (oldsF d))) (idxN 0 qV) (int (iOf (oldsF d).length)) := by simp only [ee]; rw [mapE_set]; simp
      have hcb2 : AV.closedL (catA (dropA (mapE int (oldsF d)) 0) (partA [int qV] 0 1)) = true := by rw [← e4]; exact closedL_int _
      have hcs2 : AV.closedL (setA (mapE int (toF (oldsF d))) (idxN 0 qV) (int (iOf (oldsF d).length))) = true := by rw [← e6]; exact closedL_int _
      rw [e4, e5, e6]
      generalize (oldsF d ++ [qV]).Nodup = nd at *
      clear e1 e2 e4 e5 e6 hdup hin
      generalize mapE int (toF (oldsF d)) = ts at *
      generalize mapE int (oldsF d) = os at *
      generalize (oldsF d).length = m at *
      refine goA 60 ?_
      refine rnd_assign rfl ?_
      refine goB hX 0 (by conv => lhs; cbv; try simp only [hrw]; cbv; try simp only [hrw]; cbv; try simp only [hrw]; cbv; try simp only [hrw]; cbv) ?_
      refine goA 60 ?_
      refine on_lcall (args := [.sl 8 1 0 m, int qV]) (args' := [.isl 1 os, int qV]) [.gone, .gone, .gone, .gone, .gone, .gone, .gone, .gone, .isl 1 os, .gone, .gone] rfl rfl rfl ⟨trivial, trivial, trivial, trivial, trivial, trivial, trivial, trivial, ⟨os, rfl, (subL_closed _ hcol).symm⟩, trivial, trivial, trivial⟩ ?_ hcon rfl ?_
      · show [AV.sub _ (.sl 8 1 0 m), _] = _
        rw [sub_whole (es := os) rfl hoe.symm]
        rfl
      refine goA 60 ?_
      exact rnd_next rfl hndn (hent_sub [.to 0, .to 1, .to 2, .to 3, .to 4, .to 5, .to 6, .to 7, .gone, .gone, .gone, .gone, .to 8] [some 0, some 1, some 2, some 3, some 4, some 5, some 6, some 7, some 12, none] rfl ⟨rfl, rfl, rfl, rfl, rfl, rfl, rfl, rfl, trivial⟩ (by simp) (by simp) ⟨⟨by simp, rfl⟩, ⟨by simp, rfl⟩, ⟨by simp, rfl⟩, ⟨by simp, rfl⟩, ⟨by simp, rfl⟩, ⟨by simp, rfl⟩, ⟨by simp, rfl⟩, ⟨by simp, rfl⟩, trivial, trivial, trivial, trivial, ⟨by simp, rfl⟩, trivial⟩ ⟨osrc_cells (b := 0) rfl rfl rfl ⟨.refl _, .cl hpA, .refl _, .refl _, .refl _, .refl _, .refl _, .cl hpCa, .refl _, .refl _, .refl _, .refl _, .refl _, .refl _, trivial⟩, osrc_cells (b := 1) rfl rfl rfl ⟨.refl _, .refl _, .refl _, .refl _, .refl _, .refl _, .refl _, .refl _, .refl _, .refl _, .refl _, .refl _, .refl _, .refl _, trivial⟩, osrc_cells (b := 2) rfl rfl rfl ⟨.refl _, trivial⟩, osrc_cells (b := 3) rfl rfl rfl ⟨.refl _, trivial⟩, osrc_cells (b := 4) rfl rfl rfl ⟨.refl _, trivial⟩, osrc_cells (b := 5) rfl rfl rfl ⟨.refl _, trivial⟩, osrc_arr (b := 6) rfl rfl rfl rfl hcs2, .some 7 _ _ rfl rfl rfl (.loop _ _ _ _ _ _ _ _ ⟨.cl hip, .refl _, .refl _, .refl _, .refl _, .refl _, .refl _, trivial⟩), osrc_arr (b := 12) rfl rfl rfl rfl hcb2, .dead, trivial⟩)
def bndF (l : List Pat) : List Int := (l.filter fun q => decide (q.op = 0)).map Pat.var
def Pat.bound (p : Pat) : List Int := Lib.compact (sortI (bndF p.nodes))
theorem bndF_snoc (d : List Pat) (q : Pat) : bndF (d ++ [q]) = if q.op = 0 then bndF d ++ [q.var] else bndF d := by
 unfold bndF
 rw [List.filter_append, List.map_append]
 by_cases h : q.op = 0 <;> simp [List.filter_cons, h]
theorem bndF_len (d : List Pat) : (bndF d).length ≤ d.length := by
 unfold bndF; rw [List.length_map]; exact List.length_filter_le ..
theorem sort_len (l : List Int) : (sortI l).length = l.length := by simp [sortI, List.length_mergeSort]
theorem enters_slices_Sort___int_int_ : Enters EE.P 58 := enters_of (fn := Tryz.f58) (n := 11) (ac := Tryzc58) rfl (by decide) Tryzp58
theorem enters_slices_Compact___int_int_ : Enters EE.P 59 := enters_of (fn := Tryz.f59) (n := 61) (ac := Tryzc59) rfl (by decide) Tryzp59
theorem C_Sort (l : List Int) (hl : l.length < 4611686018427387904) : ACall EE 58 [.sl 0 1 0 l.length] [.arr 1 (mapE int l)] fun v H' => v = .tup [] ∧ H' = [.arr 1 (mapE int (sortI l))] := by
 have := sort_acall (E := EE) Tryz.lays189 l hl
 rw [mapE_eq, mapE_eq]
 exact this
theorem C_Compact (l : List Int) (hl : l.length < 4611686018427387904) : ACall EE 59 [.sl 0 1 0 l.length] [.arr 1 (mapE int l)] fun v H' => v = .sl 0 1 0 (Lib.compact l).length ∧ H' = [.arr 1 (mapE int (compI l))] := by
 have := comp_acall (E := EE) Tryz.laysNm220 l (by omega)
 rw [mapE_eq, mapE_eq]
 exact this
theorem P_Bound (p : Pat) (hs : p.Sm) : PCall EE 24 [p.enc] (.isl 1 (mapE int p.bound)) := by
 have hcl := Pat.closed p
 have hcnt := Pat.nodes_len p
 have hs1 := hs.1
 obtain ⟨R, hR⟩ : ∃ R, R = p.bound := ⟨_, rfl⟩
 rw [← hR]
 unfold Pat.bound at hR
 obtain ⟨pcs, hpe⟩ := Pat.some_cells p
 have hpre := P_preorder p hpe
 obtain ⟨pO, pA, pT, pV, pS, pN, pCo, pCa, pCv, pCf, pCk, pXk, pXn, pXt, hx⟩ := Pat.form p
 rw [hx] at hcl hpe ⊢
 injection hpe with hpe
 subst hpe
 have hip : (AV.fn 67 [.iptr [int pO, .isl 14 pA, int pT, int pV, int pS, int pN, int pCo, .isl 8 pCa, int pCv, int pCf, int pCk, int pXk, int pXn, str pXt]]).closed = true := by simp only [closed_fn, AV.closedL, closed_iptr, Bool.and_true]; exact hcl
 have hpA : (AV.isl 14 pA).closed = true := by have := hcl; simp [AV.closed, AV.closedL] at this ⊢; exact this.1
 have hpCa : (AV.isl 8 pCa).closed = true := by have := hcl; simp [AV.closed, AV.closedL] at this ⊢; exact this.2
 have hnil : mapE int [] = [] := by rw [mapE_eq]; rfl
 refine wordsN ?_; unhygienic intros
 refine fn_body (fn := Tryz.f24) (n := 20) (ac := Tryzc24) (rvs := [.t 2]) rfl (by decide) Tryzp24 rfl rfl rfl ?_
 refine goA 60 ?_
 refine oPA hpre ?_
 refine goA 60 ?_
 refine on_ent (F' := [(6, .fn 67 [.iptr [int pO, .isl 14 pA, int pT, int pV, int pS, int pN, int pCo, .isl 8 pCa, int pCv, int pCf, int pCk, int pXk, int pXn, str pXt]]), (3, .ptr 0 0)]) (H' := [.cells [.val (.slice none 0 0)], .dead, .dead, .dead, .dead, .dead, .dead]) ?_ ?_
 · exact (ent_sub [.gone, .to 0] [some 1, none, none, none, none, none, none] ⟨trivial, ⟨by simp, rfl⟩, trivial⟩ ⟨osrc_cells (b := 1) rfl rfl rfl ⟨.refl _, trivial⟩, .dead, .dead, .dead, .dead, .dead, .dead, trivial⟩ ⟨.cl hip, .refl _, trivial⟩)
 refine on_preorder (fun d => .cells [.sl 8 1 0 (bndF d).length]) (fun _ => .dead) (fun _ => .dead) (fun _ => .dead) (fun _ => .dead) (fun _ => .dead) (fun _ => .dead) (fun d => .arr 1 (mapE int (bndF d))) (fun _ => .dead) (fun _ => True) p hs hx rfl rfl ⟨.cl hip, .ptr (by decide), trivial⟩ trivial ?_ (fun _ => .cells ⟨.sl (by decide), trivial⟩) (fun _ => .dead) (fun _ => .dead) (fun _ => .dead) (fun _ => .dead) (fun _ => .dead) (fun _ => .dead) (fun _ => .arr (closedL_int _)) (fun _ => .dead) (fun _ => ?_) (fun d q r hd _ => ?_)
 · have e : bndF [] = [] := rfl
   rw [e, hnil]
   exact (hent_sub [.to 0, .gone, .gone, .gone, .gone, .gone, .gone, .to 7] [some 0, some 1, some 2, some 3, some 4, some 5, some 6, some 7, none, none] rfl ⟨rfl, rfl, rfl, rfl, rfl, rfl, rfl, rfl, trivial⟩ (by simp) (by simp) ⟨⟨by simp, rfl⟩, trivial, trivial, trivial, trivial, trivial, trivial, ⟨by simp, rfl⟩, trivial⟩ ⟨osrc_cells (b := 0) rfl rfl rfl ⟨.nilS _ _ _ (by simp), trivial⟩, .dead, .dead, .dead, .dead, .dead, .dead, .some 7 _ _ rfl rfl rfl (.loop _ _ _ _ _ _ _ _ ⟨.cl hip, .refl _, trivial⟩), .none _ rfl, .dead, trivial⟩)
 · have hbl := bndF_len p.nodes
   have hR2 : mapE int R = (mapE int (compI (sortI (bndF p.nodes)))).take R.length := by
    rw [hR, compI, mapE_eq, mapE_eq, List.map_append, List.take_left' (by simp)]
   have hle : R.length ≤ (mapE int (compI (sortI (bndF p.nodes)))).length := by
    rw [hR, mapE_len, compI_len]; exact compact_le _
   have hss := C_Sort (bndF p.nodes) (by omega)
   have hcc := C_Compact (sortI (bndF p.nodes)) (by rw [sort_len]; omega)
   rw [← hR, sort_len] at hcc
   have c1 := closedL_int (bndF p.nodes)
   have c2 := closedL_int (sortI (bndF p.nodes))
   have c3 := closedL_int (compI (sortI (bndF p.nodes)))
   generalize R.length = rl at *
   generalize (bndF p.nodes).length = m1 at *
   generalize mapE int (compI (sortI (bndF p.nodes))) = w3 at *
   generalize mapE int (sortI (bndF p.nodes)) = w2 at *
   generalize mapE int (bndF p.nodes) = w1 at *
   generalize mapE int R = rs at *
   refine goA 60 ?_
   refine on_fcall [8] rfl rfl enters_slices_Sort___int_int_ hss (by decide) (by simp) (by show _ = [AObj.arr 1 (AV.subL _ w1)]; rw [subL_closed _ c1]) rfl ?_
   rintro v0 H' ⟨rfl, rfl⟩ -
   refine on_entO (F' := [(3, .ptr 0 0)]) (H' := [.cells [.sl 1 1 0 m1], .arr 1 w2]) ?_ ?_
   · exact (ent_sub [.to 0, .gone, .gone, .gone, .gone, .gone, .gone, .gone, .to 1, .gone] [some 0, some 8] ⟨⟨by simp, rfl⟩, trivial, trivial, trivial, trivial, trivial, trivial, trivial, ⟨by simp, rfl⟩, trivial, trivial⟩ ⟨osrc_cells (b := 0) rfl rfl rfl ⟨.refl _, trivial⟩, osrc_arr (b := 8) rfl rfl rfl (Go.Am.subL_closed _ c2) c2, trivial⟩ ⟨.refl _, trivial⟩)
   refine goA 60 ?_
   refine on_fcall [1] rfl rfl enters_slices_Compact___int_int_ hcc (by decide) (by simp) (by show _ = [AObj.arr 1 (AV.subL _ w2)]; rw [subL_closed _ c2]) rfl ?_
   rintro v0 H' ⟨rfl, rfl⟩ -
   refine on_entO (F' := [(19, .sl 0 1 0 rl)]) (H' := [.arr 1 w3]) ?_ ?_
   · exact (ent_sub [.gone, .to 0] [some 1] ⟨trivial, ⟨by simp, rfl⟩, trivial⟩ ⟨osrc_arr (b := 1) rfl rfl rfl (Go.Am.subL_closed _ c3) c3, trivial⟩ ⟨.refl _, trivial⟩)
   refine goA 60 ?_
   refine fn_ret rfl rfl ?_
   exact ⟨[.isl 1 w3], ⟨⟨w3, rfl, (subL_closed _ c3).symm⟩, trivial⟩, .of (sub_part rfl (by simpa using hle) (by simpa using hR2.symm))⟩
 · have hqc := Pat.closed q
   have hdl : d.length < 1048576 := by have := congrArg List.length hd; simp at this; omega
   have hbl := bndF_len d
   have e1 := bndF_snoc d q
   generalize bndF (d ++ [q]) = b2 at *
   generalize bndF d = b1 at *
   obtain ⟨qO, qA, qT, qV, qS, qN, qCo, qCa, qCv, qCf, qCk, qXk, qXn, qXt, hx2, hx2c, hqO, hqA, hqT, hqV, hqS, hqN⟩ := Pat.form2 q
   rw [hx2] at hqc ⊢
   simp only [← hqO, ← hqV, ← hqS] at *
   clear hx2 hx2c hqO hqA hqT hqV hqS hqN
   by_cases hq0 : qO = 0
   · have k1 : iEq qO 0 = true := by simp only [ee]; simpa using hq0
     rw [if_pos hq0] at e1
     have e2 : mapE int b2 = mapE int b1 ++ [int qV] := by rw [e1, mapE_eq, mapE_eq, List.map_append]; rfl
     have e3 : b2.length = b1.length + 1 := by rw [e1]; simp
     have hml : (mapE int b1).length = b1.length := mapE_len ..
     have hcb := closedL_int b1
     generalize b2.length = m2 at *
     generalize b1.length = m1 at *
     generalize mapE int b2 = w2 at *
     generalize mapE int b1 = w1 at *
     have e4 : w2 = catA (dropA w1 0) (partA [int qV] 0 1) := by simp only [ee]; simpa using e2
     have e5 : m2 = addN m1 (lenN (partA [int qV] 0 1)) := by simp only [ee]; simpa using e3
     have hcb2 : AV.closedL (catA (dropA w1 0) (partA [int qV] 0 1)) = true := by simp only [ee]; exact closedL_append (by simpa using hcb) rfl
     clear e2 e3 e1
     subst e4 e5
     refine goA 60 ?_
     refine rnd_assign rfl ?_
     refine goB hX 0 (by conv => lhs; cbv; try simp only [k1]; cbv; try simp only [k1]; cbv; try simp only [k1]; cbv; try simp only [k1]; cbv) ?_
     refine goA 60 ?_
     exact rnd_next rfl trivial (hent_sub [.to 0, .gone, .gone, .gone, .gone, .gone, .gone, .to 7, .gone, .gone, .gone, .gone, .to 8] [some 0, some 1, some 2, some 3, some 4, some 5, some 6, some 7, some 12, none] rfl ⟨rfl, rfl, rfl, rfl, rfl, rfl, rfl, rfl, trivial⟩ (by simp) (by simp) ⟨⟨by simp, rfl⟩, trivial, trivial, trivial, trivial, trivial, trivial, ⟨by simp, rfl⟩, trivial, trivial, trivial, trivial, ⟨by simp, rfl⟩, trivial⟩ ⟨osrc_cells (b := 0) rfl rfl rfl ⟨.refl _, trivial⟩, .dead, .dead, .dead, .dead, .dead, .dead, .some 7 _ _ rfl rfl rfl (.loop _ _ _ _ _ _ _ _ ⟨.cl hip, .refl _, trivial⟩), osrc_arr (b := 12) rfl rfl rfl rfl hcb2, .dead, trivial⟩)
   · have k1 : iEq qO 0 = false := by simp only [ee]; simpa using hq0
     rw [if_neg hq0] at e1
     rw [e1]
     have hcb := closedL_int b1
     generalize b1.length = m1 at *
     generalize mapE int b1 = w1 at *
     refine goA 60 ?_
     refine rnd_assign rfl ?_
     refine goB hX 0 (by conv => lhs; cbv; try simp only [k1]; cbv; try simp only [k1]; cbv; try simp only [k1]; cbv; try simp only [k1]; cbv) ?_
     refine goA 60 ?_
     exact rnd_next rfl trivial (hent_sub [.to 0, .gone, .gone, .gone, .gone, .gone, .gone, .to 7, .to 8, .gone, .gone] [some 0, some 1, some 2, some 3, some 4, some 5, some 6, some 7, some 8, none] rfl ⟨rfl, rfl, rfl, rfl, rfl, rfl, rfl, rfl, trivial⟩ (by simp) (by simp) ⟨⟨by simp, rfl⟩, trivial, trivial, trivial, trivial, trivial, trivial, ⟨by simp, rfl⟩, ⟨by simp, rfl⟩, trivial, trivial, trivial⟩ ⟨osrc_cells (b := 0) rfl rfl rfl ⟨.refl _, trivial⟩, .dead, .dead, .dead, .dead, .dead, .dead, .some 7 _ _ rfl rfl rfl (.loop _ _ _ _ _ _ _ _ ⟨.cl hip, .refl _, trivial⟩), osrc_arr (b := 8) rfl rfl rfl rfl hcb, .dead, trivial⟩)
def consP (p : Pat) : List Pat → List Pat
 | [] => []
 | l => p :: l
mutual
def Pat.path (w : Int) : Pat → List Pat
 | .mk o a t v s n c => if o = 0 ∧ v = w then [.mk o a t v s n c] else consP (.mk o a t v s n c) (Pat.pathL w a)
def Pat.pathL (w : Int) : List Pat → List Pat
 | [] => []
 | e :: r => if (e.path w).length = 0 then Pat.pathL w r else e.path w
end
theorem Pat.pathL_len {w : Int} : ∀ {l : List Pat}, (∀ e ∈ l, (e.path w).length ≤ e.cnt) → (Pat.pathL w l).length ≤ Pat.cntL l
 | [], _ => by simp [Pat.pathL, Pat.cntL]
 | e :: r, h => by
  rw [Pat.pathL, Pat.cntL]
  have h1 := h e (by simp)
  have h2 := Pat.pathL_len (l := r) fun e he => h e (by simp [he])
  split <;> omega
theorem Pat.path_len (w : Int) : ∀ p : Pat, (p.path w).length ≤ p.cnt := Pat.ind fun o a t v s n c h => by
 rw [Pat.path, Pat.cnt]
 have := Pat.pathL_len h
 split
 · simp
 · cases hp : Pat.pathL w a with
   | nil => simp [consP]
   | cons x r => rw [hp] at this; simp [consP] at this ⊢; omega
theorem P_path (w : Int) : ∀ p : Pat, p.Sm → PCall EE 56 [p.enc, int w] (.isl 14 (mapE Pat.enc (p.path w))) := by
 refine Pat.ind ?_
 intro o a t v s n c ih hs
 have hlen := hs.len
 have hih : ∀ q ∈ a, PCall EE 56 [q.enc, int w] (.isl 14 (mapE Pat.enc (q.path w))) := fun q hq => ih q hq (hs.arg hq)
 have hbd : ∀ q ∈ a, (q.path w).length ≤ 1048576 := fun q hq => Nat.le_trans (Pat.path_len w q) (hs.arg hq).1
 have hcl := Pat.closedI a
 obtain ⟨pp, hpp⟩ : ∃ pp, pp = Pat.mk o a t v s n c := ⟨_, rfl⟩
 have hpe : pp.enc = (Pat.mk o a t v s n c).enc := by rw [hpp]
 rw [Pat.path, ← hpp]
 have hpc := Pat.closed pp
 obtain ⟨co, ca, cv, cf, ck, xk, xn, xt⟩ := c
 have hce := Ex.closedI ca
 rw [Pat.enc_mk] at hpe
 dsimp only at hpe
 rw [hpe] at hpc ⊢
 obtain ⟨R, hR⟩ : ∃ R, R = mapE Pat.enc (if o = 0 ∧ v = w then [pp] else consP pp (Pat.pathL w a)) := ⟨_, rfl⟩
 rw [← hR]
 have hnil : mapE Pat.enc [] = [] := by rw [mapE_eq]; rfl
 clear ih hs hpp
 refine wordsN ?_; unhygienic intros
 generalize hes : mapE Pat.enc a = es at *
 generalize mapE Ex.enc ca = ec at *
 have hel : es.length = a.length := by rw [← hes, mapE_len]
 have hone : ∀ x, AV.closedL [x] = x.closed := by simp [AV.closedL]
 have hc1 : AV.closedL [AV.agg [int o, .isl 14 es, int t, int v, int s, int n, int co, .isl 8 ec, int cv, int cf, int ck, int xk, int xn, str xt]] = true := by rw [hone]; exact hpc
 refine fn_body (fn := Tryz.f56) (n := 37) (ac := Tryzc56) (rvs := [.t 4]) rfl (by decide) Tryzp56 rfl rfl rfl ?_
 by_cases h1 : o = 0 ∧ v = w
 · have k1 : bAnd (iEq o 0) (iEq v w) = true := by simp only [ee]; simpa using h1
   have hR : R = [AV.agg [int o, .isl 14 es, int t, int v, int s, int n, int co, .isl 8 ec, int cv, int cf, int ck, int xk, int xn, str xt]] := by rw [hR, if_pos h1, mapE_eq]; simp [hpe]
   rw [hR]
   refine goB hX 0 (by conv => lhs; cbv; try simp only [k1]; cbv; try simp only [k1]; cbv; try simp only [k1]; cbv; try simp only [k1]; cbv) ?_
   refine goA 60 ?_
   refine fn_ret rfl rfl ?_
   exact ⟨[.gone, .isl 14 ([AV.agg [AV.val (Value.int IntKind.i64 o), AV.isl 14 es, AV.val (Value.int IntKind.i64 t), AV.val (Value.int IntKind.i64 v), AV.val (Value.int IntKind.i64 s), AV.val (Value.int IntKind.i64 n), AV.val (Value.int IntKind.i64 co), AV.isl 8 ec, AV.val (Value.int IntKind.i64 cv), AV.val (Value.int IntKind.i64 cf), AV.val (Value.int IntKind.i64 ck), AV.val (Value.int IntKind.i64 xk), AV.val (Value.int IntKind.i64 xn), AV.val (Value.string xt)]])], ⟨trivial, ⟨_, rfl, (subL_closed _ hc1).symm⟩, trivial⟩, .refl _⟩
 have k1 : bAnd (iEq o 0) (iEq v w) = false := by simp only [ee]; simpa using h1
 rw [if_neg h1] at hR
 refine goB hX 0 (by conv => lhs; cbv; try simp only [k1]; cbv; try simp only [k1]; cbv; try simp only [k1]; cbv; try simp only [k1]; cbv) ?_
 refine goA 60 ?_
 refine on_loopP (ι := List Pat × List Pat × Int) (fun p => ([(22, int p.2.2), (21, int (lenA es)), (20, .isl 14 es), (1, int w), (2, .ptr 0 0)], [.cells [int o, .isl 14 es, int t, int v, int s, int n, int co, .isl 8 ec, int cv, int cf, int ck, int xk, int xn, str xt]])) (fun p => a = p.1 ++ p.2.1 ∧ p.2.2 = p.1.length ∧ R = mapE Pat.enc (consP pp (Pat.pathL w p.2.1))) (fun p => p.2.1.length) ([], a, 0) ⟨rfl, rfl, hR⟩ ?_ ?_
 · exact (ent_sub [.to 0] [some 0] ⟨⟨by simp, rfl⟩, trivial⟩ ⟨osrc_cells (b := 0) rfl rfl rfl ⟨.refl _, .cl hcl, .refl _, .refl _, .refl _, .refl _, .refl _, .cl hce, .refl _, .refl _, .refl _, .refl _, .refl _, .refl _, trivial⟩, trivial⟩ ⟨.refl _, .refl _, .cl hcl, .refl _, .refl _, trivial⟩)
 rintro ⟨d, r, i⟩ ⟨g1, gi, gR⟩
 dsimp only at g1 gi gR ⊢
 cases r with
 | nil =>
  have L1 := len_split g1
  try simp only [List.length] at L1
  have hc : iLt i (lenA es) = false := lt_f e_iLt e_lenA (by omega)
  have gR : R = [] := by rw [gR, Pat.pathL, consP, hnil]
  rw [gR]
  refine goB hX 0 (by conv => lhs; cbv; try simp only [hc]; cbv; try simp only [hc]; cbv; try simp only [hc]; cbv; try simp only [hc]; cbv) ?_
  refine goA 60 ?_
  refine loopP_exit ?_
  refine goA 60 ?_
  refine fn_ret rfl rfl ?_
  exact ⟨[.gone], ⟨trivial, trivial⟩, .nilI _⟩
 | cons q r =>
  have L1 := len_split g1
  try simp only [List.length] at L1
  have hc : iLt i (lenA es) = true := lt_t e_iLt e_lenA (by omega)
  have hat := el_at e_atA hes g1 gi
  have hq := hih q (by rw [g1]; simp)
  have hb := hbd q (by rw [g1]; simp)
  have hqc := Pat.closed q
  rw [Pat.pathL] at gR
  have hi2 : iAdd .i64 i 1 = ((d ++ [q]).length : Int) := by rw [List.length_append]; exact inc_w e_iAdd gi (by omega)
  have hlq : (mapE Pat.enc (q.path w)).length = (q.path w).length := mapE_len _ _
  have hfit := fitPat (q.path w)
  have hcq := Pat.closedL (q.path w)
  obtain ⟨qO, qA, qT, qV, qS, qN, qCo, qCa, qCv, qCf, qCk, qXk, qXn, qXt, hx⟩ := Pat.form q
  rw [hx] at hat hqc hq
  by_cases h2 : (q.path w).length = 0
  · rw [if_pos h2] at gR
    generalize mapE Pat.enc (q.path w) = lq at *
    have k2 : iLt 0 (lenA lq) = false := by simp only [ee]; exact decide_eq_false (by omega)
    refine goB hX 0 (by conv => lhs; cbv; try simp only [hc, hat, k2]; cbv; try simp only [hc, hat, k2]; cbv; try simp only [hc, hat, k2]; cbv; try simp only [hc, hat, k2]; cbv) ?_
    refine goB hX 1 (by conv => lhs; cbv; try simp only [hc, hat, k2]; cbv; try simp only [hc, hat, k2]; cbv; try simp only [hc, hat, k2]; cbv; try simp only [hc, hat, k2]; cbv) ?_
    refine oPA hq ?_
    refine goB hX 0 (by conv => lhs; cbv; try simp only [hc, hat, k2]; cbv; try simp only [hc, hat, k2]; cbv; try simp only [hc, hat, k2]; cbv; try simp only [hc, hat, k2]; cbv) ?_
    refine goA 60 ?_
    refine loopP_next (d ++ [q], r, iAdd .i64 i 1) ⟨by simp [g1], hi2, gR⟩ (by simp) (ent_sub [.to 0, .gone] [some 0] ⟨⟨by simp, rfl⟩, trivial, trivial⟩ ⟨osrc_cells (b := 0) rfl rfl rfl ⟨.refl _, .cl hcl, .refl _, .refl _, .refl _, .refl _, .refl _, .cl hce, .refl _, .refl _, .refl _, .refl _, .refl _, .refl _, trivial⟩, trivial⟩ ⟨.refl _, .refl _, .cl hcl, .refl _, .refl _, trivial⟩)
  · rw [if_neg h2] at gR
    have gR2 : R = [AV.agg [int o, .isl 14 es, int t, int v, int s, int n, int co, .isl 8 ec, int cv, int cf, int ck, int xk, int xn, str xt]] ++ mapE Pat.enc (q.path w) := by
     rw [gR]
     cases hp : q.path w with
     | nil => rw [hp] at h2; simp at h2
     | cons x y => rw [consP, mapE_eq, mapE_eq, List.map_cons, hpe]; rfl; simp
    clear gR
    generalize mapE Pat.enc (q.path w) = lq at *
    have k2 : iLt 0 (lenA lq) = true := by simp only [ee]; simp; omega
    have hcat : R = catA (dropA [AV.agg [int o, .isl 14 es, int t, int v, int s, int n, int co, .isl 8 ec, int cv, int cf, int ck, int xk, int xn, str xt]] 0) lq := by simp only [ee]; rw [gR2]; simp
    have hcR : AV.closedL (catA (dropA [AV.agg [int o, .isl 14 es, int t, int v, int s, int n, int co, .isl 8 ec, int cv, int cf, int ck, int xk, int xn, str xt]] 0) lq) = true := by rw [← hcat, gR2]; exact closedL_append hc1 hcq
    have hlR : addN 1 (lenN lq) = (catA (dropA [AV.agg [int o, .isl 14 es, int t, int v, int s, int n, int co, .isl 8 ec, int cv, int cf, int ck, int xk, int xn, str xt]] 0) lq).length := by simp only [ee]; simp; omega
    rw [hcat]
    refine goB hX 0 (by conv => lhs; cbv; try simp only [hc, hat, k2]; cbv; try simp only [hc, hat, k2]; cbv; try simp only [hc, hat, k2]; cbv; try simp only [hc, hat, k2]; cbv) ?_
    refine goB hX 1 (by conv => lhs; cbv; try simp only [hc, hat, k2]; cbv; try simp only [hc, hat, k2]; cbv; try simp only [hc, hat, k2]; cbv; try simp only [hc, hat, k2]; cbv) ?_
    refine oPA hq ?_
    refine goB hX 0 (by conv => lhs; cbv; try simp only [hc, hat, k2]; cbv; try simp only [hc, hat, k2]; cbv; try simp only [hc, hat, k2]; cbv; try simp only [hc, hat, k2]; cbv) ?_
    refine goA 60 ?_
    refine loopP_ret ?_
    refine goA 60 ?_
    refine fn_ret rfl rfl ?_
    exact ⟨[.gone, .gone, .gone, .isl 14 (catA (dropA [AV.agg [AV.val (Value.int IntKind.i64 o), AV.isl 14 es, AV.val (Value.int IntKind.i64 t), AV.val (Value.int IntKind.i64 v), AV.val (Value.int IntKind.i64 s), AV.val (Value.int IntKind.i64 n), AV.val (Value.int IntKind.i64 co), AV.isl 8 ec, AV.val (Value.int IntKind.i64 cv), AV.val (Value.int IntKind.i64 cf), AV.val (Value.int IntKind.i64 ck), AV.val (Value.int IntKind.i64 xk), AV.val (Value.int IntKind.i64 xn), AV.val (Value.string xt)]] 0) lq)], ⟨trivial, trivial, trivial, ⟨_, rfl, (subL_closed _ hcR).symm⟩, trivial⟩, .of (sub_whole rfl (by assumption))⟩
structure Lim where
 scope : Int
 span : Int
def Lim.enc (l : Lim) : AV := .agg [int l.scope, int l.span]
theorem closedL_lim (l : List Lim) : AV.closedL (mapE Lim.enc l) = true := closed_mapE (fun _ => rfl) l
theorem fitLim (l : List Lim) : fitB 2 (mapE Lim.enc l) = true := fitL (fun p => rfl) l
def limsF (l : List Pat) : List Lim := (l.filter fun q => decide (q.op = 6 ∨ q.op = 10)).map fun q => ⟨q.scope, q.span⟩
def scsF (l : List Pat) : List Int := (l.filter fun q => decide (q.op = 5 ∨ q.op = 9)).map Pat.scope
noncomputable def Pat.aroundE (p : Pat) (w : Int) : Int := if p.chkR ≠ 0 then p.chkR else if (p.path w).length = 0 then 6 else 0
noncomputable def Pat.lims (p : Pat) (w : Int) : List Lim := if p.aroundE w = 0 then limsF (p.path w) else []
noncomputable def Pat.scs (p : Pat) (w : Int) : List Int := if p.aroundE w = 0 then scsF (p.path w) else []
theorem P_Around (p : Pat) (w : Int) (hs : p.Sm) : PCall EE 21 [p.enc, int w] (.tup [.isl 2 (mapE Lim.enc (p.lims w)), .isl 1 (mapE int (p.scs w)), int (p.aroundE w)]) := by
 have h1 := P_CheckRest p hs
 have h2 := P_path w p hs
 have hbd := Nat.le_trans (Pat.path_len w p) hs.1
 have hcl := Pat.closed p
 have hcn := Pat.closedI (p.path w)
 obtain ⟨R, hR⟩ : ∃ R, R = mapE Lim.enc (p.lims w) := ⟨_, rfl⟩
 obtain ⟨R2, hR2⟩ : ∃ R, R = mapE int (p.scs w) := ⟨_, rfl⟩
 obtain ⟨R3, hR3⟩ : ∃ R, R = p.aroundE w := ⟨_, rfl⟩
 rw [← hR, ← hR2, ← hR3]
 unfold Pat.lims at hR
 unfold Pat.scs at hR2
 rw [← hR3] at hR hR2
 unfold Pat.aroundE at hR3
 have hnil : mapE Lim.enc [] = [] := by rw [mapE_eq]; rfl
 have hnil2 : mapE int [] = [] := by rw [mapE_eq]; rfl
 generalize p.chkR = rn at *
 generalize hnl : p.path w = nl at *
 obtain ⟨pO, pA, pT, pV, pS, pN, pCo, pCa, pCv, pCf, pCk, pXk, pXn, pXt, hx⟩ := Pat.form p
 rw [hx] at h1 h2 hcl ⊢
 refine wordsN ?_; unhygienic intros
 generalize hes : mapE Pat.enc nl = es at *
 have hel : es.length = nl.length := by rw [← hes, mapE_len]
 refine fn_body (fn := Tryz.f21) (n := 54) (ac := Tryzc21) (rvs := [.t 4, .t 5, .t 6]) rfl (by decide) Tryzp21 rfl rfl rfl ?_
 by_cases g1 : rn = 0
 rotate_left
 · have k1 : iNe rn 0 = true := by simp only [ee]; simpa using g1
   rw [if_pos g1] at hR3
   rw [if_neg (by rw [hR3]; exact g1), hnil] at hR
   rw [if_neg (by rw [hR3]; exact g1), hnil2] at hR2
   rw [hR, hR2, hR3]
   refine goA 60 ?_
   refine oPA h1 ?_
   refine goB hX 0 (by conv => lhs; cbv; try simp only [k1]; cbv; try simp only [k1]; cbv; try simp only [k1]; cbv; try simp only [k1]; cbv) ?_
   refine goA 60 ?_
   refine fn_ret rfl rfl ?_
   exact ⟨[.gone], ⟨trivial, trivial⟩, .tup' ⟨.nilI _, .nilI _, .refl _, trivial⟩⟩
 have k1 : iNe rn 0 = false := by simp only [ee]; simpa using g1
 rw [if_neg (by simpa using g1)] at hR3
 by_cases g2 : nl.length = 0
 · have k2 : iEq (lenA es) 0 = true := by simp only [ee]; exact beq_iff_eq.2 (by omega)
   rw [if_pos g2] at hR3
   rw [if_neg (by omega), hnil] at hR
   rw [if_neg (by omega), hnil2] at hR2
   rw [hR, hR2, hR3]
   refine goA 60 ?_
   refine oPA h1 ?_
   refine goB hX 0 (by conv => lhs; cbv; try simp only [k1, k2]; cbv; try simp only [k1, k2]; cbv; try simp only [k1, k2]; cbv; try simp only [k1, k2]; cbv) ?_
   refine goA 60 ?_
   refine oPA h2 ?_
   refine goB hX 0 (by conv => lhs; cbv; try simp only [k1, k2]; cbv; try simp only [k1, k2]; cbv; try simp only [k1, k2]; cbv; try simp only [k1, k2]; cbv) ?_
   refine goA 60 ?_
   refine fn_ret rfl rfl ?_
   exact ⟨[.gone], ⟨trivial, trivial⟩, .tup' ⟨.nilI _, .nilI _, .refl _, trivial⟩⟩
 have k2 : iEq (lenA es) 0 = false := by simp only [ee]; exact beq_eq_false_iff_ne.2 (by omega)
 rw [if_neg g2] at hR3
 rw [if_pos hR3] at hR hR2
 refine goA 60 ?_
 refine oPA h1 ?_
 refine goB hX 0 (by conv => lhs; cbv; try simp only [k1, k2]; cbv; try simp only [k1, k2]; cbv; try simp only [k1, k2]; cbv; try simp only [k1, k2]; cbv) ?_
 refine goA 60 ?_
 refine oPA h2 ?_
 refine goB hX 0 (by conv => lhs; cbv; try simp only [k1, k2]; cbv; try simp only [k1, k2]; cbv; try simp only [k1, k2]; cbv; try simp only [k1, k2]; cbv) ?_
 refine goA 60 ?_
 refine on_loopP (ι := List Pat × List Pat × Int × Nat × List AV × Nat × List AV) (fun p => ([(26, int p.2.2.1), (25, int (lenA es)), (24, .isl 14 es), (9, .sl 0 2 0 p.2.2.2.1), (10, .sl 1 1 0 p.2.2.2.2.2.1)], [.arr 2 p.2.2.2.2.1, .arr 1 p.2.2.2.2.2.2])) (fun p => nl = p.1 ++ p.2.1 ∧ p.2.2.1 = p.1.length ∧ p.2.2.2.1 = p.2.2.2.2.1.length ∧ p.2.2.2.2.1 = mapE Lim.enc (limsF p.1) ∧ p.2.2.2.2.2.1 = p.2.2.2.2.2.2.length ∧ p.2.2.2.2.2.2 = mapE int (scsF p.1)) (fun p => p.2.1.length) ([], nl, 0, 0, [], 0, []) ⟨rfl, rfl, rfl, hnil.symm, rfl, hnil2.symm⟩ ?_ ?_
 · exact (ent_sub [.gone] [none, none] ⟨trivial, trivial⟩ ⟨.none _ rfl, .none _ rfl, trivial⟩ ⟨.refl _, .refl _, .cl hcn, .nilS _ _ _ (by simp), .nilS _ _ _ (by simp), trivial⟩)
 rintro ⟨d, r, i, m1, w1, m2, w2⟩ ⟨g1, gi, gm1, gw1, gm2, gw2⟩
 dsimp only at g1 gi gm1 gw1 gm2 gw2 ⊢
 have hcw1 : AV.closedL w1 = true := by rw [gw1]; exact closedL_lim _
 have hcw2 : AV.closedL w2 = true := by rw [gw2]; exact closedL_int _
 have hl1 : (limsF d).length ≤ d.length := by unfold limsF; rw [List.length_map]; exact List.length_filter_le _ _
 have hl2 : (scsF d).length ≤ d.length := by unfold scsF; rw [List.length_map]; exact List.length_filter_le _ _
 have hm1 : m1 ≤ d.length := by rw [gm1, gw1, mapE_len]; exact hl1
 have hm2 : m2 ≤ d.length := by rw [gm2, gw2, mapE_len]; exact hl2
 cases r with
 | nil =>
  have L1 := len_split g1
  try simp only [List.length] at L1
  have hc : iLt i (lenA es) = false := lt_f e_iLt e_lenA (by omega)
  rw [List.append_nil] at g1
  rw [hR, hR2, hR3, g1, ← gw1, ← gw2]
  refine goB hX 0 (by conv => lhs; cbv; try simp only [hc]; cbv; try simp only [hc]; cbv; try simp only [hc]; cbv; try simp only [hc]; cbv) ?_
  refine goA 60 ?_
  refine loopP_exit ?_
  refine goA 60 ?_
  refine fn_ret rfl rfl ?_
  exact ⟨[.isl 2 (w1), .isl 1 (w2)], ⟨⟨_, rfl, (subL_closed _ hcw1).symm⟩, ⟨_, rfl, (subL_closed _ hcw2).symm⟩, trivial⟩, .tup' ⟨.of (sub_whole rfl (by assumption)), .of (sub_whole rfl (by assumption)), .refl _, trivial⟩⟩
 | cons q r =>
  have L1 := len_split g1
  try simp only [List.length] at L1
  have hc : iLt i (lenA es) = true := lt_t e_iLt e_lenA (by omega)
  have hat := el_at e_atA hes g1 gi
  have hqc := Pat.closed q
  have hi2 : iAdd .i64 i 1 = ((d ++ [q]).length : Int) := by rw [List.length_append]; exact inc_w e_iAdd gi (by omega)
  have s1 : limsF (d ++ [q]) = if q.op = 6 ∨ q.op = 10 then limsF d ++ [⟨q.scope, q.span⟩] else limsF d := by
   unfold limsF; rw [List.filter_append, List.map_append]; by_cases h : q.op = 6 ∨ q.op = 10 <;> simp [List.filter, h]
  have s2 : scsF (d ++ [q]) = if q.op = 5 ∨ q.op = 9 then scsF d ++ [q.scope] else scsF d := by
   unfold scsF; rw [List.filter_append, List.map_append]; by_cases h : q.op = 5 ∨ q.op = 9 <;> simp [List.filter, h]
  obtain ⟨qO, qA, qT, qV, qS, qN, qCo, qCa, qCv, qCf, qCk, qXk, qXn, qXt, hx2, hx2c, hqO, hqA, hqT, hqV, hqS, hqN⟩ := Pat.form2 q
  rw [hx2] at hat hqc
  rw [← hqO, ← hqS, ← hqN] at s1
  rw [← hqO, ← hqS] at s2
  have u1 : (qO = 6 ∨ qO = 10) → catA (dropA w1 0) (partA [.agg [int qS, int qN]] 0 1) = mapE Lim.enc (limsF (d ++ [q])) := fun h => by
   rw [s1, if_pos h]; simp only [ee]; rw [gw1, mapE_eq, mapE_eq]; simp [Lim.enc]
  have u2 : (qO = 5 ∨ qO = 9) → catA (dropA w2 0) (partA [int qS] 0 1) = mapE int (scsF (d ++ [q])) := fun h => by
   rw [s2, if_pos h]; simp only [ee]; rw [gw2, mapE_eq, mapE_eq]; simp
  have n1 : ¬(qO = 6 ∨ qO = 10) → w1 = mapE Lim.enc (limsF (d ++ [q])) := fun h => by rw [s1, if_neg h]; exact gw1
  have n2 : ¬(qO = 5 ∨ qO = 9) → w2 = mapE int (scsF (d ++ [q])) := fun h => by rw [s2, if_neg h]; exact gw2
  have d1 : AV.closedL (catA (dropA w1 0) (partA [.agg [int qS, int qN]] 0 1)) = true := by simp only [ee]; exact closedL_append (by simpa using hcw1) rfl
  have d2 : AV.closedL (catA (dropA w2 0) (partA [int qS] 0 1)) = true := by simp only [ee]; exact closedL_append (by simpa using hcw2) rfl
  have l1' : addN m1 (lenN (partA [.agg [int qS, int qN]] 0 1)) = (catA (dropA w1 0) (partA [.agg [int qS, int qN]] 0 1)).length := by simp only [ee]; simp [gm1]
  have l2' : addN m2 (lenN (partA [int qS] 0 1)) = (catA (dropA w2 0) (partA [int qS] 0 1)).length := by simp only [ee]; simp [gm2]
  clear s1 s2
  refine goB hX 0 (by conv => lhs; cbv; try simp only [hc, hat]; cbv; try simp only [hc, hat]; cbv; try simp only [hc, hat]; cbv; try simp only [hc, hat]; cbv) ?_
  refine goB hX 1 (by conv => lhs; cbv; try simp only [hc, hat]; cbv; try simp only [hc, hat]; cbv; try simp only [hc, hat]; cbv; try simp only [hc, hat]; cbv) ?_
  refine on_cond rfl (fun c1 => ?_) (fun c1 => ?_)
  ·
   simp [ee] at c1
   refine goB hX 0 (by conv => lhs; cbv; try simp only [hc, hat]; cbv; try simp only [hc, hat]; cbv; try simp only [hc, hat]; cbv; try simp only [hc, hat]; cbv) ?_
   refine on_cond rfl (fun c2 => ?_) (fun c2 => ?_)
   ·
    simp [ee] at c2
    refine goA 60 ?_
    refine loopP_next (d ++ [q], r, iAdd .i64 i 1, addN m1 (lenN (partA [.agg [int qS, int qN]] 0 1)), catA (dropA w1 0) (partA [.agg [int qS, int qN]] 0 1), m2, w2) ⟨by simp [g1], hi2, l1', u1 (by omega), gm2, n2 (by omega)⟩ (by simp) (ent_sub [.gone, .to 1, .gone, .gone, .to 0] [some 4, some 1] ⟨trivial, ⟨by simp, rfl⟩, trivial, trivial, ⟨by simp, rfl⟩, trivial⟩ ⟨osrc_arr (b := 4) rfl rfl rfl rfl d1, osrc_arr (b := 1) rfl rfl rfl rfl hcw2, trivial⟩ ⟨.refl _, .refl _, .cl hcn, .refl _, .refl _, trivial⟩)
   ·
    simp [ee] at c2
    refine goB hX 0 (by conv => lhs; cbv; try simp only [hc, hat]; cbv; try simp only [hc, hat]; cbv; try simp only [hc, hat]; cbv; try simp only [hc, hat]; cbv) ?_
    refine on_cond rfl (fun c3 => ?_) (fun c3 => ?_)
    ·
     simp [ee] at c3
     refine goB hX 0 (by conv => lhs; cbv; try simp only [hc, hat]; cbv; try simp only [hc, hat]; cbv; try simp only [hc, hat]; cbv; try simp only [hc, hat]; cbv) ?_
     refine on_cond rfl (fun c4 => ?_) (fun c4 => ?_)
     ·
      simp [ee] at c4
      refine goA 60 ?_
      refine loopP_next (d ++ [q], r, iAdd .i64 i 1, m1, w1, addN m2 (lenN (partA [int qS] 0 1)), catA (dropA w2 0) (partA [int qS] 0 1)) ⟨by simp [g1], hi2, gm1, n1 (by omega), l2', u2 (by omega)⟩ (by simp) (ent_sub [.to 0, .gone, .gone, .gone, .to 1] [some 0, some 4] ⟨⟨by simp, rfl⟩, trivial, trivial, trivial, ⟨by simp, rfl⟩, trivial⟩ ⟨osrc_arr (b := 0) rfl rfl rfl rfl hcw1, osrc_arr (b := 4) rfl rfl rfl rfl d2, trivial⟩ ⟨.refl _, .refl _, .cl hcn, .refl _, .refl _, trivial⟩)
     ·
      simp [ee] at c4
      refine goA 60 ?_
      refine loopP_next (d ++ [q], r, iAdd .i64 i 1, m1, w1, m2, w2) ⟨by simp [g1], hi2, gm1, n1 (by omega), gm2, n2 (by omega)⟩ (by simp) (ent_sub [.to 0, .to 1, .gone] [some 0, some 1] ⟨⟨by simp, rfl⟩, ⟨by simp, rfl⟩, trivial, trivial⟩ ⟨osrc_arr (b := 0) rfl rfl rfl rfl hcw1, osrc_arr (b := 1) rfl rfl rfl rfl hcw2, trivial⟩ ⟨.refl _, .refl _, .cl hcn, .refl _, .refl _, trivial⟩)
    ·
     simp [ee] at c3
     refine goB hX 0 (by conv => lhs; cbv; try simp only [hc, hat]; cbv; try simp only [hc, hat]; cbv; try simp only [hc, hat]; cbv; try simp only [hc, hat]; cbv) ?_
     refine on_cond rfl (fun c5 => ?_) (fun c5 => ?_)
     ·
      simp [ee] at c5
      refine goA 60 ?_
      refine loopP_next (d ++ [q], r, iAdd .i64 i 1, m1, w1, addN m2 (lenN (partA [int qS] 0 1)), catA (dropA w2 0) (partA [int qS] 0 1)) ⟨by simp [g1], hi2, gm1, n1 (by omega), l2', u2 (by omega)⟩ (by simp) (ent_sub [.to 0, .gone, .gone, .gone, .to 1] [some 0, some 4] ⟨⟨by simp, rfl⟩, trivial, trivial, trivial, ⟨by simp, rfl⟩, trivial⟩ ⟨osrc_arr (b := 0) rfl rfl rfl rfl hcw1, osrc_arr (b := 4) rfl rfl rfl rfl d2, trivial⟩ ⟨.refl _, .refl _, .cl hcn, .refl _, .refl _, trivial⟩)
     ·
      simp [ee] at c5
      refine goA 60 ?_
      refine loopP_next (d ++ [q], r, iAdd .i64 i 1, m1, w1, m2, w2) ⟨by simp [g1], hi2, gm1, n1 (by omega), gm2, n2 (by omega)⟩ (by simp) (ent_sub [.to 0, .to 1, .gone] [some 0, some 1] ⟨⟨by simp, rfl⟩, ⟨by simp, rfl⟩, trivial, trivial⟩ ⟨osrc_arr (b := 0) rfl rfl rfl rfl hcw1, osrc_arr (b := 1) rfl rfl rfl rfl hcw2, trivial⟩ ⟨.refl _, .refl _, .cl hcn, .refl _, .refl _, trivial⟩)
  ·
   simp [ee] at c1
   refine goB hX 0 (by conv => lhs; cbv; try simp only [hc, hat]; cbv; try simp only [hc, hat]; cbv; try simp only [hc, hat]; cbv; try simp only [hc, hat]; cbv) ?_
   refine on_cond rfl (fun c6 => ?_) (fun c6 => ?_)
   ·
    simp [ee] at c6
    refine goA 60 ?_
    refine loopP_next (d ++ [q], r, iAdd .i64 i 1, addN m1 (lenN (partA [.agg [int qS, int qN]] 0 1)), catA (dropA w1 0) (partA [.agg [int qS, int qN]] 0 1), m2, w2) ⟨by simp [g1], hi2, l1', u1 (by omega), gm2, n2 (by omega)⟩ (by simp) (ent_sub [.gone, .to 1, .gone, .gone, .to 0] [some 4, some 1] ⟨trivial, ⟨by simp, rfl⟩, trivial, trivial, ⟨by simp, rfl⟩, trivial⟩ ⟨osrc_arr (b := 4) rfl rfl rfl rfl d1, osrc_arr (b := 1) rfl rfl rfl rfl hcw2, trivial⟩ ⟨.refl _, .refl _, .cl hcn, .refl _, .refl _, trivial⟩)
   ·
    simp [ee] at c6
    refine goB hX 0 (by conv => lhs; cbv; try simp only [hc, hat]; cbv; try simp only [hc, hat]; cbv; try simp only [hc, hat]; cbv; try simp only [hc, hat]; cbv) ?_
    refine on_cond rfl (fun c7 => ?_) (fun c7 => ?_)
    ·
     simp [ee] at c7
     refine goB hX 0 (by conv => lhs; cbv; try simp only [hc, hat]; cbv; try simp only [hc, hat]; cbv; try simp only [hc, hat]; cbv; try simp only [hc, hat]; cbv) ?_
     refine on_cond rfl (fun c8 => ?_) (fun c8 => ?_)
     ·
      simp [ee] at c8
      refine goA 60 ?_
      refine loopP_next (d ++ [q], r, iAdd .i64 i 1, m1, w1, addN m2 (lenN (partA [int qS] 0 1)), catA (dropA w2 0) (partA [int qS] 0 1)) ⟨by simp [g1], hi2, gm1, n1 (by omega), l2', u2 (by omega)⟩ (by simp) (ent_sub [.to 0, .gone, .gone, .gone, .to 1] [some 0, some 4] ⟨⟨by simp, rfl⟩, trivial, trivial, trivial, ⟨by simp, rfl⟩, trivial⟩ ⟨osrc_arr (b := 0) rfl rfl rfl rfl hcw1, osrc_arr (b := 4) rfl rfl rfl rfl d2, trivial⟩ ⟨.refl _, .refl _, .cl hcn, .refl _, .refl _, trivial⟩)
     ·
      simp [ee] at c8
      refine goA 60 ?_
      refine loopP_next (d ++ [q], r, iAdd .i64 i 1, m1, w1, m2, w2) ⟨by simp [g1], hi2, gm1, n1 (by omega), gm2, n2 (by omega)⟩ (by simp) (ent_sub [.to 0, .to 1, .gone] [some 0, some 1] ⟨⟨by simp, rfl⟩, ⟨by simp, rfl⟩, trivial, trivial⟩ ⟨osrc_arr (b := 0) rfl rfl rfl rfl hcw1, osrc_arr (b := 1) rfl rfl rfl rfl hcw2, trivial⟩ ⟨.refl _, .refl _, .cl hcn, .refl _, .refl _, trivial⟩)
    ·
     simp [ee] at c7
     refine goB hX 0 (by conv => lhs; cbv; try simp only [hc, hat]; cbv; try simp only [hc, hat]; cbv; try simp only [hc, hat]; cbv; try simp only [hc, hat]; cbv) ?_
     refine on_cond rfl (fun c9 => ?_) (fun c9 => ?_)
     ·
      simp [ee] at c9
      refine goA 60 ?_
      refine loopP_next (d ++ [q], r, iAdd .i64 i 1, m1, w1, addN m2 (lenN (partA [int qS] 0 1)), catA (dropA w2 0) (partA [int qS] 0 1)) ⟨by simp [g1], hi2, gm1, n1 (by omega), l2', u2 (by omega)⟩ (by simp) (ent_sub [.to 0, .gone, .gone, .gone, .to 1] [some 0, some 4] ⟨⟨by simp, rfl⟩, trivial, trivial, trivial, ⟨by simp, rfl⟩, trivial⟩ ⟨osrc_arr (b := 0) rfl rfl rfl rfl hcw1, osrc_arr (b := 4) rfl rfl rfl rfl d2, trivial⟩ ⟨.refl _, .refl _, .cl hcn, .refl _, .refl _, trivial⟩)
     ·
      simp [ee] at c9
      refine goA 60 ?_
      refine loopP_next (d ++ [q], r, iAdd .i64 i 1, m1, w1, m2, w2) ⟨by simp [g1], hi2, gm1, n1 (by omega), gm2, n2 (by omega)⟩ (by simp) (ent_sub [.to 0, .to 1, .gone] [some 0, some 1] ⟨⟨by simp, rfl⟩, ⟨by simp, rfl⟩, trivial, trivial⟩ ⟨osrc_arr (b := 0) rfl rfl rfl rfl hcw1, osrc_arr (b := 1) rfl rfl rfl rfl hcw2, trivial⟩ ⟨.refl _, .refl _, .cl hcn, .refl _, .refl _, trivial⟩)
theorem P_SameInts (a a2 : List Int) (hlen : a.length < 1048577) : PCall EE 12 [.isl 1 (mapE int a), .isl 1 (mapE int a2)] (bool (eqB a a2)) := by
 have hcl := closedI_int a
 have hcl2 := closedI_int a2
 obtain ⟨R, hR⟩ : ∃ R, R = eqB a a2 := ⟨_, rfl⟩
 rw [← hR]
 refine wordsN ?_; unhygienic intros
 generalize hes : mapE int a = es at *
 generalize hes2 : mapE int a2 = es2 at *
 have hel : es.length = a.length := by rw [← hes, mapE_len]
 have hel2 : es2.length = a2.length := by rw [← hes2, mapE_len]
 refine fn_body (fn := Tryz.f12) (n := 26) (ac := Tryzc12) (rvs := [.t 4]) rfl (by decide) Tryzp12 rfl rfl rfl ?_
 by_cases hl8 : a.length = a2.length
 rotate_left
 · have hR : R = false := by rw [hR]; exact eqB_f (fun h => hl8 (by rw [h]))
   have hln : iNe (lenA es) (lenA es2) = true := by simp only [ee]; simp; omega
   refine goB hX 0 (by conv => lhs; cbv; try simp only [hln]; cbv; try simp only [hln]; cbv; try simp only [hln]; cbv; try simp only [hln]; cbv) ?_
   refine goA 60 ?_
   refine fn_ret rfl rfl (.val ?_)
   exact congrArg Value.bool hR.symm
 have hln : iNe (lenA es) (lenA es2) = false := by simp only [ee]; simp; omega
 refine goB hX 0 (by conv => lhs; cbv; try simp only [hln]; cbv; try simp only [hln]; cbv; try simp only [hln]; cbv; try simp only [hln]; cbv) ?_
 refine goA 60 ?_
 refine on_loopP (ι := List Int × List Int × List Int × List Int × Int) (fun p => ([(5, int p.2.2.2.2), (0, .isl 1 es), (1, .isl 1 es2)], [])) (fun p => a = p.1 ++ p.2.1 ∧ a2 = p.2.2.1 ++ p.2.2.2.1 ∧ p.2.2.2.2 = p.1.length ∧ p.1 = p.2.2.1) (fun p => p.2.1.length) ([], a, [], a2, 0) ⟨rfl, rfl, rfl, rfl⟩ ?_ ?_
 · exact (ent_sub [] [] trivial trivial ⟨.refl _, .cl hcl, .cl hcl2, trivial⟩)
 rintro ⟨d, r, d2, r2, i⟩ ⟨g1, g2, gi, gd⟩
 dsimp only at g1 g2 gi gd ⊢
 subst gd
 cases r with
 | nil =>
  have L1 := len_split g1
  try simp only [List.length] at L1
  have hc : iLt i (lenA es) = false := lt_f e_iLt e_lenA (by omega)
  have L2 := len_split g2
  try simp only [List.length] at L2
  have hr2 : r2 = [] := List.length_eq_zero_iff.1 (by omega)
  have hR : R = true := by rw [hR]; exact eqB_t (by rw [g1, g2, hr2])
  refine goB hX 0 (by conv => lhs; cbv; try simp only [hc]; cbv; try simp only [hc]; cbv; try simp only [hc]; cbv; try simp only [hc]; cbv) ?_
  refine goA 60 ?_
  refine loopP_exit ?_
  refine goA 60 ?_
  refine fn_ret rfl rfl (.val ?_)
  exact congrArg Value.bool hR.symm
 | cons q r =>
  have L1 := len_split g1
  try simp only [List.length] at L1
  have hc : iLt i (lenA es) = true := lt_t e_iLt e_lenA (by omega)
  have hat := el_at e_atA hes g1 gi
  have L2 := len_split g2
  try simp only [List.length] at L2
  cases r2 with
  | nil => exfalso; simp at L2; omega
  | cons q2 r2 =>
   have hat2 := el_at e_atA hes2 g2 gi
   have hi2 : iAdd .i64 i 1 = ((d ++ [q]).length : Int) := by rw [List.length_append]; exact inc_w e_iAdd gi (by omega)
   by_cases hqq : q = q2
   · have k1 : iNe q q2 = false := by simp only [ee]; simpa using hqq
     refine goB hX 0 (by conv => lhs; cbv; try simp only [hc, hat, hat2, k1]; cbv; try simp only [hc, hat, hat2, k1]; cbv; try simp only [hc, hat, hat2, k1]; cbv; try simp only [hc, hat, hat2, k1]; cbv) ?_
     refine goB hX 1 (by conv => lhs; cbv; try simp only [hc, hat, hat2, k1]; cbv; try simp only [hc, hat, hat2, k1]; cbv; try simp only [hc, hat, hat2, k1]; cbv; try simp only [hc, hat, hat2, k1]; cbv) ?_
     refine goA 60 ?_
     refine loopP_next (d ++ [q], r, d ++ [q2], r2, iAdd .i64 i 1) ⟨by simp [g1], by simp [g2], hi2, by simp [hqq]⟩ (by simp) (ent_sub [] [] trivial trivial ⟨.refl _, .cl hcl, .cl hcl2, trivial⟩)
   · have k1 : iNe q q2 = true := by simp only [ee]; simpa using hqq
     have hR : R = false := by rw [hR]; exact eqB_f (by rw [g1, g2]; simp [hqq])
     refine goB hX 0 (by conv => lhs; cbv; try simp only [hc, hat, hat2, k1]; cbv; try simp only [hc, hat, hat2, k1]; cbv; try simp only [hc, hat, hat2, k1]; cbv; try simp only [hc, hat, hat2, k1]; cbv) ?_
     refine goB hX 1 (by conv => lhs; cbv; try simp only [hc, hat, hat2, k1]; cbv; try simp only [hc, hat, hat2, k1]; cbv; try simp only [hc, hat, hat2, k1]; cbv; try simp only [hc, hat, hat2, k1]; cbv) ?_
     refine goA 60 ?_
     refine loopP_ret ?_
     refine goA 60 ?_
     refine fn_ret rfl rfl (.val ?_)
     exact congrArg Value.bool hR.symm
theorem P_SameLimits (a a2 : List Lim) (hlen : a.length < 1048577) : PCall EE 23 [.isl 2 (mapE Lim.enc a), .isl 2 (mapE Lim.enc a2)] (bool (eqB a a2)) := by
 have hcl : (AV.isl 2 (mapE Lim.enc a)).closed = true := by simp [AV.closed, closedL_lim]
 have hcl2 : (AV.isl 2 (mapE Lim.enc a2)).closed = true := by simp [AV.closed, closedL_lim]
 obtain ⟨R, hR⟩ : ∃ R, R = eqB a a2 := ⟨_, rfl⟩
 rw [← hR]
 refine wordsN ?_; unhygienic intros
 generalize hes : mapE Lim.enc a = es at *
 generalize hes2 : mapE Lim.enc a2 = es2 at *
 have hel : es.length = a.length := by rw [← hes, mapE_len]
 have hel2 : es2.length = a2.length := by rw [← hes2, mapE_len]
 refine fn_body (fn := Tryz.f23) (n := 26) (ac := Tryzc23) (rvs := [.t 4]) rfl (by decide) Tryzp23 rfl rfl rfl ?_
 by_cases hl8 : a.length = a2.length
 rotate_left
 · have hR : R = false := by rw [hR]; exact eqB_f (fun h => hl8 (by rw [h]))
   have hln : iNe (lenA es) (lenA es2) = true := by simp only [ee]; simp; omega
   refine goB hX 0 (by conv => lhs; cbv; try simp only [hln]; cbv; try simp only [hln]; cbv; try simp only [hln]; cbv; try simp only [hln]; cbv) ?_
   refine goA 60 ?_
   refine fn_ret rfl rfl (.val ?_)
   exact congrArg Value.bool hR.symm
 have hln : iNe (lenA es) (lenA es2) = false := by simp only [ee]; simp; omega
 refine goB hX 0 (by conv => lhs; cbv; try simp only [hln]; cbv; try simp only [hln]; cbv; try simp only [hln]; cbv; try simp only [hln]; cbv) ?_
 refine goA 60 ?_
 refine on_loopP (ι := List Lim × List Lim × List Lim × List Lim × Int) (fun p => ([(5, int p.2.2.2.2), (0, .isl 2 es), (1, .isl 2 es2)], [])) (fun p => a = p.1 ++ p.2.1 ∧ a2 = p.2.2.1 ++ p.2.2.2.1 ∧ p.2.2.2.2 = p.1.length ∧ p.1 = p.2.2.1) (fun p => p.2.1.length) ([], a, [], a2, 0) ⟨rfl, rfl, rfl, rfl⟩ ?_ ?_
 · exact (ent_sub [] [] trivial trivial ⟨.refl _, .cl hcl, .cl hcl2, trivial⟩)
 rintro ⟨d, r, d2, r2, i⟩ ⟨g1, g2, gi, gd⟩
 dsimp only at g1 g2 gi gd ⊢
 subst gd
 cases r with
 | nil =>
  have L1 := len_split g1
  try simp only [List.length] at L1
  have hc : iLt i (lenA es) = false := lt_f e_iLt e_lenA (by omega)
  have L2 := len_split g2
  try simp only [List.length] at L2
  have hr2 : r2 = [] := List.length_eq_zero_iff.1 (by omega)
  have hR : R = true := by rw [hR]; exact eqB_t (by rw [g1, g2, hr2])
  refine goB hX 0 (by conv => lhs; cbv; try simp only [hc]; cbv; try simp only [hc]; cbv; try simp only [hc]; cbv; try simp only [hc]; cbv) ?_
  refine goA 60 ?_
  refine loopP_exit ?_
  refine goA 60 ?_
  refine fn_ret rfl rfl (.val ?_)
  exact congrArg Value.bool hR.symm
 | cons q r =>
  have L1 := len_split g1
  try simp only [List.length] at L1
  have hc : iLt i (lenA es) = true := lt_t e_iLt e_lenA (by omega)
  have hat := el_at e_atA hes g1 gi
  have L2 := len_split g2
  try simp only [List.length] at L2
  cases r2 with
  | nil => exfalso; simp at L2; omega
  | cons q2 r2 =>
   have hat2 := el_at e_atA hes2 g2 gi
   have hi2 : iAdd .i64 i 1 = ((d ++ [q]).length : Int) := by rw [List.length_append]; exact inc_w e_iAdd gi (by omega)
   obtain ⟨s1, n1⟩ := q
   obtain ⟨s2, n2⟩ := q2
   unfold Lim.enc at hat hat2
   dsimp only at hat hat2
   have hb : ∀ b, bAnd b true = b := by simp [ee]
   by_cases hqq : s1 = s2 ∧ n1 = n2
   · have k1 : bNot (bAnd (iEq s1 s2) (bAnd (iEq n1 n2) true)) = false := by simp only [ee]; simp [hqq]
     refine goB hX 0 (by conv => lhs; cbv; try simp only [hc, hat, hat2, k1]; cbv; try simp only [hc, hat, hat2, k1]; cbv; try simp only [hc, hat, hat2, k1]; cbv; try simp only [hc, hat, hat2, k1]; cbv) ?_
     refine goB hX 1 (by conv => lhs; cbv; try simp only [hc, hat, hat2, k1]; cbv; try simp only [hc, hat, hat2, k1]; cbv; try simp only [hc, hat, hat2, k1]; cbv; try simp only [hc, hat, hat2, k1]; cbv) ?_
     refine goA 60 ?_
     refine loopP_next (d ++ [⟨s1, n1⟩], r, d ++ [⟨s2, n2⟩], r2, iAdd .i64 i 1) ⟨by simp [g1], by simp [g2], hi2, by simp [hqq]⟩ (by simp) (ent_sub [] [] trivial trivial ⟨.refl _, .cl hcl, .cl hcl2, trivial⟩)
   · have k1 : bNot (bAnd (iEq s1 s2) (bAnd (iEq n1 n2) true)) = true := by simp only [ee]; simp; omega
     have hR : R = false := by rw [hR]; exact eqB_f (by rw [g1, g2]; simp; intro h h2; exact absurd ⟨h, h2⟩ hqq)
     refine goB hX 0 (by conv => lhs; cbv; try simp only [hc, hat, hat2, k1]; cbv; try simp only [hc, hat, hat2, k1]; cbv; try simp only [hc, hat, hat2, k1]; cbv; try simp only [hc, hat, hat2, k1]; cbv) ?_
     refine goB hX 1 (by conv => lhs; cbv; try simp only [hc, hat, hat2, k1]; cbv; try simp only [hc, hat, hat2, k1]; cbv; try simp only [hc, hat, hat2, k1]; cbv; try simp only [hc, hat, hat2, k1]; cbv) ?_
     refine goA 60 ?_
     refine loopP_ret ?_
     refine goA 60 ?_
     refine fn_ret rfl rfl (.val ?_)
     exact congrArg Value.bool hR.symm
def yesE : Ex := .mk 0 [] 0 0 0 ⟨1, 1, ⟨#[]⟩⟩
def eventP (k v : Int) : Pat := .mk 0 [] k v 0 0 yesE
def exampleP (a b : Int) : Pat := .mk 1 [eventP 0 a, .mk 6 [.mk 4 [eventP 1 b] 0 0 0 0 Ex0] 0 0 0 5 Ex0] 0 0 0 0 Ex0
theorem yesE.enc_eq : yesE.enc = .agg [int 0, .isl 8 [], int 0, int 0, int 0, int 1, int 1, str ⟨#[]⟩] := by
 rw [yesE, Ex.enc_mk, mapE_eq]; rfl
theorem eventP.enc_eq (k v : Int) : (eventP k v).enc = .agg [int 0, .isl 14 [], int k, int v, int 0, int 0, int 0, .isl 8 [], int 0, int 0, int 0, int 1, int 1, str ⟨#[]⟩] := by
 rw [eventP, yesE, Pat.enc_mk, mapE_eq, mapE_eq]; rfl
theorem P_Flag (b : Bool) : PCall EE 65 [bool b] (.agg [int 1, int (if b then 1 else 0), str ⟨#[]⟩]) := by
 refine wordsN ?_; unhygienic intros
 refine fn_body (fn := Tryz.f65) (n := 6) (ac := Tryzc65) (rvs := [.cell 2 3 true]) rfl (by decide) Tryzp65 rfl rfl rfl ?_
 cases b with
 | true =>
  refine goA 60 ?_
  refine fn_ret rfl rfl ?_
  exact ⟨[.gone], ⟨trivial, trivial⟩, .refl _⟩
 | false =>
  refine goA 60 ?_
  refine fn_ret rfl rfl ?_
  exact ⟨[.gone], ⟨trivial, trivial⟩, .refl _⟩
theorem P_yes : PCall EE 35 [] yesE.enc := by
 have h1 : PCall EE 65 [bool true] (.agg [int 1, int 1, str ⟨#[]⟩]) := P_Flag true
 rw [yesE.enc_eq]
 refine wordsN ?_; unhygienic intros
 refine fn_body (fn := Tryz.f35) (n := 3) (ac := Tryzc35) (rvs := [.cell 0 8 true]) rfl (by decide) Tryzp35 rfl rfl rfl ?_
 refine goA 60 ?_
 refine oPA h1 ?_
 refine goA 60 ?_
 refine fn_ret rfl rfl ?_
 exact ⟨[.gone], ⟨trivial, trivial⟩, .agg' ⟨.refl _, .nilI _, .refl _, .refl _, .refl _, .refl _, .refl _, .refl _, trivial⟩⟩
theorem P_event (k v : Int) : PCall EE 34 [int k, int v] (eventP k v).enc := by
 have h1 := P_yes
 rw [yesE.enc_eq] at h1
 rw [eventP.enc_eq]
 refine wordsN ?_; unhygienic intros
 refine fn_body (fn := Tryz.f34) (n := 9) (ac := Tryzc34) (rvs := [.cell 4 14 true]) rfl (by decide) Tryzp34 rfl rfl rfl ?_
 refine goA 60 ?_
 refine oPA h1 ?_
 refine goA 60 ?_
 refine fn_ret rfl rfl ?_
 exact ⟨[.gone], ⟨trivial, trivial⟩, .agg' ⟨.refl _, .nilI _, .refl _, .refl _, .refl _, .refl _, .refl _, .refl _, .refl _, .refl _, .refl _, .refl _, .refl _, .refl _, trivial⟩⟩
theorem P_ref08_Same : ∀ x y : Ex, x.Sm → PCall EE 49 [x.enc, y.enc] (bool (eqB x y)) := by
 refine Ex.ind ?_
 intro o a v f k x ih y hs
 obtain ⟨o2, a2, v2, f2, k2, x2⟩ := y
 obtain ⟨xk, xn, xt⟩ := x
 obtain ⟨yk, yn, yt⟩ := x2
 have hlen := hs.len
 have hih : ∀ q ∈ a, ∀ q2, PCall EE 49 [q.enc, q2.enc] (bool (eqB q q2)) := fun q hq q2 => ih q hq q2 (hs.arg hq)
 have hcl := Ex.closedI a
 have hcl2 := Ex.closedI a2
 obtain ⟨R, hR⟩ : ∃ R, R = eqB (Ex.mk o a v f k ⟨xk, xn, xt⟩) (Ex.mk o2 a2 v2 f2 k2 ⟨yk, yn, yt⟩) := ⟨_, rfl⟩
 rw [← hR, Ex.enc_mk, Ex.enc_mk]
 clear ih hs
 refine wordsN ?_; unhygienic intros
 generalize hes : mapE Ex.enc a = es at *
 generalize hes2 : mapE Ex.enc a2 = es2 at *
 have hel : es.length = a.length := by rw [← hes, mapE_len]
 have hel2 : es2.length = a2.length := by rw [← hes2, mapE_len]
 refine fn_body (fn := Tryz.f49) (n := 67) (ac := Tryzc49) (rvs := [.t 4]) rfl (by decide) Tryzp49 rfl rfl rfl ?_
 refine goA 0 ?_
 refine on_cond rfl (fun c1 => ?_) (fun c1 => ?_)
 · simp [ee] at c1
   have hR : R = false := by
    rw [hR]; refine eqB_f fun h => ?_
    simp only [Ex.mk.injEq, Vl.mk.injEq] at h
    obtain ⟨rfl, rfl, rfl, rfl, rfl, rfl, rfl, rfl⟩ := h
    simp [hel, hel2] at c1
   refine goA 60 ?_
   refine fn_ret rfl rfl (.val ?_)
   exact congrArg Value.bool hR.symm
 simp [ee] at c1
 obtain ⟨⟨⟨⟨⟨h1, h2⟩, h3⟩, h4⟩, ⟨h5, h6, h7⟩⟩, h8⟩ := c1
 have h7 := bs_inj h7
 subst h1 h2 h3 h4 h5 h6 h7
 have hl8 : a.length = a2.length := by omega
 have hR : R = eqB a a2 := by
  rw [hR]
  by_cases h : a = a2
  · rw [h, eqB_t rfl, eqB_t rfl]
  · rw [eqB_f h, eqB_f (by simp [h])]
 refine goA 60 ?_
 refine on_loopP (ι := List Ex × List Ex × List Ex × List Ex × Int) (fun p => ([(5, int p.2.2.2.2), (2, .ptr 0 0), (3, .ptr 1 0)], [.cells [int o, .isl 8 es, int v, int f, int k, int xk, int xn, str xt], .cells [int o, .isl 8 es2, int v, int f, int k, int xk, int xn, str xt]])) (fun p => a = p.1 ++ p.2.1 ∧ a2 = p.2.2.1 ++ p.2.2.2.1 ∧ p.2.2.2.2 = p.1.length ∧ p.1 = p.2.2.1) (fun p => p.2.1.length) ([], a, [], a2, 0) ⟨rfl, rfl, rfl, rfl⟩ ?_ ?_
 · exact (ent_sub [.to 0, .to 1] [some 0, some 1] ⟨⟨by simp, rfl⟩, ⟨by simp, rfl⟩, trivial⟩ ⟨osrc_cells (b := 0) rfl rfl rfl ⟨.refl _, .cl hcl, .refl _, .refl _, .refl _, .refl _, .refl _, .refl _, trivial⟩, osrc_cells (b := 1) rfl rfl rfl ⟨.refl _, .cl hcl2, .refl _, .refl _, .refl _, .refl _, .refl _, .refl _, trivial⟩, trivial⟩ ⟨.refl _, .refl _, .refl _, trivial⟩)
 rintro ⟨d, r, d2, r2, i⟩ ⟨g1, g2, gi, gd⟩
 dsimp only at g1 g2 gi gd ⊢
 subst gd
 cases r with
 | nil =>
  have L1 := len_split g1
  try simp only [List.length] at L1
  have hc : iLt i (lenA es) = false := lt_f e_iLt e_lenA (by omega)
  have L2 := len_split g2
  try simp only [List.length] at L2
  have hr2 : r2 = [] := List.length_eq_zero_iff.1 (by omega)
  have hR : R = true := by rw [hR]; exact eqB_t (by rw [g1, g2, hr2])
  refine goB hX 0 (by conv => lhs; cbv; try simp only [hc]; cbv; try simp only [hc]; cbv; try simp only [hc]; cbv; try simp only [hc]; cbv) ?_
  refine goA 60 ?_
  refine loopP_exit ?_
  refine goA 60 ?_
  refine fn_ret rfl rfl (.val ?_)
  exact congrArg Value.bool hR.symm
 | cons q r =>
  have L1 := len_split g1
  try simp only [List.length] at L1
  have hc : iLt i (lenA es) = true := lt_t e_iLt e_lenA (by omega)
  have hat := el_at e_atA hes g1 gi
  have L2 := len_split g2
  try simp only [List.length] at L2
  cases r2 with
  | nil => exfalso; simp at L2; omega
  | cons q2 r2 =>
   have hat2 := el_at e_atA hes2 g2 gi
   have hq := hih q (by rw [g1]; simp) q2
   have hqc := Ex.closed q
   have hqc2 := Ex.closed q2
   obtain ⟨qO, qA, qV, qF, qK, qXk, qXn, qXt, hx⟩ := Ex.form q
   obtain ⟨q2O, q2A, q2V, q2F, q2K, q2Xk, q2Xn, q2Xt, hx2⟩ := Ex.form q2
   rw [hx, hx2] at hq
   rw [hx] at hat hqc
   rw [hx2] at hat2 hqc2
   have hi2 : iAdd .i64 i 1 = ((d ++ [q]).length : Int) := by rw [List.length_append]; exact inc_w e_iAdd gi (by omega)
   by_cases hqq : q = q2
   · rw [eqB_t hqq] at hq
     have hn : bNot true = false := by simp [ee]
     refine goB hX 0 (by conv => lhs; cbv; try simp only [hc, hat, hat2, hn]; cbv; try simp only [hc, hat, hat2, hn]; cbv; try simp only [hc, hat, hat2, hn]; cbv; try simp only [hc, hat, hat2, hn]; cbv) ?_
     refine goB hX 1 (by conv => lhs; cbv; try simp only [hc, hat, hat2, hn]; cbv; try simp only [hc, hat, hat2, hn]; cbv; try simp only [hc, hat, hat2, hn]; cbv; try simp only [hc, hat, hat2, hn]; cbv) ?_
     refine tr_drawB rfl (by conv => lhs; cbv) rfl ?_
     refine tgB hX (by conv => lhs; cbv; try simp only [hc, hat, hat2, hn]; cbv; try simp only [hc, hat, hat2, hn]; cbv; try simp only [hc, hat, hat2, hn]; cbv; try simp only [hc, hat, hat2, hn]; cbv) ?_
     refine oPT hq ?_
     refine tgA ?_
     refine tr_nil ⟨rfl, ?_, ?_⟩
     · simp only [LooksL, lookAll, List.append, List.cons_append, List.nil_append, List.append_nil]; and_intros <;> first | trivial | (intro hp; first | rfl | exact absurd (show false = true from hp) Bool.false_ne_true)
     refine goB hX 0 (by conv => lhs; cbv; try simp only [hc, hat, hat2, hn]; cbv; try simp only [hc, hat, hat2, hn]; cbv; try simp only [hc, hat, hat2, hn]; cbv; try simp only [hc, hat, hat2, hn]; cbv) ?_
     refine goA 60 ?_
     refine loopP_next (d ++ [q], r, d ++ [q2], r2, iAdd .i64 i 1) ⟨by simp [g1], by simp [g2], hi2, by simp [hqq]⟩ (by simp) (ent_sub [.to 0, .to 1] [some 0, some 1] ⟨⟨by simp, rfl⟩, ⟨by simp, rfl⟩, trivial⟩ ⟨osrc_cells (b := 0) rfl rfl rfl ⟨.refl _, .cl hcl, .refl _, .refl _, .refl _, .refl _, .refl _, .refl _, trivial⟩, osrc_cells (b := 1) rfl rfl rfl ⟨.refl _, .cl hcl2, .refl _, .refl _, .refl _, .refl _, .refl _, .refl _, trivial⟩, trivial⟩ ⟨.refl _, .refl _, .refl _, trivial⟩)
   · rw [eqB_f hqq] at hq
     have hn : bNot false = true := by simp [ee]
     have hR : R = false := by rw [hR]; exact eqB_f (by rw [g1, g2]; simp [hqq])
     refine goB hX 0 (by conv => lhs; cbv; try simp only [hc, hat, hat2, hn]; cbv; try simp only [hc, hat, hat2, hn]; cbv; try simp only [hc, hat, hat2, hn]; cbv; try simp only [hc, hat, hat2, hn]; cbv) ?_
     refine goB hX 1 (by conv => lhs; cbv; try simp only [hc, hat, hat2, hn]; cbv; try simp only [hc, hat, hat2, hn]; cbv; try simp only [hc, hat, hat2, hn]; cbv; try simp only [hc, hat, hat2, hn]; cbv) ?_
     refine tr_drawB rfl (by conv => lhs; cbv) rfl ?_
     refine tgB hX (by conv => lhs; cbv; try simp only [hc, hat, hat2, hn]; cbv; try simp only [hc, hat, hat2, hn]; cbv; try simp only [hc, hat, hat2, hn]; cbv; try simp only [hc, hat, hat2, hn]; cbv) ?_
     refine oPT hq ?_
     refine tgA ?_
     refine tr_nil ⟨rfl, ?_, ?_⟩
     · simp only [LooksL, lookAll, List.append, List.cons_append, List.nil_append, List.append_nil]; and_intros <;> first | trivial | (intro hp; first | rfl | exact absurd (show false = true from hp) Bool.false_ne_true)
     refine goB hX 0 (by conv => lhs; cbv; try simp only [hc, hat, hat2, hn]; cbv; try simp only [hc, hat, hat2, hn]; cbv; try simp only [hc, hat, hat2, hn]; cbv; try simp only [hc, hat, hat2, hn]; cbv) ?_
     refine goA 60 ?_
     refine loopP_ret ?_
     refine goA 60 ?_
     refine fn_ret rfl rfl (.val ?_)
     exact congrArg Value.bool hR.symm
theorem P_ref09_Same : ∀ x y : Pat, x.Sm → PCall EE 11 [x.enc, y.enc] (bool (eqB x y)) := by
 refine Pat.ind ?_
 intro o a t v s n c ih y hs
 obtain ⟨o2, a2, t2, v2, s2, n2, c2⟩ := y
 have hlen := hs.len
 have hih : ∀ q ∈ a, ∀ q2, PCall EE 11 [q.enc, q2.enc] (bool (eqB q q2)) := fun q hq q2 => ih q hq q2 (hs.arg hq)
 have hcs := P_ref08_Same c c2 hs.cond
 have hcl := Pat.closedI a
 have hcl2 := Pat.closedI a2
 have hcc := Ex.closed c
 have hcc2 := Ex.closed c2
 obtain ⟨R, hR⟩ : ∃ R, R = eqB (Pat.mk o a t v s n c) (Pat.mk o2 a2 t2 v2 s2 n2 c2) := ⟨_, rfl⟩
 have hRe : o = o2 → t = t2 → v = v2 → s = s2 → n = n2 → c = c2 → R = eqB a a2 := by
  rintro rfl rfl rfl rfl rfl rfl
  rw [hR]
  by_cases h : a = a2
  · rw [h, eqB_t rfl, eqB_t rfl]
  · rw [eqB_f h, eqB_f (by simp [h])]
 have hRf : ¬(o = o2 ∧ t = t2 ∧ v = v2 ∧ s = s2 ∧ n = n2 ∧ c = c2 ∧ a.length = a2.length) → R = false := by
  intro h; rw [hR]; refine eqB_f fun h2 => h ?_
  simp only [Pat.mk.injEq] at h2
  obtain ⟨rfl, rfl, rfl, rfl, rfl, rfl, rfl⟩ := h2
  simp
 obtain ⟨B, hB⟩ : ∃ B, B = eqB c c2 := ⟨_, rfl⟩
 have hB1 : B = true → c = c2 := fun h => eqB_iff.1 (hB ▸ h)
 have hB2 : B = false → c ≠ c2 := fun h hc => by rw [hB, eqB_t hc] at h; cases h
 rw [← hB] at hcs
 rw [← hR]
 obtain ⟨cCo, cC, cv, cf, ck, cxk, cxn, cxt⟩ := c
 obtain ⟨dCo, dC, dv, df, dk, dxk, dxn, dxt⟩ := c2
 rw [Pat.enc_mk, Pat.enc_mk]
 rw [Ex.enc_mk] at hcc hcc2 hcs
 rw [Ex.enc_mk] at hcs
 dsimp only at hcc hcc2 hcs ⊢
 have hcC := Ex.closedI cC
 have hcD := Ex.closedI dC
 clear ih hs hR hB
 refine wordsN ?_; unhygienic intros
 generalize mapE Ex.enc cC = cC' at *
 generalize mapE Ex.enc dC = dC' at *
 generalize hes : mapE Pat.enc a = es at *
 generalize hes2 : mapE Pat.enc a2 = es2 at *
 have hel : es.length = a.length := by rw [← hes, mapE_len]
 have hel2 : es2.length = a2.length := by rw [← hes2, mapE_len]
 have hor : ∀ b, bOr false b = b := by simp [ee]
 have hor2 : ∀ b, bOr b false = b := by simp [ee]
 have hort : ∀ b, bOr true b = true := by simp [ee]
 have hne : ∀ z, iNe z z = false := by simp [ee]
 have hnt : bNot true = false := by simp [ee]
 have hnf : bNot false = true := by simp [ee]
 refine fn_body (fn := Tryz.f11) (n := 75) (ac := Tryzc11) (rvs := [.t 4]) rfl (by decide) Tryzp11 rfl rfl rfl ?_
 by_cases hd : o = o2 ∧ t = t2 ∧ v = v2 ∧ s = s2 ∧ n = n2
 rotate_left
 · have hR : R = false := hRf (fun h => hd ⟨h.1, h.2.1, h.2.2.1, h.2.2.2.1, h.2.2.2.2.1⟩)
   have hbig : bOr (bOr (bOr (bOr (iNe o o2) (iNe t t2)) (iNe v v2)) (iNe s s2)) (iNe n n2) = true := by
    simp only [ee]
    simp only [Bool.or_eq_true, bne_iff_ne, ne_eq]
    by_cases h1 : o = o2 <;> by_cases h2 : t = t2 <;> by_cases h3 : v = v2 <;> by_cases h4 : s = s2 <;> by_cases h5 : n = n2 <;> simp_all
   refine goB hX 0 (by conv => lhs; cbv; try simp only [hbig, hor, hort]; cbv; try simp only [hbig, hor, hort]; cbv; try simp only [hbig, hor, hort]; cbv; try simp only [hbig, hor, hort]; cbv) ?_
   refine goA 60 ?_
   refine on_gskip rfl rfl ?_
   refine goB hX 0 (by conv => lhs; cbv; try simp only [hbig, hor, hort]; cbv; try simp only [hbig, hor, hort]; cbv; try simp only [hbig, hor, hort]; cbv; try simp only [hbig, hor, hort]; cbv) ?_
   refine goA 60 ?_
   refine fn_ret rfl rfl (.val ?_)
   exact congrArg Value.bool hR.symm
 obtain ⟨rfl, rfl, rfl, rfl, rfl⟩ := hd
 cases B with
 | false =>
  have hR : R = false := hRf (fun h => hB2 rfl h.2.2.2.2.2.1)
  refine goB hX 0 (by conv => lhs; cbv; try simp only [hne, hor, hort, hnf]; cbv; try simp only [hne, hor, hort, hnf]; cbv; try simp only [hne, hor, hort, hnf]; cbv; try simp only [hne, hor, hort, hnf]; cbv) ?_
  refine goA 60 ?_
  refine oPG hcs ?_
  refine goB hX 0 (by conv => lhs; cbv; try simp only [hne, hor, hort, hnf]; cbv; try simp only [hne, hor, hort, hnf]; cbv; try simp only [hne, hor, hort, hnf]; cbv; try simp only [hne, hor, hort, hnf]; cbv) ?_
  refine goA 60 ?_
  refine fn_ret rfl rfl (.val ?_)
  exact congrArg Value.bool hR.symm
 | true =>
 have hRe := hRe rfl rfl rfl rfl rfl (hB1 rfl)
 by_cases hl8 : a.length = a2.length
 rotate_left
 · have hR : R = false := hRf (fun h => hl8 h.2.2.2.2.2.2)
   have hln : iNe (lenA es) (lenA es2) = true := by simp only [ee]; simp; omega
   refine goB hX 0 (by conv => lhs; cbv; try simp only [hne, hor, hort, hnt, hln]; cbv; try simp only [hne, hor, hort, hnt, hln]; cbv; try simp only [hne, hor, hort, hnt, hln]; cbv; try simp only [hne, hor, hort, hnt, hln]; cbv) ?_
   refine goA 60 ?_
   refine oPG hcs ?_
   refine goB hX 0 (by conv => lhs; cbv; try simp only [hne, hor, hort, hnt, hln]; cbv; try simp only [hne, hor, hort, hnt, hln]; cbv; try simp only [hne, hor, hort, hnt, hln]; cbv; try simp only [hne, hor, hort, hnt, hln]; cbv) ?_
   refine goA 60 ?_
   refine fn_ret rfl rfl (.val ?_)
   exact congrArg Value.bool hR.symm
 have hln : iNe (lenA es) (lenA es2) = false := by simp only [ee]; simp; omega
 refine goB hX 0 (by conv => lhs; cbv; try simp only [hne, hor, hort, hnt, hln]; cbv; try simp only [hne, hor, hort, hnt, hln]; cbv; try simp only [hne, hor, hort, hnt, hln]; cbv; try simp only [hne, hor, hort, hnt, hln]; cbv) ?_
 refine goA 60 ?_
 refine oPG hcs ?_
 refine goB hX 0 (by conv => lhs; cbv; try simp only [hne, hor, hort, hnt, hln]; cbv; try simp only [hne, hor, hort, hnt, hln]; cbv; try simp only [hne, hor, hort, hnt, hln]; cbv; try simp only [hne, hor, hort, hnt, hln]; cbv) ?_
 refine goA 60 ?_
 refine on_loopP (ι := List Pat × List Pat × List Pat × List Pat × Int) (fun p => ([(5, int p.2.2.2.2), (2, .ptr 0 0), (3, .ptr 1 0)], [.cells [int o, .isl 14 es, int t, int v, int s, int n, int cCo, .isl 8 cC', int cv, int cf, int ck, int cxk, int cxn, str cxt], .cells [int o, .isl 14 es2, int t, int v, int s, int n, int dCo, .isl 8 dC', int dv, int df, int dk, int dxk, int dxn, str dxt]])) (fun p => a = p.1 ++ p.2.1 ∧ a2 = p.2.2.1 ++ p.2.2.2.1 ∧ p.2.2.2.2 = p.1.length ∧ p.1 = p.2.2.1) (fun p => p.2.1.length) ([], a, [], a2, 0) ⟨rfl, rfl, rfl, rfl⟩ ?_ ?_
 · exact (ent_sub [.to 0, .to 1] [some 0, some 1] ⟨⟨by simp, rfl⟩, ⟨by simp, rfl⟩, trivial⟩ ⟨osrc_cells (b := 0) rfl rfl rfl ⟨.refl _, .cl hcl, .refl _, .refl _, .refl _, .refl _, .refl _, .cl hcC, .refl _, .refl _, .refl _, .refl _, .refl _, .refl _, trivial⟩, osrc_cells (b := 1) rfl rfl rfl ⟨.refl _, .cl hcl2, .refl _, .refl _, .refl _, .refl _, .refl _, .cl hcD, .refl _, .refl _, .refl _, .refl _, .refl _, .refl _, trivial⟩, trivial⟩ ⟨.refl _, .refl _, .refl _, trivial⟩)
 rintro ⟨d, r, d2, r2, i⟩ ⟨g1, g2, gi, gd⟩
 dsimp only at g1 g2 gi gd ⊢
 subst gd
 cases r with
 | nil =>
  have L1 := len_split g1
  try simp only [List.length] at L1
  have hc : iLt i (lenA es) = false := lt_f e_iLt e_lenA (by omega)
  have L2 := len_split g2
  try simp only [List.length] at L2
  have hr2 : r2 = [] := List.length_eq_zero_iff.1 (by omega)
  have hR : R = true := by rw [hRe]; exact eqB_t (by rw [g1, g2, hr2])
  refine goB hX 0 (by conv => lhs; cbv; try simp only [hc]; cbv; try simp only [hc]; cbv; try simp only [hc]; cbv; try simp only [hc]; cbv) ?_
  refine goA 60 ?_
  refine loopP_exit ?_
  refine goA 60 ?_
  refine fn_ret rfl rfl (.val ?_)
  exact congrArg Value.bool hR.symm
 | cons q r =>
  have L1 := len_split g1
  try simp only [List.length] at L1
  have hc : iLt i (lenA es) = true := lt_t e_iLt e_lenA (by omega)
  have hat := el_at e_atA hes g1 gi
  have L2 := len_split g2
  try simp only [List.length] at L2
  cases r2 with
  | nil => exfalso; simp at L2; omega
  | cons q2 r2 =>
   have hat2 := el_at e_atA hes2 g2 gi
   have hq := hih q (by rw [g1]; simp) q2
   have hqc := Pat.closed q
   have hqc2 := Pat.closed q2
   obtain ⟨qO, qA, qT, qV, qS, qN, qCo, qCa, qCv, qCf, qCk, qXk, qXn, qXt, hx⟩ := Pat.form q
   obtain ⟨q2O, q2A, q2T, q2V, q2S, q2N, q2Co, q2Ca, q2Cv, q2Cf, q2Ck, q2Xk, q2Xn, q2Xt, hx2⟩ := Pat.form q2
   rw [hx, hx2] at hq
   rw [hx] at hat hqc
   rw [hx2] at hat2 hqc2
   have hi2 : iAdd .i64 i 1 = ((d ++ [q]).length : Int) := by rw [List.length_append]; exact inc_w e_iAdd gi (by omega)
   by_cases hqq : q = q2
   · rw [eqB_t hqq] at hq
     refine goB hX 0 (by conv => lhs; cbv; try simp only [hc, hat, hat2, hnt]; cbv; try simp only [hc, hat, hat2, hnt]; cbv; try simp only [hc, hat, hat2, hnt]; cbv; try simp only [hc, hat, hat2, hnt]; cbv) ?_
     refine goB hX 1 (by conv => lhs; cbv; try simp only [hc, hat, hat2, hnt]; cbv; try simp only [hc, hat, hat2, hnt]; cbv; try simp only [hc, hat, hat2, hnt]; cbv; try simp only [hc, hat, hat2, hnt]; cbv) ?_
     refine tr_drawB rfl (by conv => lhs; cbv) rfl ?_
     refine tgB hX (by conv => lhs; cbv; try simp only [hc, hat, hat2, hnt]; cbv; try simp only [hc, hat, hat2, hnt]; cbv; try simp only [hc, hat, hat2, hnt]; cbv; try simp only [hc, hat, hat2, hnt]; cbv) ?_
     refine oPT hq ?_
     refine tgA ?_
     refine tr_nil ⟨rfl, ?_, ?_⟩
     · simp only [LooksL, lookAll, List.append, List.cons_append, List.nil_append, List.append_nil]; and_intros <;> first | trivial | (intro hp; first | rfl | exact absurd (show false = true from hp) Bool.false_ne_true)
     refine goB hX 0 (by conv => lhs; cbv; try simp only [hc, hat, hat2, hnt]; cbv; try simp only [hc, hat, hat2, hnt]; cbv; try simp only [hc, hat, hat2, hnt]; cbv; try simp only [hc, hat, hat2, hnt]; cbv) ?_
     refine goA 60 ?_
     refine loopP_next (d ++ [q], r, d ++ [q2], r2, iAdd .i64 i 1) ⟨by simp [g1], by simp [g2], hi2, by simp [hqq]⟩ (by simp) (ent_sub [.to 0, .to 1] [some 0, some 1] ⟨⟨by simp, rfl⟩, ⟨by simp, rfl⟩, trivial⟩ ⟨osrc_cells (b := 0) rfl rfl rfl ⟨.refl _, .cl hcl, .refl _, .refl _, .refl _, .refl _, .refl _, .cl hcC, .refl _, .refl _, .refl _, .refl _, .refl _, .refl _, trivial⟩, osrc_cells (b := 1) rfl rfl rfl ⟨.refl _, .cl hcl2, .refl _, .refl _, .refl _, .refl _, .refl _, .cl hcD, .refl _, .refl _, .refl _, .refl _, .refl _, .refl _, trivial⟩, trivial⟩ ⟨.refl _, .refl _, .refl _, trivial⟩)
   · rw [eqB_f hqq] at hq
     have hR : R = false := by rw [hRe]; exact eqB_f (by rw [g1, g2]; simp [hqq])
     refine goB hX 0 (by conv => lhs; cbv; try simp only [hc, hat, hat2, hnf]; cbv; try simp only [hc, hat, hat2, hnf]; cbv; try simp only [hc, hat, hat2, hnf]; cbv; try simp only [hc, hat, hat2, hnf]; cbv) ?_
     refine goB hX 1 (by conv => lhs; cbv; try simp only [hc, hat, hat2, hnf]; cbv; try simp only [hc, hat, hat2, hnf]; cbv; try simp only [hc, hat, hat2, hnf]; cbv; try simp only [hc, hat, hat2, hnf]; cbv) ?_
     refine tr_drawB rfl (by conv => lhs; cbv) rfl ?_
     refine tgB hX (by conv => lhs; cbv; try simp only [hc, hat, hat2, hnf]; cbv; try simp only [hc, hat, hat2, hnf]; cbv; try simp only [hc, hat, hat2, hnf]; cbv; try simp only [hc, hat, hat2, hnf]; cbv) ?_
     refine oPT hq ?_
     refine tgA ?_
     refine tr_nil ⟨rfl, ?_, ?_⟩
     · simp only [LooksL, lookAll, List.append, List.cons_append, List.nil_append, List.append_nil]; and_intros <;> first | trivial | (intro hp; first | rfl | exact absurd (show false = true from hp) Bool.false_ne_true)
     refine goB hX 0 (by conv => lhs; cbv; try simp only [hc, hat, hat2, hnf]; cbv; try simp only [hc, hat, hat2, hnf]; cbv; try simp only [hc, hat, hat2, hnf]; cbv; try simp only [hc, hat, hat2, hnf]; cbv) ?_
     refine goA 60 ?_
     refine loopP_ret ?_
     refine goA 60 ?_
     refine fn_ret rfl rfl (.val ?_)
     exact congrArg Value.bool hR.symm
theorem P_example (a b : Int) : PCall EE 33 [int a, int b] (exampleP a b).enc := by
 have h1 := P_event 1 b
 have h2 := P_event 0 a
 have hR : (exampleP a b).enc = .agg [int 1, .isl 14 [(eventP 0 a).enc, .agg [int 6, .isl 14 [.agg [int 4, .isl 14 [(eventP 1 b).enc], int 0, int 0, int 0, int 0, int 0, .isl 8 [], int 0, int 0, int 0, int 0, int 0, str ⟨#[]⟩]], int 0, int 0, int 0, int 5, int 0, .isl 8 [], int 0, int 0, int 0, int 0, int 0, str ⟨#[]⟩]], int 0, int 0, int 0, int 0, int 0, .isl 8 [], int 0, int 0, int 0, int 0, int 0, str ⟨#[]⟩] := by
  simp only [exampleP, Ex0, Pat.enc_mk, mapE_eq, List.map_cons, List.map_nil, Vl0]
 rw [hR]
 have c1 := Pat.closed (eventP 1 b)
 have c2 := Pat.closed (eventP 0 a)
 generalize eventP 1 b = p1 at *
 generalize eventP 0 a = p2 at *
 obtain ⟨p1O, p1A, p1T, p1V, p1S, p1N, p1Co, p1Ca, p1Cv, p1Cf, p1Ck, p1Xk, p1Xn, p1Xt, hx1⟩ := Pat.form p1
 obtain ⟨p2O, p2A, p2T, p2V, p2S, p2N, p2Co, p2Ca, p2Cv, p2Cf, p2Ck, p2Xk, p2Xn, p2Xt, hx2⟩ := Pat.form p2
 rw [hx1] at h1 c1 ⊢
 rw [hx2] at h2 c2 ⊢
 clear hR hx1 hx2
 refine PCall.weak2 (v := .agg [int 1, .isl 14 [.agg [int p2O, .isl 14 p2A, int p2T, int p2V, int p2S, int p2N, int p2Co, .isl 8 p2Ca, int p2Cv, int p2Cf, int p2Ck, int p2Xk, int p2Xn, str p2Xt], .agg [int 6, .isl 14 [.agg [int 4, .isl 14 [.agg [int p1O, .isl 14 p1A, int p1T, int p1V, int p1S, int p1N, int p1Co, .isl 8 p1Ca, int p1Cv, int p1Cf, int p1Ck, int p1Xk, int p1Xn, str p1Xt]], int 0, int 0, int 0, int 0, int 0, .val (.slice none 0 0), int 0, int 0, int 0, int 0, int 0, str ⟨#[]⟩]], int 0, int 0, int 0, int 5, int 0, .val (.slice none 0 0), int 0, int 0, int 0, int 0, int 0, str ⟨#[]⟩]], int 0, int 0, int 0, int 0, int 0, .val (.slice none 0 0), int 0, int 0, int 0, int 0, int 0, str ⟨#[]⟩]) ?_ ?_
 rotate_left
 · exact .agg' ⟨.refl _, .isl' ⟨.refl _, ⟨.refl _, .isl' ⟨⟨.refl _, .refl _, .refl _, .refl _, .refl _, .refl _, .refl _, .nilI _, .refl _, .refl _, .refl _, .refl _, .refl _, .refl _, trivial⟩, trivial⟩, .refl _, .refl _, .refl _, .refl _, .refl _, .nilI _, .refl _, .refl _, .refl _, .refl _, .refl _, .refl _, trivial⟩, trivial⟩, .refl _, .refl _, .refl _, .refl _, .refl _, .nilI _, .refl _, .refl _, .refl _, .refl _, .refl _, .refl _, trivial⟩
 refine wordsN ?_; unhygienic intros
 refine fn_body (fn := Tryz.f33) (n := 17) (ac := Tryzc33) (rvs := [.cell 4 14 true]) rfl (by decide) Tryzp33 rfl rfl rfl ?_
 refine goA 60 ?_
 refine oPA h1 ?_
 refine goA 60 ?_
 refine tr_drawB rfl (by conv => lhs; cbv) rfl ?_
 refine tgA ?_
 refine oPT h2 ?_
 refine tgA ?_
 refine tr_nil ⟨rfl, ?_, ?_⟩
 · simp only [LooksL, lookAll, List.append, List.cons_append, List.nil_append, List.append_nil]; and_intros <;> first | trivial | (intro hp; first | rfl | exact absurd (show false = true from hp) Bool.false_ne_true)
 refine goA 60 ?_
 refine fn_ret rfl rfl ?_
 have hp1 : ∀ σ, AV.sub σ (.agg [int p1O, .isl 14 p1A, int p1T, int p1V, int p1S, int p1N, int p1Co, .isl 8 p1Ca, int p1Cv, int p1Cf, int p1Ck, int p1Xk, int p1Xn, str p1Xt]) = .agg [int p1O, .isl 14 p1A, int p1T, int p1V, int p1S, int p1N, int p1Co, .isl 8 p1Ca, int p1Cv, int p1Cf, int p1Ck, int p1Xk, int p1Xn, str p1Xt] := fun σ => sub_closed _ _ _ (Nat.le_refl _) c1
 have hp2 : ∀ σ, AV.sub σ (.agg [int p2O, .isl 14 p2A, int p2T, int p2V, int p2S, int p2N, int p2Co, .isl 8 p2Ca, int p2Cv, int p2Cf, int p2Ck, int p2Xk, int p2Xn, str p2Xt]) = .agg [int p2O, .isl 14 p2A, int p2T, int p2V, int p2S, int p2N, int p2Co, .isl 8 p2Ca, int p2Cv, int p2Cf, int p2Ck, int p2Xk, int p2Xn, str p2Xt] := fun σ => sub_closed _ _ _ (Nat.le_refl _) c2
 exact ⟨[.gone, .isl 14 [.agg [int p1O, .isl 14 p1A, int p1T, int p1V, int p1S, int p1N, int p1Co, .isl 8 p1Ca, int p1Cv, int p1Cf, int p1Ck, int p1Xk, int p1Xn, str p1Xt]], .gone, .isl 14 [.agg [int 4, .isl 14 [.agg [int p1O, .isl 14 p1A, int p1T, int p1V, int p1S, int p1N, int p1Co, .isl 8 p1Ca, int p1Cv, int p1Cf, int p1Ck, int p1Xk, int p1Xn, str p1Xt]], int 0, int 0, int 0, int 0, int 0, .val (.slice none 0 0), int 0, int 0, int 0, int 0, int 0, str ⟨#[]⟩]], .isl 14 [.agg [int p2O, .isl 14 p2A, int p2T, int p2V, int p2S, int p2N, int p2Co, .isl 8 p2Ca, int p2Cv, int p2Cf, int p2Ck, int p2Xk, int p2Xn, str p2Xt], .agg [int 6, .isl 14 [.agg [int 4, .isl 14 [.agg [int p1O, .isl 14 p1A, int p1T, int p1V, int p1S, int p1N, int p1Co, .isl 8 p1Ca, int p1Cv, int p1Cf, int p1Ck, int p1Xk, int p1Xn, str p1Xt]], int 0, int 0, int 0, int 0, int 0, .val (.slice none 0 0), int 0, int 0, int 0, int 0, int 0, str ⟨#[]⟩]], int 0, int 0, int 0, int 5, int 0, .val (.slice none 0 0), int 0, int 0, int 0, int 0, int 0, str ⟨#[]⟩]]], ⟨trivial, ⟨_, rfl, by simp only [AV.subL, hp1]⟩, trivial, ⟨_, rfl, by rfl⟩, ⟨_, rfl, by simp only [AV.subL, hp2]; rfl⟩, trivial⟩, .of rfl⟩
def lacksP : Pat := .mk 5 [eventP 0 1] 1 0 0 0 yesE
theorem ex_nodes (a b : Int) : (exampleP a b).nodes = [exampleP a b, eventP 0 a, .mk 6 [.mk 4 [eventP 1 b] 0 0 0 0 Ex0] 0 0 0 5 Ex0, .mk 4 [eventP 1 b] 0 0 0 0 Ex0, eventP 1 b] := by
 simp [exampleP, eventP, Pat.nodes, Pat.nodesL]
theorem yes_sm : yesE.Sm := by simp [Ex.Sm, yesE, Ex.cnt, Ex.cntL]
theorem ex0_sm : Ex0.Sm := by simp [Ex.Sm, Ex0, Ex.cnt, Ex.cntL]
theorem ex_sm (a b : Int) : (exampleP a b).Sm := by
 refine (Pat.Sm_iff _).2 ⟨by rw [ex_nodes]; simp, ?_⟩
 rw [ex_nodes]
 intro q hq
 simp at hq
 rcases hq with rfl | rfl | rfl | rfl | rfl <;> simp [exampleP, eventP, Pat.cond, yes_sm, ex0_sm]
theorem lk_nodes : lacksP.nodes = [lacksP, eventP 0 1] := by simp [lacksP, eventP, Pat.nodes, Pat.nodesL]
theorem lk_sm : lacksP.Sm := by
 refine (Pat.Sm_iff _).2 ⟨by rw [lk_nodes]; simp, ?_⟩
 rw [lk_nodes]
 intro q hq
 simp at hq
 rcases hq with rfl | rfl <;> simp [lacksP, eventP, Pat.cond, yes_sm]
theorem ex_cnt (a b : Int) : (exampleP a b).cnt = 5 := by rw [← Pat.nodes_len, ex_nodes]; rfl
theorem ex_dep (a b : Int) : (exampleP a b).dep = 4 := by simp [exampleP, eventP, Pat.dep, Pat.depL]
theorem lk_cnt : lacksP.cnt = 2 := by rw [← Pat.nodes_len, lk_nodes]; rfl
theorem lk_dep : lacksP.dep = 2 := by simp [lacksP, eventP, Pat.dep, Pat.depL]
theorem yes_chk : yesE.chk = 0 := by
 have h1 : yesE.cnt = 1 := by simp [yesE, Ex.cnt, Ex.cntL]
 have h2 : yesE.dep = 1 := by simp [yesE, Ex.dep, Ex.depL]
 have h3 : yesE.nodes = [yesE] := by simp [yesE, Ex.nodes, Ex.nodesL]
 rw [Ex.chk, h1, h2, h3]
 have hz : (⟨#[]⟩ : ByteArray).size = 0 := rfl
 simp [hz, firstE, Ex.nodeE, yesE, Ex.op, Ex.args, Ex.var, Ex.fld, Ex.kind, Ex.val, Ex.consE, Ex.formB, arityB, arityN, usesV, usesF, Vl.chk, Vl.sizeE]
theorem ev_node (k v : Int) (hk : 0 ≤ k ∧ k ≤ 15) (hv : 0 ≤ v ∧ v ≤ 15) : (eventP k v).nodeE = 0 := by
 have := yes_chk
 simp [Pat.nodeE, eventP, Pat.op, Pat.args, Pat.ty, Pat.var, Pat.scope, Pat.span, Pat.cond, leastF, mostF, typedF, condF, scopeF, spanF, this]
 omega
theorem ex_node (a b : Int) (ha : 0 ≤ a ∧ a ≤ 15) (hb : 0 ≤ b ∧ b ≤ 15) : ∀ q ∈ (exampleP a b).nodes, q.nodeE = 0 := by
 rw [ex_nodes]
 intro q hq
 simp at hq
 rcases hq with rfl | rfl | rfl | rfl | rfl
 · simp [Pat.nodeE, exampleP, Pat.op, Pat.args, Pat.ty, Pat.var, Pat.scope, Pat.span, Pat.cond, leastF, mostF, typedF, condF, scopeF, spanF]
 · exact ev_node _ _ (by omega) ha
 · simp [Pat.nodeE, exampleP, Pat.op, Pat.args, Pat.ty, Pat.var, Pat.scope, Pat.span, Pat.cond, leastF, mostF, typedF, condF, scopeF, spanF]
 · simp [Pat.nodeE, exampleP, Pat.op, Pat.args, Pat.ty, Pat.var, Pat.scope, Pat.span, Pat.cond, leastF, mostF, typedF, condF, scopeF, spanF]
 · exact ev_node _ _ (by omega) hb
theorem ex_chkR (a b : Int) (ha : 0 ≤ a ∧ a ≤ 15) (hb : 0 ≤ b ∧ b ≤ 15) : (exampleP a b).chkR = 0 := by
 rw [Pat.chkR, ex_cnt, ex_dep, if_neg (by decide), if_neg (by decide)]
 exact firstE_ok (ex_node a b ha hb)
theorem ex_whole (a b : Int) (ha : 0 ≤ a ∧ a ≤ 15) (hb : 0 ≤ b ∧ b ≤ 15) : (exampleP a b).wholeE = 0 := by
 rw [Pat.wholeE, ex_chkR a b ha hb, ex_nodes]
 simp [firstE, exampleP, eventP, Pat.op]
theorem ex_chk (a b : Int) (ha : 0 ≤ a ∧ a ≤ 15) (hb : 0 ≤ b ∧ b ≤ 15) : (exampleP a b).chk = if a = 0 ∧ b = 1 then 0 else 14 := by
 rw [Pat.chk, ex_whole a b ha hb, ex_nodes]
 simp [cfold, cstep, exampleP, eventP, Pat.op, Pat.var, Pat.scope, typedF, scopeF]
theorem ex_path : (exampleP 0 1).path 1 = [exampleP 0 1, .mk 6 [.mk 4 [eventP 1 1] 0 0 0 0 Ex0] 0 0 0 5 Ex0, .mk 4 [eventP 1 1] 0 0 0 0 Ex0, eventP 1 1] := by
 simp [exampleP, eventP, Pat.path, Pat.pathL, consP]
theorem ex_around : (exampleP 0 1).aroundE 1 = 0 := by
 rw [Pat.aroundE, ex_chkR 0 1 (by omega) (by omega), ex_path]; simp
theorem ex_lims : (exampleP 0 1).lims 1 = [⟨0, 5⟩] := by
 rw [Pat.lims, ex_around, ex_path]
 simp [limsF, exampleP, eventP, Pat.op, Pat.scope, Pat.span]
theorem ex_scs : (exampleP 0 1).scs 1 = [] := by
 rw [Pat.scs, ex_around, ex_path]
 simp [scsF, exampleP, eventP, Pat.op]
theorem lk_chk : lacksP.chk = 0 := by
 have h0 : ∀ q ∈ lacksP.nodes, q.nodeE = 0 := by
  have := yes_chk
  rw [lk_nodes]
  intro q hq
  simp at hq
  rcases hq with rfl | rfl
  · simp [Pat.nodeE, lacksP, Pat.op, Pat.args, Pat.ty, Pat.var, Pat.scope, Pat.span, Pat.cond, leastF, mostF, typedF, condF, scopeF, spanF, this]
  · exact ev_node _ _ (by omega) (by omega)
 have h1 : lacksP.chkR = 0 := by
  rw [Pat.chkR, lk_cnt, lk_dep, if_neg (by decide), if_neg (by decide)]
  exact firstE_ok h0
 have h2 : lacksP.wholeE = 0 := by
  rw [Pat.wholeE, h1, lk_nodes]
  simp [firstE, lacksP, eventP, Pat.op]
 rw [Pat.chk, h2, lk_nodes]
 simp [cfold, cstep, lacksP, eventP, Pat.op, Pat.var, Pat.scope, typedF, scopeF]
theorem lk_bound : lacksP.bound = [1] := by
 rw [Pat.bound, lk_nodes]
 have : bndF [lacksP, eventP 0 1] = [1] := by simp [bndF, lacksP, eventP, Pat.op, Pat.var]
 rw [this]
 have : sortI [1] = [1] := by simp [sortI]
 rw [this]
 rfl
theorem ex_olds (a b : Int) : oldsF (exampleP a b).nodes = [a, b] := by
 rw [ex_nodes]; simp [oldsF, exampleP, eventP, Pat.op, Pat.var, typedF]
theorem yes_vars : yesE.vars = [] := by rfl
theorem ex_numE : (exampleP 3 7).numE = 0 := by
 rw [Pat.numE, ex_whole 3 7 (by omega) (by omega), ex_olds, ex_nodes]
 simp [firstE, lacksF, exampleP, eventP, Pat.op, Pat.cond, condF, yes_vars]
theorem yes_ren (to : List Int) : yesE.rename to = yesE := by
 have h3 : yesE.nodes = [yesE] := by simp [yesE, Ex.nodes, Ex.nodesL]
 have : yesE.renErr to = 0 := by
  rw [Ex.renErr, yes_chk, h3]
  simp [firstE, renE, yesE, Ex.op, usesV]
 rw [Ex.rename, this, if_pos rfl]
 simp [yesE, Ex.reb, Ex.rebL, renG, Ex.op, usesV]
theorem ex_numX : (exampleP 3 7).numX = exampleP 0 1 := by
 have h3 : (toF [3, 7]).getD 3 0 = 0 := by rfl
 have h7 : (toF [3, 7]).getD 7 0 = 1 := by rfl
 rw [Pat.numX, ex_numE, if_pos rfl, ex_olds]
 generalize toF [3, 7] = to at *
 simp only [exampleP, eventP, Pat.ren, Pat.renL]
 simp [typedF, condF, yes_ren, Pat.numb, Pat.numbL, scopeF] at h3 h7 ⊢
 simp [h3, h7, Pat.nsc, Pat.nscL, scopeF]
theorem ex_numO : (exampleP 3 7).numO = [3, 7] := by
 rw [Pat.numO, ex_numE, if_pos rfl, ex_olds]
theorem P_awake : PCall EE 8 [] (bool true) := by
 have q1 := P_example 0 1
 have q2 := P_example 3 7
 have q3 := P_pattern_Size (exampleP 0 1) (ex_sm 0 1)
 have q4 := P_Around (exampleP 0 1) 1 (ex_sm 0 1)
 have q5 := P_Number (exampleP 3 7) (ex_sm 3 7)
 have q6 := P_SameLimits [⟨0, 5⟩] [⟨0, 5⟩] (by decide)
 have q7 := P_pattern_Check (exampleP 0 1) (ex_sm 0 1)
 have q8 := P_pattern_Check (exampleP 3 7) (ex_sm 3 7)
 have q9 := P_ref09_Same (exampleP 0 1) (exampleP 0 1) (ex_sm 0 1)
 have qA := P_SameInts [3, 7] [3, 7] (by decide)
 have qB := P_event 0 1
 have qC := P_yes
 have qD := P_pattern_Check lacksP lk_sm
 have qE := P_Bound lacksP lk_sm
 have qF := P_SameInts [1] [1] (by decide)
 rw [ex_cnt, ex_dep] at q3
 rw [ex_lims, ex_scs, ex_around] at q4
 rw [ex_numX, ex_numO, ex_numE] at q5
 rw [eqB_t rfl] at q6 q9 qA qF
 rw [ex_chk _ _ (by omega) (by omega)] at q7 q8
 rw [lk_chk] at qD
 rw [lk_bound] at qE
 simp only [mapE_eq, List.map_cons, List.map_nil, Lim.enc] at q4 q5 q6 qA qE qF
 have kc1 := Pat.closed (exampleP 0 1)
 have kc2 := Pat.closed (exampleP 3 7)
 have kc3 := Pat.closed (eventP 0 1)
 have kc4 := Ex.closed yesE
 have kc5 := Pat.closed lacksP
 have hl : lacksP.enc = .agg ([int 5, .isl 14 [(eventP 0 1).enc], int 1, int 0, int 0, int 0] ++ (match yesE.enc with | .agg l => l | _ => [])) := by
  rw [lacksP, yesE, Pat.enc_mk, Ex.enc_mk, mapE_eq]; rfl
 generalize exampleP 0 1 = pa at *
 generalize exampleP 3 7 = pb at *
 generalize lacksP = pl at *
 generalize eventP 0 1 = pe at *
 generalize yesE = py at *
 obtain ⟨paO, paA, paT, paV, paS, paN, paCo, paCa, paCv, paCf, paCk, paXk, paXn, paXt, hxa⟩ := Pat.form pa
 obtain ⟨pbO, pbA, pbT, pbV, pbS, pbN, pbCo, pbCa, pbCv, pbCf, pbCk, pbXk, pbXn, pbXt, hxb⟩ := Pat.form pb
 obtain ⟨peO, peA, peT, peV, peS, peN, peCo, peCa, peCv, peCf, peCk, peXk, peXn, peXt, hxe⟩ := Pat.form pe
 obtain ⟨pyO, pyA, pyV, pyF, pyK, pyXk, pyXn, pyXt, hxy⟩ := Ex.form py
 rw [hxe, hxy] at hl
 dsimp only [List.cons_append, List.nil_append] at hl
 rw [hxa] at q1 q3 q4 q5 q7 q9 kc1
 rw [hxb] at q2 q5 q8 kc2
 rw [hxe] at qB kc3
 rw [hxy] at qC kc4
 rw [hl] at qD qE kc5
 refine wordsN ?_; unhygienic intros
 refine fn_body (fn := Tryz.f8) (n := 92) (ac := Tryzc8) (rvs := [.t 0]) rfl (by decide) Tryzp8 rfl rfl rfl ?_
 refine goA 60 ?_
 refine oPA q1 ?_
 refine oPA q2 ?_
 refine goA 60 ?_
 refine oPA q3 ?_
 refine goA 60 ?_
 refine oPA q4 ?_
 refine goA 60 ?_
 refine oPA q5 ?_
 refine goA 0 ?_
 refine on_guard rfl rfl (fun c1 => ?_) (fun c1 => ?_)
 ·
  simp [ee] at c1
 ·
  simp [ee] at c1
  refine goA 60 ?_
  refine on_lend rfl rfl q6 rfl ⟨[.gone, .gone, .gone, .isl 2 ([AV.agg [AV.val (Value.int IntKind.i64 0), AV.val (Value.int IntKind.i64 5)]])], ⟨trivial, trivial, trivial, ⟨_, rfl, (subL_closed _ (by rfl)).symm⟩, trivial⟩, ⟨.refl _, .refl _, trivial⟩⟩ ?_
  refine goA 0 ?_
  refine on_guard rfl rfl (fun c2 => ?_) (fun c2 => ?_)
  ·
   simp [ee] at c2
  ·
   simp [ee] at c2
   refine goA 60 ?_
   refine oPG q7 ?_
   refine goA 0 ?_
   refine on_guard rfl rfl (fun c3 => ?_) (fun c3 => ?_)
   ·
    simp [ee] at c3
   ·
    simp [ee] at c3
    refine goA 60 ?_
    refine oPG q8 ?_
    refine goA 0 ?_
    refine on_guard rfl rfl (fun c4 => ?_) (fun c4 => ?_)
    ·
     simp [ee] at c4
    ·
     simp [ee] at c4
     refine goA 60 ?_
     refine oPG q9 ?_
     refine goA 0 ?_
     refine on_guard rfl rfl (fun c5 => ?_) (fun c5 => ?_)
     ·
      simp [ee] at c5
     ·
      simp [ee] at c5
      refine goA 60 ?_
      refine on_lend rfl rfl qA rfl ⟨[.gone, .gone, .gone, .gone, .isl 1 ([AV.val (Value.int IntKind.i64 3), AV.val (Value.int IntKind.i64 7)])], ⟨trivial, trivial, trivial, trivial, ⟨_, rfl, (subL_closed _ (by rfl)).symm⟩, trivial⟩, ⟨.refl _, .refl _, trivial⟩⟩ ?_
      refine goA 0 ?_
      refine on_cond rfl (fun c6 => ?_) (fun c6 => ?_)
      ·
       simp [ee] at c6
      ·
       simp [ee] at c6
       refine goA 60 ?_
       refine oPA qB ?_
       refine goA 60 ?_
       refine oPA qC ?_
       refine goA 60 ?_
       have kc6 : AV.closedL [.agg [int peO, .isl 14 peA, int peT, int peV, int peS, int peN, int peCo, .isl 8 peCa, int peCv, int peCf, int peCk, int peXk, int peXn, str peXt]] = true := closed1 kc3
       have kc7 : (AV.isl 8 pyA).closed = true := by have := kc4; simp [AV.closed, AV.closedL] at this ⊢; exact this
       refine on_entO (F' := [(83, .agg [int 5, .isl 14 [.agg [int peO, .isl 14 peA, int peT, int peV, int peS, int peN, int peCo, .isl 8 peCa, int peCv, int peCf, int peCk, int peXk, int peXn, str peXt]], int 1, int 0, int 0, int 0, int pyO, .isl 8 pyA, int pyV, int pyF, int pyK, int pyXk, int pyXn, str pyXt]), (11, .ptr 0 0)]) (H' := [.cells [int 5, .isl 14 [.agg [int peO, .isl 14 peA, int peT, int peV, int peS, int peN, int peCo, .isl 8 peCa, int peCv, int peCf, int peCk, int peXk, int peXn, str peXt]], int 1, int 0, int 0, int 0, int pyO, .isl 8 pyA, int pyV, int pyF, int pyK, int pyXk, int pyXn, str pyXt]]) ?_ ?_
       · exact (ent_sub [.gone, .gone, .gone, .gone, .gone, .isl 14 ([AV.agg [AV.val (Value.int IntKind.i64 peO), AV.isl 14 peA, AV.val (Value.int IntKind.i64 peT), AV.val (Value.int IntKind.i64 peV), AV.val (Value.int IntKind.i64 peS), AV.val (Value.int IntKind.i64 peN), AV.val (Value.int IntKind.i64 peCo), AV.isl 8 peCa, AV.val (Value.int IntKind.i64 peCv), AV.val (Value.int IntKind.i64 peCf), AV.val (Value.int IntKind.i64 peCk), AV.val (Value.int IntKind.i64 peXk), AV.val (Value.int IntKind.i64 peXn), AV.val (Value.string peXt)]]), .to 0] [some 6] ⟨trivial, trivial, trivial, trivial, trivial, ⟨_, rfl, (subL_closed _ kc6).symm⟩, ⟨by simp, rfl⟩, trivial⟩ ⟨osrc_cells (b := 6) rfl rfl rfl ⟨.refl _, .refl _, .refl _, .refl _, .refl _, .refl _, .refl _, .cl kc7, .refl _, .refl _, .refl _, .refl _, .refl _, .refl _, trivial⟩, trivial⟩ ⟨.agg' ⟨.refl _, .refl _, .refl _, .refl _, .refl _, .refl _, .refl _, .cl kc7, .refl _, .refl _, .refl _, .refl _, .refl _, .refl _, trivial⟩, .refl _, trivial⟩)
       refine oPA qD ?_
       refine goA 0 ?_
       refine on_guard rfl rfl (fun c1 => ?_) (fun c1 => ?_)
       ·
        simp [ee] at c1
        refine goA 60 ?_
        refine oPG qE ?_
        refine goA 60 ?_
        refine on_lend rfl rfl qF rfl ⟨[.gone, .isl 1 ([AV.val (Value.int IntKind.i64 1)])], ⟨trivial, ⟨_, rfl, (subL_closed _ (by rfl)).symm⟩, trivial⟩, ⟨.refl _, .refl _, trivial⟩⟩ ?_
        refine goA 60 ?_
        refine fn_ret rfl rfl (.val ?_)
        rfl
       ·
        simp [ee] at c1
mutual
def Ex.tot (lim : Nat) : Ex → Nat
 | .mk _ a _ _ _ _ => Ex.totL lim 1 a
def Ex.totL (lim : Nat) : Nat → List Ex → Nat
 | n, [] => n
 | n, e :: r => if n ≤ lim then Ex.totL lim (n + e.tot lim) r else n
end
theorem Ex.totL_le {lim : Nat} {l : List Ex} (h : ∀ e ∈ l, e.tot lim ≤ e.cnt) : ∀ n, Ex.totL lim n l ≤ n + Ex.cntL l := by
 induction l with
 | nil => intro n; simp [Ex.totL]
 | cons e r ih =>
  intro n
  have h1 := h e (by simp)
  have h2 := ih (fun e he => h e (by simp [he])) (n + e.tot lim)
  simp only [Ex.totL, Ex.cntL]; split <;> omega
theorem Ex.tot_le (lim : Nat) : ∀ e : Ex, e.tot lim ≤ e.cnt := Ex.ind fun o a v f k x h => by
 have := Ex.totL_le h 1
 simp only [Ex.tot, Ex.cnt]; omega
theorem Ex.totL_eq {lim : Nat} {l : List Ex} (h : ∀ e ∈ l, e.cnt ≤ lim → e.tot lim = e.cnt) : ∀ n, n + Ex.cntL l ≤ lim → Ex.totL lim n l = n + Ex.cntL l := by
 induction l with
 | nil => intro n _; simp [Ex.totL, Ex.cntL]
 | cons e r ih =>
  intro n hn
  simp only [Ex.cntL] at hn ⊢
  have h1 := h e (by simp) (by omega)
  rw [Ex.totL, if_pos (by omega), ih (fun e he => h e (by simp [he])) _ (by omega)]; omega
theorem Ex.tot_eq {lim : Nat} : ∀ e : Ex, e.cnt ≤ lim → e.tot lim = e.cnt := Ex.ind fun o a v f k x h hl => by
 simp only [Ex.tot, Ex.cnt] at hl ⊢
 exact Ex.totL_eq h 1 hl
theorem Ex.totL_gt {lim : Nat} {l : List Ex} (h : ∀ e ∈ l, lim < e.cnt → lim < e.tot lim) : ∀ n, lim < n + Ex.cntL l → lim < Ex.totL lim n l := by
 induction l with
 | nil => intro n hn; simpa [Ex.totL, Ex.cntL] using hn
 | cons e r ih =>
  intro n hn
  simp only [Ex.cntL] at hn
  rw [Ex.totL]
  split
  · refine ih (fun e he => h e (by simp [he])) _ ?_
    by_cases hc : e.cnt ≤ lim
    · rw [Ex.tot_eq e hc]; omega
    · have := h e (by simp) (by omega); omega
  · omega
theorem Ex.tot_gt {lim : Nat} : ∀ e : Ex, lim < e.cnt → lim < e.tot lim := Ex.ind fun o a v f k x h hl => by
 simp only [Ex.tot, Ex.cnt] at hl ⊢
 exact Ex.totL_gt h 1 hl
theorem Ex.tot_iff (e : Ex) (lim : Nat) : e.tot lim ≤ lim ↔ e.cnt ≤ lim := by
 by_cases h : e.cnt ≤ lim
 · rw [Ex.tot_eq e h]
 · have := Ex.tot_gt (lim := lim) e (by omega); omega
theorem P_ref08_Count (lim : Nat) (hlim : lim ≤ 1099511627776) : ∀ p : Ex, p.Sm → PCall EE 63 [p.enc, int lim] (int (p.tot lim)) := by
 generalize hli : (lim : Int) = li
 refine Ex.ind ?_
 intro o a v f k x ih hs
 obtain ⟨xk, xn, xt⟩ := x
 have hlen := hs.len
 have hih : ∀ q ∈ a, PCall EE 63 [q.enc, int li] (int (q.tot lim)) := fun q hq => ih q hq (hs.arg hq)
 have hcl := Ex.closedI a
 have hcnt : Ex.cntL a ≤ 1048576 := by unfold Ex.Sm at hs; simp only [Ex.cnt] at hs; omega
 have hde := fun q : Ex => Ex.tot_le lim q
 simp only [Ex.tot]
 obtain ⟨R, hR⟩ : ∃ R, R = Ex.totL lim 1 a := ⟨_, rfl⟩
 rw [← hR, Ex.enc_mk]
 refine wordsN ?_; unhygienic intros
 generalize hes : mapE Ex.enc a = es at *
 have hel : es.length = a.length := by rw [← hes, mapE_len]
 refine fn_body (fn := Tryz.f63) (n := 29) (ac := Tryzc63) (rvs := [.t 4]) rfl (by decide) Tryzp63 rfl rfl rfl ?_
 refine goA 60 ?_
 refine on_loopP (ι := List Ex × List Ex × Int × Int) (fun p => ([(5, int p.2.2.2), (6, int p.2.2.1), (1, int li), (2, .ptr 0 0)], [.cells [int o, .isl 8 es, int v, int f, int k, int xk, int xn, str xt]])) (fun p => a = p.1 ++ p.2.1 ∧ p.2.2.1 = p.1.length ∧ p.2.2.2 ≤ 1 + Ex.cntL p.1 ∧ 0 ≤ p.2.2.2 ∧ R = Ex.totL lim p.2.2.2.toNat p.2.1) (fun p => p.2.1.length) ([], a, 0, 1) ⟨rfl, rfl, by simp [Ex.cntL], by simp, hR⟩ ?_ ?_
 · exact (ent_sub [.to 0] [some 0] ⟨⟨by simp, rfl⟩, trivial⟩ ⟨osrc_cells (b := 0) rfl rfl rfl ⟨.refl _, .cl hcl, .refl _, .refl _, .refl _, .refl _, .refl _, .refl _, trivial⟩, trivial⟩ ⟨.refl _, .refl _, .refl _, .refl _, trivial⟩)
 rintro ⟨d, r, i, nn⟩ ⟨g1, gi, gn, gp, gt⟩
 dsimp only at g1 gi gn gp gt ⊢
 have hnt : (nn.toNat : Int) = nn := Int.toNat_of_nonneg gp
 cases r with
 | nil =>
  have L1 := len_split g1
  try simp only [List.length] at L1
  have hc : iLt i (lenA es) = false := lt_f e_iLt e_lenA (by omega)
  rw [Ex.totL] at gt
  have hv : nn = (R : Int) := by omega
  have hb : ∀ b, bAnd false b = false := by simp [ee]
  refine goB hX 0 (by conv => lhs; cbv; try simp only [hc, hb]; cbv; try simp only [hc, hb]; cbv; try simp only [hc, hb]; cbv; try simp only [hc, hb]; cbv) ?_
  refine goA 60 ?_
  refine loopP_exit ?_
  refine goA 60 ?_
  refine fn_ret rfl rfl (.val ?_)
  exact congrArg (Value.int .i64) hv
 | cons q r =>
  have L1 := len_split g1
  try simp only [List.length] at L1
  have hc : iLt i (lenA es) = true := lt_t e_iLt e_lenA (by omega)
  have hat := el_at e_atA hes g1 gi
  have hq := hih q (by rw [g1]; simp)
  have hqc := Ex.closed q
  have hqd := hde q
  rw [g1, Ex.cntL_append, Ex.cntL] at hcnt
  obtain ⟨qO, qA, qV, qF, qK, qXk, qXn, qXt, hx⟩ := Ex.form q
  rw [hx] at hq hat hqc
  have hb : ∀ b, bAnd true b = b := by simp [ee]
  rw [Ex.totL] at gt
  by_cases hle : nn ≤ li
  · have h2 : iLe nn li = true := by simp [ee]; omega
    rw [if_pos (by omega)] at gt
    generalize hqn : (q.tot lim : Int) = qn at hq
    have hn2 : iAdd .i64 nn qn = nn + qn := add_w e_iAdd (by omega) (by omega)
    have hi2 : iAdd .i64 i 1 = ((d ++ [q]).length : Int) := by rw [List.length_append]; exact inc_w e_iAdd gi (by omega)
    have hn4 : iAdd .i64 nn qn ≤ 1 + Ex.cntL (d ++ [q]) ∧ 0 ≤ iAdd .i64 nn qn := by rw [Ex.cntL_append, Ex.cntL, Ex.cntL, hn2]; omega
    have hn3 : (iAdd .i64 nn qn).toNat = nn.toNat + q.tot lim := by omega
    refine goB hX 0 (by conv => lhs; cbv; try simp only [hc, hat, hb, h2]; cbv; try simp only [hc, hat, hb, h2]; cbv; try simp only [hc, hat, hb, h2]; cbv; try simp only [hc, hat, hb, h2]; cbv) ?_
    refine goB hX 1 (by conv => lhs; cbv; try simp only [hc, hat, hb, h2]; cbv; try simp only [hc, hat, hb, h2]; cbv; try simp only [hc, hat, hb, h2]; cbv; try simp only [hc, hat, hb, h2]; cbv) ?_
    refine oPA hq ?_
    refine goA 60 ?_
    refine loopP_next (d ++ [q], r, iAdd .i64 i 1, iAdd .i64 nn qn) ⟨by simp [g1], hi2, hn4.1, hn4.2, hn3 ▸ gt⟩ (by simp) (ent_sub [.to 0] [some 0] ⟨⟨by simp, rfl⟩, trivial⟩ ⟨osrc_cells (b := 0) rfl rfl rfl ⟨.refl _, .cl hcl, .refl _, .refl _, .refl _, .refl _, .refl _, .refl _, trivial⟩, trivial⟩ ⟨.refl _, .refl _, .refl _, .refl _, trivial⟩)
  · have h2 : iLe nn li = false := by simp [ee]; omega
    rw [if_neg (by omega)] at gt
    have hv : nn = (R : Int) := by omega
    refine goB hX 0 (by conv => lhs; cbv; try simp only [hc, hat, hb, h2]; cbv; try simp only [hc, hat, hb, h2]; cbv; try simp only [hc, hat, hb, h2]; cbv; try simp only [hc, hat, hb, h2]; cbv) ?_
    refine goA 60 ?_
    refine loopP_exit ?_
    refine goA 60 ?_
    refine fn_ret rfl rfl (.val ?_)
    exact congrArg (Value.int .i64) hv
theorem P_ref08_Depth : ∀ p : Ex, p.Sm → PCall EE 64 [p.enc] (int p.dep) := by
 refine Ex.ind ?_
 intro o a v f k x ih hs
 obtain ⟨xk, xn, xt⟩ := x
 have hlen := hs.len
 have hih : ∀ q ∈ a, PCall EE 64 [q.enc] (int q.dep) := fun q hq => ih q hq (hs.arg hq)
 have hcl := Ex.closedI a
 have hcnt : Ex.cntL a ≤ 1048576 := by unfold Ex.Sm at hs; simp only [Ex.cnt] at hs; omega
 have hde := fun q : Ex => Ex.dep_le q
 simp only [Ex.dep]
 obtain ⟨R, hR⟩ : ∃ R, R = Ex.depL 0 a := ⟨_, rfl⟩
 rw [← hR, Ex.enc_mk]
 refine wordsN ?_; unhygienic intros
 generalize hes : mapE Ex.enc a = es at *
 have hel : es.length = a.length := by rw [← hes, mapE_len]
 refine fn_body (fn := Tryz.f64) (n := 22) (ac := Tryzc64) (rvs := [.t 2]) rfl (by decide) Tryzp64 rfl rfl rfl ?_
 refine goA 60 ?_
 refine on_loopP (ι := List Ex × List Ex × Int × Int) (fun p => ([(3, int p.2.2.2), (4, int p.2.2.1), (1, .ptr 0 0)], [.cells [int o, .isl 8 es, int v, int f, int k, int xk, int xn, str xt]])) (fun p => a = p.1 ++ p.2.1 ∧ p.2.2.1 = p.1.length ∧ p.2.2.2 ≤ 1048576 ∧ 0 ≤ p.2.2.2 ∧ R = Ex.depL p.2.2.2.toNat p.2.1) (fun p => p.2.1.length) ([], a, 0, 0) ⟨rfl, rfl, by simp, by simp, hR⟩ ?_ ?_
 · exact (ent_sub [.to 0] [some 0] ⟨⟨by simp, rfl⟩, trivial⟩ ⟨osrc_cells (b := 0) rfl rfl rfl ⟨.refl _, .cl hcl, .refl _, .refl _, .refl _, .refl _, .refl _, .refl _, trivial⟩, trivial⟩ ⟨.refl _, .refl _, .refl _, trivial⟩)
 rintro ⟨d, r, i, dd⟩ ⟨g1, gi, gn, gp, gt⟩
 dsimp only at g1 gi gn gp gt ⊢
 cases r with
 | nil =>
  have L1 := len_split g1
  try simp only [List.length] at L1
  have hc : iLt i (lenA es) = false := lt_f e_iLt e_lenA (by omega)
  rw [Ex.depL] at gt
  have ha1 : iAdd .i64 dd 1 = ((R + 1 : Nat) : Int) := by rw [add_w e_iAdd (by omega) (by omega)]; omega
  refine goB hX 0 (by conv => lhs; cbv; try simp only [hc]; cbv; try simp only [hc]; cbv; try simp only [hc]; cbv; try simp only [hc]; cbv) ?_
  refine goA 60 ?_
  refine loopP_exit ?_
  refine goA 60 ?_
  refine fn_ret rfl rfl (.val ?_)
  exact congrArg (Value.int .i64) ha1
 | cons q r =>
  have L1 := len_split g1
  try simp only [List.length] at L1
  have hc : iLt i (lenA es) = true := lt_t e_iLt e_lenA (by omega)
  have hat := el_at e_atA hes g1 gi
  have hq := hih q (by rw [g1]; simp)
  have hqc := Ex.closed q
  have hqd := hde q
  rw [g1, Ex.cntL_append, Ex.cntL] at hcnt
  obtain ⟨qO, qA, qV, qF, qK, qXk, qXn, qXt, hx⟩ := Ex.form q
  rw [hx] at hq hat hqc
  rw [Ex.depL] at gt
  generalize hqn : (q.dep : Int) = qn at hq
  have hd2 : iMax dd qn = ((max dd.toNat q.dep : Nat) : Int) := by simp only [ee]; split <;> omega
  have hd3 : (iMax dd qn).toNat = max dd.toNat q.dep := by omega
  have hi2 : iAdd .i64 i 1 = ((d ++ [q]).length : Int) := by rw [List.length_append]; exact inc_w e_iAdd gi (by omega)
  refine goB hX 0 (by conv => lhs; cbv; try simp only [hc, hat]; cbv; try simp only [hc, hat]; cbv; try simp only [hc, hat]; cbv; try simp only [hc, hat]; cbv) ?_
  refine goB hX 1 (by conv => lhs; cbv; try simp only [hc, hat]; cbv; try simp only [hc, hat]; cbv; try simp only [hc, hat]; cbv; try simp only [hc, hat]; cbv) ?_
  refine oPA hq ?_
  refine goA 60 ?_
  refine loopP_next (d ++ [q], r, iAdd .i64 i 1, iMax dd qn) ⟨by simp [g1], hi2, by show iMax dd qn ≤ 1048576; omega, by show 0 ≤ iMax dd qn; omega, hd3 ▸ gt⟩ (by simp) (ent_sub [.to 0] [some 0] ⟨⟨by simp, rfl⟩, trivial⟩ ⟨osrc_cells (b := 0) rfl rfl rfl ⟨.refl _, .cl hcl, .refl _, .refl _, .refl _, .refl _, .refl _, .refl _, trivial⟩, trivial⟩ ⟨.refl _, .refl _, .refl _, trivial⟩)
theorem P_ref09_Depth : ∀ p : Pat, p.Sm → PCall EE 30 [p.enc] (int p.dep) := by
 refine Pat.ind ?_
 intro o a t v s n c ih hs
 obtain ⟨co, ca, cv, cf, ck, xk, xn, xt⟩ := c
 have hlen := hs.len
 have hih : ∀ q ∈ a, PCall EE 30 [q.enc] (int q.dep) := fun q hq => ih q hq (hs.arg hq)
 have hcl := Pat.closedI a
 have hce := Ex.closedI ca
 have hcnt : Pat.cntL a ≤ 1048576 := by have hs := hs.1; simp only [Pat.cnt] at hs; omega
 have hde := fun q : Pat => Pat.dep_le q
 simp only [Pat.dep]
 obtain ⟨R, hR⟩ : ∃ R, R = Pat.depL 0 a := ⟨_, rfl⟩
 rw [← hR, Pat.enc_mk]
 refine wordsN ?_; unhygienic intros
 generalize hes : mapE Pat.enc a = es at *
 generalize mapE Ex.enc ca = ec at *
 have hel : es.length = a.length := by rw [← hes, mapE_len]
 refine fn_body (fn := Tryz.f30) (n := 22) (ac := Tryzc30) (rvs := [.t 2]) rfl (by decide) Tryzp30 rfl rfl rfl ?_
 refine goA 60 ?_
 refine on_loopP (ι := List Pat × List Pat × Int × Int) (fun p => ([(3, int p.2.2.2), (4, int p.2.2.1), (1, .ptr 0 0)], [.cells [int o, .isl 14 es, int t, int v, int s, int n, int co, .isl 8 ec, int cv, int cf, int ck, int xk, int xn, str xt]])) (fun p => a = p.1 ++ p.2.1 ∧ p.2.2.1 = p.1.length ∧ p.2.2.2 ≤ 1048576 ∧ 0 ≤ p.2.2.2 ∧ R = Pat.depL p.2.2.2.toNat p.2.1) (fun p => p.2.1.length) ([], a, 0, 0) ⟨rfl, rfl, by simp, by simp, hR⟩ ?_ ?_
 · exact (ent_sub [.to 0] [some 0] ⟨⟨by simp, rfl⟩, trivial⟩ ⟨osrc_cells (b := 0) rfl rfl rfl ⟨.refl _, .cl hcl, .refl _, .refl _, .refl _, .refl _, .refl _, .cl hce, .refl _, .refl _, .refl _, .refl _, .refl _, .refl _, trivial⟩, trivial⟩ ⟨.refl _, .refl _, .refl _, trivial⟩)
 rintro ⟨d, r, i, dd⟩ ⟨g1, gi, gn, gp, gt⟩
 dsimp only at g1 gi gn gp gt ⊢
 cases r with
 | nil =>
  have L1 := len_split g1
  try simp only [List.length] at L1
  have hc : iLt i (lenA es) = false := lt_f e_iLt e_lenA (by omega)
  rw [Pat.depL] at gt
  have ha1 : iAdd .i64 dd 1 = ((R + 1 : Nat) : Int) := by rw [add_w e_iAdd (by omega) (by omega)]; omega
  refine goB hX 0 (by conv => lhs; cbv; try simp only [hc]; cbv; try simp only [hc]; cbv; try simp only [hc]; cbv; try simp only [hc]; cbv) ?_
  refine goA 60 ?_
  refine loopP_exit ?_
  refine goA 60 ?_
  refine fn_ret rfl rfl (.val ?_)
  exact congrArg (Value.int .i64) ha1
 | cons q r =>
  have L1 := len_split g1
  try simp only [List.length] at L1
  have hc : iLt i (lenA es) = true := lt_t e_iLt e_lenA (by omega)
  have hat := el_at e_atA hes g1 gi
  have hq := hih q (by rw [g1]; simp)
  have hqc := Pat.closed q
  have hqd := hde q
  rw [g1, Pat.cntL_append, Pat.cntL] at hcnt
  obtain ⟨qO, qA, qT, qV, qS, qN, qCo, qCa, qCv, qCf, qCk, qXk, qXn, qXt, hx⟩ := Pat.form q
  rw [hx] at hq hat hqc
  rw [Pat.depL] at gt
  generalize hqn : (q.dep : Int) = qn at hq
  have hd2 : iMax dd qn = ((max dd.toNat q.dep : Nat) : Int) := by simp only [ee]; split <;> omega
  have hd3 : (iMax dd qn).toNat = max dd.toNat q.dep := by omega
  have hi2 : iAdd .i64 i 1 = ((d ++ [q]).length : Int) := by rw [List.length_append]; exact inc_w e_iAdd gi (by omega)
  refine goB hX 0 (by conv => lhs; cbv; try simp only [hc, hat]; cbv; try simp only [hc, hat]; cbv; try simp only [hc, hat]; cbv; try simp only [hc, hat]; cbv) ?_
  refine goB hX 1 (by conv => lhs; cbv; try simp only [hc, hat]; cbv; try simp only [hc, hat]; cbv; try simp only [hc, hat]; cbv; try simp only [hc, hat]; cbv) ?_
  refine oPA hq ?_
  refine goA 60 ?_
  refine loopP_next (d ++ [q], r, iAdd .i64 i 1, iMax dd qn) ⟨by simp [g1], hi2, by show iMax dd qn ≤ 1048576; omega, by show 0 ≤ iMax dd qn; omega, hd3 ▸ gt⟩ (by simp) (ent_sub [.to 0] [some 0] ⟨⟨by simp, rfl⟩, trivial⟩ ⟨osrc_cells (b := 0) rfl rfl rfl ⟨.refl _, .cl hcl, .refl _, .refl _, .refl _, .refl _, .refl _, .cl hce, .refl _, .refl _, .refl _, .refl _, .refl _, .refl _, trivial⟩, trivial⟩ ⟨.refl _, .refl _, .refl _, trivial⟩)
end Go.Am
end
