/- Contracts of the program's functions, for every argument that meets the conditions that each theorem names. -/
import Derived.Test.YtehpdnkachbakaaDoorAm6
import Derived.Test.YtehpdnkachbakaaDoorCt5
import Derived.Test.YtehpdnkachbakaaDoorCt4
import Derived.Test.YtehpdnkachbakaaDoorCt3
import Derived.Test.YtehpdnkachbakaaDoorCt2
section
set_option maxHeartbeats 16000000
set_option maxRecDepth 100000
namespace Go.Am
open Go.Proofs
structure MapV (to : List Int) : Prop where
 lt : to.length = 16
 rng : ∀ v : Int, 0 ≤ v → v < 16 → 0 ≤ to.getD v.toNat 0 ∧ to.getD v.toNat 0 < 16
theorem Ex.reb_nodesL {to : List Int} {l : List Ex} (h : ∀ e ∈ l, (e.reb (renG to)).nodes = e.nodes.map (Ex.reb (renG to))) : Ex.nodesL (Ex.rebL (renG to) l) = (Ex.nodesL l).map (Ex.reb (renG to)) := by
 induction l with
 | nil => simp [Ex.rebL, Ex.nodesL]
 | cons e r ih => rw [Ex.rebL, Ex.nodesL, Ex.nodesL, h e (by simp), ih fun e he => h e (by simp [he]), List.map_append]
theorem Ex.reb_nodes (to : List Int) : ∀ e : Ex, (e.reb (renG to)).nodes = e.nodes.map (Ex.reb (renG to)) := Ex.ind fun o a v f k x h => by
 rw [Ex.reb_mk, Ex.nodes, Ex.nodes, List.map_cons, Ex.reb_nodesL h, Ex.reb_mk]
theorem Ex.reb_depL {to : List Int} {l : List Ex} (h : ∀ e ∈ l, (e.reb (renG to)).dep = e.dep) : ∀ d, Ex.depL d (Ex.rebL (renG to) l) = Ex.depL d l := by
 induction l with
 | nil => intro d; simp [Ex.rebL, Ex.depL]
 | cons e r ih => intro d; rw [Ex.rebL, Ex.depL, Ex.depL, h e (by simp), ih fun e he => h e (by simp [he])]
theorem Ex.reb_dep (to : List Int) : ∀ e : Ex, (e.reb (renG to)).dep = e.dep := Ex.ind fun o a v f k x h => by
 rw [Ex.reb_mk, Ex.dep, Ex.dep, Ex.reb_depL h]
theorem Ex.chk_zero {e : Ex} : e.chk = 0 ↔ e.cnt ≤ 64 ∧ e.dep ≤ 12 ∧ ∀ q ∈ e.nodes, q.nodeE = 0 := by
 unfold Ex.chk
 by_cases h1 : 64 < e.cnt
 · rw [if_pos h1]; simp; omega
 rw [if_neg h1]
 by_cases h2 : 12 < e.dep
 · rw [if_pos h2]; simp; omega
 rw [if_neg h2]
 exact ⟨fun h => ⟨by omega, by omega, firstE_zero h⟩, fun h => firstE_ok h.2.2⟩
theorem Ex.nodeE_iff (e : Ex) : e.nodeE = 0 ↔ arityB e.op = true ∧ (e.args.length : Int) = arityN e.op ∧ (usesV e.op = true → 0 ≤ e.var ∧ e.var < 16) ∧ (usesF e.op = true → 0 ≤ e.fld ∧ e.fld < 8) ∧ ¬ (e.op = 4 ∧ (e.kind < 1 ∨ 5 < e.kind)) ∧ ((e.op = 4 ∨ e.op = 0) → e.consE = 0) ∧ e.formB := by
 unfold Ex.nodeE
 by_cases h1 : arityB e.op = false
 · rw [if_pos h1]; simp [h1]
 rw [if_neg h1]
 have h1 : arityB e.op = true := by simpa using h1
 by_cases h2 : (e.args.length : Int) ≠ arityN e.op
 · rw [if_pos h2]; exact ⟨fun h => (by cases h), fun h => absurd h.2.1 h2⟩
 rw [if_neg h2]
 have h2 : (e.args.length : Int) = arityN e.op := Classical.byContradiction fun h => h2 h
 by_cases h3 : (usesV e.op = true ∧ (e.var < 0 ∨ 16 ≤ e.var)) ∨ (usesF e.op = true ∧ (e.fld < 0 ∨ 8 ≤ e.fld))
 · rw [if_pos h3]
   refine ⟨fun h => (by cases h), fun h => ?_⟩
   rcases h3 with ⟨a, b⟩ | ⟨a, b⟩
   · have := h.2.2.1 a; omega
   · have := h.2.2.2.1 a; omega
 rw [if_neg h3]
 have h3 : (usesV e.op = true → 0 ≤ e.var ∧ e.var < 16) ∧ (usesF e.op = true → 0 ≤ e.fld ∧ e.fld < 8) :=
  ⟨fun a => ⟨Int.not_lt.1 fun b => h3 (.inl ⟨a, .inl b⟩), Int.not_le.1 fun b => h3 (.inl ⟨a, .inr b⟩)⟩, fun a => ⟨Int.not_lt.1 fun b => h3 (.inr ⟨a, .inl b⟩), Int.not_le.1 fun b => h3 (.inr ⟨a, .inr b⟩)⟩⟩
 by_cases h4 : e.op = 4 ∧ (e.kind < 1 ∨ 5 < e.kind)
 · rw [if_pos h4]; exact ⟨fun h => (by cases h), fun h => absurd h4 h.2.2.2.2.1⟩
 rw [if_neg h4]
 by_cases h5 : (e.op = 4 ∨ e.op = 0) ∧ e.consE ≠ 0
 · rw [if_pos h5]; exact ⟨fun h => absurd h h5.2, fun h => absurd (h.2.2.2.2.2.1 h5.1) h5.2⟩
 rw [if_neg h5]
 have h5 : (e.op = 4 ∨ e.op = 0) → e.consE = 0 := fun a => Classical.byContradiction fun b => h5 ⟨a, b⟩
 by_cases h6 : e.formB
 · rw [if_pos h6]; exact ⟨fun _ => ⟨h1, h2, h3.1, h3.2, h4, h5, h6⟩, fun _ => rfl⟩
 · rw [if_neg h6]; exact ⟨fun h => (by cases h), fun h => absurd h.2.2.2.2.2.2 h6⟩
theorem Ex.nodeE_reb {to : List Int} (T : MapV to) {q : Ex} (h : q.nodeE = 0) : (q.reb (renG to)).nodeE = 0 := by
 rw [Ex.nodeE_iff] at h ⊢
 obtain ⟨o, a, v, f, k, x⟩ := q
 rw [Ex.reb_mk]
 have hl := Ex.rebL_len (renG to) a
 obtain ⟨h1, h2, h3, h4, h5, h6, h7⟩ := h
 simp only [Ex.op, Ex.var, Ex.args, Ex.fld, Ex.kind, Ex.val, Ex.formB] at h1 h2 h3 h4 h5 h6 h7
 refine ⟨h1, by simp only [Ex.op, Ex.args]; rw [hl]; exact h2, fun hu => ?_, h4, h5, h6, ?_⟩
 · simp only [Ex.op, Ex.var] at hu ⊢
   rw [if_pos hu]
   exact T.rng v (h3 hu).1 (h3 hu).2
 · simp only [Ex.op, Ex.var, Ex.args, Ex.fld, Ex.kind, Ex.val, Ex.formB]
   refine ⟨?_, h7.2⟩
   cases hu : usesV o with
   | true => exact .inl rfl
   | false =>
    rw [if_neg (by decide)]
    rcases h7.1 with h | h
    · rw [hu] at h; cases h
    · exact .inr h
theorem Ex.turn {to : List Int} (T : MapV to) {e : Ex} (h : e.chk = 0) : e.renErr to = 0 ∧ (e.rename to).chk = 0 ∧ e.rename to = e.reb (renG to) := by
 obtain ⟨c1, c2, c3⟩ := Ex.chk_zero.1 h
 have h1 : e.renErr to = 0 := by
  rw [Ex.renErr, h, if_neg (by simp)]
  refine firstE_ok fun q hq => ?_
  have hv := Ex.nodeE_var (c3 q hq)
  unfold renE
  cases hu : usesV q.op with
  | false => simp
  | true =>
   have := T.rng _ (hv hu).1 (hv hu).2
   have := hv hu
   rw [if_neg (by simp), if_neg (by rw [T.lt]; omega), if_neg (by omega)]
 have h2 : e.rename to = e.reb (renG to) := by rw [Ex.rename, h1, if_pos rfl]
 refine ⟨h1, ?_, h2⟩
 rw [h2]
 refine Ex.chk_zero.2 ⟨by rw [Ex.reb_cnt (renG_cnt to)]; exact c1, by rw [Ex.reb_dep]; exact c2, fun q hq => ?_⟩
 rw [Ex.reb_nodes] at hq
 obtain ⟨q0, hq0, rfl⟩ := List.mem_map.1 hq
 exact Ex.nodeE_reb T (c3 q0 hq0)
theorem Pat.ren_depL {to : List Int} {l : List Pat} (h : ∀ e ∈ l, (e.ren to).dep = e.dep) : ∀ d, Pat.depL d (Pat.renL to l) = Pat.depL d l := by
 induction l with
 | nil => intro d; simp [Pat.renL, Pat.depL]
 | cons e r ih => intro d; rw [Pat.renL, Pat.depL, Pat.depL, h e (by simp), ih fun e he => h e (by simp [he])]
theorem Pat.ren_dep (to : List Int) : ∀ p : Pat, (p.ren to).dep = p.dep := Pat.ind fun o a t v s n c h => by
 rw [Pat.ren, Pat.dep, Pat.dep, Pat.ren_depL h]
theorem nodeE_cond {q : Pat} (h : q.nodeE = 0) : condF q.op = true → q.cond.chk = 0 := by
 intro hc
 unfold Pat.nodeE at h
 by_cases h1 : q.op < 0 ∨ 11 ≤ q.op
 · rw [if_pos h1] at h; cases h
 rw [if_neg h1] at h
 by_cases h2 : (q.args.length : Int) < leastF q.op ∨ mostF q.op < q.args.length
 · rw [if_pos h2] at h; cases h
 rw [if_neg h2] at h
 by_cases h3 : (typedF q.op = true ∧ (q.ty < 0 ∨ 15 < q.ty ∨ q.var < 0 ∨ 15 < q.var)) ∨ (scopeF q.op = true ∧ (q.scope < 0 ∨ 63 < q.scope)) ∨ (spanF q.op = true ∧ (q.span < 0 ∨ 1099511627776 < q.span))
 · rw [if_pos h3] at h; cases h
 rw [if_neg h3] at h
 by_cases h4 : condF q.op = true ∧ q.cond.chk ≠ 0
 · rw [if_pos h4] at h; exact absurd h h4.2
 · exact Classical.byContradiction fun hh => h4 ⟨hc, hh⟩
theorem nodeE_iff (p : Pat) : p.nodeE = 0 ↔ (0 ≤ p.op ∧ p.op < 11) ∧ (leastF p.op ≤ p.args.length ∧ (p.args.length : Int) ≤ mostF p.op) ∧ (typedF p.op = true → 0 ≤ p.ty ∧ p.ty ≤ 15 ∧ 0 ≤ p.var ∧ p.var ≤ 15) ∧ (scopeF p.op = true → 0 ≤ p.scope ∧ p.scope ≤ 63) ∧ (spanF p.op = true → 0 ≤ p.span ∧ p.span ≤ 1099511627776) ∧ (condF p.op = true → p.cond.chk = 0) ∧
 (condF p.op = false → p.cond = Ex0) ∧ (typedF p.op = false → p.ty = 0 ∧ p.var = 0) ∧ (scopeF p.op = false → p.scope = 0) ∧ (spanF p.op = false → p.span = 0) := by
 unfold Pat.nodeE
 by_cases h1 : p.op < 0 ∨ 11 ≤ p.op
 · rw [if_pos h1]; exact ⟨fun h => (by cases h), fun h => by have := h.1; omega⟩
 rw [if_neg h1]
 by_cases h2 : (p.args.length : Int) < leastF p.op ∨ mostF p.op < p.args.length
 · rw [if_pos h2]; exact ⟨fun h => (by cases h), fun h => by have := h.2.1; omega⟩
 rw [if_neg h2]
 by_cases h3 : (typedF p.op = true ∧ (p.ty < 0 ∨ 15 < p.ty ∨ p.var < 0 ∨ 15 < p.var)) ∨ (scopeF p.op = true ∧ (p.scope < 0 ∨ 63 < p.scope)) ∨ (spanF p.op = true ∧ (p.span < 0 ∨ 1099511627776 < p.span))
 · rw [if_pos h3]
   refine ⟨fun h => (by cases h), fun h => ?_⟩
   obtain ⟨-, -, a1, a2, a3, -⟩ := h
   rcases h3 with ⟨a, b⟩ | ⟨a, b⟩ | ⟨a, b⟩
   · have := a1 a; omega
   · have := a2 a; omega
   · have := a3 a; omega
 rw [if_neg h3]
 have g1 : typedF p.op = true → 0 ≤ p.ty ∧ p.ty ≤ 15 ∧ 0 ≤ p.var ∧ p.var ≤ 15 := fun a => by
  have : ¬ (p.ty < 0 ∨ 15 < p.ty ∨ p.var < 0 ∨ 15 < p.var) := fun b => h3 (.inl ⟨a, b⟩)
  omega
 have g2 : scopeF p.op = true → 0 ≤ p.scope ∧ p.scope ≤ 63 := fun a => by
  have : ¬ (p.scope < 0 ∨ 63 < p.scope) := fun b => h3 (.inr (.inl ⟨a, b⟩))
  omega
 have g3 : spanF p.op = true → 0 ≤ p.span ∧ p.span ≤ 1099511627776 := fun a => by
  have : ¬ (p.span < 0 ∨ 1099511627776 < p.span) := fun b => h3 (.inr (.inr ⟨a, b⟩))
  omega
 by_cases h4 : condF p.op = true ∧ p.cond.chk ≠ 0
 · rw [if_pos h4]; exact ⟨fun h => absurd h h4.2, fun h => absurd (h.2.2.2.2.2.1 h4.1) h4.2⟩
 rw [if_neg h4]
 have g4 : condF p.op = true → p.cond.chk = 0 := fun a => Classical.byContradiction fun b => h4 ⟨a, b⟩
 by_cases h5 : (condF p.op = false ∧ p.cond ≠ Ex0) ∨ (typedF p.op = false ∧ (p.ty ≠ 0 ∨ p.var ≠ 0)) ∨ (scopeF p.op = false ∧ p.scope ≠ 0) ∨ (spanF p.op = false ∧ p.span ≠ 0)
 · rw [if_pos h5]
   refine ⟨fun h => (by cases h), fun h => ?_⟩
   obtain ⟨-, -, -, -, -, -, a1, a2, a3, a4⟩ := h
   rcases h5 with ⟨a, b⟩ | ⟨a, b⟩ | ⟨a, b⟩ | ⟨a, b⟩
   · exact absurd (a1 a) b
   · have := a2 a; omega
   · exact absurd (a3 a) b
   · exact absurd (a4 a) b
 · rw [if_neg h5]
   refine ⟨fun _ => ⟨by omega, by omega, g1, g2, g3, g4, fun a => Classical.byContradiction fun b => h5 (.inl ⟨a, b⟩), fun a => ?_, fun a => Classical.byContradiction fun b => h5 (.inr (.inr (.inl ⟨a, b⟩))), fun a => Classical.byContradiction fun b => h5 (.inr (.inr (.inr ⟨a, b⟩)))⟩, fun _ => rfl⟩
   have : ¬ (p.ty ≠ 0 ∨ p.var ≠ 0) := fun b => h5 (.inr (.inl ⟨a, b⟩))
   omega
theorem nodeE_ren {to : List Int} (T : MapV to) {q : Pat} (h : q.nodeE = 0) : (q.ren to).nodeE = 0 := by
 rw [nodeE_iff] at h ⊢
 obtain ⟨o, a, t, v, s, n, c⟩ := q
 obtain ⟨h1, h2, h3, h4, h5, h6, h7, h8, h9, hA⟩ := h
 rw [Pat.ren]
 simp only [Pat.op, Pat.var, Pat.args, Pat.ty, Pat.scope, Pat.span, Pat.cond, Pat.renL_len] at *
 refine ⟨h1, h2, fun hh => ?_, h4, h5, fun hh => ?_, fun hh => ?_, fun hh => ?_, h9, hA⟩
 · rw [if_pos hh]
   have := h3 hh
   have := T.rng v (by omega) (by omega)
   omega
 · rw [if_pos hh]; exact (Ex.turn T (h6 hh)).2.1
 · rw [if_neg (by rw [hh]; decide)]; exact h7 hh
 · rw [if_neg (by rw [hh]; decide)]; exact h8 hh
theorem turn_p {to : List Int} (T : MapV to) {p : Pat} (h : p.chkR = 0) : p.renErr to = 0 ∧ p.rename to = p.ren to ∧ (p.ren to).chkR = 0 := by
 obtain ⟨c1, c2, c3⟩ := chkR_zero.1 h
 have h1 : p.renErr to = 0 := by
  rw [Pat.renErr, h, if_neg (by simp)]
  refine firstE_ok fun q hq => ?_
  have hv := nodeE_var (c3 q hq)
  have hc := nodeE_cond (c3 q hq)
  unfold nrenE
  rw [if_neg (fun hh => by have := hv hh.1; have := hh.2; rw [T.lt] at this; omega), if_neg (fun hh => by have h1 := hv hh.1; have := T.rng _ h1.1 (by omega); have := hh.2; omega)]
  split
  · exact (Ex.turn T (hc (by assumption))).1
  · rfl
 refine ⟨h1, by rw [Pat.rename, h1, if_pos rfl], ?_⟩
 refine chkR_zero.2 ⟨?_, by rw [Pat.ren_dep]; exact c2, fun q hq => ?_⟩
 · rw [← Pat.nodes_len, Pat.ren_nodes, List.length_map, Pat.nodes_len]; exact c1
 · rw [Pat.ren_nodes] at hq
   obtain ⟨q0, hq0, rfl⟩ := List.mem_map.1 hq
   exact nodeE_ren T (c3 q0 hq0)
theorem Pat.ren_var (to : List Int) (p : Pat) : (p.ren to).var = if typedF p.op then to.getD p.var.toNat 0 else p.var := by obtain ⟨o, a, t, v, s, n, c⟩ := p; rw [Pat.ren]; rfl
theorem bnd_ren (to : List Int) (p : Pat) : bndF (p.ren to).nodes = (bndF p.nodes).map fun v => to.getD v.toNat 0 := by
 rw [Pat.ren_nodes]
 unfold bndF
 rw [List.filter_map, List.map_map, List.map_map]
 have : (fun q : Pat => decide (q.op = 0)) ∘ Pat.ren to = fun q => decide (q.op = 0) := by funext q; simp [Pat.ren_op]
 rw [this]
 refine List.map_congr_left fun q hq => ?_
 have := (List.mem_filter.1 hq).2
 simp at this
 simp [Pat.ren_var, this, typedF]
def shT (m : Nat) : List Int := (List.range 16).map fun j => if j < m then (j : Int) + 1 else 0
theorem shT_len (m : Nat) : (shT m).length = 16 := by simp [shT]
theorem shT_get {m : Nat} (hm : m ≤ 16) {v : Int} (h0 : 0 ≤ v) (h1 : v < m) : (shT m).getD v.toNat 0 = v + 1 := by
 rw [shT, List.getD_eq_getElem?_getD, List.getElem?_map, List.getElem?_range (by omega)]
 simp only [Option.map_some, Option.getD_some]
 rw [if_pos (by omega)]; omega
theorem shT_map {m : Nat} (hm : m ≤ 15) : MapV (shT m) := ⟨shT_len m, fun v h0 h1 => by
 rw [shT, List.getD_eq_getElem?_getD, List.getElem?_map, List.getElem?_range (by omega)]
 simp only [Option.map_some, Option.getD_some]
 split <;> omega⟩
theorem shT_set {m : Nat} (hm : m < 16) : (shT m).set m ((m : Int) + 1) = shT (m + 1) := by
 refine List.ext_getElem (by simp [shT]) fun i h1 h2 => ?_
 rw [List.getElem_set]
 simp only [shT, List.getElem_map, List.getElem_range]
 by_cases h : m = i
 · rw [if_pos h, if_pos (by omega)]; omega
 · rw [if_neg h]
   by_cases h3 : i < m
   · rw [if_pos h3, if_pos (by omega)]
   · rw [if_neg h3, if_neg (by omega)]
abbrev up (l : List Int) : List Int := l.map (· + 1)
theorem up_sorted {l : List Int} (h : l.Pairwise (· < ·)) : (up l).Pairwise (· < ·) := List.pairwise_map.2 (h.imp fun h => by omega)
theorem uni_up (a b : List Int) : uniI (up a) (up b) = up (uniI a b) := uni_ext (up_sorted (uni_sorted _ _)) fun n => by
 simp only [List.mem_map]
 constructor
 · rintro ⟨x, hx, rfl⟩
   rcases (uni_mem _ _ _).1 hx with h | h
   · exact .inl ⟨x, h, rfl⟩
   · exact .inr ⟨x, h, rfl⟩
 · rintro (⟨x, hx, rfl⟩ | ⟨x, hx, rfl⟩)
   · exact ⟨x, (uni_mem _ _ _).2 (.inl hx), rfl⟩
   · exact ⟨x, (uni_mem _ _ _).2 (.inr hx), rfl⟩
theorem uni_up0 {a b : List Int} (ha : ∀ n ∈ a, 0 ≤ n) (hb : ∀ n ∈ b, 0 ≤ n) : uniI (0 :: up a) (up b) = 0 :: up (uniI a b) := by
 refine uni_ext (List.pairwise_cons.2 ⟨fun n hn => ?_, up_sorted (uni_sorted _ _)⟩) fun n => ?_
 · obtain ⟨x, hx, rfl⟩ := List.mem_map.1 hn
   rcases (uni_mem _ _ _).1 hx with h | h
   · have := ha x h; omega
   · have := hb x h; omega
 · rw [← uni_up, List.mem_cons, uni_mem, List.mem_cons, or_assoc]
def Below (m : Nat) (l : List Pat) : Prop := ∀ q ∈ l, typedF q.op = true → 0 ≤ q.var ∧ q.var < m
theorem ren_bound {m : Nat} (hm : m ≤ 16) {p : Pat} (h : Below m p.nodes) : (p.ren (shT m)).bound = up p.bound := by
 refine sorted_ext _ _ (Pat.bound_nodup _) (up_sorted p.bound_nodup) fun n => ?_
 rw [Pat.bound_mem, bnd_ren, List.mem_map, List.mem_map]
 have hv : ∀ v ∈ bndF p.nodes, (shT m).getD v.toNat 0 = v + 1 := fun v hv => by
  unfold bndF at hv
  obtain ⟨q, hq, rfl⟩ := List.mem_map.1 hv
  obtain ⟨h1, h2⟩ := List.mem_filter.1 hq
  have := h q h1 (by rw [show q.op = 0 by simpa using h2]; rfl)
  exact shT_get hm this.1 this.2
 constructor
 · rintro ⟨v, hv1, rfl⟩; exact ⟨v, (Pat.bound_mem v).2 hv1, (hv v hv1).symm⟩
 · rintro ⟨v, hv1, rfl⟩; exact ⟨v, (Pat.bound_mem v).1 hv1, hv v ((Pat.bound_mem v).1 hv1)⟩
theorem below_arg {m : Nat} {o a t v s n c} (h : Below m (Pat.mk o a t v s n c).nodes) {e : Pat} (he : e ∈ a) : Below m e.nodes := fun q hq => h q (by
 rw [Pat.nodes]
 obtain ⟨d, r, rfl⟩ := List.append_of_mem he
 simp [Pat.nodesL_append, Pat.nodesL, hq])
theorem ren_ones {m : Nat} (hm : m ≤ 16) : ∀ p : Pat, Below m p.nodes → (p.ren (shT m)).ones = up p.ones := Pat.ind fun o a t v s n c ih h => by
 rw [Pat.ren, Pat.ones, Pat.ones]
 by_cases hk : keepsF o = true
 · rw [if_pos hk, if_pos hk]
   by_cases h0 : o = 0
   · have hv := h (.mk o a t v s n c) (by rw [Pat.nodes]; exact List.mem_cons_self) (by simp only [Pat.op]; rw [h0]; rfl)
     simp only [Pat.var] at hv
     rw [if_pos h0, if_pos h0, if_pos (by rw [h0]; rfl), shT_get hm hv.1 hv.2]; rfl
   · rw [if_neg h0, if_neg h0]
     have hL : ∀ (r : List Pat) (acc : List Int), (∀ e ∈ r, e ∈ a) → Pat.onesL (up acc) (Pat.renL (shT m) r) = up (Pat.onesL acc r) := by
      intro r
      induction r with
      | nil => intro acc _; rw [Pat.renL, Pat.onesL, Pat.onesL]
      | cons x r ihr =>
       intro acc hmm
       rw [Pat.renL, Pat.onesL, Pat.onesL, ih x (hmm x (by simp)) (below_arg h (hmm x (by simp))), uni_up, ihr _ fun e he => hmm e (by simp [he])]
     exact hL a [] fun _ h => h
 · rw [if_neg hk, if_neg hk]; rfl
def Plc.sh (l : Plc) : Plc := ⟨0 :: up l.us, 0 :: up l.si, -1⟩
def Plc.nn (l : Plc) : Prop := (∀ n ∈ l.us, 0 ≤ n) ∧ ∀ n ∈ l.si, 0 ≤ n
theorem bound_nn {m : Nat} {p : Pat} (h : Below m p.nodes) : ∀ n ∈ p.bound, 0 ≤ n := fun n hn => by
 rw [Pat.bound_mem] at hn
 unfold bndF at hn
 obtain ⟨q, hq, rfl⟩ := List.mem_map.1 hn
 obtain ⟨h1, h2⟩ := List.mem_filter.1 hq
 exact (h q h1 (by rw [show q.op = 0 by simpa using h2]; rfl)).1
theorem ones_nn {m : Nat} {p : Pat} (h : Below m p.nodes) : ∀ n ∈ p.ones, 0 ≤ n := fun n hn => bound_nn h n (ones_bd p n hn)
theorem Plc.nn.plus {l : Plc} (h : l.nn) {m : Nat} {e : Pat} (he : Below m e.nodes) : (l.plus e).nn :=
 ⟨fun n hn => by rcases (uni_mem _ _ _).1 hn with k | k; exact h.1 n k; exact bound_nn he n k, fun n hn => by rcases (uni_mem _ _ _).1 hn with k | k; exact h.2 n k; exact ones_nn he n k⟩
theorem sh_plus {m : Nat} (hm : m ≤ 16) {l : Plc} (h : l.nn) {e : Pat} (he : Below m e.nodes) : l.sh.plus (e.ren (shT m)) = (l.plus e).sh := by
 unfold Plc.plus Plc.sh
 dsimp only
 rw [ren_bound hm he, ren_ones hm e he, uni_up0 h.1 (bound_nn he), uni_up0 h.2 (ones_nn he)]
theorem ren_lfL {m : Nat} (hm : m ≤ 16) {b : Bool} : ∀ r : List Pat, (∀ e ∈ r, Below m e.nodes → ∀ l : Plc, l.nn → Pat.lf l.sh (e.ren (shT m)) = (Pat.lf l e).map fun x => (x.1.ren (shT m), x.2.sh)) → (∀ e ∈ r, Below m e.nodes) →
 ∀ l : Plc, l.nn → Pat.lfL b l.sh (Pat.renL (shT m) r) = (Pat.lfL b l r).map fun x => (x.1.ren (shT m), x.2.sh)
 | [], _, _, l, _ => by rw [Pat.renL, Pat.lfL, Pat.lfL]; rfl
 | e :: r, ih, hb, l, hl => by
  rw [Pat.renL, Pat.lfL, Pat.lfL, List.map_append, ih e (by simp) (hb e (by simp)) l hl]
  have hr := fun l hl => ren_lfL hm (b := b) r (fun e he => ih e (by simp [he])) (fun e he => hb e (by simp [he])) l hl
  cases b with
  | true => rw [if_pos rfl, if_pos rfl, sh_plus hm hl (hb e (by simp)), hr _ (hl.plus (hb e (by simp)))]
  | false => rw [if_neg (by decide), if_neg (by decide), hr _ hl]
theorem ren_lf {m : Nat} (hm : m ≤ 16) : ∀ p : Pat, Below m p.nodes → ∀ l : Plc, l.nn → Pat.lf l.sh (p.ren (shT m)) = (Pat.lf l p).map fun x => (x.1.ren (shT m), x.2.sh) := Pat.ind fun o a t v s n c ih h l hl => by
 rw [Pat.ren, Pat.lf, Pat.lf, List.map_cons, ren_lfL hm a ih (fun e he => below_arg h he) l hl, Pat.ren]
theorem ren_args (to : List Int) (p : Pat) : (p.ren to).args = Pat.renL to p.args := by obtain ⟨o, a, t, v, s, n, c⟩ := p; rw [Pat.ren]; rfl
theorem lf_nnL {m : Nat} {b : Bool} : ∀ (r : List Pat), (∀ e ∈ r, Below m e.nodes → ∀ l : Plc, l.nn → ∀ x ∈ Pat.lf l e, x.2.nn) → (∀ e ∈ r, Below m e.nodes) → ∀ l : Plc, l.nn → ∀ x ∈ Pat.lfL b l r, x.2.nn
 | [], _, _, _, _, x, hx => by cases hx
 | e :: r, ih, hb, l, hl, x, hx => by
  rw [Pat.lfL] at hx
  rcases List.mem_append.1 hx with hx | hx
  · exact ih e (by simp) (hb e (by simp)) l hl x hx
  · refine lf_nnL r (fun e he => ih e (by simp [he])) (fun e he => hb e (by simp [he])) _ ?_ x hx
    split
    · exact hl.plus (hb e (by simp))
    · exact hl
theorem lf_nn {m : Nat} : ∀ (p : Pat), Below m p.nodes → ∀ l : Plc, l.nn → ∀ x ∈ Pat.lf l p, x.2.nn := Pat.ind fun o a t v s n c ih h l hl x hx => by
 rw [Pat.lf] at hx
 rcases List.mem_cons.1 hx with rfl | hx
 · exact hl
 · exact lf_nnL a ih (fun e he => below_arg h he) l hl x hx
theorem sh_own {m : Nat} (hm : m ≤ 16) {q : Pat} (hq : Below m q.nodes) (hw : q.wf) (ht : testsF q.op = true) {l : Plc} (hl : l.nn) :
 ((q.ren (shT m)).own l.sh).us = 0 :: up (q.own l).us ∧ ((q.ren (shT m)).own l.sh).si = 0 :: up (q.own l).si := by
 have hv : typedF q.op = true → (q.ren (shT m)).var = q.var + 1 ∧ 0 ≤ q.var := fun h => by
  have h1 := hq q (by rw [Pat.nodes_eq]; simp) h
  rw [Pat.ren_var, if_pos h]
  exact ⟨shT_get hm h1.1 h1.2, h1.1⟩
 have hx : ∀ v : Int, [v + 1] = up [v] := fun v => rfl
 have n1 : ∀ v : Int, 0 ≤ v → ∀ n ∈ [v], 0 ≤ n := fun v h n hn => by simp at hn; omega
 unfold Pat.own
 rw [Pat.ren_op]
 by_cases h0 : q.op = 0
 · rw [if_pos h0, if_pos h0]
   obtain ⟨v1, v2⟩ := hv (by rw [h0]; rfl)
   dsimp only [Plc.sh]
   rw [v1, hx, uni_up0 hl.1 (n1 _ v2), uni_up0 hl.2 (n1 _ v2)]
   exact ⟨rfl, rfl⟩
 rw [if_neg h0, if_neg h0]
 have h57 : q.op = 5 ∨ q.op = 7 := by unfold testsF at ht; simp at ht; omega
 obtain ⟨e, he⟩ := hw.self.2.2.2.2 (by omega)
 have ha : q.arg0 = e := by unfold Pat.arg0; rw [he]; rfl
 have ha2 : (q.ren (shT m)).arg0 = e.ren (shT m) := by unfold Pat.arg0; rw [ren_args, he, Pat.renL]; rfl
 have hb : Below m e.nodes := by
  obtain ⟨o, a, t, v, s, n, c⟩ := q
  simp only [Pat.args] at he
  exact below_arg hq (by rw [he]; simp)
 rw [ha, ha2, ren_bound hm hb, ren_ones hm e hb]
 by_cases h5 : q.op = 5
 · rw [if_pos h5, if_pos h5]
   obtain ⟨v1, v2⟩ := hv (by rw [h5]; rfl)
   dsimp only [Plc.sh]
   rw [v1, hx, uni_up0 hl.1 (bound_nn hb), uni_up0 (fun n hn => by rcases (uni_mem _ _ _).1 hn with k | k; exact hl.1 n k; exact bound_nn hb n k) (n1 _ v2), uni_up0 hl.2 (n1 _ v2)]
   exact ⟨rfl, rfl⟩
 · rw [if_neg h5, if_neg h5]
   dsimp only [Plc.sh]
   rw [uni_up0 hl.1 (bound_nn hb), uni_up0 hl.2 (ones_nn hb)]
   exact ⟨rfl, rfl⟩
theorem cfold_cnt : ∀ (l : List Pat) (s : Int × Int × Bool), (l.foldl cstep s).1 = s.1 + cntV l
 | [], s => by simp [cntV]
 | q :: r, s => by
  rw [List.foldl_cons, cfold_cnt r, cntV]
  simp only [cstep]
  split <;> omega
theorem chk_below {p : Pat} (h : p.chk = 0) {m : Nat} (hm : (m : Int) = (cfold p.nodes).1) : Below m p.nodes := fun q hq ht => by
 have := OrdV_mem (chk_ord h) q hq ht
 have h2 := cfold_cnt p.nodes (0, 0, true)
 unfold cfold at hm
 dsimp only at h2
 omega
theorem cstep_ren {m : Nat} (hm : m ≤ 16) (q : Pat) (hq : typedF q.op = true → 0 ≤ q.var ∧ q.var < m) (k n : Int) (b : Bool) : cstep (k + 1, n, b) (q.ren (shT m)) = ((cstep (k, n, b) q).1 + 1, (cstep (k, n, b) q).2.1, (cstep (k, n, b) q).2.2) := by
 have hs : (q.ren (shT m)).scope = q.scope := by obtain ⟨o, a, t, v, s, n, c⟩ := q; rw [Pat.ren]; rfl
 simp only [cstep, Pat.ren_op, Pat.ren_var, hs]
 cases ht : typedF q.op with
 | false => simp
 | true =>
  rw [if_pos rfl, shT_get hm (hq ht).1 (hq ht).2]
  have : (q.var + 1 == k + 1) = (q.var == k) := by rw [Bool.eq_iff_iff]; simp
  simp [this]
theorem cfold_ren {m : Nat} (hm : m ≤ 16) : ∀ (l : List Pat), Below m l → ∀ k n b, (l.map (Pat.ren (shT m))).foldl cstep (k + 1, n, b) = ((l.foldl cstep (k, n, b)).1 + 1, (l.foldl cstep (k, n, b)).2.1, (l.foldl cstep (k, n, b)).2.2)
 | [], _, k, n, b => rfl
 | q :: r, h, k, n, b => by
  rw [List.map_cons, List.foldl_cons, List.foldl_cons, cstep_ren hm q (h q (by simp)), cfold_ren hm r fun q hq => h q (by simp [hq])]
def seqP (p : Pat) : Pat := .mk 1 [ev15 0 yesE, p] 0 0 0 0 Ex0
theorem seqP_nodes (p : Pat) : (seqP p).nodes = seqP p :: ev15 0 yesE :: p.nodes := by
 simp [seqP, ev15, Pat.nodes, Pat.nodesL]
theorem seqP_lf (p : Pat) : Pat.lf PlcS (seqP p) = (seqP p, PlcS) :: (ev15 0 yesE, PlcS) :: Pat.lf PlcS.sh p := by
 have e1 : PlcS.plus (ev15 0 yesE) = PlcS.sh := by simp only [Plc.plus, PlcS, Plc.sh]; rw [ev15_bound, ev15_ones, uni_1]; rfl
 have e3 : ∀ l v a, Pat.lf l (ev15 v a) = [(ev15 v a, l)] := fun l v a => by simp [ev15, Pat.lf, Pat.lfL]
 rw [seqP, Pat.lf, Pat.lfL, Pat.lfL, Pat.lfL, show decide ((1 : Int) = 1) = true from rfl, if_pos rfl, e1, e3]
 simp
theorem seqP_sm {p : Pat} (h : p.Sm) (h1 : p.cnt ≤ 62) : (seqP p).Sm := by
 refine (Pat.Sm_iff _).2 ⟨by rw [seqP_nodes, List.length_cons, List.length_cons, Pat.nodes_len]; omega, fun q hq => ?_⟩
 rw [seqP_nodes] at hq
 have h0 : Ex0.Sm := by simp [Ex.Sm, Ex0, Ex.cnt, Ex.cntL]
 rcases List.mem_cons.1 hq with rfl | hq
 · exact h0
 rcases List.mem_cons.1 hq with rfl | hq
 · exact yes15_sm
 · exact ((Pat.Sm_iff p).1 h).2 q hq
theorem atE_eq {p : Pat} {i : Int} (h : p.chk = 0) (hr : 0 ≤ i ∧ i < p.nodes.length) : p.atE i = if testsF (p.nodeAt i).op = true then 0 else 1 := by
 unfold Pat.atE; rw [if_neg (fun k => k h), if_pos hr]
theorem precedes_plain {p : Pat} (hk : p.chk = 0) (h1 : p.cnt + 2 ≤ 64) (h2 : p.dep < 12) {m : Nat} (hm : (m : Int) = (cfold p.nodes).1) (hm2 : m < 16) :
 p.renErr (shT m) = 0 ∧ p.rename (shT m) = p.ren (shT m) ∧ ∀ i : Nat, i < p.cnt → (seqP (p.ren (shT m))).atE ((i : Int) + 2) = p.atE i ∧
  (p.atE i = 0 → ((seqP (p.ren (shT m))).atP ((i : Int) + 2)).us = 0 :: up (p.atP i).us ∧ ((seqP (p.ren (shT m))).atP ((i : Int) + 2)).si = 0 :: up (p.atP i).si) := by
 obtain ⟨k1, k2⟩ := chk_zero hk
 obtain ⟨k3, k4, k5⟩ := wholeE_ok k1
 obtain ⟨t1, t2, t3⟩ := turn_p (shT_map (m := m) (by omega)) k3
 have hb := chk_below hk hm
 refine ⟨t1, t2, ?_⟩
 have hno := seqP_nodes (p.ren (shT m))
 rw [Pat.ren_nodes] at hno
 obtain ⟨g1, g2, g3⟩ := chkR_zero.1 t3
 rw [Pat.ren_nodes] at g3
 have n0 : (seqP (p.ren (shT m))).nodeE = 0 := by
  simp [Pat.nodeE, seqP, Pat.op, Pat.args, Pat.ty, Pat.var, Pat.scope, Pat.span, Pat.cond, leastF, mostF, typedF, condF, scopeF, spanF]
 have hcnt : (p.ren (shT m)).cnt = p.cnt := by rw [← Pat.nodes_len, Pat.ren_nodes, List.length_map, Pat.nodes_len]
 have hdep := Pat.ren_dep (shT m) p
 have c1 : (seqP (p.ren (shT m))).chkR = 0 := by
  have e1 : (seqP (p.ren (shT m))).cnt = p.cnt + 2 := by rw [← Pat.nodes_len, hno]; simp [Pat.nodes_len]
  have e2 : (seqP (p.ren (shT m))).dep ≤ 12 := by
   have : (seqP (p.ren (shT m))).dep = max (max 0 1) (p.ren (shT m)).dep + 1 := by simp [seqP, ev15, Pat.dep, Pat.depL]
   omega
  rw [Pat.chkR, e1, if_neg (by omega), if_neg (by omega)]
  refine firstE_ok fun q hq => ?_
  rw [hno] at hq
  rcases List.mem_cons.1 hq with rfl | hq
  · exact n0
  rcases List.mem_cons.1 hq with rfl | hq
  · exact ev15_node 0 (by omega) yes15_chk
  · exact g3 q hq
 have c2 : (seqP (p.ren (shT m))).wholeE = 0 := by
  rw [Pat.wholeE, c1, if_neg (by simp)]
  refine firstE_ok fun q hq => ?_
  rw [hno] at hq
  rcases List.mem_cons.1 hq with rfl | hq
  · exact if_neg (by simp [seqP, Pat.op])
  rcases List.mem_cons.1 hq with rfl | hq
  · exact if_neg (by simp [ev15, Pat.op])
  · obtain ⟨q0, hq0, rfl⟩ := List.mem_map.1 hq
    rw [Pat.ren_op]; exact if_neg (by have := k5 q0 hq0; omega)
 have c3 : (seqP (p.ren (shT m))).chk = 0 := by
  rw [Pat.chk, c2, if_neg (by simp), if_pos]
  rw [hno, cfold, List.foldl_cons, List.foldl_cons]
  have e1 : cstep (cstep (0, 0, true) (seqP (p.ren (shT m)))) (ev15 0 yesE) = (0 + 1, 0, true) := by
   simp [cstep, seqP, ev15, Pat.op, Pat.var, Pat.scope, typedF, scopeF]
  rw [e1, cfold_ren (by omega) _ hb]
  exact k2
 intro i hi
 have hnl := p.nodes_len
 have hr : (0 : Int) ≤ (i : Int) ∧ (i : Int) < p.nodes.length := by omega
 have hr2 : (0 : Int) ≤ (i : Int) + 2 ∧ (i : Int) + 2 < (seqP (p.ren (shT m))).nodes.length := by
  rw [hno]; simp only [List.length_cons, List.length_map]; omega
 have hnt : ((i : Int) + 2).toNat = i + 2 := by omega
 have hgd : p.nodes.getD i Pat0 = p.nodes[i] := getD_el _ (by omega)
 have e1 : (seqP (p.ren (shT m))).nodeAt ((i : Int) + 2) = (p.nodeAt i).ren (shT m) := by
  unfold Pat.nodeAt
  rw [if_pos hr, if_pos hr2, hnt, hno, List.getD_cons_succ, List.getD_cons_succ, getD_el _ (by rw [List.length_map]; omega), List.getElem_map]
  congr 1
  exact hgd.symm
 have hE : (seqP (p.ren (shT m))).atE ((i : Int) + 2) = p.atE i := by
  rw [atE_eq c3 hr2, atE_eq hk hr, e1, Pat.ren_op]
 refine ⟨hE, fun h0 => ?_⟩
 have hlen := Pat.lf_len p PlcS
 obtain ⟨x, hx⟩ : ∃ x, x = (Pat.lf PlcS p)[i]'(by omega) := ⟨_, rfl⟩
 have hxm : x ∈ Pat.lf PlcS p := by rw [hx]; exact List.getElem_mem _
 have f1 : (Pat.lf PlcS p).getD (i : Int).toNat (Pat0, Plc0) = x := by
  rw [hx]; exact getD_el _ (by omega)
 have hS : PlcS.nn := ⟨fun _ h => (by cases h), fun _ h => (by cases h)⟩
 have f2 : (Pat.lf PlcS (seqP (p.ren (shT m)))).getD ((i : Int) + 2).toNat (Pat0, Plc0) = (x.1.ren (shT m), x.2.sh) := by
  rw [hnt, seqP_lf, List.getD_cons_succ, List.getD_cons_succ, ren_lf (by omega) p hb PlcS hS, getD_el _ (by rw [List.length_map]; omega), List.getElem_map, ← hx]
 have hP : p.atP i = x.1.own x.2 := by unfold Pat.atP; rw [if_pos h0, f1]
 have hP2 : (seqP (p.ren (shT m))).atP ((i : Int) + 2) = (x.1.ren (shT m)).own x.2.sh := by unfold Pat.atP; rw [if_pos (hE.trans h0), f2]
 have hxn := (Pat.lf_ok p (chk_wf hk) PlcS PlcS_ok x hxm).2
 have hx1 : x.1 = p.nodeAt i := by
  have := lf_at p PlcS i
  unfold Pat.nodeAt
  rw [if_pos hr]
  show x.1 = p.nodes.getD i Pat0
  rw [← this]
  congr 1
  exact f1.symm
 have ht : testsF x.1.op = true := by
  unfold Pat.atE at h0
  rw [if_neg (fun k => k hk), if_pos hr, ← hx1] at h0
  by_cases ht : testsF x.1.op = true
  · exact ht
  · rw [if_neg ht] at h0; exact absurd h0 (by decide)
 have hbx : Below m x.1.nodes := fun q hq => hb q ((cnt_node p x.1 hxn).2.2 q hq)
 rw [hP, hP2]
 exact sh_own (by omega) hbx ((chk_wf hk).node hxn) ht (lf_nn p hb PlcS hS x hxm)
theorem P_shifted (l : List Int) (hl : l.length < 1048577) (hv : VR l) : PCall EE 27 [.isl 1 (mapE int l)] (.isl 1 (mapE int (0 :: up l))) := by
 have hcI := closedI_int l
 obtain ⟨W, hW⟩ : ∃ W, W = mapE int (0 :: up l) := ⟨_, rfl⟩
 rw [← hW]
 refine wordsN ?_; unhygienic intros
 generalize hes : mapE int l = es at *
 have hel : es.length = l.length := by rw [← hes, mapE_len]
 have h1 : mapE int [0] = [int 0] := by rw [mapE_eq]; rfl
 refine fn_body (fn := Tryd.f27) (n := 20) (ac := Trydc27) (rvs := [.t 2]) rfl (by decide) Trydp27 rfl rfl rfl ?_
 refine goA 60 ?_
 refine on_loopP (ι := List Int × List Int × Int × Nat × List AV) (fun p => ([(9, int p.2.2.1), (8, int (lenA es)), (7, .isl 1 es), (3, .sl 0 1 0 p.2.2.2.1)], [.arr 1 p.2.2.2.2])) (fun p => l = p.1 ++ p.2.1 ∧ p.2.2.1 = p.1.length ∧ p.2.2.2.1 = p.2.2.2.2.length ∧ p.2.2.2.2 = mapE int (0 :: up p.1)) (fun p => p.2.1.length) ([], l, 0, 1, [int 0]) ⟨rfl, rfl, rfl, h1.symm⟩ ?_ ?_
 · exact (ent_sub [.to 0] [some 0] ⟨⟨by simp, rfl⟩, trivial⟩ ⟨osrc_arr (b := 0) rfl rfl rfl rfl (by rfl), trivial⟩ ⟨.refl _, .refl _, .cl hcI, .refl _, trivial⟩)
 rintro ⟨d, r, i, m, w⟩ ⟨g1, gi, gm, gw⟩
 dsimp only at g1 gi gm gw ⊢
 have hcw : AV.closedL w = true := by rw [gw]; exact closedL_int _
 cases r with
 | nil =>
  have L1 := len_split g1
  try simp only [List.length] at L1
  have hc : iLt i (lenA es) = false := lt_f e_iLt e_lenA (by omega)
  have hw : w = W := by rw [hW, gw, g1, List.append_nil]
  clear hW gw hes
  subst hw
  refine goB hX 0 (by conv => lhs; cbv; try simp only [hc]; cbv; try simp only [hc]; cbv; try simp only [hc]; cbv; try simp only [hc]; cbv) ?_
  refine goA 60 ?_
  refine loopP_exit ?_
  refine goA 60 ?_
  refine fn_ret rfl rfl ?_
  exact ⟨[.isl 1 (w)], ⟨⟨_, rfl, (subL_closed _ hcw).symm⟩, trivial⟩, .of (sub_whole rfl (by assumption))⟩
 | cons x r =>
  have L1 := len_split g1
  try simp only [List.length] at L1
  have hc : iLt i (lenA es) = true := lt_t e_iLt e_lenA (by omega)
  have hat := el_at e_atA hes g1 gi
  have hx := hv x (by rw [g1]; simp)
  have hi2 : iAdd .i64 i 1 = ((d ++ [x]).length : Int) := by rw [List.length_append]; exact inc_w e_iAdd gi (by omega)
  obtain ⟨y, hy⟩ : ∃ y : Int, y = x + 1 := ⟨_, rfl⟩
  have kx : iAdd .i64 x 1 = y := by simp only [ee]; rw [wrap64 (by omega) (by omega), hy]
  have hml : w.length = d.length + 1 := by rw [gw]; simp [mapE_eq, up]
  have hw2 : catA (dropA w 0) (partA [int y] 0 1) = mapE int (0 :: up (d ++ [x])) := by
   rw [gw, hy]; simp only [ee]; simp [mapE_eq, up]
  have hm2 : addN m (lenN (partA [int y] 0 1)) = (catA (dropA w 0) (partA [int y] 0 1)).length := by simp only [ee]; simp [gm]
  have hc2 : AV.closedL (catA (dropA w 0) (partA [int y] 0 1)) = true := by rw [hw2]; exact closedL_int _
  clear hW
  refine goB hX 0 (by conv => lhs; cbv; try simp only [hc, hat, kx]; cbv; try simp only [hc, hat, kx]; cbv; try simp only [hc, hat, kx]; cbv; try simp only [hc, hat, kx]; cbv) ?_
  refine goB hX 1 (by conv => lhs; cbv; try simp only [hc, hat, kx]; cbv; try simp only [hc, hat, kx]; cbv; try simp only [hc, hat, kx]; cbv; try simp only [hc, hat, kx]; cbv) ?_
  refine loopP_next (d ++ [x], r, iAdd .i64 i 1, addN m (lenN (partA [int y] 0 1)), catA (dropA w 0) (partA [int y] 0 1)) ⟨by simp [g1], hi2, hm2, hw2⟩ (by simp) (ent_sub [.gone, .gone, .to 0] [some 2] ⟨trivial, trivial, ⟨by simp, rfl⟩, trivial⟩ ⟨osrc_arr (b := 2) rfl rfl rfl rfl hc2, trivial⟩ ⟨.refl _, .refl _, .cl hcI, .refl _, trivial⟩)
theorem P_lawPrecedes (p : Pat) (hs : p.Sm) : PCall EE 6 [p.enc] (bool true) := by
 have q0 := P_pattern_Size p hs
 have q1 := P_ref15_Few p hs
 have q2 := P_pattern_Count p hs
 have q4 := P_awake
 have qT := P_truth
 rw [yesE.enc_eq] at qT
 have hcf := cfold_bd p.nodes
 have hnl := Pat.nodes_len p
 have hcn := hs.1
 obtain ⟨m, hm⟩ : ∃ m : Nat, (m : Int) = (cfold p.nodes).1 := ⟨(cfold p.nodes).1.toNat, by omega⟩
 have hpl := fun hk h1 h2 h3 => precedes_plain (p := p) hk h1 h2 hm h3
 have qR := P_pattern_Rename (shT m) p hs (by rw [shT_len]; omega)
 have qU := fun i => P_Usable p i hs
 have qS := fun i => P_Single p i hs
 have hsq := fun h => seqP_sm (p := p.ren (shT m)) (Pat.ren_sm hs) h
 have hcr : (p.ren (shT m)).cnt = p.cnt := by rw [← Pat.nodes_len, Pat.ren_nodes, List.length_map, Pat.nodes_len]
 rw [hcr] at hsq
 have qU2 := fun h i => P_Usable (seqP (p.ren (shT m))) i (hsq h)
 have qS2 := fun h i => P_Single (seqP (p.ren (shT m))) i (hsq h)
 have hok := fun i => atP_ok p i
 have hnv : p.nVars = if p.chk = 0 then (m : Int) else 0 := by rw [Pat.nVars, hm]
 obtain ⟨vs, hvs⟩ : ∃ vs : Int, vs = p.nVars := ⟨_, rfl⟩
 obtain ⟨n, hn⟩ : ∃ n : Int, n = (p.cnt : Int) := ⟨_, rfl⟩
 obtain ⟨d, hd⟩ : ∃ d : Int, d = (p.dep : Int) := ⟨_, rfl⟩
 rw [← hvs] at q2 hnv
 rw [← hn, ← hd] at q0
 have kc1 := Pat.closed p
 have kc2 := Pat.closed (p.ren (shT m))
 have kc3 := Pat.closed (p.rename (shT m))
 have hse : (seqP (p.ren (shT m))).enc = .agg [int 1, .isl 14 [.agg [int 0, .isl 14 [], int 0, int 0, int 0, int 0, int 0, .isl 8 [], int 0, int 0, int 0, int 1, int 1, str ⟨#[]⟩], (p.ren (shT m)).enc], int 0, int 0, int 0, int 0, int 0, .isl 8 [], int 0, int 0, int 0, int 0, int 0, str ⟨#[]⟩] := by
  simp only [seqP, ev15, Ex0, yesE, Pat.enc_mk, mapE_eq, List.map_cons, List.map_nil, Vl0]
 simp only [hse] at qU2 qS2
 clear hse hsq hcr hvs
 obtain ⟨aE, haE⟩ : ∃ f : Int → Int, f = fun i => p.atE i := ⟨_, rfl⟩
 obtain ⟨aP, haP⟩ : ∃ f : Int → Plc, f = fun i => p.atP i := ⟨_, rfl⟩
 have ha1 : ∀ i, p.atE i = aE i := fun i => by rw [haE]
 have ha2 : ∀ i, p.atP i = aP i := fun i => by rw [haP]
 obtain ⟨bE, hbE⟩ : ∃ f : Int → Int, f = fun i => (seqP (p.ren (shT m))).atE i := ⟨_, rfl⟩
 obtain ⟨bP, hbP⟩ : ∃ f : Int → Plc, f = fun i => (seqP (p.ren (shT m))).atP i := ⟨_, rfl⟩
 have hb1 : ∀ i, (seqP (p.ren (shT m))).atE i = bE i := fun i => by rw [hbE]
 have hb2 : ∀ i, (seqP (p.ren (shT m))).atP i = bP i := fun i => by rw [hbP]
 simp only [ha1, ha2, hb1, hb2] at qU qS qU2 qS2 hpl hok
 clear ha1 ha2 hb1 hb2 haE haP hbE hbP
 generalize p.few = fp at *
 generalize p.chk = ck at *
 generalize p.nScs = ns at *
 generalize p.cnt = pn at *
 generalize p.dep = pd at *
 generalize p.renErr (shT m) = re at *
 have hrn : ck = 0 → pn + 2 ≤ 64 → pd < 12 → m < 16 → re = 0 ∧ p.rename (shT m) = p.ren (shT m) := fun h1 h2 h3 h4 => ⟨(hpl h1 h2 h3 h4).1, (hpl h1 h2 h3 h4).2.1⟩
 have hpl := fun h1 h2 h3 h4 => (hpl h1 h2 h3 h4).2.2
 generalize p.rename (shT m) = pr at *
 generalize p.ren (shT m) = mv at *
 obtain ⟨pO, pA, pT, pV, pS, pN, pCo, pCa, pCv, pCf, pCk, pXk, pXn, pXt, hx⟩ := Pat.form p
 obtain ⟨mvO, mvA, mvT, mvV, mvS, mvN, mvCo, mvCa, mvCv, mvCf, mvCk, mvXk, mvXn, mvXt, hxm⟩ := Pat.form mv
 rw [hx] at q0 q1 q2 qR kc1 ⊢
 simp only [hx] at qU qS
 rw [hxm] at kc2
 simp only [hxm] at qU2 qS2
 have wS : Wk2 0 (.agg [int 1, .isl 14 [.agg [int 0, .val (.slice none 0 0), int 0, int 0, int 0, int 0, int 0, .isl 8 [], int 0, int 0, int 0, int 1, int 1, str ⟨#[]⟩], .agg [int mvO, .isl 14 mvA, int mvT, int mvV, int mvS, int mvN, int mvCo, .isl 8 mvCa, int mvCv, int mvCf, int mvCk, int mvXk, int mvXn, str mvXt]], int 0, int 0, int 0, int 0, int 0, .val (.slice none 0 0), int 0, int 0, int 0, int 0, int 0, str ⟨#[]⟩])
  (.agg [int 1, .isl 14 [.agg [int 0, .isl 14 [], int 0, int 0, int 0, int 0, int 0, .isl 8 [], int 0, int 0, int 0, int 1, int 1, str ⟨#[]⟩], .agg [int mvO, .isl 14 mvA, int mvT, int mvV, int mvS, int mvN, int mvCo, .isl 8 mvCa, int mvCv, int mvCf, int mvCk, int mvXk, int mvXn, str mvXt]], int 0, int 0, int 0, int 0, int 0, .isl 8 [], int 0, int 0, int 0, int 0, int 0, str ⟨#[]⟩]) :=
  .agg' ⟨.refl _, .isl' ⟨⟨.refl _, .nilI _, .refl _, .refl _, .refl _, .refl _, .refl _, .refl _, .refl _, .refl _, .refl _, .refl _, .refl _, .refl _, trivial⟩, Wk2L.refl _, trivial⟩, .refl _, .refl _, .refl _, .refl _, .refl _, .nilI _, .refl _, .refl _, .refl _, .refl _, .refl _, .refl _, trivial⟩
 have qU2 := fun h i => (qU2 h i).weakA (args := [_, _]) ⟨wS, .refl _, trivial⟩
 have qS2 := fun h i => (qS2 h i).weakA (args := [_, _]) ⟨wS, .refl _, trivial⟩
 clear hx hs wS
 refine wordsN ?_; unhygienic intros
 have t1 : ∀ x : Int, iEq x x = true := fun x => by simp only [ee]; simp
 have t2 : ∀ x : Int, iNe x x = false := fun x => by simp only [ee]; simp
 have n0 : bNot false = true := by simp only [ee]; rfl
 have n1 : bNot true = false := by simp only [ee]; rfl
 have kn : iAdd .i64 n 2 = n + 2 := by simp only [ee]; rw [wrap64 (by omega) (by omega)]
 obtain ⟨n2, hn2⟩ : ∃ n2 : Int, n2 = n + 2 := ⟨_, rfl⟩
 rw [← hn2] at kn
 refine fn_body (fn := Tryd.f6) (n := 136) (ac := Trydc6) (rvs := [.t 2]) rfl (by decide) Trydp6 rfl rfl rfl ?_
 cases fp with
 | false =>
  refine goA 60 ?_
  refine oPA q0 ?_
  refine goA 60 ?_
  refine oPA q2 ?_
  refine goA 60 ?_
  refine oPA q1 ?_
  refine goB hX 0 (by conv => lhs; cbv; try simp only [n0]; cbv; try simp only [n0]; cbv; try simp only [n0]; cbv; try simp only [n0]; cbv) ?_
  refine on_cond rfl (fun c1 => ?_) (fun c1 => ?_)
  ·
   simp [ee] at c1
   refine goA 60 ?_
   refine oPA q4 ?_
   refine goA 60 ?_
   refine fn_ret rfl rfl (.val ?_)
   rfl
  ·
   simp [ee] at c1
 | true =>
 by_cases h1 : 64 < n2
 · have k1 : iLt 64 n2 = true := by simp only [ee]; simpa using h1
   refine goA 60 ?_
   refine oPA q0 ?_
   refine goA 60 ?_
   refine oPA q2 ?_
   refine goA 60 ?_
   refine oPA q1 ?_
   refine goB hX 0 (by conv => lhs; cbv; try simp only [n1, kn, k1]; cbv; try simp only [n1, kn, k1]; cbv; try simp only [n1, kn, k1]; cbv; try simp only [n1, kn, k1]; cbv) ?_
   refine on_cond rfl (fun c1 => ?_) (fun c1 => ?_)
   ·
    simp [ee] at c1
    refine goA 60 ?_
    refine oPA q4 ?_
    refine goA 60 ?_
    refine fn_ret rfl rfl (.val ?_)
    rfl
   ·
    simp [ee] at c1
 have k1 : iLt 64 n2 = false := by simp only [ee]; simpa using h1
 by_cases h2 : 12 ≤ d
 · have k2 : iLe 12 d = true := by simp only [ee]; simpa using h2
   refine goA 60 ?_
   refine oPA q0 ?_
   refine goA 60 ?_
   refine oPA q2 ?_
   refine goA 60 ?_
   refine oPA q1 ?_
   refine goB hX 0 (by conv => lhs; cbv; try simp only [n1, kn, k1, k2]; cbv; try simp only [n1, kn, k1, k2]; cbv; try simp only [n1, kn, k1, k2]; cbv; try simp only [n1, kn, k1, k2]; cbv) ?_
   refine on_cond rfl (fun c1 => ?_) (fun c1 => ?_)
   ·
    simp [ee] at c1
    refine goA 60 ?_
    refine oPA q4 ?_
    refine goA 60 ?_
    refine fn_ret rfl rfl (.val ?_)
    rfl
   ·
    simp [ee] at c1
 have k2 : iLe 12 d = false := by simp only [ee]; simpa using h2
 by_cases h3 : ck = 0
 rotate_left
 · have k3 : iNe ck 0 = true := by simp only [ee]; simpa using h3
   refine goA 60 ?_
   refine oPA q0 ?_
   refine goA 60 ?_
   refine oPA q2 ?_
   refine goA 60 ?_
   refine oPA q1 ?_
   refine goB hX 0 (by conv => lhs; cbv; try simp only [n1, kn, k1, k2, k3]; cbv; try simp only [n1, kn, k1, k2, k3]; cbv; try simp only [n1, kn, k1, k2, k3]; cbv; try simp only [n1, kn, k1, k2, k3]; cbv) ?_
   refine on_cond rfl (fun c1 => ?_) (fun c1 => ?_)
   ·
    simp [ee] at c1
    refine goA 60 ?_
    refine oPA q4 ?_
    refine goA 60 ?_
    refine fn_ret rfl rfl (.val ?_)
    rfl
   ·
    simp [ee] at c1
 have k3 : iNe ck 0 = false := by simp only [ee]; simpa using h3
 rw [if_pos h3] at hnv
 by_cases h4 : 16 ≤ vs
 · have k4 : iLe 16 vs = true := by simp only [ee]; simpa using h4
   refine goA 60 ?_
   refine oPA q0 ?_
   refine goA 60 ?_
   refine oPA q2 ?_
   refine goA 60 ?_
   refine oPA q1 ?_
   refine goB hX 0 (by conv => lhs; cbv; try simp only [n1, kn, k1, k2, k3, k4]; cbv; try simp only [n1, kn, k1, k2, k3, k4]; cbv; try simp only [n1, kn, k1, k2, k3, k4]; cbv; try simp only [n1, kn, k1, k2, k3, k4]; cbv) ?_
   refine on_cond rfl (fun c1 => ?_) (fun c1 => ?_)
   ·
    simp [ee] at c1
    refine goA 60 ?_
    refine oPA q4 ?_
    refine goA 60 ?_
    refine fn_ret rfl rfl (.val ?_)
    rfl
   ·
    simp [ee] at c1
 have k4 : iLe 16 vs = false := by simp only [ee]; simpa using h4
 replace hpl := hpl h3 (by omega) (by omega) (by omega)
 obtain ⟨hr1, hr2⟩ := hrn h3 (by omega) (by omega) (by omega)
 replace qU2 := qU2 (by omega)
 replace qS2 := qS2 (by omega)
 subst hr1 hr2
 rw [hxm] at qR kc3
 clear hrn
 refine goA 60 ?_
 refine oPA q0 ?_
 refine goA 60 ?_
 refine oPA q2 ?_
 refine goA 60 ?_
 refine oPA q1 ?_
 refine goB hX 0 (by conv => lhs; cbv; try simp only [n1, kn, k1, k2, k3, k4]; cbv; try simp only [n1, kn, k1, k2, k3, k4]; cbv; try simp only [n1, kn, k1, k2, k3, k4]; cbv; try simp only [n1, kn, k1, k2, k3, k4]; cbv) ?_
 refine on_cond rfl (fun c1 => ?_) (fun c1 => ?_)
 ·
  simp [ee] at c1
 simp [ee] at c1
 refine goA 60 ?_
 replace hpl := hpl.2.2
 have kcC : AV.closedL [int pO, .isl 14 pA, int pT, int pV, int pS, int pN, int pCo, .isl 8 pCa, int pCv, int pCf, int pCk, int pXk, int pXn, str pXt] = true := kc1
 have hcr : AV.closedL (repA 16 (int 0)) = true := by simp only [ee]; rfl
 refine on_loopP (ι := Nat × Int × Nat × List AV) (fun p => ([(56, int p.2.1), (55, int vs), (8, .sl 0 1 0 p.2.2.1), (3, int n), (1, .iptr [int pO, .isl 14 pA, int pT, int pV, int pS, int pN, int pCo, .isl 8 pCa, int pCv, int pCf, int pCk, int pXk, int pXn, str pXt])], [.arr 1 p.2.2.2])) (fun p => p.1 ≤ m ∧ p.2.1 = p.1 ∧ p.2.2.1 = 16 ∧ p.2.2.2 = mapE int (shT p.1)) (fun p => m - p.1) (0, 0, natOf 16, repA 16 (int 0)) ⟨by omega, rfl, by simp only [ee]; rfl, by simp only [ee]; rw [mapE_eq]; rfl⟩ ?_ ?_
 · exact (ent_sub [.icells ([int pO, AV.isl 14 pA, int pT, int pV, int pS, int pN, int pCo, AV.isl 8 pCa, int pCv, int pCf, int pCk, int pXk, int pXn, str pXt]), .to 0] [some 1] ⟨⟨_, rfl, (subL_closed _ kcC).symm⟩, ⟨by simp, rfl⟩, trivial⟩ ⟨osrc_arr (b := 1) rfl rfl rfl rfl hcr, trivial⟩ ⟨.refl _, .refl _, .refl _, .refl _, .refl _, trivial⟩)
 rintro ⟨j, i, ml, w⟩ ⟨g1, gi, gl, gw⟩
 dsimp only at g1 gi gl gw ⊢
 have hwl : w.length = 16 := by rw [gw, mapE_len, shT_len]
 have hml : ml = w.length := by omega
 have hcw : AV.closedL w = true := by rw [gw]; exact closedL_int _
 have hcw2 : (AV.isl 1 w).closed = true := hcw
 by_cases hj : j < m
 · have hc : iLt i vs = true := by simp only [ee]; simp; omega
   obtain ⟨y, hy⟩ : ∃ y : Int, y = i + 1 := ⟨_, rfl⟩
   have ky : iAdd .i64 i 1 = y := by simp only [ee]; rw [wrap64 (by omega) (by omega), hy]
   have hs2 : setA w (idxN 0 i) (int y) = mapE int (shT (j + 1)) := by
    rw [gw, hy, gi]; simp only [ee]; rw [← shT_set (by omega)]; simp [mapE_eq]
   have hc2 : AV.closedL (setA w (idxN 0 i) (int y)) = true := by rw [hs2]; exact closedL_int _
   have hy2 : y = ((j + 1 : Nat) : Int) := by omega
   clear hy
   refine goB hX 0 (by conv => lhs; cbv; try simp only [hc, ky]; cbv; try simp only [hc, ky]; cbv; try simp only [hc, ky]; cbv; try simp only [hc, ky]; cbv) ?_
   refine goA 60 ?_
   refine loopP_next (j + 1, y, ml, setA w (idxN 0 i) (int y)) ⟨by dsimp only; omega, hy2, gl, hs2⟩ (by dsimp only; omega) (ent_sub [.to 0] [some 0] ⟨⟨by simp, rfl⟩, trivial⟩ ⟨osrc_arr (b := 0) rfl rfl rfl (by simp only [hc, ky]) hc2, trivial⟩ ⟨.of (congrArg int (by assumption)), .refl _, .refl _, .refl _, .cl kc1, trivial⟩)
 have hc : iLt i vs = false := by simp only [ee]; simp; omega
 have hjm : j = m := by omega
 rw [← hjm, ← gw] at qR
 clear gw
 refine goB hX 0 (by conv => lhs; cbv; try simp only [hc]; cbv; try simp only [hc]; cbv; try simp only [hc]; cbv; try simp only [hc]; cbv) ?_
 refine goA 60 ?_
 refine loopP_exit ?_
 refine goA 60 ?_
 refine on_entO (F' := [(66, .agg [int pO, .isl 14 pA, int pT, int pV, int pS, int pN, int pCo, .isl 8 pCa, int pCv, int pCf, int pCk, int pXk, int pXn, str pXt]), (67, .isl 1 w), (3, int n), (1, .iptr [int pO, .isl 14 pA, int pT, int pV, int pS, int pN, int pCo, .isl 8 pCa, int pCv, int pCf, int pCk, int pXk, int pXn, str pXt])]) (H' := []) ?_ ?_
 · exact (ent_sub [.isl 1 (w)] [] ⟨⟨_, rfl, (subL_closed _ hcw).symm⟩, trivial⟩ trivial ⟨.cl kc1, .of (sub_whole rfl (by assumption)), .refl _, .cl kc1, trivial⟩)
 refine oPA qR ?_
 refine goB hX 0 (by conv => lhs; cbv; try simp only [t2]; cbv; try simp only [t2]; cbv; try simp only [t2]; cbv; try simp only [t2]; cbv) ?_
 refine goA 60 ?_
 refine tr_drawB rfl (by conv => lhs; cbv) rfl ?_
 refine oPT qT ?_
 refine tr_gof 2 hX (by conv => lhs; cbv) ?_ ?_
 · first | exact trivial | (simp only [Cd.ok, ee]; and_intros <;> first | omega | rfl | (simp <;> omega))
 refine tr_bslf rfl rfl rfl rfl ?_
 refine tgA ?_
 refine tr_nil ⟨rfl, by simp [LooksL, lookAll], ?_⟩
 refine goA 60 ?_
 obtain ⟨QC, hQC⟩ : ∃ QC, QC = [int 1, .isl 14 [.agg [int 0, .val (.slice none 0 0), int 0, int 0, int 0, int 0, int 0, .isl 8 [], int 0, int 0, int 0, int 1, int 1, str ⟨#[]⟩], .agg [int mvO, .isl 14 mvA, int mvT, int mvV, int mvS, int mvN, int mvCo, .isl 8 mvCa, int mvCv, int mvCf, int mvCk, int mvXk, int mvXn, str mvXt]], int 0, int 0, int 0, int 0, int 0, .val (.slice none 0 0), int 0, int 0, int 0, int 0, int 0, str ⟨#[]⟩] := ⟨_, rfl⟩
 have kcQ : AV.closedL [int 1, .isl 14 [.agg [int 0, .val (.slice none 0 0), int 0, int 0, int 0, int 0, int 0, .isl 8 [], int 0, int 0, int 0, int 1, int 1, str ⟨#[]⟩], .agg [int mvO, .isl 14 mvA, int mvT, int mvV, int mvS, int mvN, int mvCo, .isl 8 mvCa, int mvCv, int mvCf, int mvCk, int mvXk, int mvXn, str mvXt]], int 0, int 0, int 0, int 0, int 0, .val (.slice none 0 0), int 0, int 0, int 0, int 0, int 0, str ⟨#[]⟩] = true := by
  simp [AV.closedL, closed_v, closed_agg, AV.closed] at kc2 ⊢; exact kc2
 refine on_loopP (ι := Nat × Int) (fun p => ([(79, int p.2), (78, int n), (12, .iptr [int 1, .isl 14 [.agg [int 0, .val (.slice none 0 0), int 0, int 0, int 0, int 0, int 0, .isl 8 [], int 0, int 0, int 0, int 1, int 1, str ⟨#[]⟩], .agg [int mvO, .isl 14 mvA, int mvT, int mvV, int mvS, int mvN, int mvCo, .isl 8 mvCa, int mvCv, int mvCf, int mvCk, int mvXk, int mvXn, str mvXt]], int 0, int 0, int 0, int 0, int 0, .val (.slice none 0 0), int 0, int 0, int 0, int 0, int 0, str ⟨#[]⟩]), (1, .iptr [int pO, .isl 14 pA, int pT, int pV, int pS, int pN, int pCo, .isl 8 pCa, int pCv, int pCf, int pCk, int pXk, int pXn, str pXt])], [])) (fun p => p.1 ≤ pn ∧ p.2 = p.1) (fun p => pn - p.1) (0, 0) ⟨by omega, rfl⟩ ?_ ?_
 · exact (ent_sub [.gone, .icells ([int 1, AV.isl 14 [AV.agg [int 0, AV.val (Value.slice none 0 0), int 0, int 0, int 0, int 0, int 0, AV.isl 8 [], int 0, int 0, int 0, int 1, int 1, str { data := #[] }], AV.agg [int mvO, AV.isl 14 mvA, int mvT, int mvV, int mvS, int mvN, int mvCo, AV.isl 8 mvCa, int mvCv, int mvCf, int mvCk, int mvXk, int mvXn, str mvXt]], int 0, int 0, int 0, int 0, int 0, AV.val (Value.slice none 0 0), int 0, int 0, int 0, int 0, int 0, str { data := #[] }])] [] ⟨trivial, ⟨_, rfl, (subL_closed _ kcQ).symm⟩, trivial⟩ trivial ⟨.refl _, .refl _, .refl _, .cl kc1, trivial⟩)
 rintro ⟨j, i⟩ ⟨g1, gi⟩
 dsimp only at g1 gi ⊢
 have kq1 : (AV.agg [int 1, .isl 14 [.agg [int 0, .val (.slice none 0 0), int 0, int 0, int 0, int 0, int 0, .isl 8 [], int 0, int 0, int 0, int 1, int 1, str ⟨#[]⟩], .agg [int mvO, .isl 14 mvA, int mvT, int mvV, int mvS, int mvN, int mvCo, .isl 8 mvCa, int mvCv, int mvCf, int mvCk, int mvXk, int mvXn, str mvXt]], int 0, int 0, int 0, int 0, int 0, .val (.slice none 0 0), int 0, int 0, int 0, int 0, int 0, str ⟨#[]⟩]).closed = true := kcQ
 have kq2 : (AV.isl 14 [.agg [int 0, .val (.slice none 0 0), int 0, int 0, int 0, int 0, int 0, .isl 8 [], int 0, int 0, int 0, int 1, int 1, str ⟨#[]⟩], .agg [int mvO, .isl 14 mvA, int mvT, int mvV, int mvS, int mvN, int mvCo, .isl 8 mvCa, int mvCv, int mvCf, int mvCk, int mvXk, int mvXn, str mvXt]]).closed = true := by
  simp [AV.closedL, closed_v, closed_agg, AV.closed] at kc2 ⊢; exact kc2
 by_cases hj : j < pn
 · have hc : iLt i n = true := by simp only [ee]; simp; omega
   have kx : i + 2 = iAdd .i64 i 2 := by simp only [ee]; rw [wrap64 (by omega) (by omega)]
   have ki : iAdd .i64 i 1 = ((j + 1 : Nat) : Int) := by simp only [ee]; rw [wrap64 (by omega) (by omega)]; omega
   have zA := qU i
   have zB := qU2 (iAdd .i64 i 2)
   have zC := qS i
   have zD := qS2 (iAdd .i64 i 2)
   have hh := hpl j hj
   rw [← gi, kx] at hh
   obtain ⟨h5, h6⟩ := hh
   rw [h5] at zB zD
   obtain ⟨o1, o2, o3, o4⟩ := hok i
   clear qU qU2 qS qS2 hpl hok h5 kx
   generalize aE i = er at *
   by_cases h0 : er = 0
   · subst h0
     obtain ⟨e1, e2⟩ := h6 rfl
     rw [e1] at zB
     rw [e2] at zD
     have sA := P_shifted (aP i).us (by omega) o1
     have sB := P_shifted (aP i).si (by omega) o2
     have eA := P_Equal (0 :: up (aP i).us) (by simp [up]; omega)
     have eB := P_Equal (0 :: up (aP i).si) (by simp [up]; omega)
     have y1 := closedI_int (aP i).us
     have y2 := closedI_int (aP i).si
     have y3 := closedI_int (0 :: up (aP i).us)
     have y4 := closedI_int (0 :: up (aP i).si)
     clear e1 e2 h6 o1 o2 o3 o4
     generalize mapE int (aP i).us = ua at *
     generalize mapE int (aP i).si = sa at *
     generalize mapE int (0 :: up (aP i).us) = ub at *
     generalize mapE int (0 :: up (aP i).si) = sb at *
     refine goB hX 0 (by conv => lhs; cbv; try simp only [hc, t1, t2, n1]; cbv; try simp only [hc, t1, t2, n1]; cbv; try simp only [hc, t1, t2, n1]; cbv; try simp only [hc, t1, t2, n1]; cbv) ?_
     refine goA 60 ?_
     refine oPA zA ?_
     refine goA 60 ?_
     refine oPA zB ?_
     refine goA 60 ?_
     refine oPA zC ?_
     refine goA 60 ?_
     refine oPA zD ?_
     refine goB hX 0 (by conv => lhs; cbv; try simp only [hc, t1, t2, n1]; cbv; try simp only [hc, t1, t2, n1]; cbv; try simp only [hc, t1, t2, n1]; cbv; try simp only [hc, t1, t2, n1]; cbv) ?_
     refine on_guard rfl rfl (fun c1 => ?_) (fun c1 => ?_)
     ·
      simp [ee] at c1
     ·
      simp [ee] at c1
      refine goB hX 1 (by conv => lhs; cbv; try simp only [hc, t1, t2, n1]; cbv; try simp only [hc, t1, t2, n1]; cbv; try simp only [hc, t1, t2, n1]; cbv; try simp only [hc, t1, t2, n1]; cbv) ?_
      refine goB hX 1 (by conv => lhs; cbv; try simp only [hc, t1, t2, n1]; cbv; try simp only [hc, t1, t2, n1]; cbv; try simp only [hc, t1, t2, n1]; cbv; try simp only [hc, t1, t2, n1]; cbv) ?_
      refine goA 60 ?_
      refine oPG sA ?_
      refine oPG eA ?_
      refine goB hX 0 (by conv => lhs; cbv; try simp only [hc, t1, t2, n1]; cbv; try simp only [hc, t1, t2, n1]; cbv; try simp only [hc, t1, t2, n1]; cbv; try simp only [hc, t1, t2, n1]; cbv) ?_
      refine goB hX 1 (by conv => lhs; cbv; try simp only [hc, t1, t2, n1]; cbv; try simp only [hc, t1, t2, n1]; cbv; try simp only [hc, t1, t2, n1]; cbv; try simp only [hc, t1, t2, n1]; cbv) ?_
      refine goA 60 ?_
      refine oPG sB ?_
      refine oPG eB ?_
      refine goB hX 0 (by conv => lhs; cbv; try simp only [hc, t1, t2, n1]; cbv; try simp only [hc, t1, t2, n1]; cbv; try simp only [hc, t1, t2, n1]; cbv; try simp only [hc, t1, t2, n1]; cbv) ?_
      refine goB hX 1 (by conv => lhs; cbv; try simp only [hc, t1, t2, n1]; cbv; try simp only [hc, t1, t2, n1]; cbv; try simp only [hc, t1, t2, n1]; cbv; try simp only [hc, t1, t2, n1]; cbv) ?_
      refine goB hX 1 (by conv => lhs; cbv; try simp only [hc, t1, t2, n1]; cbv; try simp only [hc, t1, t2, n1]; cbv; try simp only [hc, t1, t2, n1]; cbv; try simp only [hc, t1, t2, n1]; cbv) ?_
      refine on_cond rfl (fun c2 => ?_) (fun c2 => ?_)
      ·
       simp [ee] at c2
      ·
       simp [ee] at c2
       refine goA 60 ?_
       refine loopP_next (j + 1, iAdd .i64 i 1) ⟨by dsimp only; omega, ki⟩ (by dsimp only; omega) (ent_sub [] [] trivial trivial ⟨.refl _, .refl _, .cl kq1, .cl kc1, trivial⟩)
   have k0 : iEq er 0 = false := by simp only [ee]; simpa using h0
   clear h6 o1 o2 o3 o4
   have y1 := closedI_int (aP i).us
   have y2 := closedI_int (aP i).si
   have y3 := closedI_int (bP (iAdd .i64 i 2)).us
   have y4 := closedI_int (bP (iAdd .i64 i 2)).si
   generalize mapE int (aP i).us = ua at *
   generalize mapE int (aP i).si = sa at *
   generalize mapE int (bP (iAdd .i64 i 2)).us = ub at *
   generalize mapE int (bP (iAdd .i64 i 2)).si = sb at *
   refine goB hX 0 (by conv => lhs; cbv; try simp only [hc, k0, t2, n1]; cbv; try simp only [hc, k0, t2, n1]; cbv; try simp only [hc, k0, t2, n1]; cbv; try simp only [hc, k0, t2, n1]; cbv) ?_
   refine goA 60 ?_
   refine oPA zA ?_
   refine goA 60 ?_
   refine oPA zB ?_
   refine goA 60 ?_
   refine oPA zC ?_
   refine goA 60 ?_
   refine oPA zD ?_
   refine goB hX 0 (by conv => lhs; cbv; try simp only [hc, k0, t2, n1]; cbv; try simp only [hc, k0, t2, n1]; cbv; try simp only [hc, k0, t2, n1]; cbv; try simp only [hc, k0, t2, n1]; cbv) ?_
   refine on_guard rfl rfl (fun c1 => ?_) (fun c1 => ?_)
   ·
    simp [ee] at c1
   ·
    simp [ee] at c1
    refine goB hX 1 (by conv => lhs; cbv; try simp only [hc, k0, t2, n1]; cbv; try simp only [hc, k0, t2, n1]; cbv; try simp only [hc, k0, t2, n1]; cbv; try simp only [hc, k0, t2, n1]; cbv) ?_
    refine goB hX 1 (by conv => lhs; cbv; try simp only [hc, k0, t2, n1]; cbv; try simp only [hc, k0, t2, n1]; cbv; try simp only [hc, k0, t2, n1]; cbv; try simp only [hc, k0, t2, n1]; cbv) ?_
    refine goB hX 1 (by conv => lhs; cbv; try simp only [hc, k0, t2, n1]; cbv; try simp only [hc, k0, t2, n1]; cbv; try simp only [hc, k0, t2, n1]; cbv; try simp only [hc, k0, t2, n1]; cbv) ?_
    refine goB hX 1 (by conv => lhs; cbv; try simp only [hc, k0, t2, n1]; cbv; try simp only [hc, k0, t2, n1]; cbv; try simp only [hc, k0, t2, n1]; cbv; try simp only [hc, k0, t2, n1]; cbv) ?_
    refine goB hX 1 (by conv => lhs; cbv; try simp only [hc, k0, t2, n1]; cbv; try simp only [hc, k0, t2, n1]; cbv; try simp only [hc, k0, t2, n1]; cbv; try simp only [hc, k0, t2, n1]; cbv) ?_
    refine goB hX 1 (by conv => lhs; cbv; try simp only [hc, k0, t2, n1]; cbv; try simp only [hc, k0, t2, n1]; cbv; try simp only [hc, k0, t2, n1]; cbv; try simp only [hc, k0, t2, n1]; cbv) ?_
    refine goB hX 1 (by conv => lhs; cbv; try simp only [hc, k0, t2, n1]; cbv; try simp only [hc, k0, t2, n1]; cbv; try simp only [hc, k0, t2, n1]; cbv; try simp only [hc, k0, t2, n1]; cbv) ?_
    refine goB hX 1 (by conv => lhs; cbv; try simp only [hc, k0, t2, n1]; cbv; try simp only [hc, k0, t2, n1]; cbv; try simp only [hc, k0, t2, n1]; cbv; try simp only [hc, k0, t2, n1]; cbv) ?_
    refine goB hX 1 (by conv => lhs; cbv; try simp only [hc, k0, t2, n1]; cbv; try simp only [hc, k0, t2, n1]; cbv; try simp only [hc, k0, t2, n1]; cbv; try simp only [hc, k0, t2, n1]; cbv) ?_
    refine goB hX 1 (by conv => lhs; cbv; try simp only [hc, k0, t2, n1]; cbv; try simp only [hc, k0, t2, n1]; cbv; try simp only [hc, k0, t2, n1]; cbv; try simp only [hc, k0, t2, n1]; cbv) ?_
    refine on_cond rfl (fun c2 => ?_) (fun c2 => ?_)
    ·
     simp [ee] at c2
    ·
     simp [ee] at c2
     refine goA 60 ?_
     refine loopP_next (j + 1, iAdd .i64 i 1) ⟨by dsimp only; omega, ki⟩ (by dsimp only; omega) (ent_sub [] [] trivial trivial ⟨.refl _, .refl _, .cl kq1, .cl kc1, trivial⟩)
 have hc : iLt i n = false := by simp only [ee]; simp; omega
 refine goB hX 0 (by conv => lhs; cbv; try simp only [hc]; cbv; try simp only [hc]; cbv; try simp only [hc]; cbv; try simp only [hc]; cbv) ?_
 refine goA 60 ?_
 refine loopP_exit ?_
 refine goA 60 ?_
 refine oPA q4 ?_
 refine goA 60 ?_
 refine fn_ret rfl rfl (.val ?_)
 rfl
end Go.Am
end
