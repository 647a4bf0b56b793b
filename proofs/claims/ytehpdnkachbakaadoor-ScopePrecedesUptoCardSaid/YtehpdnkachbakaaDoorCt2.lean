/- Contracts of the program's functions, for every argument that meets the conditions that each theorem names. -/
import Derived.Test.YtehpdnkachbakaaDoorAm6
import Derived.Test.YtehpdnkachbakaaDoorCt1
import Derived.Test.YtehpdnkachbakaaDoorAm5
import Derived.Test.YtehpdnkachbakaaDoorRows
import Derived.Test.YtehpdnkachbakaaDoorCards
import Derived.Test.YtehpdnkachbakaaDoorTie
import Derived.ProofKit
import Derived.OpenShut
import Derived.Deep.DeepHandedRow
import Derived.Deep.CondSized
import Derived.Lib.LaidTab
import Derived.Shelf.Bits.Mul64
import Derived.Shelf.Sort.Plain
import Derived.Ground.Names2Prog
import Derived.Shelf.Slices.CompactI
import Derived.Shelf.Slices.In.SortNone
section
set_option maxHeartbeats 16000000
set_option maxRecDepth 100000
namespace Go.Am
open Go.Proofs
abbrev int (n : Int) : AV := .val (.int .i64 n)
abbrev bool (b : Bool) : AV := .val (.bool b)
abbrev str (s : ByteArray) : AV := .val (.string s)
structure Vl where
 kind : Int
 num : Int
 text : ByteArray
inductive Ex where
 | mk (op : Int) (args : List Ex) (var fld kind : Int) (val : Vl)
inductive Pat where
 | mk (op : Int) (args : List Pat) (ty var scope span : Int) (cond : Ex)
def Ex.op : Ex → Int | .mk o _ _ _ _ _ => o
def Ex.args : Ex → List Ex | .mk _ a _ _ _ _ => a
def Ex.var : Ex → Int | .mk _ _ v _ _ _ => v
def Ex.fld : Ex → Int | .mk _ _ _ f _ _ => f
def Ex.kind : Ex → Int | .mk _ _ _ _ k _ => k
def Ex.val : Ex → Vl | .mk _ _ _ _ _ v => v
def Pat.op : Pat → Int | .mk o _ _ _ _ _ _ => o
def Pat.args : Pat → List Pat | .mk _ a _ _ _ _ _ => a
def Pat.ty : Pat → Int | .mk _ _ t _ _ _ _ => t
def Pat.var : Pat → Int | .mk _ _ _ v _ _ _ => v
def Pat.scope : Pat → Int | .mk _ _ _ _ s _ _ => s
def Pat.span : Pat → Int | .mk _ _ _ _ _ s _ => s
def Pat.cond : Pat → Ex | .mk _ _ _ _ _ _ c => c
theorem Ex.ind {p : Ex → Prop} (h : ∀ o a v f k x, (∀ e ∈ a, p e) → p (.mk o a v f k x)) : ∀ e, p e
 | .mk o a v f k x => h o a v f k x fun e _he => Ex.ind h e
termination_by e => SizeOf.sizeOf e
decreasing_by simp; have := List.sizeOf_lt_of_mem _he; omega
theorem Pat.ind {p : Pat → Prop} (h : ∀ o a t v s n c, (∀ q ∈ a, p q) → p (.mk o a t v s n c)) : ∀ q, p q
 | .mk o a t v s n c => h o a t v s n c fun q _hq => Pat.ind h q
termination_by q => SizeOf.sizeOf q
decreasing_by simp; have := List.sizeOf_lt_of_mem _hq; omega
def Vl.cs (v : Vl) : List AV := [int v.kind, int v.num, str v.text]
def Vl.enc (v : Vl) : AV := .agg v.cs
mutual
def Ex.cs0 : Ex → List AV
 | .mk o a v f k x => [int o, .isl 8 (Ex.csL a), int v, int f, int k, int x.kind, int x.num, str x.text]
def Ex.csL : List Ex → List AV
 | [] => []
 | e :: r => .agg (Ex.cs0 e) :: Ex.csL r
end
mutual
def Pat.cs0 : Pat → List AV
 | .mk o a t v s n c => [int o, .isl 14 (Pat.csL a), int t, int v, int s, int n] ++ Ex.cs0 c
def Pat.csL : List Pat → List AV
 | [] => []
 | e :: r => .agg (Pat.cs0 e) :: Pat.csL r
end
structure EncBox where
 ex : Ex → AV
 pat : Pat → AV
 hex : ∀ e, ex e = .agg (Ex.cs0 e)
 hpat : ∀ e, pat e = .agg (Pat.cs0 e)
theorem encBox_ne : Nonempty EncBox := ⟨⟨fun e => .agg (Ex.cs0 e), fun e => .agg (Pat.cs0 e), fun _ => rfl, fun _ => rfl⟩⟩
noncomputable def Ex.enc (e : Ex) : AV := (Classical.choice encBox_ne).ex e
noncomputable def Pat.enc (e : Pat) : AV := (Classical.choice encBox_ne).pat e
theorem Ex.enc_def (e : Ex) : e.enc = .agg (Ex.cs0 e) := (Classical.choice encBox_ne).hex e
theorem Pat.enc_def (e : Pat) : e.enc = .agg (Pat.cs0 e) := (Classical.choice encBox_ne).hpat e
theorem Ex.csL_eq : ∀ l : List Ex, Ex.csL l = mapE Ex.enc l
 | [] => by rw [Ex.csL, mapE_eq]; rfl
 | e :: r => by rw [Ex.csL, Ex.csL_eq r, mapE_eq, mapE_eq, List.map_cons, Ex.enc_def]
theorem Pat.csL_eq : ∀ l : List Pat, Pat.csL l = mapE Pat.enc l
 | [] => by rw [Pat.csL, mapE_eq]; rfl
 | e :: r => by rw [Pat.csL, Pat.csL_eq r, mapE_eq, mapE_eq, List.map_cons, Pat.enc_def]
theorem Ex.enc_mk (o a v f k x) : (Ex.mk o a v f k x).enc = .agg [int o, .isl 8 (mapE Ex.enc a), int v, int f, int k, int x.kind, int x.num, str x.text] := by rw [Ex.enc_def, Ex.cs0, Ex.csL_eq]
theorem Pat.enc_mk (o a t v s n) (co ca cv cf ck cx) : (Pat.mk o a t v s n (.mk co ca cv cf ck cx)).enc = .agg [int o, .isl 14 (mapE Pat.enc a), int t, int v, int s, int n, int co, .isl 8 (mapE Ex.enc ca), int cv, int cf, int ck, int cx.kind, int cx.num, str cx.text] := by
 rw [Pat.enc_def, Pat.cs0, Pat.csL_eq, Ex.cs0, Ex.csL_eq]; rfl
theorem Ex.form (e : Ex) : ∃ o es v f k xk xn xt, e.enc = .agg [int o, .isl 8 es, int v, int f, int k, int xk, int xn, str xt] := by
 obtain ⟨o, a, v, f, k, x⟩ := e
 exact ⟨_, _, _, _, _, _, _, _, Ex.enc_mk ..⟩
theorem Pat.form (p : Pat) : ∃ o es t v s n co ec cv cf ck xk xn xt, p.enc = .agg [int o, .isl 14 es, int t, int v, int s, int n, int co, .isl 8 ec, int cv, int cf, int ck, int xk, int xn, str xt] := by
 obtain ⟨o, a, t, v, s, n, ⟨co, ca, cv, cf, ck, cx⟩⟩ := p
 exact ⟨_, _, _, _, _, _, _, _, _, _, _, _, _, _, Pat.enc_mk ..⟩
theorem Pat.form2 (p : Pat) : ∃ o es t v s n co ec cv cf ck xk xn xt, p.enc = .agg [int o, .isl 14 es, int t, int v, int s, int n, int co, .isl 8 ec, int cv, int cf, int ck, int xk, int xn, str xt] ∧
 p.cond.enc = .agg [int co, .isl 8 ec, int cv, int cf, int ck, int xk, int xn, str xt] ∧ o = p.op ∧ es = mapE Pat.enc p.args ∧ t = p.ty ∧ v = p.var ∧ s = p.scope ∧ n = p.span := by
 obtain ⟨o, a, t, v, s, n, ⟨co, ca, cv, cf, ck, cx⟩⟩ := p
 exact ⟨_, _, _, _, _, _, _, _, _, _, _, _, _, _, Pat.enc_mk .., Ex.enc_mk .., rfl, rfl, rfl, rfl, rfl, rfl⟩
theorem Ex.closed : ∀ e : Ex, e.enc.closed = true := Ex.ind fun o a v f k x h => by
 rw [Ex.enc_mk]
 simp only [AV.closed, AV.closedL, Bool.and_true, Bool.true_and]
 rw [mapE_eq]
 exact AV.closedL_of fun c hc => by obtain ⟨e, he, rfl⟩ := List.mem_map.1 hc; exact h e he
theorem Ex.closedL (l : List Ex) : AV.closedL (mapE Ex.enc l) = true := closed_mapE Ex.closed l
theorem Pat.closed : ∀ e : Pat, e.enc.closed = true := Pat.ind fun o a t v s n c h => by
 obtain ⟨co, ca, cv, cf, ck, cx⟩ := c
 rw [Pat.enc_mk]
 simp only [AV.closed, AV.closedL, Bool.and_true, Bool.true_and, Ex.closedL]
 rw [mapE_eq]
 exact AV.closedL_of fun c hc => by obtain ⟨e, he, rfl⟩ := List.mem_map.1 hc; exact h e he
theorem Pat.closedL (l : List Pat) : AV.closedL (mapE Pat.enc l) = true := closed_mapE Pat.closed l
theorem Ex.closedI (l : List Ex) : (AV.isl 8 (mapE Ex.enc l)).closed = true := by simp [AV.closed, Ex.closedL]
theorem Pat.closedI (l : List Pat) : (AV.isl 14 (mapE Pat.enc l)).closed = true := by simp [AV.closed, Pat.closedL]
mutual
def Ex.cnt : Ex → Nat
 | .mk _ a _ _ _ _ => 1 + Ex.cntL a
def Ex.cntL : List Ex → Nat
 | [] => 0
 | e :: r => e.cnt + Ex.cntL r
end
mutual
def Pat.cnt : Pat → Nat
 | .mk _ a _ _ _ _ _ => 1 + Pat.cntL a
def Pat.cntL : List Pat → Nat
 | [] => 0
 | e :: r => e.cnt + Pat.cntL r
end
mutual
def Pat.exs : Pat → List Ex
 | .mk _ a _ _ _ _ c => c :: Pat.exsL a
def Pat.exsL : List Pat → List Ex
 | [] => []
 | e :: r => e.exs ++ Pat.exsL r
end
theorem Ex.cnt_mem {e : Ex} : ∀ {l : List Ex}, e ∈ l → e.cnt ≤ Ex.cntL l
 | x :: r, h => by
  rcases List.mem_cons.1 h with rfl | h
  · simp [Ex.cntL]
  · have := Ex.cnt_mem h; simp [Ex.cntL]; omega
theorem Pat.cnt_mem {e : Pat} : ∀ {l : List Pat}, e ∈ l → e.cnt ≤ Pat.cntL l
 | x :: r, h => by
  rcases List.mem_cons.1 h with rfl | h
  · simp [Pat.cntL]
  · have := Pat.cnt_mem h; simp [Pat.cntL]; omega
theorem Ex.cnt_pos (e : Ex) : 1 ≤ e.cnt := by cases e; simp [Ex.cnt]
theorem Pat.cnt_pos (e : Pat) : 1 ≤ e.cnt := by cases e; simp [Pat.cnt]
theorem Ex.cntL_len : ∀ l : List Ex, l.length ≤ Ex.cntL l
 | [] => by simp [Ex.cntL]
 | x :: r => by have := Ex.cntL_len r; have := Ex.cnt_pos x; simp [Ex.cntL]; omega
theorem Pat.cntL_len : ∀ l : List Pat, l.length ≤ Pat.cntL l
 | [] => by simp [Pat.cntL]
 | x :: r => by have := Pat.cntL_len r; have := Pat.cnt_pos x; simp [Pat.cntL]; omega
theorem Ex.cntL_append (a b : List Ex) : Ex.cntL (a ++ b) = Ex.cntL a + Ex.cntL b := by
 induction a with
 | nil => simp [Ex.cntL]
 | cons x r ih => simp [Ex.cntL, ih]; omega
theorem Pat.cntL_append (a b : List Pat) : Pat.cntL (a ++ b) = Pat.cntL a + Pat.cntL b := by
 induction a with
 | nil => simp [Pat.cntL]
 | cons x r ih => simp [Pat.cntL, ih]; omega
theorem Pat.exs_mem {q : Pat} {c : Ex} (hc : c ∈ q.exs) : ∀ {l : List Pat}, q ∈ l → c ∈ Pat.exsL l
 | x :: r, h => by
  rcases List.mem_cons.1 h with rfl | h
  · simp [Pat.exsL, hc]
  · simp [Pat.exsL, Pat.exs_mem hc h]
def Ex.Sm (e : Ex) : Prop := e.cnt ≤ 1048576
def Pat.Sm (p : Pat) : Prop := p.cnt ≤ 1048576 ∧ ∀ c ∈ p.exs, c.Sm
theorem Ex.Sm.arg {o a v f k x} (h : (Ex.mk o a v f k x).Sm) {e : Ex} (he : e ∈ a) : e.Sm := by
 unfold Ex.Sm at h ⊢; have := Ex.cnt_mem he; simp [Ex.cnt] at h; omega
theorem Ex.Sm.len {o a v f k x} (h : (Ex.mk o a v f k x).Sm) : a.length < 1048576 := by
 unfold Ex.Sm at h; have := Ex.cntL_len a; simp [Ex.cnt] at h; omega
theorem Pat.Sm.arg {o a t v s n c} (h : (Pat.mk o a t v s n c).Sm) {e : Pat} (he : e ∈ a) : e.Sm := by
 obtain ⟨h1, h2⟩ := h
 refine ⟨?_, fun c hc => h2 c ?_⟩
 · have := Pat.cnt_mem he; simp [Pat.cnt] at h1; omega
 · simp [Pat.exs, Pat.exs_mem hc he]
theorem Pat.Sm.len {o a t v s n c} (h : (Pat.mk o a t v s n c).Sm) : a.length < 1048576 := by
 have h := h.1; have := Pat.cntL_len a; simp [Pat.cnt] at h; omega
theorem Pat.Sm.cond {o a t v s n c} (h : (Pat.mk o a t v s n c).Sm) : c.Sm := h.2 c (by simp [Pat.exs])
mutual
def Ex.dep : Ex → Nat
 | .mk _ a _ _ _ _ => Ex.depL 0 a + 1
def Ex.depL : Nat → List Ex → Nat
 | d, [] => d
 | d, e :: r => Ex.depL (max d e.dep) r
end
mutual
def Pat.dep : Pat → Nat
 | .mk _ a _ _ _ _ _ => Pat.depL 0 a + 1
def Pat.depL : Nat → List Pat → Nat
 | d, [] => d
 | d, e :: r => Pat.depL (max d e.dep) r
end
theorem Ex.depL_le {l : List Ex} (h : ∀ e ∈ l, Ex.dep e ≤ e.cnt) : ∀ d, Ex.depL d l ≤ max d (Ex.cntL l) := by
 induction l with
 | nil => intro d; simp [Ex.depL]; omega
 | cons e r ih =>
  intro d
  have h1 := h e (by simp)
  have h2 := ih (fun e he => h e (by simp [he])) (max d e.dep)
  simp only [Ex.depL, Ex.cntL]; omega
theorem Ex.dep_le : ∀ e : Ex, e.dep ≤ e.cnt := Ex.ind fun o a v f k x h => by
 have := Ex.depL_le h 0
 simp only [Ex.dep, Ex.cnt]; omega
theorem Pat.depL_le {l : List Pat} (h : ∀ e ∈ l, Pat.dep e ≤ e.cnt) : ∀ d, Pat.depL d l ≤ max d (Pat.cntL l) := by
 induction l with
 | nil => intro d; simp [Pat.depL]; omega
 | cons e r ih =>
  intro d
  have h1 := h e (by simp)
  have h2 := ih (fun e he => h e (by simp [he])) (max d e.dep)
  simp only [Pat.depL, Pat.cntL]; omega
theorem Pat.dep_le : ∀ e : Pat, e.dep ≤ e.cnt := Pat.ind fun o a t v s n c h => by
 have := Pat.depL_le h 0
 simp only [Pat.dep, Pat.cnt]; omega
mutual
def Pat.nodes : Pat → List Pat
 | .mk o a t v s n c => .mk o a t v s n c :: Pat.nodesL a
def Pat.nodesL : List Pat → List Pat
 | [] => []
 | e :: r => e.nodes ++ Pat.nodesL r
end
mutual
def Ex.nodes : Ex → List Ex
 | .mk o a v f k x => .mk o a v f k x :: Ex.nodesL a
def Ex.nodesL : List Ex → List Ex
 | [] => []
 | e :: r => e.nodes ++ Ex.nodesL r
end
theorem Pat.nodesL_append (a b : List Pat) : Pat.nodesL (a ++ b) = Pat.nodesL a ++ Pat.nodesL b := by
 induction a with
 | nil => simp [Pat.nodesL]
 | cons x r ih => simp [Pat.nodesL, ih]
theorem Ex.nodesL_append (a b : List Ex) : Ex.nodesL (a ++ b) = Ex.nodesL a ++ Ex.nodesL b := by
 induction a with
 | nil => simp [Ex.nodesL]
 | cons x r ih => simp [Ex.nodesL, ih]
theorem Pat.nodesL_len {l : List Pat} (h : ∀ e ∈ l, e.nodes.length = e.cnt) : (Pat.nodesL l).length = Pat.cntL l := by
 induction l with
 | nil => simp [Pat.nodesL, Pat.cntL]
 | cons x r ih => simp [Pat.nodesL, Pat.cntL, h x (by simp), ih fun e he => h e (by simp [he])]
theorem Pat.nodes_len : ∀ p : Pat, p.nodes.length = p.cnt := Pat.ind fun o a t v s n c h => by
 simp [Pat.nodes, Pat.cnt, Pat.nodesL_len h]; omega
theorem Pat.nodesL_len' (l : List Pat) : (Pat.nodesL l).length = Pat.cntL l := Pat.nodesL_len fun e _ => e.nodes_len
theorem Ex.nodesL_len {l : List Ex} (h : ∀ e ∈ l, e.nodes.length = e.cnt) : (Ex.nodesL l).length = Ex.cntL l := by
 induction l with
 | nil => simp [Ex.nodesL, Ex.cntL]
 | cons x r ih => simp [Ex.nodesL, Ex.cntL, h x (by simp), ih fun e he => h e (by simp [he])]
theorem Ex.nodes_len : ∀ p : Ex, p.nodes.length = p.cnt := Ex.ind fun o a v f k x h => by
 simp [Ex.nodes, Ex.cnt, Ex.nodesL_len h]; omega
theorem Pat.nodes_eq (p : Pat) : p.nodes = p :: Pat.nodesL p.args := by obtain ⟨o, a, t, v, s, n, c⟩ := p; simp [Pat.nodes, Pat.args]
theorem Ex.nodes_eq (p : Ex) : p.nodes = p :: Ex.nodesL p.args := by obtain ⟨o, a, v, f, k, x⟩ := p; simp [Ex.nodes, Ex.args]
theorem Pat.mem_nodesL {q : Pat} : ∀ {l : List Pat}, q ∈ Pat.nodesL l → ∃ e ∈ l, q ∈ e.nodes
 | [], h => by simp [Pat.nodesL] at h
 | x :: r, h => by
  simp only [Pat.nodesL, List.mem_append] at h
  rcases h with h | h
  · exact ⟨x, by simp, h⟩
  · obtain ⟨e, he, hq⟩ := Pat.mem_nodesL h; exact ⟨e, by simp [he], hq⟩
theorem Ex.mem_nodesL {q : Ex} : ∀ {l : List Ex}, q ∈ Ex.nodesL l → ∃ e ∈ l, q ∈ e.nodes
 | [], h => by simp [Ex.nodesL] at h
 | x :: r, h => by
  simp only [Ex.nodesL, List.mem_append] at h
  rcases h with h | h
  · exact ⟨x, by simp, h⟩
  · obtain ⟨e, he, hq⟩ := Ex.mem_nodesL h; exact ⟨e, by simp [he], hq⟩
theorem Pat.Sm.node : ∀ {p : Pat}, p.Sm → ∀ q ∈ p.nodes, q.Sm := fun {p} => Pat.ind (p := fun p => p.Sm → ∀ q ∈ p.nodes, q.Sm) (fun o a t v s n c ih hs q hq => by
 simp only [Pat.nodes, List.mem_cons] at hq
 rcases hq with rfl | hq
 · exact hs
 · obtain ⟨e, he, hq⟩ := Pat.mem_nodesL hq
   exact ih e he (hs.arg he) q hq) p
theorem Ex.Sm.node : ∀ {p : Ex}, p.Sm → ∀ q ∈ p.nodes, q.Sm := fun {p} => Ex.ind (p := fun p => p.Sm → ∀ q ∈ p.nodes, q.Sm) (fun o a v f k x ih hs q hq => by
 simp only [Ex.nodes, List.mem_cons] at hq
 rcases hq with rfl | hq
 · exact hs
 · obtain ⟨e, he, hq⟩ := Ex.mem_nodesL hq
   exact ih e he (hs.arg he) q hq) p
theorem Pat.Sm.cond' {p : Pat} (h : p.Sm) : p.cond.Sm := by obtain ⟨o, a, t, v, s, n, c⟩ := p; exact h.cond
theorem fitL {α : Type} {k : Nat} {enc : α → AV} (h : ∀ x, fitB k [enc x] = true) (l : List α) : fitB k (mapE enc l) = true := by
 rw [mapE_eq, fitB, List.all_map, List.all_eq_true]
 intro x _
 have := h x
 simpa [fitB] using this
theorem fitPat (l : List Pat) : fitB 14 (mapE Pat.enc l) = true := fitL (fun p => by obtain ⟨o, es, t, v, s, n, co, ec, cv, cf, ck, xk, xn, xt, h⟩ := Pat.form p; rw [h]; rfl) l
theorem fitInt (l : List Int) : fitB 1 (mapE int l) = true := fitL (fun _ => rfl) l
theorem closedL_int (l : List Int) : AV.closedL (mapE int l) = true := closed_mapE (fun _ => rfl) l
theorem closedI_int (l : List Int) : (AV.isl 1 (mapE int l)).closed = true := by simp [AV.closed, closedL_int]
theorem bs_inj {a b : ByteArray} (h : a.toList = b.toList) : a = b := by
 rw [ByteArray.toList_eq, ByteArray.toList_eq] at h
 exact ByteArray.ext (Array.toList_inj.1 h)
noncomputable def eqB {α : Type} (a b : α) : Bool := @decide (a = b) (Classical.propDecidable _)
theorem eqB_t {α : Type} {a b : α} (h : a = b) : eqB a b = true := by unfold eqB; exact @decide_eq_true _ (Classical.propDecidable _) h
theorem eqB_f {α : Type} {a b : α} (h : a ≠ b) : eqB a b = false := by unfold eqB; exact @decide_eq_false _ (Classical.propDecidable _) h
theorem eqB_iff {α : Type} {a b : α} : eqB a b = true ↔ a = b := by
 refine ⟨fun h => Classical.byContradiction fun hn => ?_, eqB_t⟩
 rw [eqB_f hn] at h
 exact Bool.noConfusion h
def shapesL : List Value := [
 .int .i64 0, .int .i64 0, .bool true, .bool true, .bool false, .bool false,
 .int .i64 2, .int .i64 64, .bool false, .bool false, .bool false, .bool false,
 .int .i64 2, .int .i64 64, .bool false, .bool false, .bool false, .bool false,
 .int .i64 2, .int .i64 64, .bool false, .bool false, .bool false, .bool false,
 .int .i64 1, .int .i64 1, .bool false, .bool false, .bool false, .bool false,
 .int .i64 1, .int .i64 1, .bool true, .bool true, .bool true, .bool false,
 .int .i64 1, .int .i64 1, .bool false, .bool false, .bool true, .bool true,
 .int .i64 1, .int .i64 1, .bool false, .bool true, .bool false, .bool false,
 .int .i64 2, .int .i64 2, .bool false, .bool false, .bool false, .bool false,
 .int .i64 1, .int .i64 1, .bool true, .bool true, .bool true, .bool false,
 .int .i64 1, .int .i64 1, .bool false, .bool false, .bool true, .bool true]
structure TabBox where
 g : List AV
 h : g = shapesL.map .val
theorem tabBox_ne : Nonempty TabBox := ⟨⟨_, rfl⟩⟩
def scTabL : List Value := [.bool true, .bool true, .bool true, .bool false, .bool false, .bool false, .bool true, .bool false, .bool false, .bool false, .bool true, .bool true, .bool true, .bool false, .bool true, .bool true]
structure ScBox where
 g : List AV
 h : g = scTabL.map .val
theorem scBox_ne : Nonempty ScBox := ⟨⟨_, rfl⟩⟩
noncomputable def EE : Env := ⟨Tryd.prog, fun n => cond (Nat.beq n 1) (.iptr (Classical.choice tabBox_ne).g) (cond (Nat.beq n 0) (.iptr (Classical.choice scBox_ne).g) .undef)⟩
end Go.Am
end
section
set_option maxHeartbeats 16000000
set_option maxRecDepth 20000
namespace Go.Am
open Go.Proofs Go.ChangeShapes Go.WideShapes Go.ChangeAt Go.RowKit
theorem cellsE : Tryd.prog.cellsOf 27 = 8 := by kernel_rfl
theorem cellsP : Tryd.prog.cellsOf 29 = 14 := by kernel_rfl
theorem aggE : aggT EE.P 27 = true := by kernel_rfl
theorem aggP : aggT EE.P 29 = true := by kernel_rfl
theorem rdU8 {n : Nat} {x : AV} (h : El EE.P (Cl EE.P n) 5 x) : ∃ i, x = .val (.int .u8 i) ∧ 0 ≤ i ∧ i < 256 := by
 obtain ⟨i, h, hw⟩ := (h.one (by kernel_rfl)).int Tryd.underlying5
 refine ⟨i, by simpa using h, ?_⟩
 have h2 : (decide ((0 : Int) ≤ i) && decide (i ≤ 255)) = true := hw
 simp at h2
 omega
theorem rdEx : ∀ (k : Nat) (x : AV), SizeOf.sizeOf x ≤ k → ∀ n, El EE.P (Cl EE.P n) 27 x → ∃ e : Ex, x = e.enc := by
 intro k
 induction k with
 | zero => intro x hk n h; cases x <;> simp at hk <;> omega
 | succ k ih =>
  intro x hk n h
  obtain ⟨cs, rfl, g⟩ := h.agg aggE
  obtain ⟨m, a, r, rfl, ha, b, r, rfl, hb, c, r, rfl, hc, d, r, rfl, hd, e, r, rfl, he, f, r, rfl, hf, rfl⟩ := g.struct Tryd.underlying27
  obtain ⟨i1, rfl, _⟩ := ha.int Tryd.underlying3
  obtain ⟨m2, es, rfl, hl, hes⟩ := hb.slice Tryd.underlying23
  obtain ⟨i3, rfl, _⟩ := hc.int Tryd.underlying3
  obtain ⟨i4, rfl, _⟩ := hd.int Tryd.underlying3
  obtain ⟨i5, rfl, _⟩ := he.int Tryd.underlying3
  obtain ⟨m3, a, r, rfl, ha, b, r, rfl, hb, c, r, rfl, hc, rfl⟩ := hf.struct Tryd.underlying25
  obtain ⟨i6, rfl, _⟩ := ha.int Tryd.underlying3
  obtain ⟨i7, rfl, _⟩ := hb.int Tryd.underlying3
  obtain ⟨s, rfl, _⟩ := hc.str Tryd.underlying9
  obtain ⟨l, rfl, _⟩ := list_enc (enc := Ex.enc) (ok := fun _ => True) fun x hx => by
   have h1 := List.sizeOf_lt_of_mem hx
   obtain ⟨q, hq⟩ := ih x (by simp only [List.cons_append, List.nil_append, AV.agg.sizeOf_spec, List.cons.sizeOf_spec, AV.isl.sizeOf_spec] at hk; omega) m2 (hes x hx)
   exact ⟨q, hq, trivial⟩
  exact ⟨.mk i1 l i3 i4 i5 ⟨i6, i7, s⟩, by rw [Ex.enc_mk, cellsE]; rfl⟩
theorem rdPat : ∀ (k : Nat) (x : AV), SizeOf.sizeOf x ≤ k → ∀ n, El EE.P (Cl EE.P n) 29 x → ∃ p : Pat, x = p.enc := by
 intro k
 induction k with
 | zero => intro x hk n h; cases x <;> simp at hk <;> omega
 | succ k ih =>
  intro x hk n h
  obtain ⟨cs, rfl, g⟩ := h.agg aggP
  obtain ⟨m, a, r, rfl, ha, b, r, rfl, hb, c, r, rfl, hc, d, r, rfl, hd, e, r, rfl, he, f, r, rfl, hf, g2, r, rfl, hg, rfl⟩ := g.struct Tryd.underlying29
  obtain ⟨i1, rfl, _⟩ := ha.int Tryd.underlying3
  obtain ⟨m2, es, rfl, hl, hes⟩ := hb.slice Tryd.underlying22
  obtain ⟨i3, rfl, _⟩ := hc.int Tryd.underlying3
  obtain ⟨i4, rfl, _⟩ := hd.int Tryd.underlying3
  obtain ⟨i5, rfl, _⟩ := he.int Tryd.underlying3
  obtain ⟨i6, rfl, _⟩ := hf.int Tryd.underlying3
  obtain ⟨ce, hce⟩ := rdEx _ (.agg g2) (Nat.le_refl _) m (by unfold El; rw [aggE]; exact ⟨g2, rfl, hg⟩)
  obtain ⟨co, ca, cv, cf, ck, cx⟩ := ce
  rw [Ex.enc_mk] at hce
  injection hce with hce
  subst hce
  obtain ⟨l, rfl, _⟩ := list_enc (enc := Pat.enc) (ok := fun _ => True) fun x hx => by
   have h1 := List.sizeOf_lt_of_mem hx
   obtain ⟨q, hq⟩ := ih x (by simp only [List.cons_append, List.nil_append, AV.agg.sizeOf_spec, List.cons.sizeOf_spec, AV.isl.sizeOf_spec] at hk; omega) m2 (hes x hx)
   exact ⟨q, hq, trivial⟩
  exact ⟨.mk i1 l i3 i4 i5 i6 (.mk co ca cv cf ck cx), by rw [Pat.enc_mk, cellsP]; rfl⟩
theorem Ex.cntL_bulk {l : List Ex} (h : ∀ e ∈ l, e.cnt ≤ e.enc.bulk) : Ex.cntL l ≤ AV.bulkL (mapE Ex.enc l) := by
 induction l with
 | nil => simp [Ex.cntL]
 | cons e r ih =>
  have h1 := h e (by simp)
  have h2 := ih fun e he => h e (by simp [he])
  rw [mapE_eq] at h2 ⊢
  simp only [List.map_cons, AV.bulkL, Ex.cntL]; omega
theorem Ex.cnt_bulk : ∀ e : Ex, e.cnt ≤ e.enc.bulk := Ex.ind fun o a v f k x h => by
 have := Ex.cntL_bulk h
 rw [Ex.enc_mk]
 simp only [Ex.cnt, AV.bulk, AV.bulkL]; omega
theorem Pat.cntL_bulk {l : List Pat} (h : ∀ e ∈ l, e.cnt ≤ e.enc.bulk ∧ ∀ c ∈ e.exs, c.cnt ≤ e.enc.bulk) : Pat.cntL l ≤ AV.bulkL (mapE Pat.enc l) ∧ ∀ c ∈ Pat.exsL l, c.cnt ≤ AV.bulkL (mapE Pat.enc l) := by
 induction l with
 | nil => simp [Pat.cntL, Pat.exsL]
 | cons e r ih =>
  have h1 := h e (by simp)
  have h2 := ih fun e he => h e (by simp [he])
  rw [mapE_eq] at h2 ⊢
  simp only [List.map_cons, AV.bulkL, Pat.cntL, Pat.exsL, List.mem_append]
  refine ⟨by omega, fun c hc => ?_⟩
  rcases hc with hc | hc
  · have := h1.2 c hc; omega
  · have := h2.2 c hc; omega
theorem Pat.cnt_bulk : ∀ e : Pat, e.cnt ≤ e.enc.bulk ∧ ∀ c ∈ e.exs, c.cnt ≤ e.enc.bulk := Pat.ind fun o a t v s n c h => by
 have h1 := Pat.cntL_bulk h
 obtain ⟨co, ca, cv, cf, ck, cx⟩ := c
 have h2 := Ex.cnt_bulk (.mk co ca cv cf ck cx)
 rw [Ex.enc_mk] at h2
 rw [Pat.enc_mk]
 simp only [Pat.cnt, Pat.exs, List.mem_cons, AV.bulk, AV.bulkL] at h2 ⊢
 refine ⟨by omega, fun c hc => ?_⟩
 rcases hc with rfl | hc
 · omega
 · have := h1.2 c hc; omega
theorem Pat.sm_of {p : Pat} (h : p.enc.bulk ≤ 1048576) : p.Sm := by
 have := Pat.cnt_bulk p
 exact ⟨by omega, fun c hc => by have := this.2 c hc; unfold Ex.Sm; omega⟩
theorem Ex.sm_of {p : Ex} (h : p.enc.bulk ≤ 1048576) : p.Sm := by
 have := Ex.cnt_bulk p
 unfold Ex.Sm; omega
theorem bulk_upto {H : Type} : (∀ d : DataW H, Proofs.YtehpdnkachbakaaDoor.Rows.uptoBulk d = dBulk d) ∧ (∀ d : List (DataW H), Proofs.YtehpdnkachbakaaDoor.Rows.uptoBulkAll d = dBulkAll d) := by
 have : ∀ k : Nat, (∀ d : DataW H, SizeOf.sizeOf d ≤ k → Proofs.YtehpdnkachbakaaDoor.Rows.uptoBulk d = dBulk d) ∧ (∀ d : List (DataW H), SizeOf.sizeOf d ≤ k → Proofs.YtehpdnkachbakaaDoor.Rows.uptoBulkAll d = dBulkAll d) ∧ (∀ d : List (Lit × DataW H), SizeOf.sizeOf d ≤ k → Proofs.YtehpdnkachbakaaDoor.Rows.uptoBulkEntries d = dBulkEntries d) ∧ (∀ d : Lit × DataW H, SizeOf.sizeOf d ≤ k → Proofs.YtehpdnkachbakaaDoor.Rows.uptoBulkEntry d = dBulkEntry d) := by
  intro k
  induction k with
  | zero =>
   refine ⟨fun d h => ?_, fun d h => ?_, fun d h => ?_, fun d h => ?_⟩
   · cases d <;> simp at h <;> omega
   · cases d <;> simp at h <;> omega
   · cases d <;> simp at h <;> omega
   · obtain ⟨a, b⟩ := d; simp at h <;> omega
  | succ k ih =>
   obtain ⟨i1, i2, i3, i4⟩ := ih
   refine ⟨fun d h => ?_, fun d h => ?_, fun d h => ?_, fun d h => ?_⟩
   · cases d with
     | lit l => cases l <;> simp [Proofs.YtehpdnkachbakaaDoor.Rows.uptoBulk, dBulk]
     | nil => simp [Proofs.YtehpdnkachbakaaDoor.Rows.uptoBulk, dBulk]
     | ptr d => simp only [Proofs.YtehpdnkachbakaaDoor.Rows.uptoBulk, dBulk]; rw [i1 d (by simp at h; omega)]
     | slice a b => simp only [Proofs.YtehpdnkachbakaaDoor.Rows.uptoBulk, dBulk]; rw [i2 a (by simp at h; omega), i2 b (by simp at h; omega)]
     | agg a => simp only [Proofs.YtehpdnkachbakaaDoor.Rows.uptoBulk, dBulk]; rw [i2 a (by simp at h; omega)]
     | iface t d => simp only [Proofs.YtehpdnkachbakaaDoor.Rows.uptoBulk, dBulk]; rw [i1 d (by simp at h; omega)]
     | map a => simp only [Proofs.YtehpdnkachbakaaDoor.Rows.uptoBulk, dBulk]; rw [i3 a (by simp at h; omega)]
     | held a => simp only [Proofs.YtehpdnkachbakaaDoor.Rows.uptoBulk, dBulk]
   · cases d with
     | nil => simp only [Proofs.YtehpdnkachbakaaDoor.Rows.uptoBulkAll, dBulkAll]
     | cons x r => simp only [Proofs.YtehpdnkachbakaaDoor.Rows.uptoBulkAll, dBulkAll]; rw [i1 x (by simp at h; omega), i2 r (by simp at h; omega)]
   · cases d with
     | nil => simp only [Proofs.YtehpdnkachbakaaDoor.Rows.uptoBulkEntries, dBulkEntries]
     | cons x r => simp only [Proofs.YtehpdnkachbakaaDoor.Rows.uptoBulkEntries, dBulkEntries]; rw [i4 x (by simp at h; omega), i3 r (by simp at h; omega)]
   · obtain ⟨l, b⟩ := d
     cases l <;> (simp only [Proofs.YtehpdnkachbakaaDoor.Rows.uptoBulkEntry, dBulkEntry]; rw [i1 b (by simp at h; omega)])
 exact ⟨fun d => (this _).1 d (Nat.le_refl _), fun d => (this _).2.1 d (Nat.le_refl _)⟩
theorem own_none : ownKnob Tryd.prog.godebug = none := by kernel_rfl
theorem kidsP : Kids EE.P (· < EE.P.types.size) := kids_rows (by kernel_rfl) (by kernel_rfl)
theorem fullP : ∀ t e, t < EE.P.types.size → EE.P.underlying t = some (.slice e) → 0 < EE.P.cellsOf e := slices_full_of EE.P (by kernel_rfl)
end Go.Am
end
section
set_option maxHeartbeats 16000000
set_option maxRecDepth 100000
namespace Go.Am
open Go.Proofs Go.ChangeShapes Go.WideShapes Go.ChangeAt Go.RowKit
theorem gShapes : Tryd.prog.globalNamed "tidegate/pattern.shapes" = some 1 := by kernel_rfl
theorem gShapesT : ∃ t, (Tryd.prog.globals[1]?).map (·.type) = some t ∧ flatTy Tryd.prog 8 t = true := ⟨_, rfl, by kernel_rfl⟩
theorem gTable : Tryd.prog.globalNamed "tidegate/scope.table" = some 0 := by kernel_rfl
theorem gTableT : ∃ t, (Tryd.prog.globals[0]?).map (·.type) = some t ∧ flatTy Tryd.prog 8 t = true := ⟨_, rfl, by kernel_rfl⟩
theorem glob_of_laid {laid : List (String × DataW Unit)} (hm : ("tidegate/pattern.shapes", Proofs.YtehpdnkachbakaaDoor.Rows.laid_tidegate_pattern_shapes) ∈ laid) (hm2 : ("tidegate/scope.table", Proofs.YtehpdnkachbakaaDoor.Rows.laid_tidegate_scope_table) ∈ laid) {W : World} (h : laidMet Tryd.prog laid W) :
 ∀ g, VRep ⟨fun _ => none, fun b => b < W.heap.size⟩ 0 W (EE.G g) (.pointer (some ⟨g, 0, none⟩)) := by
 intro g
 obtain ⟨ps, hv, _⟩ := h
 obtain ⟨t, ht, hf⟩ := gShapesT
 obtain ⟨t2, ht2, hf2⟩ := gTableT
 have hc := laid_cells hv hm gShapes ht hf
 have hc2 := laid_cells hv hm2 gTable ht2 hf2
 show VRep _ 0 W (cond (Nat.beq g 1) (.iptr (Classical.choice tabBox_ne).g) (cond (Nat.beq g 0) (.iptr (Classical.choice scBox_ne).g) .undef)) _
 cases hb : Nat.beq g 1 with
 | false =>
  show VRep _ 0 W (cond (Nat.beq g 0) (.iptr (Classical.choice scBox_ne).g) .undef) _
  cases hb2 : Nat.beq g 0 with
  | false => exact .undef _
  | true =>
   obtain rfl := Nat.eq_of_beq_eq_true hb2
   have e : flatD (H := Unit) Proofs.YtehpdnkachbakaaDoor.Rows.laid_tidegate_scope_table = scTabL := by rfl
   rw [e] at hc2
   exact glob_rep hc2 gTable (Classical.choice scBox_ne).h (by
    intro v hv c h
    subst h
    have h2 : scTabL.all (fun v => match v with | .agg _ => false | _ => true) = true := by rfl
    exact Bool.noConfusion (List.all_eq_true.1 h2 _ hv))
 | true =>
  obtain rfl := Nat.eq_of_beq_eq_true hb
  have e : flatD (H := Unit) Proofs.YtehpdnkachbakaaDoor.Rows.laid_tidegate_pattern_shapes = shapesL := by rfl
  rw [e] at hc
  exact glob_rep hc gShapes (Classical.choice tabBox_ne).h (by
   intro v hv c h
   subst h
   have h2 : shapesL.all (fun v => match v with | .agg _ => false | _ => true) = true := by rfl
   exact Bool.noConfusion (List.all_eq_true.1 h2 _ hv))
noncomputable def laidHeap (os : Os) : Array Obj := (World.holding Tryd.prog os ⟨#[], #[], []⟩).heap.modify 1 fun
      | .cells _ t frozen => .cells #[.int .i64 0, .int .i64 0, .bool true, .bool true, .bool false, .bool false,
  .int .i64 2, .int .i64 64, .bool false, .bool false, .bool false, .bool false,
  .int .i64 2, .int .i64 64, .bool false, .bool false, .bool false, .bool false,
  .int .i64 2, .int .i64 64, .bool false, .bool false, .bool false, .bool false,
  .int .i64 1, .int .i64 1, .bool false, .bool false, .bool false, .bool false,
  .int .i64 1, .int .i64 1, .bool true, .bool true, .bool true, .bool false,
  .int .i64 1, .int .i64 1, .bool false, .bool false, .bool true, .bool true,
  .int .i64 1, .int .i64 1, .bool false, .bool true, .bool false, .bool false,
  .int .i64 2, .int .i64 2, .bool false, .bool false, .bool false, .bool false,
  .int .i64 1, .int .i64 1, .bool true, .bool true, .bool true, .bool false,
  .int .i64 1, .int .i64 1, .bool false, .bool false, .bool true, .bool true] t frozen
      | o => o
noncomputable def laidHeap2 (os : Os) : Array Obj := (laidHeap os).modify 0 fun
      | .cells _ t frozen => .cells #[.bool true, .bool true, .bool true, .bool false, .bool false, .bool false, .bool true, .bool false, .bool false, .bool false, .bool true, .bool true, .bool true, .bool false, .bool true, .bool true] t frozen
      | o => o
noncomputable def laidWorld (os : Os) : World :=
 { World.holding Tryd.prog os ⟨#[], #[], []⟩ with heap := laidHeap2 os }
end Go.Am
end
section
set_option maxHeartbeats 16000000
set_option maxRecDepth 20000
namespace Go.Proofs
open Go.Shelf
def Tryd.lays189_ren : Go.Shelf.Ren := ⟨fun | 189 => 44 | 125 => 64 | 257 => 63 | 128 => 87 | 129 => 88 | 294 => 79 | 295 => 80 | 296 => 81 | 297 => 82 | 298 => 83 | 299 => 84 | 216 => 48 | 300 => 85 | 301 => 86 | 328 => 95 | 329 => 96 | 330 => 97 | 331 => 98 | 332 => 99 | 215 => 66 | 343 => 101 | n => n, fun | 28 => 43 | 3 => 3 | 46 => 98 | 0 => 0 | 51 => 116 | 53 => 118 | 4 => 4 | 183 => 110 | 182 => 109 | 131 => 106 | 5 => 5 | 9 => 9 | 218 => 125 | 222 => 129 | 228 => 131 | 229 => 30 | n => n, fun | n => n⟩
theorem Tryd.lays189 : Go.Proofs.Lays.n189 Tryd.prog Tryd.lays189_ren := {
 mixed := by kernel_rfl
 f125 := Tryd.func64.trans (congrArg some (by kernel_rfl))
 f128 := Tryd.func87.trans (congrArg some (by kernel_rfl))
 f129 := Tryd.func88.trans (congrArg some (by kernel_rfl))
 f189 := Tryd.func44.trans (congrArg some (by kernel_rfl))
 f215 := Tryd.func66.trans (congrArg some (by kernel_rfl))
 f216 := Tryd.func48.trans (congrArg some (by kernel_rfl))
 f257 := Tryd.func63.trans (congrArg some (by kernel_rfl))
 f294 := Tryd.func79.trans (congrArg some (by kernel_rfl))
 f295 := Tryd.func80.trans (congrArg some (by kernel_rfl))
 f296 := Tryd.func81.trans (congrArg some (by kernel_rfl))
 f297 := Tryd.func82.trans (congrArg some (by kernel_rfl))
 f298 := Tryd.func83.trans (congrArg some (by kernel_rfl))
 f299 := Tryd.func84.trans (congrArg some (by kernel_rfl))
 f300 := Tryd.func85.trans (congrArg some (by kernel_rfl))
 f301 := Tryd.func86.trans (congrArg some (by kernel_rfl))
 f328 := Tryd.func95.trans (congrArg some (by kernel_rfl))
 f329 := Tryd.func96.trans (congrArg some (by kernel_rfl))
 f330 := Tryd.func97.trans (congrArg some (by kernel_rfl))
 f331 := Tryd.func98.trans (congrArg some (by kernel_rfl))
 f332 := Tryd.func99.trans (congrArg some (by kernel_rfl))
 f343 := Tryd.func101.trans (congrArg some (by kernel_rfl))
 t0 := Tryd.underlying0
 a0 := Tryd.isAgg0
 z0 := Tryd.sizeOf0
 v0 := Tryd.zeroValue0
 t3 := Tryd.underlying3
 a3 := Tryd.isAgg3
 z3 := Tryd.sizeOf3
 v3 := Tryd.zeroValue3
 t4 := Tryd.underlying4
 a4 := Tryd.isAgg4
 z4 := Tryd.sizeOf4
 v4 := Tryd.zeroValue4
 t5 := Tryd.underlying5
 a5 := Tryd.isAgg5
 z5 := Tryd.sizeOf5
 v5 := Tryd.zeroValue5
 t9 := Tryd.underlying9
 a9 := Tryd.isAgg9
 z9 := Tryd.sizeOf9
 v9 := Tryd.zeroValue9
 t28 := Tryd.underlying43
 a28 := Tryd.isAgg43
 z28 := Tryd.sizeOf43
 v28 := Tryd.zeroValue43
 t46 := Tryd.underlying98
 a46 := Tryd.isAgg98
 z46 := Tryd.sizeOf98
 v46 := Tryd.zeroValue98
 t51 := Tryd.underlying116
 a51 := Tryd.isAgg116
 z51 := Tryd.sizeOf116
 v51 := Tryd.zeroValue116
 t53 := Tryd.underlying118
 a53 := Tryd.isAgg118
 z53 := Tryd.sizeOf118
 v53 := Tryd.zeroValue118
 t131 := Tryd.underlying106
 a131 := Tryd.isAgg106
 z131 := Tryd.sizeOf106
 v131 := Tryd.zeroValue106
 t182 := Tryd.underlying109
 a182 := Tryd.isAgg109
 z182 := Tryd.sizeOf109
 v182 := Tryd.zeroValue109
 t183 := Tryd.underlying110
 a183 := Tryd.isAgg110
 z183 := Tryd.sizeOf110
 v183 := Tryd.zeroValue110
 t218 := Tryd.underlying125
 a218 := Tryd.isAgg125
 z218 := Tryd.sizeOf125
 v218 := Tryd.zeroValue125
 t222 := Tryd.underlying129
 a222 := Tryd.isAgg129
 z222 := Tryd.sizeOf129
 v222 := Tryd.zeroValue129
 t228 := Tryd.underlying131
 a228 := Tryd.isAgg131
 z228 := Tryd.sizeOf131
 v228 := Tryd.zeroValue131
 t229 := Tryd.underlying30
 a229 := Tryd.isAgg30
 z229 := Tryd.sizeOf30
 v229 := Tryd.zeroValue30 }
def Tryd.laysNm220_ren : Go.Shelf.Ren := ⟨fun | 20 => 45 | n => n, fun | 22 => 43 | 3 => 3 | 4 => 4 | 0 => 0 | n => n, fun | n => n⟩
theorem Tryd.laysNm220 : Go.Proofs.Lays2.n20 Tryd.prog Tryd.laysNm220_ren := {
 mixed := by kernel_rfl
 f20 := Tryd.func45.trans (congrArg some (by kernel_rfl))
 t0 := Tryd.underlying0
 a0 := Tryd.isAgg0
 z0 := Tryd.sizeOf0
 v0 := Tryd.zeroValue0
 t3 := Tryd.underlying3
 a3 := Tryd.isAgg3
 z3 := Tryd.sizeOf3
 v3 := Tryd.zeroValue3
 t4 := Tryd.underlying4
 a4 := Tryd.isAgg4
 z4 := Tryd.sizeOf4
 v4 := Tryd.zeroValue4
 t22 := Tryd.underlying43
 a22 := Tryd.isAgg43
 z22 := Tryd.sizeOf43
 v22 := Tryd.zeroValue43
 i3 := by kernel_rfl }
end Go.Proofs
namespace Go.Am
open Go.Proofs
end Go.Am
end
section
set_option maxHeartbeats 16000000
set_option maxRecDepth 100000
namespace Go.Am
open Go.Proofs
def Vl.sizeE (v : Vl) : Int := if v.kind = 0 ∧ (v.num < -1099511627776 ∨ 1099511627776 < v.num) then 2 else if v.kind = 1 ∧ v.num ≠ 0 ∧ v.num ≠ 1 then 2 else if 64 < (v.text.size : Int) then 13 else 0
def Vl.chk (v : Vl) : Int := if v.kind = 0 ∨ v.kind = 1 then (if v.text ≠ ⟨#[]⟩ then 3 else v.sizeE) else if v.kind = 2 then (if v.num ≠ 0 then 3 else v.sizeE) else 1
def suitsF (k : Int) (v : Vl) : Bool := decide (v.kind = 0 ∨ k = 4 ∨ k = 5)
theorem bs_nil {a : ByteArray} : a.toList = (ByteArray.mk #[]).toList ↔ a = ⟨#[]⟩ := ⟨fun h => bs_inj h, fun h => by rw [h]⟩
theorem P_value_size (v : Vl) : PCall EE 100 [v.enc] (int v.sizeE) := by
 obtain ⟨k, n, t⟩ := v
 unfold Vl.enc Vl.cs
 dsimp only
 obtain ⟨R, hR⟩ : ∃ R, R = Vl.sizeE ⟨k, n, t⟩ := ⟨_, rfl⟩
 rw [← hR]
 unfold Vl.sizeE at hR
 dsimp only at hR
 refine wordsN ?_; unhygienic intros
 refine fn_body (fn := Tryd.f100) (n := 36) (ac := Trydc100) (rvs := [.t 2]) rfl (by decide) Trydp100 rfl rfl rfl ?_
 refine goA 0 ?_
 refine nsB hX (by conv => lhs; cbv) ?_
 refine goA 0 ?_
 refine on_cond rfl (fun c1 => ?_) (fun c1 => ?_)
 ·
  simp [ee] at c1
  refine goA 60 ?_
  refine fn_ret rfl rfl (.val ?_)
  exact congrArg (Value.int .i64) (by rw [hR]; (repeat' split) <;> first | rfl | (exfalso; omega))
 ·
  simp [ee] at c1
  refine goA 0 ?_
  refine on_cond rfl (fun c2 => ?_) (fun c2 => ?_)
  ·
   simp [ee] at c2
   refine goA 60 ?_
   refine fn_ret rfl rfl (.val ?_)
   exact congrArg (Value.int .i64) (by rw [hR]; (repeat' split) <;> first | rfl | (exfalso; omega))
  ·
   simp [ee] at c2
   refine goA 0 ?_
   refine on_cond rfl (fun c3 => ?_) (fun c3 => ?_)
   ·
    simp [ee] at c3
    refine goA 60 ?_
    refine fn_ret rfl rfl (.val ?_)
    exact congrArg (Value.int .i64) (by rw [hR]; (repeat' split) <;> first | rfl | (exfalso; omega))
   ·
    simp [ee] at c3
    refine goA 60 ?_
    refine fn_ret rfl rfl (.val ?_)
    exact congrArg (Value.int .i64) (by rw [hR]; (repeat' split) <;> first | rfl | (exfalso; omega))
theorem P_value_Check (v : Vl) : PCall EE 93 [v.enc] (int v.chk) := by
 have hs := P_value_size v
 obtain ⟨k, n, t⟩ := v
 unfold Vl.enc Vl.cs at *
 dsimp only at *
 obtain ⟨R, hR⟩ : ∃ R, R = Vl.chk ⟨k, n, t⟩ := ⟨_, rfl⟩
 rw [← hR]
 unfold Vl.chk at hR
 generalize Vl.sizeE ⟨k, n, t⟩ = sz at *
 dsimp only at hR
 refine wordsN ?_; unhygienic intros
 refine fn_body (fn := Tryd.f93) (n := 18) (ac := Trydc93) (rvs := [.t 2]) rfl (by decide) Trydp93 rfl rfl rfl ?_
 by_cases ht : t = ⟨#[]⟩
 · have hw : sNe t ⟨#[]⟩ = false := by simp only [ee]; rw [ht]; simp
   have ht2 : ¬ (t ≠ ⟨#[]⟩) := fun h => h ht
   simp only [ht2, if_false] at hR
   refine goB hX 0 (by conv => lhs; cbv; try simp only [hw]; cbv; try simp only [hw]; cbv; try simp only [hw]; cbv; try simp only [hw]; cbv) ?_
   refine on_cond rfl (fun c1 => ?_) (fun c1 => ?_)
   ·
    simp [ee] at c1
    refine goB hX 0 (by conv => lhs; cbv; try simp only [hw]; cbv; try simp only [hw]; cbv; try simp only [hw]; cbv; try simp only [hw]; cbv) ?_
    refine on_cond rfl (fun c2 => ?_) (fun c2 => ?_)
    ·
     simp [ee] at c2
     refine goB hX 0 (by conv => lhs; cbv; try simp only [hw]; cbv; try simp only [hw]; cbv; try simp only [hw]; cbv; try simp only [hw]; cbv) ?_
     refine goA 60 ?_
     refine oPA hs ?_
     refine goA 60 ?_
     refine fn_ret rfl rfl (.val ?_)
     exact congrArg (Value.int .i64) (by rw [hR]; (repeat' split) <;> first | rfl | (exfalso; omega))
    ·
     simp [ee] at c2
     refine goB hX 0 (by conv => lhs; cbv; try simp only [hw]; cbv; try simp only [hw]; cbv; try simp only [hw]; cbv; try simp only [hw]; cbv) ?_
     refine on_cond rfl (fun c3 => ?_) (fun c3 => ?_)
     ·
      simp [ee] at c3
      refine goB hX 0 (by conv => lhs; cbv; try simp only [hw]; cbv; try simp only [hw]; cbv; try simp only [hw]; cbv; try simp only [hw]; cbv) ?_
      refine on_cond rfl (fun c4 => ?_) (fun c4 => ?_)
      ·
       simp [ee] at c4
       refine goA 60 ?_
       refine fn_ret rfl rfl (.val ?_)
       exact congrArg (Value.int .i64) (by rw [hR]; (repeat' split) <;> first | rfl | (exfalso; omega))
      ·
       simp [ee] at c4
       refine goA 60 ?_
       refine oPA hs ?_
       refine goA 60 ?_
       refine fn_ret rfl rfl (.val ?_)
       exact congrArg (Value.int .i64) (by rw [hR]; (repeat' split) <;> first | rfl | (exfalso; omega))
     ·
      simp [ee] at c3
      refine goA 60 ?_
      refine fn_ret rfl rfl (.val ?_)
      exact congrArg (Value.int .i64) (by rw [hR]; (repeat' split) <;> first | rfl | (exfalso; omega))
   ·
    simp [ee] at c1
    refine goB hX 0 (by conv => lhs; cbv; try simp only [hw]; cbv; try simp only [hw]; cbv; try simp only [hw]; cbv; try simp only [hw]; cbv) ?_
    refine on_cond rfl (fun c5 => ?_) (fun c5 => ?_)
    ·
     simp [ee] at c5
     refine goB hX 0 (by conv => lhs; cbv; try simp only [hw]; cbv; try simp only [hw]; cbv; try simp only [hw]; cbv; try simp only [hw]; cbv) ?_
     refine goA 60 ?_
     refine oPA hs ?_
     refine goA 60 ?_
     refine fn_ret rfl rfl (.val ?_)
     exact congrArg (Value.int .i64) (by rw [hR]; (repeat' split) <;> first | rfl | (exfalso; omega))
    ·
     simp [ee] at c5
     refine goB hX 0 (by conv => lhs; cbv; try simp only [hw]; cbv; try simp only [hw]; cbv; try simp only [hw]; cbv; try simp only [hw]; cbv) ?_
     refine on_cond rfl (fun c6 => ?_) (fun c6 => ?_)
     ·
      simp [ee] at c6
      refine goB hX 0 (by conv => lhs; cbv; try simp only [hw]; cbv; try simp only [hw]; cbv; try simp only [hw]; cbv; try simp only [hw]; cbv) ?_
      refine on_cond rfl (fun c7 => ?_) (fun c7 => ?_)
      ·
       simp [ee] at c7
       refine goA 60 ?_
       refine fn_ret rfl rfl (.val ?_)
       exact congrArg (Value.int .i64) (by rw [hR]; (repeat' split) <;> first | rfl | (exfalso; omega))
      ·
       simp [ee] at c7
       refine goA 60 ?_
       refine oPA hs ?_
       refine goA 60 ?_
       refine fn_ret rfl rfl (.val ?_)
       exact congrArg (Value.int .i64) (by rw [hR]; (repeat' split) <;> first | rfl | (exfalso; omega))
     ·
      simp [ee] at c6
      refine goA 60 ?_
      refine fn_ret rfl rfl (.val ?_)
      exact congrArg (Value.int .i64) (by rw [hR]; (repeat' split) <;> first | rfl | (exfalso; omega))
 · have hw : sNe t ⟨#[]⟩ = true := by simp only [ee]; simpa using fun h => ht (bs_inj h)
   have ht2 : t ≠ ⟨#[]⟩ := ht
   simp only [ne_eq, ht, not_false_eq_true, if_true] at hR
   refine goB hX 0 (by conv => lhs; cbv; try simp only [hw]; cbv; try simp only [hw]; cbv; try simp only [hw]; cbv; try simp only [hw]; cbv) ?_
   refine on_cond rfl (fun c1 => ?_) (fun c1 => ?_)
   ·
    simp [ee] at c1
    refine goB hX 0 (by conv => lhs; cbv; try simp only [hw]; cbv; try simp only [hw]; cbv; try simp only [hw]; cbv; try simp only [hw]; cbv) ?_
    refine on_cond rfl (fun c2 => ?_) (fun c2 => ?_)
    ·
     simp [ee] at c2
     refine goB hX 0 (by conv => lhs; cbv; try simp only [hw]; cbv; try simp only [hw]; cbv; try simp only [hw]; cbv; try simp only [hw]; cbv) ?_
     refine goA 60 ?_
     refine fn_ret rfl rfl (.val ?_)
     exact congrArg (Value.int .i64) (by rw [hR]; (repeat' split) <;> first | rfl | (exfalso; omega))
    ·
     simp [ee] at c2
     refine goB hX 0 (by conv => lhs; cbv; try simp only [hw]; cbv; try simp only [hw]; cbv; try simp only [hw]; cbv; try simp only [hw]; cbv) ?_
     refine on_cond rfl (fun c3 => ?_) (fun c3 => ?_)
     ·
      simp [ee] at c3
      refine goB hX 0 (by conv => lhs; cbv; try simp only [hw]; cbv; try simp only [hw]; cbv; try simp only [hw]; cbv; try simp only [hw]; cbv) ?_
      refine on_cond rfl (fun c4 => ?_) (fun c4 => ?_)
      ·
       simp [ee] at c4
       refine goA 60 ?_
       refine fn_ret rfl rfl (.val ?_)
       exact congrArg (Value.int .i64) (by rw [hR]; (repeat' split) <;> first | rfl | (exfalso; omega))
      ·
       simp [ee] at c4
       refine goA 60 ?_
       refine oPA hs ?_
       refine goA 60 ?_
       refine fn_ret rfl rfl (.val ?_)
       exact congrArg (Value.int .i64) (by rw [hR]; (repeat' split) <;> first | rfl | (exfalso; omega))
     ·
      simp [ee] at c3
      refine goA 60 ?_
      refine fn_ret rfl rfl (.val ?_)
      exact congrArg (Value.int .i64) (by rw [hR]; (repeat' split) <;> first | rfl | (exfalso; omega))
   ·
    simp [ee] at c1
    refine goB hX 0 (by conv => lhs; cbv; try simp only [hw]; cbv; try simp only [hw]; cbv; try simp only [hw]; cbv; try simp only [hw]; cbv) ?_
    refine on_cond rfl (fun c5 => ?_) (fun c5 => ?_)
    ·
     simp [ee] at c5
     refine goB hX 0 (by conv => lhs; cbv; try simp only [hw]; cbv; try simp only [hw]; cbv; try simp only [hw]; cbv; try simp only [hw]; cbv) ?_
     refine goA 60 ?_
     refine fn_ret rfl rfl (.val ?_)
     exact congrArg (Value.int .i64) (by rw [hR]; (repeat' split) <;> first | rfl | (exfalso; omega))
    ·
     simp [ee] at c5
     refine goB hX 0 (by conv => lhs; cbv; try simp only [hw]; cbv; try simp only [hw]; cbv; try simp only [hw]; cbv; try simp only [hw]; cbv) ?_
     refine on_cond rfl (fun c6 => ?_) (fun c6 => ?_)
     ·
      simp [ee] at c6
      refine goB hX 0 (by conv => lhs; cbv; try simp only [hw]; cbv; try simp only [hw]; cbv; try simp only [hw]; cbv; try simp only [hw]; cbv) ?_
      refine on_cond rfl (fun c7 => ?_) (fun c7 => ?_)
      ·
       simp [ee] at c7
       refine goA 60 ?_
       refine fn_ret rfl rfl (.val ?_)
       exact congrArg (Value.int .i64) (by rw [hR]; (repeat' split) <;> first | rfl | (exfalso; omega))
      ·
       simp [ee] at c7
       refine goA 60 ?_
       refine oPA hs ?_
       refine goA 60 ?_
       refine fn_ret rfl rfl (.val ?_)
       exact congrArg (Value.int .i64) (by rw [hR]; (repeat' split) <;> first | rfl | (exfalso; omega))
     ·
      simp [ee] at c6
      refine goA 60 ?_
      refine fn_ret rfl rfl (.val ?_)
      exact congrArg (Value.int .i64) (by rw [hR]; (repeat' split) <;> first | rfl | (exfalso; omega))
theorem P_expr_suits (k : Int) (v : Vl) : PCall EE 94 [int k, v.enc] (bool (suitsF k v)) := by
 obtain ⟨vk, n, t⟩ := v
 unfold Vl.enc Vl.cs
 dsimp only
 obtain ⟨R, hR⟩ : ∃ R, R = suitsF k ⟨vk, n, t⟩ := ⟨_, rfl⟩
 rw [← hR]
 unfold suitsF at hR
 dsimp only at hR
 refine wordsN ?_; unhygienic intros
 refine fn_body (fn := Tryd.f94) (n := 16) (ac := Trydc94) (rvs := [.t 4]) rfl (by decide) Trydp94 rfl rfl rfl ?_
 refine goA 60 ?_
 refine fn_ret rfl rfl (.val ?_)
 exact congrArg Value.bool (by rw [hR, Bool.eq_iff_iff]; simp [ee, or_assoc])
def usesV (o : Int) : Bool := decide (o = 1 ∨ o = 4 ∨ o = 2 ∨ o = 3)
def usesF (o : Int) : Bool := decide (o = 1 ∨ o = 4)
def arityN (o : Int) : Int := if o < 0 ∨ 12 < o then 0 else if o < 5 then 0 else if o = 12 then 1 else 2
def arityB (o : Int) : Bool := decide (0 ≤ o ∧ o ≤ 12)
theorem P_expr_uses (o : Int) : PCall EE 69 [int o] (.tup [bool (usesV o), bool (usesF o)]) := by
 obtain ⟨R, hR⟩ : ∃ R, R = usesV o := ⟨_, rfl⟩
 obtain ⟨R2, hR2⟩ : ∃ R, R = usesF o := ⟨_, rfl⟩
 rw [← hR, ← hR2]
 unfold usesV at hR
 unfold usesF at hR2
 refine wordsN ?_; unhygienic intros
 refine fn_body (fn := Tryd.f69) (n := 11) (ac := Trydc69) (rvs := [.t 2, .t 3]) rfl (by decide) Trydp69 rfl rfl rfl ?_
 refine goA 0 ?_
 refine on_cond rfl (fun c1 => ?_) (fun c1 => ?_)
 ·
  simp [ee] at c1
  refine goA 0 ?_
  refine on_cond rfl (fun c2 => ?_) (fun c2 => ?_)
  ·
   simp [ee] at c2
   refine goA 60 ?_
   refine fn_ret rfl rfl ?_
   exact Fz.none (.tup' ⟨.of (congrArg bool (by rw [hR]; symm; first | exact decide_eq_true (by omega) | exact decide_eq_false (by omega))), .of (congrArg bool (by rw [hR2]; symm; first | exact decide_eq_true (by omega) | exact decide_eq_false (by omega))), trivial⟩)
  ·
   simp [ee] at c2
   refine goA 0 ?_
   refine on_cond rfl (fun c3 => ?_) (fun c3 => ?_)
   ·
    simp [ee] at c3
    refine goA 0 ?_
    refine on_cond rfl (fun c4 => ?_) (fun c4 => ?_)
    ·
     simp [ee] at c4
     refine goA 60 ?_
     refine fn_ret rfl rfl ?_
     exact Fz.none (.tup' ⟨.of (congrArg bool (by rw [hR]; symm; first | exact decide_eq_true (by omega) | exact decide_eq_false (by omega))), .of (congrArg bool (by rw [hR2]; symm; first | exact decide_eq_true (by omega) | exact decide_eq_false (by omega))), trivial⟩)
    ·
     simp [ee] at c4
     refine goA 60 ?_
     refine fn_ret rfl rfl ?_
     exact Fz.none (.tup' ⟨.of (congrArg bool (by rw [hR]; symm; first | exact decide_eq_true (by omega) | exact decide_eq_false (by omega))), .of (congrArg bool (by rw [hR2]; symm; first | exact decide_eq_true (by omega) | exact decide_eq_false (by omega))), trivial⟩)
   ·
    simp [ee] at c3
    refine goA 0 ?_
    refine on_cond rfl (fun c5 => ?_) (fun c5 => ?_)
    ·
     simp [ee] at c5
     refine goA 60 ?_
     refine fn_ret rfl rfl ?_
     exact Fz.none (.tup' ⟨.of (congrArg bool (by rw [hR]; symm; first | exact decide_eq_true (by omega) | exact decide_eq_false (by omega))), .of (congrArg bool (by rw [hR2]; symm; first | exact decide_eq_true (by omega) | exact decide_eq_false (by omega))), trivial⟩)
    ·
     simp [ee] at c5
     refine goA 60 ?_
     refine fn_ret rfl rfl ?_
     exact Fz.none (.tup' ⟨.of (congrArg bool (by rw [hR]; symm; first | exact decide_eq_true (by omega) | exact decide_eq_false (by omega))), .of (congrArg bool (by rw [hR2]; symm; first | exact decide_eq_true (by omega) | exact decide_eq_false (by omega))), trivial⟩)
 ·
  simp [ee] at c1
  refine goA 0 ?_
  refine on_cond rfl (fun c6 => ?_) (fun c6 => ?_)
  ·
   simp [ee] at c6
   refine goA 60 ?_
   refine fn_ret rfl rfl ?_
   exact Fz.none (.tup' ⟨.of (congrArg bool (by rw [hR]; symm; first | exact decide_eq_true (by omega) | exact decide_eq_false (by omega))), .of (congrArg bool (by rw [hR2]; symm; first | exact decide_eq_true (by omega) | exact decide_eq_false (by omega))), trivial⟩)
  ·
   simp [ee] at c6
   refine goA 0 ?_
   refine on_cond rfl (fun c7 => ?_) (fun c7 => ?_)
   ·
    simp [ee] at c7
    refine goA 0 ?_
    refine on_cond rfl (fun c8 => ?_) (fun c8 => ?_)
    ·
     simp [ee] at c8
     refine goA 60 ?_
     refine fn_ret rfl rfl ?_
     exact Fz.none (.tup' ⟨.of (congrArg bool (by rw [hR]; symm; first | exact decide_eq_true (by omega) | exact decide_eq_false (by omega))), .of (congrArg bool (by rw [hR2]; symm; first | exact decide_eq_true (by omega) | exact decide_eq_false (by omega))), trivial⟩)
    ·
     simp [ee] at c8
     refine goA 60 ?_
     refine fn_ret rfl rfl ?_
     exact Fz.none (.tup' ⟨.of (congrArg bool (by rw [hR]; symm; first | exact decide_eq_true (by omega) | exact decide_eq_false (by omega))), .of (congrArg bool (by rw [hR2]; symm; first | exact decide_eq_true (by omega) | exact decide_eq_false (by omega))), trivial⟩)
   ·
    simp [ee] at c7
    refine goA 0 ?_
    refine on_cond rfl (fun c9 => ?_) (fun c9 => ?_)
    ·
     simp [ee] at c9
     refine goA 60 ?_
     refine fn_ret rfl rfl ?_
     exact Fz.none (.tup' ⟨.of (congrArg bool (by rw [hR]; symm; first | exact decide_eq_true (by omega) | exact decide_eq_false (by omega))), .of (congrArg bool (by rw [hR2]; symm; first | exact decide_eq_true (by omega) | exact decide_eq_false (by omega))), trivial⟩)
    ·
     simp [ee] at c9
     refine goA 60 ?_
     refine fn_ret rfl rfl ?_
     exact Fz.none (.tup' ⟨.of (congrArg bool (by rw [hR]; symm; first | exact decide_eq_true (by omega) | exact decide_eq_false (by omega))), .of (congrArg bool (by rw [hR2]; symm; first | exact decide_eq_true (by omega) | exact decide_eq_false (by omega))), trivial⟩)
theorem P_expr_arity (o : Int) : PCall EE 77 [int o] (.tup [int (arityN o), bool (arityB o)]) := by
 obtain ⟨R, hR⟩ : ∃ R, R = arityN o := ⟨_, rfl⟩
 obtain ⟨R2, hR2⟩ : ∃ R, R = arityB o := ⟨_, rfl⟩
 rw [← hR, ← hR2]
 unfold arityN at hR
 unfold arityB at hR2
 refine wordsN ?_; unhygienic intros
 refine fn_body (fn := Tryd.f77) (n := 17) (ac := Trydc77) (rvs := [.t 2, .t 3]) rfl (by decide) Trydp77 rfl rfl rfl ?_
 refine goA 0 ?_
 refine on_cond rfl (fun c1 => ?_) (fun c1 => ?_)
 ·
  simp [ee] at c1
  refine goA 60 ?_
  refine fn_ret rfl rfl ?_
  exact Fz.none (.tup' ⟨.of (congrArg int (by rw [hR]; (repeat' split) <;> first | rfl | omega)), .of (congrArg bool (by rw [hR2]; simp; omega)), trivial⟩)
 ·
  simp [ee] at c1
  refine goA 0 ?_
  refine on_cond rfl (fun c2 => ?_) (fun c2 => ?_)
  ·
   simp [ee] at c2
   refine goA 60 ?_
   refine fn_ret rfl rfl ?_
   exact Fz.none (.tup' ⟨.of (congrArg int (by rw [hR]; (repeat' split) <;> first | rfl | omega)), .of (congrArg bool (by rw [hR2]; simp; omega)), trivial⟩)
  ·
   simp [ee] at c2
   refine goA 0 ?_
   refine on_cond rfl (fun c3 => ?_) (fun c3 => ?_)
   ·
    simp [ee] at c3
    refine goA 60 ?_
    refine fn_ret rfl rfl ?_
    exact Fz.none (.tup' ⟨.of (congrArg int (by rw [hR]; (repeat' split) <;> first | rfl | omega)), .of (congrArg bool (by rw [hR2]; simp; omega)), trivial⟩)
   ·
    simp [ee] at c3
    refine goA 60 ?_
    refine fn_ret rfl rfl ?_
    exact Fz.none (.tup' ⟨.of (congrArg int (by rw [hR]; (repeat' split) <;> first | rfl | omega)), .of (congrArg bool (by rw [hR2]; simp; omega)), trivial⟩)
def Vl0 : Vl := ⟨0, 0, ⟨#[]⟩⟩
theorem Vl.eq0 {v : Vl} : v = Vl0 ↔ v.kind = 0 ∧ v.num = 0 ∧ v.text.toList = [] := by
 have hn : (ByteArray.mk #[]).toList = [] := by simp
 rw [← hn]
 obtain ⟨k, n, t⟩ := v
 simp only [Vl0, Vl.mk.injEq, bs_nil]
open Classical in
noncomputable def Ex.consE (e : Ex) : Int := if e.val.chk ≠ 0 then e.val.chk else if e.op = 4 ∧ (suitsF e.kind e.val = false ∨ (e.kind = 1 ∧ e.val ≠ Vl0)) then 9 else 0
def Ex.formB (e : Ex) : Prop := (usesV e.op = true ∨ e.var = 0) ∧ (usesF e.op = true ∨ e.fld = 0) ∧ (e.op = 4 ∨ e.kind = 0) ∧ ((e.op = 4 ∨ e.op = 0) ∨ e.val = Vl0)
open Classical in
noncomputable def Ex.nodeE (e : Ex) : Int :=
 if arityB e.op = false then 1 else if (e.args.length : Int) ≠ arityN e.op then 15
 else if (usesV e.op = true ∧ (e.var < 0 ∨ 16 ≤ e.var)) ∨ (usesF e.op = true ∧ (e.fld < 0 ∨ 8 ≤ e.fld)) then 2
 else if e.op = 4 ∧ (e.kind < 1 ∨ 5 < e.kind) then 1
 else if (e.op = 4 ∨ e.op = 0) ∧ e.consE ≠ 0 then e.consE
 else if e.formB then 0 else 3
theorem P_expr_constants (e : Ex) : PCall EE 78 [e.enc] (int e.consE) := by
 have hs := P_expr_suits e.kind e.val
 have hk := P_value_Check e.val
 have h0 := @Vl.eq0 e.val
 have hcl := Ex.closed e
 obtain ⟨R, hR⟩ : ∃ R, R = e.consE := ⟨_, rfl⟩
 rw [← hR]
 unfold Ex.consE at hR
 generalize suitsF e.kind e.val = sb at *
 generalize e.val.chk = ck at *
 obtain ⟨o, a, v, f, k, ⟨xk, xn, xt⟩⟩ := e
 simp only [Ex.op, Ex.kind, Ex.val] at *
 rw [Ex.enc_mk] at hcl ⊢
 unfold Vl.enc Vl.cs at *
 dsimp only at *
 refine wordsN ?_; unhygienic intros
 generalize mapE Ex.enc a = es at *
 refine fn_body (fn := Tryd.f78) (n := 32) (ac := Trydc78) (rvs := [.t 2]) rfl (by decide) Trydp78 rfl rfl rfl ?_
 refine goA 60 ?_
 refine oPA hk ?_
 refine goA 0 ?_
 refine on_cond rfl (fun c1 => ?_) (fun c1 => ?_)
 ·
  simp [ee] at c1
  refine goA 60 ?_
  refine fn_ret rfl rfl (.val ?_)
  exact congrArg (Value.int .i64) (by rw [hR]; clear ee hX; grind)
 ·
  simp [ee] at c1
  refine goA 0 ?_
  refine on_guard rfl rfl (fun c2 => ?_) (fun c2 => ?_)
  ·
   simp [ee] at c2
   refine goA 60 ?_
   refine oPG hs ?_
   refine goA 0 ?_
   refine goA 1 ?_
   refine goA 1 ?_
   refine nsB hX (by conv => lhs; cbv) ?_
   refine goA 0 ?_
   refine on_cond rfl (fun c3 => ?_) (fun c3 => ?_)
   ·
    simp [ee] at c3
    refine goA 60 ?_
    refine fn_ret rfl rfl (.val ?_)
    exact congrArg (Value.int .i64) (by rw [hR]; clear ee hX; grind)
   ·
    simp [ee] at c3
    refine goA 60 ?_
    refine fn_ret rfl rfl (.val ?_)
    exact congrArg (Value.int .i64) (by rw [hR]; clear ee hX; grind)
  ·
   simp [ee] at c2
   refine goA 60 ?_
   refine on_gskip rfl rfl ?_
   refine goA 60 ?_
   refine fn_ret rfl rfl (.val ?_)
   exact congrArg (Value.int .i64) (by rw [hR]; clear ee hX; grind)
theorem P_expr_node (e : Ex) (hlen : e.args.length < 1048576) : PCall EE 60 [e.enc] (int e.nodeE) := by
 have hu := P_expr_uses e.op
 have har := P_expr_arity e.op
 have hk := P_expr_constants e
 have h0 := @Vl.eq0 e.val
 have hcl := Ex.closed e
 obtain ⟨R, hR⟩ : ∃ R, R = e.nodeE := ⟨_, rfl⟩
 rw [← hR]
 unfold Ex.nodeE Ex.formB at hR
 generalize usesV e.op = uv at *
 generalize usesF e.op = uf at *
 generalize arityN e.op = an at *
 generalize arityB e.op = ab at *
 generalize e.consE = ck at *
 obtain ⟨o, a, v, f, k, ⟨xk, xn, xt⟩⟩ := e
 simp only [Ex.op, Ex.kind, Ex.val, Ex.args, Ex.var, Ex.fld] at *
 rw [Ex.enc_mk] at hcl hk ⊢
 dsimp only at *
 refine wordsN ?_; unhygienic intros
 generalize hes : mapE Ex.enc a = es at *
 have hel : es.length = a.length := by rw [← hes, mapE_len]
 refine fn_body (fn := Tryd.f60) (n := 114) (ac := Trydc60) (rvs := [.t 2]) rfl (by decide) Trydp60 rfl rfl rfl ?_
 refine goA 60 ?_
 refine oPA har ?_
 refine goA 0 ?_
 refine on_cond rfl (fun c1 => ?_) (fun c1 => ?_)
 ·
  simp [ee] at c1
  refine goA 60 ?_
  refine fn_ret rfl rfl (.val ?_)
  exact congrArg (Value.int .i64) (by rw [hR]; clear ee hX; grind)
 ·
  simp [ee] at c1
  refine goA 0 ?_
  refine on_cond rfl (fun c2 => ?_) (fun c2 => ?_)
  ·
   simp [ee] at c2
   refine goA 60 ?_
   refine fn_ret rfl rfl (.val ?_)
   exact congrArg (Value.int .i64) (by rw [hR]; clear ee hX; grind)
  ·
   simp [ee] at c2
   refine goA 60 ?_
   refine oPA hu ?_
   refine goA 0 ?_
   refine nsB hX (by conv => lhs; cbv) ?_
   refine goA 0 ?_
   refine nsB hX (by conv => lhs; cbv) ?_
   refine goA 0 ?_
   refine on_cond rfl (fun c3 => ?_) (fun c3 => ?_)
   ·
    simp [ee] at c3
    refine goA 60 ?_
    refine fn_ret rfl rfl (.val ?_)
    exact congrArg (Value.int .i64) (by rw [hR]; clear ee hX; grind)
   ·
    simp [ee] at c3
    refine goA 0 ?_
    refine nsB hX (by conv => lhs; cbv) ?_
    refine goA 0 ?_
    refine on_cond rfl (fun c4 => ?_) (fun c4 => ?_)
    ·
     simp [ee] at c4
     refine goA 60 ?_
     refine fn_ret rfl rfl (.val ?_)
     exact congrArg (Value.int .i64) (by rw [hR]; clear ee hX; grind)
    ·
     simp [ee] at c4
     refine goA 0 ?_
     refine on_cond rfl (fun c5 => ?_) (fun c5 => ?_)
     ·
      simp [ee] at c5
      refine goA 60 ?_
      refine oPA hk ?_
      refine goA 0 ?_
      refine on_cond rfl (fun c6 => ?_) (fun c6 => ?_)
      ·
       simp [ee] at c6
       refine goA 60 ?_
       refine fn_ret rfl rfl (.val ?_)
       exact congrArg (Value.int .i64) (by rw [hR]; clear ee hX; grind)
      ·
       simp [ee] at c6
       refine goA 0 ?_
       refine nsB hX (by conv => lhs; cbv) ?_
       refine goA 0 ?_
       refine nsB hX (by conv => lhs; cbv) ?_
       refine goA 0 ?_
       refine nsB hX (by conv => lhs; cbv) ?_
       refine goA 0 ?_
       refine on_cond rfl (fun c7 => ?_) (fun c7 => ?_)
       ·
        simp [ee] at c7
        refine goA 60 ?_
        refine fn_ret rfl rfl (.val ?_)
        exact congrArg (Value.int .i64) (by rw [hR]; clear ee hX; grind)
       ·
        simp [ee] at c7
        refine goA 60 ?_
        refine fn_ret rfl rfl (.val ?_)
        exact congrArg (Value.int .i64) (by rw [hR]; clear ee hX; grind)
     ·
      simp [ee] at c5
      refine goA 0 ?_
      refine nsB hX (by conv => lhs; cbv) ?_
      refine goA 0 ?_
      refine nsB hX (by conv => lhs; cbv) ?_
      refine goA 0 ?_
      refine nsB hX (by conv => lhs; cbv) ?_
      refine goA 0 ?_
      refine on_cond rfl (fun c8 => ?_) (fun c8 => ?_)
      ·
       simp [ee] at c8
       refine goA 60 ?_
       refine fn_ret rfl rfl (.val ?_)
       exact congrArg (Value.int .i64) (by rw [hR]; clear ee hX; grind)
      ·
       simp [ee] at c8
       refine goA 60 ?_
       refine fn_ret rfl rfl (.val ?_)
       exact congrArg (Value.int .i64) (by rw [hR]; clear ee hX; grind)
theorem P_expr_Size : ∀ p : Ex, p.Sm → PCall EE 58 [p.enc] (.tup [int p.cnt, int p.dep]) := by
 refine Ex.ind ?_
 intro o a v f k x ih hs
 have hlen := hs.len
 have hih : ∀ q ∈ a, PCall EE 58 [q.enc] (.tup [int q.cnt, int q.dep]) := fun q hq => ih q hq (hs.arg hq)
 have hcl := Ex.closedI a
 unfold Ex.Sm at hs
 have hcnt := hs
 simp only [Ex.cnt] at hcnt
 have hde := fun q : Ex => Ex.dep_le q
 simp only [Ex.cnt, Ex.dep]
 rw [Ex.enc_mk]
 refine wordsN ?_; unhygienic intros
 generalize hes : mapE Ex.enc a = es at *
 have hel : es.length = a.length := by rw [← hes, mapE_len]
 refine fn_body (fn := Tryd.f58) (n := 32) (ac := Trydc58) (rvs := [.t 2, .t 3]) rfl (by decide) Trydp58 rfl rfl rfl ?_
 refine goA 60 ?_
 refine on_loopP (ι := List Ex × List Ex × Int × Int × Int) (fun p => ([(5, int p.2.2.2.2), (4, int p.2.2.2.1), (13, int p.2.2.1), (12, int (lenA es)), (11, .isl 8 es)], [])) (fun p => a = p.1 ++ p.2.1 ∧ p.2.2.1 = p.1.length ∧ p.2.2.2.1 = 1 + Ex.cntL p.1 ∧ Ex.depL 0 a = Ex.depL p.2.2.2.2.toNat p.2.1 ∧ 0 ≤ p.2.2.2.2 ∧ p.2.2.2.2 ≤ 1048576) (fun p => p.2.1.length) ([], a, 0, 1, 0) ⟨rfl, rfl, rfl, rfl, by simp⟩ ?_ ?_
 · exact (ent_sub [.gone] [] ⟨trivial, trivial⟩ trivial ⟨.refl _, .refl _, .refl _, .refl _, .cl hcl, trivial⟩)
 rintro ⟨d, r, i, nn, dd⟩ ⟨g1, gi, gn, gd, gb⟩
 dsimp only at g1 gi gn gd gb ⊢
 cases r with
 | nil =>
  have L1 := len_split g1
  try simp only [List.length] at L1
  have hc : iLt i (lenA es) = false := lt_f e_iLt e_lenA (by omega)
  rw [List.append_nil] at g1
  rw [gd, Ex.depL, g1]
  have ha1 : iAdd .i64 dd 1 = ((dd.toNat + 1 : Nat) : Int) := by rw [add_w e_iAdd (by omega) (by omega)]; omega
  have hn : nn = ((1 + Ex.cntL d : Nat) : Int) := by omega
  refine goB hX 0 (by conv => lhs; cbv; try simp only [hc]; cbv; try simp only [hc]; cbv; try simp only [hc]; cbv; try simp only [hc]; cbv) ?_
  refine goA 60 ?_
  refine loopP_exit ?_
  refine goA 60 ?_
  refine fn_ret rfl rfl ?_
  exact ⟨[], trivial, .tup' ⟨.of (congrArg int hn), .of (congrArg int ha1), trivial⟩⟩
 | cons q r =>
  have L1 := len_split g1
  try simp only [List.length] at L1
  have hc : iLt i (lenA es) = true := lt_t e_iLt e_lenA (by omega)
  have hat := el_at e_atA hes g1 gi
  have hq := hih q (by rw [g1]; simp)
  have hqc := Ex.closed q
  have hqd := hde q
  rw [g1, Ex.cntL_append, Ex.cntL] at hcnt
  obtain ⟨qO, qA, qV, qF, qK, qXk, qXn, qXt, hx⟩ := Ex.form q
  rw [hx] at hq hat hqc
  generalize hqn : (q.cnt : Int) = qn at hq
  generalize hqp : (q.dep : Int) = qp at hq
  have hn2 : iAdd .i64 nn qn = 1 + Ex.cntL (d ++ [q]) := by rw [Ex.cntL_append, Ex.cntL, Ex.cntL, add_w e_iAdd (by omega) (by omega)]; omega
  have hi2 : iAdd .i64 i 1 = ((d ++ [q]).length : Int) := by rw [List.length_append]; exact inc_w e_iAdd gi (by omega)
  have hd2 : iMax dd qp = ((max dd.toNat q.dep : Nat) : Int) := by simp only [ee]; split <;> omega
  refine goB hX 0 (by conv => lhs; cbv; try simp only [hc, hat]; cbv; try simp only [hc, hat]; cbv; try simp only [hc, hat]; cbv; try simp only [hc, hat]; cbv) ?_
  refine goB hX 1 (by conv => lhs; cbv; try simp only [hc, hat]; cbv; try simp only [hc, hat]; cbv; try simp only [hc, hat]; cbv; try simp only [hc, hat]; cbv) ?_
  refine oPA hq ?_
  refine goA 60 ?_
  refine loopP_next (d ++ [q], r, iAdd .i64 i 1, iAdd .i64 nn qn, iMax dd qp) ⟨by simp [g1], hi2, hn2, by rw [gd, hd2, Ex.depL]; rfl, by show 0 ≤ iMax dd qp; omega, by show iMax dd qp ≤ 1048576; omega⟩ (by simp) (ent_sub [.gone] [] ⟨trivial, trivial⟩ trivial ⟨.refl _, .refl _, .refl _, .refl _, .cl hcl, trivial⟩)
def firstE {α : Type} (F : α → Int) : List α → Int
 | [] => 0
 | q :: r => if F q ≠ 0 then F q else firstE F r
theorem firstE_append {α : Type} (F : α → Int) : ∀ a b : List α, firstE F (a ++ b) = if firstE F a ≠ 0 then firstE F a else firstE F b
 | [], b => by simp [firstE]
 | q :: a, b => by
  rw [List.cons_append, firstE, firstE, firstE_append F a b]
  by_cases h : F q = 0 <;> simp [h]
theorem P_expr_visit (g : FuncId) (cs : List AV) (hcs : AV.closedL cs = true) (F : Ex → Int) : ∀ e : Ex, e.Sm → (∀ q ∈ e.nodes, PCall EE g ([q.enc] ++ cs) (int (F q))) → PCall EE 59 [e.enc, .fn g cs] (int (firstE F e.nodes)) := by
 refine Ex.ind ?_
 intro o a v f k x ih hs hF
 have hlen := hs.len
 have hih : ∀ q ∈ a, PCall EE 59 [q.enc, .fn g cs] (int (firstE F q.nodes)) := fun q hq => ih q hq (hs.arg hq) fun q2 hq2 => hF q2 (by
  rw [Ex.nodes]
  obtain ⟨d, r, rfl⟩ := List.append_of_mem hq
  simp [Ex.nodesL_append, Ex.nodesL, hq2])
 have hcl := Ex.closedI a
 obtain ⟨pp, hpp⟩ : ∃ pp, pp = Ex.mk o a v f k x := ⟨_, rfl⟩
 have hh := hF pp (by rw [Ex.nodes, hpp]; simp)
 have hpe : pp.enc = (Ex.mk o a v f k x).enc := by rw [hpp]
 rw [Ex.nodes, ← hpp]
 obtain ⟨xk, xn, xt⟩ := x
 rw [Ex.enc_mk] at hpe
 dsimp only at hpe
 have hpc := Ex.closed pp
 rw [hpe] at hh hpc ⊢
 obtain ⟨R, hR⟩ : ∃ R, R = firstE F (pp :: Ex.nodesL a) := ⟨_, rfl⟩
 rw [← hR]
 rw [firstE] at hR
 have hfn : (AV.fn g cs).closed = true := by simp [AV.closed, hcs]
 clear ih hs hF hpp hpe
 refine wordsN ?_; unhygienic intros
 generalize hes : mapE Ex.enc a = es at *
 have hel : es.length = a.length := by rw [← hes, mapE_len]
 generalize F pp = fp at *
 refine fn_body (fn := Tryd.f59) (n := 29) (ac := Trydc59) (rvs := [.t 4]) rfl (by decide) Trydp59 rfl rfl rfl ?_
 by_cases h1 : fp = 0
 rotate_left
 · have w1 : iNe fp 0 = true := by simp only [ee]; simpa using h1
   have hR : R = fp := by rw [hR, if_pos h1]
   refine goA 60 ?_
   refine on_pcallv (args := [AV.agg [int o, AV.isl 8 es, int v, int f, int k, int xk, int xn, str xt]] ++ cs) rfl rfl rfl rfl hh (by simp [AV.closedL, hpc, hcs]) ?_
   refine goB hX 0 (by conv => lhs; cbv; try simp only [w1]; cbv; try simp only [w1]; cbv; try simp only [w1]; cbv; try simp only [w1]; cbv) ?_
   refine goA 60 ?_
   refine fn_ret rfl rfl (.val ?_)
   exact congrArg (Value.int .i64) hR.symm
 have w1 : iNe fp 0 = false := by simp only [ee]; simpa using h1
 have hR : R = firstE F (Ex.nodesL a) := by rw [hR, if_neg (by simpa using h1)]
 refine goA 60 ?_
 refine on_pcallv (args := [AV.agg [int o, AV.isl 8 es, int v, int f, int k, int xk, int xn, str xt]] ++ cs) rfl rfl rfl rfl hh (by simp [AV.closedL, hpc, hcs]) ?_
 refine goB hX 0 (by conv => lhs; cbv; try simp only [w1]; cbv; try simp only [w1]; cbv; try simp only [w1]; cbv; try simp only [w1]; cbv) ?_
 refine goA 60 ?_
 refine on_loopP (ι := List Ex × List Ex × Int) (fun p => ([(18, int p.2.2), (17, int (lenA es)), (16, .isl 8 es), (1, .fn g cs)], [])) (fun p => a = p.1 ++ p.2.1 ∧ p.2.2 = p.1.length ∧ R = firstE F (Ex.nodesL p.2.1)) (fun p => p.2.1.length) ([], a, 0) ⟨rfl, rfl, hR⟩ ?_ ?_
 · exact (ent_sub [.gone] [] ⟨trivial, trivial⟩ trivial ⟨.refl _, .refl _, .cl hcl, .cl hfn, trivial⟩)
 rintro ⟨d, r, i⟩ ⟨g1, gi, gR⟩
 dsimp only at g1 gi gR ⊢
 cases r with
 | nil =>
  have L1 := len_split g1
  try simp only [List.length] at L1
  have hc : iLt i (lenA es) = false := lt_f e_iLt e_lenA (by omega)
  have gR : R = 0 := gR
  refine goB hX 0 (by conv => lhs; cbv; try simp only [hc]; cbv; try simp only [hc]; cbv; try simp only [hc]; cbv; try simp only [hc]; cbv) ?_
  refine goA 60 ?_
  refine loopP_exit ?_
  refine goA 60 ?_
  refine fn_ret rfl rfl (.val ?_)
  exact congrArg (Value.int .i64) gR.symm
 | cons q r =>
  have L1 := len_split g1
  try simp only [List.length] at L1
  have hc : iLt i (lenA es) = true := lt_t e_iLt e_lenA (by omega)
  have hat := el_at e_atA hes g1 gi
  have hq := hih q (by rw [g1]; simp)
  have hqc := Ex.closed q
  rw [Ex.nodesL, firstE_append] at gR
  obtain ⟨qO, qA, qV, qF, qK, qXk, qXn, qXt, hx⟩ := Ex.form q
  rw [hx] at hat hqc hq
  have hi2 : iAdd .i64 i 1 = ((d ++ [q]).length : Int) := by rw [List.length_append]; exact inc_w e_iAdd gi (by omega)
  generalize firstE F q.nodes = fq at *
  by_cases h2 : fq = 0
  · have w2 : iNe fq 0 = false := by simp only [ee]; simpa using h2
    rw [if_neg (by simpa using h2)] at gR
    refine goB hX 0 (by conv => lhs; cbv; try simp only [hc, hat, w2]; cbv; try simp only [hc, hat, w2]; cbv; try simp only [hc, hat, w2]; cbv; try simp only [hc, hat, w2]; cbv) ?_
    refine goB hX 1 (by conv => lhs; cbv; try simp only [hc, hat, w2]; cbv; try simp only [hc, hat, w2]; cbv; try simp only [hc, hat, w2]; cbv; try simp only [hc, hat, w2]; cbv) ?_
    refine oPA hq ?_
    refine goB hX 0 (by conv => lhs; cbv; try simp only [hc, hat, w2]; cbv; try simp only [hc, hat, w2]; cbv; try simp only [hc, hat, w2]; cbv; try simp only [hc, hat, w2]; cbv) ?_
    refine goA 60 ?_
    refine loopP_next (d ++ [q], r, iAdd .i64 i 1) ⟨by simp [g1], hi2, gR⟩ (by simp) (ent_sub [.gone] [] ⟨trivial, trivial⟩ trivial ⟨.refl _, .refl _, .cl hcl, .cl hfn, trivial⟩)
  · have w2 : iNe fq 0 = true := by simp only [ee]; simpa using h2
    rw [if_pos h2] at gR
    refine goB hX 0 (by conv => lhs; cbv; try simp only [hc, hat, w2]; cbv; try simp only [hc, hat, w2]; cbv; try simp only [hc, hat, w2]; cbv; try simp only [hc, hat, w2]; cbv) ?_
    refine goB hX 1 (by conv => lhs; cbv; try simp only [hc, hat, w2]; cbv; try simp only [hc, hat, w2]; cbv; try simp only [hc, hat, w2]; cbv; try simp only [hc, hat, w2]; cbv) ?_
    refine oPA hq ?_
    refine goB hX 0 (by conv => lhs; cbv; try simp only [hc, hat, w2]; cbv; try simp only [hc, hat, w2]; cbv; try simp only [hc, hat, w2]; cbv; try simp only [hc, hat, w2]; cbv) ?_
    refine goA 60 ?_
    refine loopP_ret ?_
    refine goA 60 ?_
    refine fn_ret rfl rfl (.val ?_)
    exact congrArg (Value.int .i64) gR.symm
noncomputable def Ex.chk (e : Ex) : Int := if 64 < e.cnt then 5 else if 12 < e.dep then 12 else firstE Ex.nodeE e.nodes
theorem Ex.Sm.len' {e : Ex} (h : e.Sm) : e.args.length < 1048576 := by obtain ⟨o, a, v, f, k, x⟩ := e; exact h.len
theorem P_expr_Check (e : Ex) (hs : e.Sm) : PCall EE 39 [e.enc] (int e.chk) := by
 have h1 := P_expr_Size e hs
 have h2 := P_expr_visit 60 [] rfl Ex.nodeE e hs fun q hq => P_expr_node q (hs.node q hq).len'
 have hcl := Ex.closed e
 obtain ⟨R, hR⟩ : ∃ R, R = e.chk := ⟨_, rfl⟩
 rw [← hR]
 unfold Ex.chk at hR
 generalize firstE Ex.nodeE e.nodes = fe at *
 obtain ⟨eO, eA, eV, eF, eK, eXk, eXn, eXt, hx⟩ := Ex.form e
 rw [hx] at h1 h2 hcl ⊢
 generalize hn : (e.cnt : Int) = cn at *
 generalize hd : (e.dep : Int) = dn at *
 refine wordsN ?_; unhygienic intros
 refine fn_body (fn := Tryd.f39) (n := 18) (ac := Trydc39) (rvs := [.t 2]) rfl (by decide) Trydp39 rfl rfl rfl ?_
 refine goA 60 ?_
 refine oPA h1 ?_
 refine goA 0 ?_
 refine on_cond rfl (fun c1 => ?_) (fun c1 => ?_)
 ·
  simp [ee] at c1
  refine goA 60 ?_
  refine fn_ret rfl rfl (.val ?_)
  exact congrArg (Value.int .i64) (by rw [hR]; clear ee hX; grind)
 ·
  simp [ee] at c1
  refine goA 0 ?_
  refine on_cond rfl (fun c2 => ?_) (fun c2 => ?_)
  ·
   simp [ee] at c2
   refine goA 60 ?_
   refine fn_ret rfl rfl (.val ?_)
   exact congrArg (Value.int .i64) (by rw [hR]; clear ee hX; grind)
  ·
   simp [ee] at c2
   refine goA 60 ?_
   refine oPA h2 ?_
   refine goA 60 ?_
   refine fn_ret rfl rfl (.val ?_)
   exact congrArg (Value.int .i64) (by rw [hR]; clear ee hX; grind)
theorem P_expr_Same : ∀ x y : Ex, x.Sm → PCall EE 90 [x.enc, y.enc] (bool (eqB x y)) := by
 refine Ex.ind ?_
 intro o a v f k x ih y hs
 obtain ⟨o2, a2, v2, f2, k2, x2⟩ := y
 obtain ⟨xk, xn, xt⟩ := x
 obtain ⟨yk, yn, yt⟩ := x2
 have hlen := hs.len
 have hih : ∀ q ∈ a, ∀ q2, PCall EE 90 [q.enc, q2.enc] (bool (eqB q q2)) := fun q hq q2 => ih q hq q2 (hs.arg hq)
 have hcl := Ex.closedI a
 have hcl2 := Ex.closedI a2
 obtain ⟨R, hR⟩ : ∃ R, R = eqB (Ex.mk o a v f k ⟨xk, xn, xt⟩) (Ex.mk o2 a2 v2 f2 k2 ⟨yk, yn, yt⟩) := ⟨_, rfl⟩
 rw [← hR, Ex.enc_mk, Ex.enc_mk]
 clear ih hs
 refine wordsN ?_; unhygienic intros
 generalize hes : mapE Ex.enc a = es at *
 generalize hes2 : mapE Ex.enc a2 = es2 at *
 have hel : es.length = a.length := by rw [← hes, mapE_len]
 have hel2 : es2.length = a2.length := by rw [← hes2, mapE_len]
 refine fn_body (fn := Tryd.f90) (n := 67) (ac := Trydc90) (rvs := [.t 4]) rfl (by decide) Trydp90 rfl rfl rfl ?_
 refine goA 0 ?_
 refine on_cond rfl (fun c1 => ?_) (fun c1 => ?_)
 · simp [ee] at c1
   have hR : R = false := by
    rw [hR]; refine eqB_f fun h => ?_
    simp only [Ex.mk.injEq, Vl.mk.injEq] at h
    obtain ⟨rfl, rfl, rfl, rfl, rfl, rfl, rfl, rfl⟩ := h
    simp [hel, hel2] at c1
   refine goA 60 ?_
   refine fn_ret rfl rfl (.val ?_)
   exact congrArg Value.bool hR.symm
 simp [ee] at c1
 obtain ⟨⟨⟨⟨⟨h1, h2⟩, h3⟩, h4⟩, ⟨h5, h6, h7⟩⟩, h8⟩ := c1
 have h7 := bs_inj h7
 subst h1 h2 h3 h4 h5 h6 h7
 have hl8 : a.length = a2.length := by omega
 have hR : R = eqB a a2 := by
  rw [hR]
  by_cases h : a = a2
  · rw [h, eqB_t rfl, eqB_t rfl]
  · rw [eqB_f h, eqB_f (by simp [h])]
 refine goA 60 ?_
 refine on_loopP (ι := List Ex × List Ex × List Ex × List Ex × Int) (fun p => ([(51, int p.2.2.2.2), (50, int (lenA es)), (2, .ptr 0 0), (3, .ptr 1 0)], [.cells [int o, .isl 8 es, int v, int f, int k, int xk, int xn, str xt], .cells [int o, .isl 8 es2, int v, int f, int k, int xk, int xn, str xt]])) (fun p => a = p.1 ++ p.2.1 ∧ a2 = p.2.2.1 ++ p.2.2.2.1 ∧ p.2.2.2.2 = p.1.length ∧ p.1 = p.2.2.1) (fun p => p.2.1.length) ([], a, [], a2, 0) ⟨rfl, rfl, rfl, rfl⟩ ?_ ?_
 · exact (ent_sub [.to 0, .to 1] [some 0, some 1] ⟨⟨by simp, rfl⟩, ⟨by simp, rfl⟩, trivial⟩ ⟨osrc_cells (b := 0) rfl rfl rfl ⟨.refl _, .cl hcl, .refl _, .refl _, .refl _, .refl _, .refl _, .refl _, trivial⟩, osrc_cells (b := 1) rfl rfl rfl ⟨.refl _, .cl hcl2, .refl _, .refl _, .refl _, .refl _, .refl _, .refl _, trivial⟩, trivial⟩ ⟨.refl _, .refl _, .refl _, .refl _, trivial⟩)
 rintro ⟨d, r, d2, r2, i⟩ ⟨g1, g2, gi, gd⟩
 dsimp only at g1 g2 gi gd ⊢
 subst gd
 cases r with
 | nil =>
  have L1 := len_split g1
  try simp only [List.length] at L1
  have hc : iLt i (lenA es) = false := lt_f e_iLt e_lenA (by omega)
  have L2 := len_split g2
  try simp only [List.length] at L2
  have hr2 : r2 = [] := List.length_eq_zero_iff.1 (by omega)
  have hR : R = true := by rw [hR]; exact eqB_t (by rw [g1, g2, hr2])
  refine goB hX 0 (by conv => lhs; cbv; try simp only [hc]; cbv; try simp only [hc]; cbv; try simp only [hc]; cbv; try simp only [hc]; cbv) ?_
  refine goA 60 ?_
  refine loopP_exit ?_
  refine goA 60 ?_
  refine fn_ret rfl rfl (.val ?_)
  exact congrArg Value.bool hR.symm
 | cons q r =>
  have L1 := len_split g1
  try simp only [List.length] at L1
  have hc : iLt i (lenA es) = true := lt_t e_iLt e_lenA (by omega)
  have hat := el_at e_atA hes g1 gi
  have L2 := len_split g2
  try simp only [List.length] at L2
  cases r2 with
  | nil => exfalso; simp at L2; omega
  | cons q2 r2 =>
   have hat2 := el_at e_atA hes2 g2 gi
   have hq := hih q (by rw [g1]; simp) q2
   have hqc := Ex.closed q
   have hqc2 := Ex.closed q2
   obtain ⟨qO, qA, qV, qF, qK, qXk, qXn, qXt, hx⟩ := Ex.form q
   obtain ⟨q2O, q2A, q2V, q2F, q2K, q2Xk, q2Xn, q2Xt, hx2⟩ := Ex.form q2
   rw [hx, hx2] at hq
   rw [hx] at hat hqc
   rw [hx2] at hat2 hqc2
   have hi2 : iAdd .i64 i 1 = ((d ++ [q]).length : Int) := by rw [List.length_append]; exact inc_w e_iAdd gi (by omega)
   by_cases hqq : q = q2
   · rw [eqB_t hqq] at hq
     have hn : bNot true = false := by simp [ee]
     refine goB hX 0 (by conv => lhs; cbv; try simp only [hc, hat, hat2, hn]; cbv; try simp only [hc, hat, hat2, hn]; cbv; try simp only [hc, hat, hat2, hn]; cbv; try simp only [hc, hat, hat2, hn]; cbv) ?_
     refine goB hX 1 (by conv => lhs; cbv; try simp only [hc, hat, hat2, hn]; cbv; try simp only [hc, hat, hat2, hn]; cbv; try simp only [hc, hat, hat2, hn]; cbv; try simp only [hc, hat, hat2, hn]; cbv) ?_
     refine tr_drawB rfl (by conv => lhs; cbv) rfl ?_
     refine tgB hX (by conv => lhs; cbv; try simp only [hc, hat, hat2, hn]; cbv; try simp only [hc, hat, hat2, hn]; cbv; try simp only [hc, hat, hat2, hn]; cbv; try simp only [hc, hat, hat2, hn]; cbv) ?_
     refine oPT hq ?_
     refine tgA ?_
     refine tr_nil ⟨rfl, ?_, ?_⟩
     · simp only [LooksL, lookAll, List.cons_append, List.nil_append, List.append_nil]; and_intros <;> first | trivial | (intro hp; first | rfl | exact absurd (show false = true from hp) Bool.false_ne_true)
     refine goB hX 0 (by conv => lhs; cbv; try simp only [hc, hat, hat2, hn]; cbv; try simp only [hc, hat, hat2, hn]; cbv; try simp only [hc, hat, hat2, hn]; cbv; try simp only [hc, hat, hat2, hn]; cbv) ?_
     refine goA 60 ?_
     refine loopP_next (d ++ [q], r, d ++ [q2], r2, iAdd .i64 i 1) ⟨by simp [g1], by simp [g2], hi2, by simp [hqq]⟩ (by simp) (ent_sub [.to 0, .to 1] [some 0, some 1] ⟨⟨by simp, rfl⟩, ⟨by simp, rfl⟩, trivial⟩ ⟨osrc_cells (b := 0) rfl rfl rfl ⟨.refl _, .cl hcl, .refl _, .refl _, .refl _, .refl _, .refl _, .refl _, trivial⟩, osrc_cells (b := 1) rfl rfl rfl ⟨.refl _, .cl hcl2, .refl _, .refl _, .refl _, .refl _, .refl _, .refl _, trivial⟩, trivial⟩ ⟨.refl _, .refl _, .refl _, .refl _, trivial⟩)
   · rw [eqB_f hqq] at hq
     have hn : bNot false = true := by simp [ee]
     have hR : R = false := by rw [hR]; exact eqB_f (by rw [g1, g2]; simp [hqq])
     refine goB hX 0 (by conv => lhs; cbv; try simp only [hc, hat, hat2, hn]; cbv; try simp only [hc, hat, hat2, hn]; cbv; try simp only [hc, hat, hat2, hn]; cbv; try simp only [hc, hat, hat2, hn]; cbv) ?_
     refine goB hX 1 (by conv => lhs; cbv; try simp only [hc, hat, hat2, hn]; cbv; try simp only [hc, hat, hat2, hn]; cbv; try simp only [hc, hat, hat2, hn]; cbv; try simp only [hc, hat, hat2, hn]; cbv) ?_
     refine tr_drawB rfl (by conv => lhs; cbv) rfl ?_
     refine tgB hX (by conv => lhs; cbv; try simp only [hc, hat, hat2, hn]; cbv; try simp only [hc, hat, hat2, hn]; cbv; try simp only [hc, hat, hat2, hn]; cbv; try simp only [hc, hat, hat2, hn]; cbv) ?_
     refine oPT hq ?_
     refine tgA ?_
     refine tr_nil ⟨rfl, ?_, ?_⟩
     · simp only [LooksL, lookAll, List.cons_append, List.nil_append, List.append_nil]; and_intros <;> first | trivial | (intro hp; first | rfl | exact absurd (show false = true from hp) Bool.false_ne_true)
     refine goB hX 0 (by conv => lhs; cbv; try simp only [hc, hat, hat2, hn]; cbv; try simp only [hc, hat, hat2, hn]; cbv; try simp only [hc, hat, hat2, hn]; cbv; try simp only [hc, hat, hat2, hn]; cbv) ?_
     refine goA 60 ?_
     refine loopP_ret ?_
     refine goA 60 ?_
     refine fn_ret rfl rfl (.val ?_)
     exact congrArg Value.bool hR.symm
theorem P_pattern_Size : ∀ p : Pat, p.Sm → PCall EE 7 [p.enc] (.tup [int p.cnt, int p.dep]) := by
 refine Pat.ind ?_
 intro o a t v s n c ih hs
 obtain ⟨co, ca, cv, cf, ck, cx⟩ := c
 have hlen := hs.len
 have hih : ∀ q ∈ a, PCall EE 7 [q.enc] (.tup [int q.cnt, int q.dep]) := fun q hq => ih q hq (hs.arg hq)
 have hcl := Pat.closedI a
 have hcnt := hs.1
 simp only [Pat.cnt] at hcnt
 have hde := fun q : Pat => Pat.dep_le q
 simp only [Pat.cnt, Pat.dep]
 rw [Pat.enc_mk]
 refine wordsN ?_; unhygienic intros
 generalize hes : mapE Pat.enc a = es at *
 have hel : es.length = a.length := by rw [← hes, mapE_len]
 generalize mapE Ex.enc ca = ec
 refine fn_body (fn := Tryd.f7) (n := 32) (ac := Trydc7) (rvs := [.t 2, .t 3]) rfl (by decide) Trydp7 rfl rfl rfl ?_
 refine goA 60 ?_
 refine on_loopP (ι := List Pat × List Pat × Int × Int × Int) (fun p => ([(5, int p.2.2.2.2), (4, int p.2.2.2.1), (13, int p.2.2.1), (12, int (lenA es)), (11, .isl 14 es)], [])) (fun p => a = p.1 ++ p.2.1 ∧ p.2.2.1 = p.1.length ∧ p.2.2.2.1 = 1 + Pat.cntL p.1 ∧ Pat.depL 0 a = Pat.depL p.2.2.2.2.toNat p.2.1 ∧ 0 ≤ p.2.2.2.2 ∧ p.2.2.2.2 ≤ 1048576) (fun p => p.2.1.length) ([], a, 0, 1, 0) ⟨rfl, rfl, rfl, rfl, by simp⟩ ?_ ?_
 · exact (ent_sub [.gone] [] ⟨trivial, trivial⟩ trivial ⟨.refl _, .refl _, .refl _, .refl _, .cl hcl, trivial⟩)
 rintro ⟨d, r, i, nn, dd⟩ ⟨g1, gi, gn, gd, gb⟩
 dsimp only at g1 gi gn gd gb ⊢
 cases r with
 | nil =>
  have L1 := len_split g1
  try simp only [List.length] at L1
  have hc : iLt i (lenA es) = false := lt_f e_iLt e_lenA (by omega)
  rw [List.append_nil] at g1
  rw [gd, Pat.depL, g1]
  have ha1 : iAdd .i64 dd 1 = ((dd.toNat + 1 : Nat) : Int) := by rw [add_w e_iAdd (by omega) (by omega)]; omega
  have hn : nn = ((1 + Pat.cntL d : Nat) : Int) := by omega
  refine goB hX 0 (by conv => lhs; cbv; try simp only [hc]; cbv; try simp only [hc]; cbv; try simp only [hc]; cbv; try simp only [hc]; cbv) ?_
  refine goA 60 ?_
  refine loopP_exit ?_
  refine goA 60 ?_
  refine fn_ret rfl rfl ?_
  exact ⟨[], trivial, .tup' ⟨.of (congrArg int hn), .of (congrArg int ha1), trivial⟩⟩
 | cons q r =>
  have L1 := len_split g1
  try simp only [List.length] at L1
  have hc : iLt i (lenA es) = true := lt_t e_iLt e_lenA (by omega)
  have hat := el_at e_atA hes g1 gi
  have hq := hih q (by rw [g1]; simp)
  have hqc := Pat.closed q
  have hqd := hde q
  rw [g1, Pat.cntL_append, Pat.cntL] at hcnt
  obtain ⟨qO, qA, qT, qV, qS, qN, qCo, qCa, qCv, qCf, qCk, qXk, qXn, qXt, hx⟩ := Pat.form q
  rw [hx] at hq hat hqc
  generalize hqn : (q.cnt : Int) = qn at hq
  generalize hqp : (q.dep : Int) = qp at hq
  have hn2 : iAdd .i64 nn qn = 1 + Pat.cntL (d ++ [q]) := by rw [Pat.cntL_append, Pat.cntL, Pat.cntL, add_w e_iAdd (by omega) (by omega)]; omega
  have hi2 : iAdd .i64 i 1 = ((d ++ [q]).length : Int) := by rw [List.length_append]; exact inc_w e_iAdd gi (by omega)
  have hd2 : iMax dd qp = ((max dd.toNat q.dep : Nat) : Int) := by simp only [ee]; split <;> omega
  refine goB hX 0 (by conv => lhs; cbv; try simp only [hc, hat]; cbv; try simp only [hc, hat]; cbv; try simp only [hc, hat]; cbv; try simp only [hc, hat]; cbv) ?_
  refine goB hX 1 (by conv => lhs; cbv; try simp only [hc, hat]; cbv; try simp only [hc, hat]; cbv; try simp only [hc, hat]; cbv; try simp only [hc, hat]; cbv) ?_
  refine oPA hq ?_
  refine goA 60 ?_
  refine loopP_next (d ++ [q], r, iAdd .i64 i 1, iAdd .i64 nn qn, iMax dd qp) ⟨by simp [g1], hi2, hn2, by rw [gd, hd2, Pat.depL]; rfl, by show 0 ≤ iMax dd qp; omega, by show iMax dd qp ≤ 1048576; omega⟩ (by simp) (ent_sub [.gone] [] ⟨trivial, trivial⟩ trivial ⟨.refl _, .refl _, .refl _, .refl _, .cl hcl, trivial⟩)
theorem enters_pattern_walk : Enters EE.P 62 := enters_of (fn := Tryd.f62) (n := 23) (ac := Trydc62) rfl (by decide) Trydp62
theorem enters_pattern_preorder_1 : Enters EE.P 61 := enters_of (fn := Tryd.f61) (n := 6) (ac := Trydc61) rfl (by decide) Trydp61
theorem C_walk (A0 A1 A2 A3 A4 A5 A6 : List Pat → AObj) (Lp : AObj) (C0 C1 : List Pat → AObj) (G : List Pat → Prop) (S : AHeap → Prop) (hb : ∀ d, ∀ o ∈ [A0 d, A1 d, A2 d, A3 d, A4 d, A5 d, A6 d, Lp, C0 d, C1 d], Keeps o) :
 ∀ p : Pat, p.Sm → ∀ (pre all : List Pat) (H0 : AHeap), HEnt EE 8 7 H0 [A0 pre, A1 pre, A2 pre, A3 pre, A4 pre, A5 pre, A6 pre, Lp, C0 pre, C1 pre] → (∃ post, all = pre ++ (p.nodes ++ post)) → G pre →
  (∀ d q r, all = d ++ q :: r → G d → AYield EE 7 [q.enc] [A0 d, A1 d, A2 d, A3 d, A4 d, A5 d, A6 d, Lp, C0 d, C1 d] (YdR EE (G (d ++ [q])) [A0 (d ++ [q]), A1 (d ++ [q]), A2 (d ++ [q]), A3 (d ++ [q]), A4 (d ++ [q]), A5 (d ++ [q]), A6 (d ++ [q]), Lp, C0 (d ++ [q]), C1 (d ++ [q])] S)) →
  ACallN EE 8 62 [p.enc, .yld 7] H0 (WkR (G (pre ++ p.nodes)) [A0 (pre ++ p.nodes), A1 (pre ++ p.nodes), A2 (pre ++ p.nodes), A3 (pre ++ p.nodes), A4 (pre ++ p.nodes), A5 (pre ++ p.nodes), A6 (pre ++ p.nodes), Lp, C0 (pre ++ p.nodes), C1 (pre ++ p.nodes)] S) := by
 refine Pat.ind ?_
 intro o a t v s n c ih hs pre all H0 h0 hpost hG hy
 have hlen := hs.len
 obtain ⟨post, hall⟩ := hpost
 rw [Pat.nodes, List.cons_append] at hall
 have hyp := hy pre _ _ hall hG
 obtain ⟨pp, hpp⟩ : ∃ pp, pp = Pat.mk o a t v s n c := ⟨_, rfl⟩
 rw [← hpp] at hall hyp
 have hnod : (Pat.mk o a t v s n c).nodes = pp :: Pat.nodesL a := by rw [Pat.nodes, hpp]
 rw [hnod]
 have hpc := Pat.closed pp
 have hpe : pp.enc = (Pat.mk o a t v s n c).enc := by rw [hpp]
 have hih : ∀ q ∈ a, _ := fun q hq => ih q hq (hs.arg hq)
 have hcl := Pat.closedI a
 have hcL := Pat.closedL a
 obtain ⟨co, ca, cv, cf, ck, xk, xn, xt⟩ := c
 rw [Pat.enc_mk] at hpe ⊢
 dsimp only at hpe ⊢
 rw [hpe] at hyp hpc
 clear ih hpp hpe hs hnod
 refine wordsN ?_; unhygienic intros
 generalize hes : mapE Pat.enc a = es at *
 generalize mapE Ex.enc ca = ec at *
 have hel : es.length = a.length := by rw [← hes, mapE_len]
 have hpcl : AV.closedL [int o, .isl 14 es, int t, int v, int s, int n, int co, .isl 8 ec, int cv, int cf, int ck, int xk, int xn, str xt] = true := hpc
 have hnt : bNot true = false := by simp [ee]
 have hnf : bNot false = true := by simp [ee]
 have hd : ∀ d, ∀ o ∈ [A0 d, A1 d, A2 d, A3 d, A4 d, A5 d, A6 d, Lp, C0 d, C1 d], o.sub (keepS 10) = o := fun d => keeps_drop rfl (hb d)
 have hip : (AV.iptr [int o, .isl 14 es, int t, int v, int s, int n, int co, .isl 8 ec, int cv, int cf, int ck, int xk, int xn, str xt]).closed = true := hpc
 refine rcallN_body (fn := Tryd.f62) (n := 23) (ac := Trydc62) (rvs := [.t 4]) rfl Trydp62 rfl rfl rfl ?_
 refine on_ent (h0.ent (F' := [(0, .agg [int o, .isl 14 es, int t, int v, int s, int n, int co, .isl 8 ec, int cv, int cf, int ck, int xk, int xn, str xt]), (1, .yld 7)]) ⟨.cl hpc, .refl _, trivial⟩) ?_
 have hyall : ∀ d q r, pre ++ pp :: (Pat.nodesL a ++ post) = d ++ q :: r → G d → _ := fun d q r h hg => hy d q r (hall.trans h) hg
 refine goA 0 ?_
 refine on_fz10 (F' := [(8, .agg [int o, .isl 14 es, int t, int v, int s, int n, int co, .isl 8 ec, int cv, int cf, int ck, int xk, int xn, str xt]), (7, .yld 7), (2, .iptr [int o, .isl 14 es, int t, int v, int s, int n, int co, .isl 8 ec, int cv, int cf, int ck, int xk, int xn, str xt]), (1, .yld 7)]) (hb pre) hpcl ⟨.cl hpc, .refl _, .refl _, .refl _, trivial⟩ ?_
 refine on_callv rfl rfl rfl rfl hyp ?_
 rintro v1 H1 (⟨rfl, hG1, he⟩ | ⟨rfl, hS⟩)
 rotate_left
 · refine goB hX 1 (by conv => lhs; cbv; try simp only [hnf]; cbv; try simp only [hnf]; cbv; try simp only [hnf]; cbv; try simp only [hnf]; cbv) ?_
   exact o_ret (.refl _ _ _ _ _) rfl (.inr ⟨rfl, hS⟩)
 refine on_entO (he.ent (F' := [(9, .val (.bool true)), (2, .iptr [int o, .isl 14 es, int t, int v, int s, int n, int co, .isl 8 ec, int cv, int cf, int ck, int xk, int xn, str xt]), (1, .yld 7)]) ⟨.refl _, .cl hip, .refl _, trivial⟩) ?_
 refine goB hX 0 (by conv => lhs; cbv; try simp only [hnt]; cbv; try simp only [hnt]; cbv; try simp only [hnt]; cbv; try simp only [hnt]; cbv) ?_
 refine goA 60 ?_
 refine on_loopP (ι := List Pat × List Pat × Int × List Pat) (fun p => ([(14, int p.2.2.1), (13, int (lenA es)), (12, .isl 14 es), (1, .yld 7)], [A0 p.2.2.2, A1 p.2.2.2, A2 p.2.2.2, A3 p.2.2.2, A4 p.2.2.2, A5 p.2.2.2, A6 p.2.2.2, Lp, C0 p.2.2.2, C1 p.2.2.2])) (fun p => a = p.1 ++ p.2.1 ∧ p.2.2.1 = p.1.length ∧ p.2.2.2 = pre ++ pp :: Pat.nodesL p.1 ∧ G p.2.2.2) (fun p => p.2.1.length) ([], a, 0, pre ++ [pp]) ⟨rfl, rfl, by simp [Pat.nodesL], hG1⟩ ?_ ?_
 · exact ent_fw ⟨.refl _, .refl _, .refl _, .refl _, trivial⟩
 rintro ⟨d, r, i, x⟩ ⟨g1, gi, gx, gG⟩
 dsimp only at g1 gi gx gG ⊢
 cases r with
 | nil =>
  have L1 := len_split g1
  try simp only [List.length] at L1
  have hc : iLt i (lenA es) = false := lt_f e_iLt e_lenA (by omega)
  rw [List.append_nil] at g1
  refine goB hX 1 (by conv => lhs; cbv; try simp only [hc]; cbv; try simp only [hc]; cbv; try simp only [hc]; cbv; try simp only [hc]; cbv) ?_
  refine loopP_exit ?_
  refine goA 60 ?_
  exact o_ret (.refl _ _ _ _ _) rfl (.inl ⟨rfl, by rw [g1, ← gx]; exact gG, by rw [g1, gx]⟩)
 | cons q r =>
  have L1 := len_split g1
  try simp only [List.length] at L1
  have hc : iLt i (lenA es) = true := lt_t e_iLt e_lenA (by omega)
  have hat := el_at e_atA hes g1 gi
  have hq := hih q (by rw [g1]; simp) x (pre ++ pp :: (Pat.nodesL a ++ post)) [A0 x, A1 x, A2 x, A3 x, A4 x, A5 x, A6 x, Lp, C0 x, C1 x] (HEnt.refl (by simp)) ⟨Pat.nodesL r ++ post, by rw [gx, g1, Pat.nodesL_append]; simp [Pat.nodesL]⟩ gG hyall
  have hqc := Pat.closed q
  have hi2 : iAdd .i64 i 1 = ((d ++ [q]).length : Int) := by rw [List.length_append]; exact inc_w e_iAdd gi (by omega)
  have hx2 : x ++ q.nodes = pre ++ pp :: Pat.nodesL (d ++ [q]) := by rw [gx, Pat.nodesL_append]; simp [Pat.nodesL]
  obtain ⟨qO, qA, qT, qV, qS, qN, qCo, qCa, qCv, qCf, qCk, qXk, qXn, qXt, hx⟩ := Pat.form q
  rw [hx] at hat hqc hq
  generalize hXx : x ++ q.nodes = X at hq hx2
  refine goB hX 1 (by conv => lhs; cbv; try simp only [hc, hat]; cbv; try simp only [hc, hat]; cbv; try simp only [hc, hat]; cbv; try simp only [hc, hat]; cbv) ?_
  refine on_drop (H := [A0 x, A1 x, A2 x, A3 x, A4 x, A5 x, A6 x, Lp, C0 x, C1 x]) (X := [_]) (F' := [(18, .agg [int qO, .isl 14 qA, int qT, int qV, int qS, int qN, int qCo, .isl 8 qCa, int qCv, int qCf, int qCk, int qXk, int qXn, str qXt]), (19, .yld 7), (14, int i), (13, int (lenA es)), (12, .isl 14 es), (1, .yld 7)]) (hd x) (by simp) ⟨.cl hqc, .refl _, .refl _, .refl _, .cl hcl, .refl _, trivial⟩ ?_
  refine on_callN (F2 := [(14, int i), (13, int (lenA es)), (12, .isl 14 es), (1, .yld 7)]) rfl rfl rfl enters_pattern_walk hq ⟨.refl _, .refl _, .cl hcl, .refl _, trivial⟩ ?_
  rintro v2 H2 (⟨rfl, hG2, rfl⟩ | ⟨rfl, hS⟩)
  · refine goB hX 1 (by conv => lhs; cbv; try simp only [hnt]; cbv; try simp only [hnt]; cbv; try simp only [hnt]; cbv; try simp only [hnt]; cbv) ?_
    exact loopP_next (d ++ [q], r, iAdd .i64 i 1, X) ⟨by simp [g1], hi2, hx2, hG2⟩ (by simp) (ent_fw ⟨.refl _, .refl _, .refl _, .refl _, trivial⟩)
  · refine goB hX 1 (by conv => lhs; cbv; try simp only [hnf]; cbv; try simp only [hnf]; cbv; try simp only [hnf]; cbv; try simp only [hnf]; cbv) ?_
    refine loopP_ret ?_
    refine goA 60 ?_
    exact o_ret (.refl _ _ _ _ _) rfl (.inr ⟨rfl, hS⟩)
theorem C_preorder1 (A0 A1 A2 A3 A4 A5 A6 : List Pat → AObj) (Lp : AObj) (C0 C1 : List Pat → AObj) (G : List Pat → Prop) (S : AHeap → Prop) (hb : ∀ d, ∀ o ∈ [A0 d, A1 d, A2 d, A3 d, A4 d, A5 d, A6 d, Lp, C0 d, C1 d], Keeps o)
 (p : Pat) (hs : p.Sm) {cs : List AV} (hp : p.enc = .agg cs) (H0 : AHeap) (hN : H0.length = 8) (h0 : HEnt EE 8 7 H0 [A0 [], A1 [], A2 [], A3 [], A4 [], A5 [], A6 [], Lp, C0 [], C1 []]) (hG : G [])
  (hy : ∀ d q r, p.nodes = d ++ q :: r → G d → AYield EE 7 [q.enc] [A0 d, A1 d, A2 d, A3 d, A4 d, A5 d, A6 d, Lp, C0 d, C1 d] (YdR EE (G (d ++ [q])) [A0 (d ++ [q]), A1 (d ++ [q]), A2 (d ++ [q]), A3 (d ++ [q]), A4 (d ++ [q]), A5 (d ++ [q]), A6 (d ++ [q]), Lp, C0 (d ++ [q]), C1 (d ++ [q])] S)) :
  ACall EE 61 [.yld 7, .iptr cs] H0 (fun _ H1 => (G p.nodes ∧ H1 = [A0 p.nodes, A1 p.nodes, A2 p.nodes, A3 p.nodes, A4 p.nodes, A5 p.nodes, A6 p.nodes, Lp, C0 p.nodes, C1 p.nodes]) ∨ S H1) := by
 have hw := C_walk A0 A1 A2 A3 A4 A5 A6 Lp C0 C1 G S hb p hs [] p.nodes H0 h0 ⟨[], by simp⟩ hG hy
 rw [List.nil_append] at hw
 have hpc := Pat.closed p
 obtain ⟨pO, pA, pT, pV, pS, pN, pCo, pCa, pCv, pCf, pCk, pXk, pXn, pXt, hx⟩ := Pat.form p
 rw [hx] at hp hw hpc
 injection hp with hp
 subst hp
 generalize p.nodes = nl at *
 clear hy h0
 have hip : (AV.iptr [int pO, .isl 14 pA, int pT, int pV, int pS, int pN, int pCo, .isl 8 pCa, int pCv, int pCf, int pCk, int pXk, int pXn, str pXt]).closed = true := hpc
 refine wordsN ?_; unhygienic intros
 refine rcall_body (fn := Tryd.f61) (n := 6) (ac := Trydc61) (rvs := []) rfl Trydp61 rfl rfl rfl ?_
 rw [hN]
 refine goA 0 ?_
 refine on_callN (F2 := []) rfl rfl rfl enters_pattern_walk hw trivial ?_
 rintro v2 H2 (⟨rfl, hG2, rfl⟩ | ⟨rfl, hS⟩)
 · refine goA 0 ?_
   exact o_norm (.refl _ _ _ _ _) rfl (.inl ⟨hG2, rfl⟩)
 · refine goA 0 ?_
   exact o_norm (.refl _ _ _ _ _) rfl (.inr hS)
theorem P_preorder (p : Pat) {cs : List AV} (hp : p.enc = .agg cs) : PCall EE 43 [.agg cs] (.fn 61 [.iptr cs]) := by
 have hpc := Pat.closed p
 obtain ⟨pO, pA, pT, pV, pS, pN, pCo, pCa, pCv, pCf, pCk, pXk, pXn, pXt, hx⟩ := Pat.form p
 rw [hx] at hp hpc
 injection hp with hp
 subst hp
 have hcl : AV.closedL [int pO, .isl 14 pA, int pT, int pV, int pS, int pN, int pCo, .isl 8 pCa, int pCv, int pCf, int pCk, int pXk, int pXn, str pXt] = true := hpc
 refine wordsN ?_; unhygienic intros
 refine fn_body (fn := Tryd.f43) (n := 4) (ac := Trydc43) (rvs := [.t 2]) rfl (by decide) Trydp43 rfl rfl rfl ?_
 refine goA 0 ?_
 refine fn_ret rfl rfl ⟨[.icells [int pO, .isl 14 pA, int pT, int pV, int pS, int pN, int pCo, .isl 8 pCa, int pCv, int pCf, int pCk, int pXk, int pXn, str pXt]], ⟨⟨_, rfl, (subL_closed _ hcl).symm⟩, trivial⟩, .of rfl⟩
theorem on_preorder {n N : Nat} {Q : AExit → AFr → AHeap → Prop} {k : List KI} {F : AFr} {f : Opd} {ps : List Nat} {a b : ACode} {o0 o1 o2 o3 o4 o5 o6 : AObj} (A0 A1 A2 A3 A4 A5 A6 C0 C1 : List Pat → AObj) (G : List Pat → Prop) (p : Pat) (hs : p.Sm) {cs : List AV} (hp : p.enc = .agg cs)
 (hf : f.ev EE.G F = .fn 61 [.iptr cs]) (hps : ps.length = 1) (hF : FK F) (hG : G [])
 (h0 : HEnt EE 8 7 [o0, o1, o2, o3, o4, o5, o6, .loop F n ps a b .ready none] [A0 [], A1 [], A2 [], A3 [], A4 [], A5 [], A6 [], .loop F n ps a b .ready none, C0 [], C1 []])
 (k0 : ∀ d, Keeps (A0 d)) (k1 : ∀ d, Keeps (A1 d)) (k2 : ∀ d, Keeps (A2 d)) (k3 : ∀ d, Keeps (A3 d)) (k4 : ∀ d, Keeps (A4 d)) (k5 : ∀ d, Keeps (A5 d)) (k6 : ∀ d, Keeps (A6 d)) (k8 : ∀ d, Keeps (C0 d)) (k9 : ∀ d, Keeps (C1 d))
 (hend : G p.nodes → Holds EE n N Q (.out .normal) k F [A0 p.nodes, A1 p.nodes, A2 p.nodes, A3 p.nodes, A4 p.nodes, A5 p.nodes, A6 p.nodes, .dead, C0 p.nodes, C1 p.nodes])
 (hy : ∀ d q r, p.nodes = d ++ q :: r → G d → Holds EE n 10 (AssignQ EE 7 10 F n ps a b (YdR EE (G (d ++ [q])) [A0 (d ++ [q]), A1 (d ++ [q]), A2 (d ++ [q]), A3 (d ++ [q]), A4 (d ++ [q]), A5 (d ++ [q]), A6 (d ++ [q]), .loop F n ps a b .ready none, C0 (d ++ [q]), C1 (d ++ [q])] (StopS EE n N Q k F ps a b))) (.code a) [] (bindF F ps [q.enc])
  [A0 d, A1 d, A2 d, A3 d, A4 d, A5 d, A6 d, .loop F n ps a b .ready none, C0 d, C1 d]) :
 Holds EE n N Q (.code (.rfun f ps a b)) k F [o0, o1, o2, o3, o4, o5, o6] := by
 refine on_rfun hf enters_pattern_preorder_1 ?_
 refine ACall.mono (C_preorder1 A0 A1 A2 A3 A4 A5 A6 (.loop F n ps a b .ready none) C0 C1 G (StopS EE n N Q k F ps a b) (fun d o ho => ?_) p hs hp _ rfl h0 hG (fun d q r h hg => yield_round (l := 7) rfl hps (hy d q r h hg))) ?_
 · simp only [List.mem_cons, List.not_mem_nil, or_false] at ho
   rcases ho with rfl | rfl | rfl | rfl | rfl | rfl | rfl | rfl | rfl | rfl
   · exact k0 d
   · exact k1 d
   · exact k2 d
   · exact k3 d
   · exact k4 d
   · exact k5 d
   · exact k6 d
   · exact .loop hF
   · exact k8 d
   · exact k9 d
 · rintro v H1 (⟨hg, rfl⟩ | ⟨e, h1, h2⟩)
   · exact ⟨.ready, none, rfl, by simp, hend hg⟩
   · exact ⟨.done, some e, h1, by simp, h2⟩
def leastF (o : Int) : Int := if o = 0 then 0 else if o = 1 ∨ o = 2 ∨ o = 3 ∨ o = 8 then 2 else 1
def mostF (o : Int) : Int := if o = 0 then 0 else if o = 1 ∨ o = 2 ∨ o = 3 then 64 else if o = 8 then 2 else 1
def typedF (o : Int) : Bool := decide (o = 0 ∨ o = 5 ∨ o = 9)
def condF (o : Int) : Bool := decide (o = 0 ∨ o = 5 ∨ o = 7 ∨ o = 9)
def scopeF (o : Int) : Bool := decide (o = 5 ∨ o = 6 ∨ o = 9 ∨ o = 10)
def spanF (o : Int) : Bool := decide (o = 6 ∨ o = 10)
theorem shape_row {o : Int} (h0 : 0 ≤ o) (h1 : o < 11) : Wd.rowA (Classical.choice tabBox_ne).g o 6 = [int (leastF o), int (mostF o), bool (typedF o), bool (condF o), bool (scopeF o), bool (spanF o)] := by
 rw [(Classical.choice tabBox_ne).h]
 obtain ⟨n, rfl⟩ : ∃ n : Nat, o = n := ⟨o.toNat, by omega⟩
 have : n < 11 := by omega
 match n, this with
 | 0, _ | 1, _ | 2, _ | 3, _ | 4, _ | 5, _ | 6, _ | 7, _ | 8, _ | 9, _ | 10, _ => rfl
theorem P_within (u : Bool) (n m : Int) : PCall EE 89 [bool u, int n, int m] (bool (decide (u = false ∨ (0 ≤ n ∧ n ≤ m)))) := by
 obtain ⟨R, hR⟩ : ∃ R, R = decide (u = false ∨ (0 ≤ n ∧ n ≤ m)) := ⟨_, rfl⟩
 rw [← hR]
 refine wordsN ?_; unhygienic intros
 refine fn_body (fn := Tryd.f89) (n := 18) (ac := Trydc89) (rvs := [.t 6]) rfl (by decide) Trydp89 rfl rfl rfl ?_
 refine goA 0 ?_
 refine nsB hX (by conv => lhs; cbv) ?_
 refine goA 60 ?_
 refine fn_ret rfl rfl (.val ?_)
 exact congrArg Value.bool (by rw [hR, Bool.eq_iff_iff]; simp [ee])
theorem P_unused (u : Bool) (n : Int) : PCall EE 91 [bool u, int n] (bool (decide (u = true ∨ n = 0))) := by
 obtain ⟨R, hR⟩ : ∃ R, R = decide (u = true ∨ n = 0) := ⟨_, rfl⟩
 rw [← hR]
 refine wordsN ?_; unhygienic intros
 refine fn_body (fn := Tryd.f91) (n := 10) (ac := Trydc91) (rvs := [.t 4]) rfl (by decide) Trydp91 rfl rfl rfl ?_
 refine goA 60 ?_
 refine fn_ret rfl rfl (.val ?_)
 exact congrArg Value.bool (by rw [hR, Bool.eq_iff_iff]; simp [ee])
def Ex0 : Ex := .mk 0 [] 0 0 0 Vl0
noncomputable def Pat.nodeE (p : Pat) : Int := open Classical in
 if p.op < 0 ∨ 11 ≤ p.op then 1
 else if (p.args.length : Int) < leastF p.op ∨ mostF p.op < p.args.length then 15
 else if (typedF p.op = true ∧ (p.ty < 0 ∨ 15 < p.ty ∨ p.var < 0 ∨ 15 < p.var)) ∨ (scopeF p.op = true ∧ (p.scope < 0 ∨ 63 < p.scope)) ∨ (spanF p.op = true ∧ (p.span < 0 ∨ 1099511627776 < p.span)) then 2
 else if condF p.op = true ∧ p.cond.chk ≠ 0 then p.cond.chk
 else if (condF p.op = false ∧ p.cond ≠ Ex0) ∨ (typedF p.op = false ∧ (p.ty ≠ 0 ∨ p.var ≠ 0)) ∨ (scopeF p.op = false ∧ p.scope ≠ 0) ∨ (spanF p.op = false ∧ p.span ≠ 0) then 3
 else 0
theorem Ex0.enc_eq : Ex0.enc = .agg [int 0, .isl 8 [], int 0, int 0, int 0, int 0, int 0, str ⟨#[]⟩] := by
 rw [Ex0, Ex.enc_mk, mapE_eq]; rfl
theorem nil_ex0 : WkL 0 [.agg [int 0, .val (.slice none 0 0), int 0, int 0, int 0, int 0, int 0, str ⟨#[]⟩]] [Ex0.enc] := by
 rw [Ex0.enc_eq]
 exact ⟨.agg' ⟨.refl _, .nilI 8, .refl _, .refl _, .refl _, .refl _, .refl _, .refl _, trivial⟩, trivial⟩
theorem P_check (p : Pat) (hs : p.Sm) : PCall EE 67 [p.enc] (int p.nodeE) := by
 have hlen : p.args.length < 1048576 := by obtain ⟨o, a, t, v, s, n, c⟩ := p; exact hs.len
 have hck := P_expr_Check p.cond hs.cond'
 have hsm : PCall EE 90 [p.cond.enc, .agg [int 0, .val (.slice none 0 0), int 0, int 0, int 0, int 0, int 0, str ⟨#[]⟩]] (bool (eqB p.cond Ex0)) := (P_expr_Same p.cond Ex0 hs.cond').weak ⟨.refl _, nil_ex0⟩
 obtain ⟨sB, hsB⟩ : ∃ b, b = eqB p.cond Ex0 := ⟨_, rfl⟩
 have hsB2 : sB = true ↔ p.cond = Ex0 := by rw [hsB]; exact eqB_iff
 rw [← hsB] at hsm
 have hcl := Pat.closed p
 have hclc := Ex.closed p.cond
 obtain ⟨R, hR⟩ : ∃ R, R = p.nodeE := ⟨_, rfl⟩
 rw [← hR]
 unfold Pat.nodeE at hR
 generalize p.cond.chk = ce at *
 have hrow := @shape_row p.op
 generalize leastF p.op = lo at *
 generalize mostF p.op = mo at *
 generalize typedF p.op = ty at *
 generalize condF p.op = cd at *
 generalize scopeF p.op = sc at *
 generalize spanF p.op = sp at *
 obtain ⟨b1, e1, w1⟩ : ∃ b, (b = true ↔ ty = false ∨ 0 ≤ p.ty ∧ p.ty ≤ 15) ∧ PCall EE 89 [bool ty, int p.ty, int 15] (bool b) := ⟨_, decide_eq_true_iff, P_within _ _ _⟩
 obtain ⟨b2, e2, w2⟩ : ∃ b, (b = true ↔ ty = false ∨ 0 ≤ p.var ∧ p.var ≤ 15) ∧ PCall EE 89 [bool ty, int p.var, int 15] (bool b) := ⟨_, decide_eq_true_iff, P_within _ _ _⟩
 obtain ⟨b3, e3, w3⟩ : ∃ b, (b = true ↔ sc = false ∨ 0 ≤ p.scope ∧ p.scope ≤ 63) ∧ PCall EE 89 [bool sc, int p.scope, int 63] (bool b) := ⟨_, decide_eq_true_iff, P_within _ _ _⟩
 obtain ⟨b4, e4, w4⟩ : ∃ b, (b = true ↔ sp = false ∨ 0 ≤ p.span ∧ p.span ≤ 1099511627776) ∧ PCall EE 89 [bool sp, int p.span, int 1099511627776] (bool b) := ⟨_, decide_eq_true_iff, P_within _ _ _⟩
 obtain ⟨u1, f1, v1⟩ : ∃ b, (b = true ↔ ty = true ∨ p.ty = 0) ∧ PCall EE 91 [bool ty, int p.ty] (bool b) := ⟨_, decide_eq_true_iff, P_unused _ _⟩
 obtain ⟨u2, f2, v2⟩ : ∃ b, (b = true ↔ ty = true ∨ p.var = 0) ∧ PCall EE 91 [bool ty, int p.var] (bool b) := ⟨_, decide_eq_true_iff, P_unused _ _⟩
 obtain ⟨u3, f3, v3⟩ : ∃ b, (b = true ↔ sc = true ∨ p.scope = 0) ∧ PCall EE 91 [bool sc, int p.scope] (bool b) := ⟨_, decide_eq_true_iff, P_unused _ _⟩
 obtain ⟨u4, f4, v4⟩ : ∃ b, (b = true ↔ sp = true ∨ p.span = 0) ∧ PCall EE 91 [bool sp, int p.span] (bool b) := ⟨_, decide_eq_true_iff, P_unused _ _⟩
 have hR1 : (p.op < 0 ∨ 11 ≤ p.op) → R = 1 := fun h => by rw [hR, if_pos h]
 have hR15 : ¬(p.op < 0 ∨ 11 ≤ p.op) → ((p.args.length : Int) < lo ∨ mo < p.args.length) → R = 15 := fun h h2 => by rw [hR, if_neg h, if_pos h2]
 have hR2 : ¬(p.op < 0 ∨ 11 ≤ p.op) → ¬((p.args.length : Int) < lo ∨ mo < p.args.length) → (b1 = false ∨ b2 = false ∨ b3 = false ∨ b4 = false) → R = 2 := fun h h2 h3 => by
  rw [hR, if_neg h, if_neg h2, if_pos]
  clear hR hR1 hR15 hck hsm hrow w1 w2 w3 w4 v1 v2 v3 v4 f1 f2 f3 f4
  grind
 have hB : b1 = true → b2 = true → b3 = true → b4 = true → ¬((ty = true ∧ (p.ty < 0 ∨ 15 < p.ty ∨ p.var < 0 ∨ 15 < p.var)) ∨ (sc = true ∧ (p.scope < 0 ∨ 63 < p.scope)) ∨ (sp = true ∧ (p.span < 0 ∨ 1099511627776 < p.span))) := fun q1 q2 q3 q4 => by
  clear hR hR1 hR15 hR2 hck hsm hrow w1 w2 w3 w4 v1 v2 v3 v4 f1 f2 f3 f4
  grind
 have hRc : ¬(p.op < 0 ∨ 11 ≤ p.op) → ¬((p.args.length : Int) < lo ∨ mo < p.args.length) → b1 = true → b2 = true → b3 = true → b4 = true → cd = true → ce ≠ 0 → R = ce := fun h h2 q1 q2 q3 q4 h5 h6 => by
  rw [hR, if_neg h, if_neg h2, if_neg (hB q1 q2 q3 q4), if_pos ⟨h5, h6⟩]
 have hU : (cd = false ∧ sB = false ∨ u1 = false ∨ u2 = false ∨ u3 = false ∨ u4 = false) ↔ ((cd = false ∧ p.cond ≠ Ex0) ∨ (ty = false ∧ (p.ty ≠ 0 ∨ p.var ≠ 0)) ∨ (sc = false ∧ p.scope ≠ 0) ∨ (sp = false ∧ p.span ≠ 0)) := by
  clear hR hR1 hR15 hR2 hRc hB hck hsm hrow w1 w2 w3 w4 v1 v2 v3 v4 e1 e2 e3 e4
  rw [Bool.eq_false_iff (b := u1), Bool.eq_false_iff (b := u2), Bool.eq_false_iff (b := u3), Bool.eq_false_iff (b := u4), Bool.eq_false_iff (b := sB), ne_eq, ne_eq, ne_eq, ne_eq, ne_eq, f1, f2, f3, f4, hsB2]
  cases cd <;> cases ty <;> cases sc <;> cases sp <;> simp [or_assoc]
 have hR3 : ¬(p.op < 0 ∨ 11 ≤ p.op) → ¬((p.args.length : Int) < lo ∨ mo < p.args.length) → b1 = true → b2 = true → b3 = true → b4 = true → (cd = true → ce = 0) → (cd = false ∧ sB = false ∨ u1 = false ∨ u2 = false ∨ u3 = false ∨ u4 = false) → R = 3 := fun h h2 q1 q2 q3 q4 h5 h6 => by
  rw [hR, if_neg h, if_neg h2, if_neg (hB q1 q2 q3 q4), if_neg (fun hh => hh.2 (h5 hh.1)), if_pos (hU.1 h6)]
 have hR0 : ¬(p.op < 0 ∨ 11 ≤ p.op) → ¬((p.args.length : Int) < lo ∨ mo < p.args.length) → b1 = true → b2 = true → b3 = true → b4 = true → (cd = true → ce = 0) → ¬(cd = false ∧ sB = false ∨ u1 = false ∨ u2 = false ∨ u3 = false ∨ u4 = false) → R = 0 := fun h h2 q1 q2 q3 q4 h5 h6 => by
  rw [hR, if_neg h, if_neg h2, if_neg (hB q1 q2 q3 q4), if_neg (fun hh => hh.2 (h5 hh.1)), if_neg (fun hh => h6 (hU.2 hh))]
 clear hsB hs hR hB hU hsB2 e1 e2 e3 e4 f1 f2 f3 f4
 obtain ⟨pO, pA, pT, pV, pS, pN, pCo, pCa, pCv, pCf, pCk, pXk, pXn, pXt, hx, hxc, hpO, hpA, hpT, hpV, hpS, hpN⟩ := Pat.form2 p
 rw [hx] at hcl ⊢
 rw [hxc] at hck hsm hclc
 simp only [← hpO, ← hpT, ← hpV, ← hpS, ← hpN] at *
 refine wordsN ?_; unhygienic intros
 have hel : pA.length = p.args.length := by rw [hpA, mapE_len]
 generalize p.args.length = al at *
 clear hpA hx hxc hpO hpT hpV hpS hpN
 refine fn_body (fn := Tryd.f67) (n := 113) (ac := Trydc67) (rvs := [.t 2]) rfl (by decide) Trydp67 rfl rfl rfl ?_
 by_cases h0 : pO < 0 ∨ 11 ≤ pO
 · have hR := hR1 h0
   have hk : bOr (iLt pO 0) (iLe 11 pO) = true := by simp only [ee]; simpa using h0
   refine goB hX 0 (by conv => lhs; cbv; try simp only [hk]; cbv; try simp only [hk]; cbv; try simp only [hk]; cbv; try simp only [hk]; cbv) ?_
   refine goA 60 ?_
   refine fn_ret rfl rfl (.val ?_)
   exact congrArg (Value.int .i64) hR.symm
 have h1 : 0 ≤ pO := by omega
 have h2 : pO < 11 := by omega
 have k1 : iLt pO 0 = false := by simp only [ee]; simp; omega
 have k2 : iLe 11 pO = false := by simp only [ee]; simp; omega
 have hrow := hrow h1 h2
 have hR15 := hR15 h0
 have hR2 := hR2 h0
 have hRc := hRc h0
 have hR3 := hR3 h0
 have hR0 := hR0 h0
 have hrw : rowA (Classical.choice tabBox_ne).g pO 6 = [int lo, int mo, bool ty, bool cd, bool sc, bool sp] := by rw [e_rowA]; exact hrow
 clear hrow hR1
 cases cd with
 | true =>
  refine goB hX 0 (by conv => lhs; cbv; try simp only [k1, k2, hrw]; cbv; try simp only [k1, k2, hrw]; cbv; try simp only [k1, k2, hrw]; cbv; try simp only [k1, k2, hrw]; cbv) ?_
  refine on_cond rfl (fun c1 => ?_) (fun c1 => ?_)
  ·
   simp [ee] at c1
  ·
   simp [ee] at c1
   refine goB hX 0 (by conv => lhs; cbv; try simp only [k1, k2, hrw]; cbv; try simp only [k1, k2, hrw]; cbv; try simp only [k1, k2, hrw]; cbv; try simp only [k1, k2, hrw]; cbv) ?_
   refine on_cond rfl (fun c2 => ?_) (fun c2 => ?_)
   ·
    simp [ee] at c2
    refine goA 60 ?_
    refine fn_ret rfl rfl (.val ?_)
    exact congrArg (Value.int .i64) (hR15 (by omega)).symm
   ·
    simp [ee] at c2
    refine goA 60 ?_
    refine oPA w1 ?_
    refine goB hX 0 (by conv => lhs; cbv; try simp only [k1, k2, hrw]; cbv; try simp only [k1, k2, hrw]; cbv; try simp only [k1, k2, hrw]; cbv; try simp only [k1, k2, hrw]; cbv) ?_
    refine on_guard rfl rfl (fun c3 => ?_) (fun c3 => ?_)
    ·
     simp [ee] at c3
     refine goA 60 ?_
     refine on_gskip rfl rfl ?_
     refine goA 60 ?_
     refine on_gskip rfl rfl ?_
     refine goA 60 ?_
     refine on_gskip rfl rfl ?_
     refine goA 60 ?_
     refine fn_ret rfl rfl (.val ?_)
     exact congrArg (Value.int .i64) (hR2 (by omega) (by simp [*])).symm
    ·
     simp [ee] at c3
     refine goA 60 ?_
     refine oPG w2 ?_
     refine goB hX 0 (by conv => lhs; cbv; try simp only [k1, k2, hrw]; cbv; try simp only [k1, k2, hrw]; cbv; try simp only [k1, k2, hrw]; cbv; try simp only [k1, k2, hrw]; cbv) ?_
     refine on_guard rfl rfl (fun c4 => ?_) (fun c4 => ?_)
     ·
      simp [ee] at c4
      refine goA 60 ?_
      refine on_gskip rfl rfl ?_
      refine goA 60 ?_
      refine on_gskip rfl rfl ?_
      refine goA 60 ?_
      refine fn_ret rfl rfl (.val ?_)
      exact congrArg (Value.int .i64) (hR2 (by omega) (by simp [*])).symm
     ·
      simp [ee] at c4
      refine goA 60 ?_
      refine oPG w3 ?_
      refine goB hX 0 (by conv => lhs; cbv; try simp only [k1, k2, hrw]; cbv; try simp only [k1, k2, hrw]; cbv; try simp only [k1, k2, hrw]; cbv; try simp only [k1, k2, hrw]; cbv) ?_
      refine on_guard rfl rfl (fun c5 => ?_) (fun c5 => ?_)
      ·
       simp [ee] at c5
       refine goA 60 ?_
       refine on_gskip rfl rfl ?_
       refine goA 60 ?_
       refine fn_ret rfl rfl (.val ?_)
       exact congrArg (Value.int .i64) (hR2 (by omega) (by simp [*])).symm
      ·
       simp [ee] at c5
       refine goA 60 ?_
       refine oPG w4 ?_
       refine goB hX 0 (by conv => lhs; cbv; try simp only [k1, k2, hrw]; cbv; try simp only [k1, k2, hrw]; cbv; try simp only [k1, k2, hrw]; cbv; try simp only [k1, k2, hrw]; cbv) ?_
       refine on_cond rfl (fun c6 => ?_) (fun c6 => ?_)
       ·
        simp [ee] at c6
        refine goA 60 ?_
        refine fn_ret rfl rfl (.val ?_)
        exact congrArg (Value.int .i64) (hR2 (by omega) (by simp [*])).symm
       ·
        simp [ee] at c6
        refine goA 60 ?_
        refine oPA hck ?_
        refine goB hX 0 (by conv => lhs; cbv; try simp only [k1, k2, hrw]; cbv; try simp only [k1, k2, hrw]; cbv; try simp only [k1, k2, hrw]; cbv; try simp only [k1, k2, hrw]; cbv) ?_
        refine on_cond rfl (fun c7 => ?_) (fun c7 => ?_)
        ·
         simp [ee] at c7
         refine goA 60 ?_
         refine fn_ret rfl rfl (.val ?_)
         exact congrArg (Value.int .i64) (hRc (by omega) (by assumption) (by assumption) (by assumption) (by assumption) rfl (by assumption)).symm
        ·
         simp [ee] at c7
         refine goB hX 0 (by conv => lhs; cbv; try simp only [k1, k2, hrw]; cbv; try simp only [k1, k2, hrw]; cbv; try simp only [k1, k2, hrw]; cbv; try simp only [k1, k2, hrw]; cbv) ?_
         refine on_guard rfl rfl (fun c8 => ?_) (fun c8 => ?_)
         ·
          simp [ee] at c8
         ·
          simp [ee] at c8
          refine goA 60 ?_
          refine on_gskip rfl rfl ?_
          refine goA 60 ?_
          refine oPG v1 ?_
          refine goB hX 0 (by conv => lhs; cbv; try simp only [k1, k2, hrw]; cbv; try simp only [k1, k2, hrw]; cbv; try simp only [k1, k2, hrw]; cbv; try simp only [k1, k2, hrw]; cbv) ?_
          refine on_guard rfl rfl (fun c9 => ?_) (fun c9 => ?_)
          ·
           simp [ee] at c9
           refine goA 60 ?_
           refine on_gskip rfl rfl ?_
           refine goA 60 ?_
           refine on_gskip rfl rfl ?_
           refine goA 60 ?_
           refine on_gskip rfl rfl ?_
           refine goA 60 ?_
           refine fn_ret rfl rfl (.val ?_)
           exact congrArg (Value.int .i64) (hR3 (by omega) (by assumption) (by assumption) (by assumption) (by assumption) (fun _ => by assumption) (by simp [*])).symm
          ·
           simp [ee] at c9
           refine goA 60 ?_
           refine oPG v2 ?_
           refine goB hX 0 (by conv => lhs; cbv; try simp only [k1, k2, hrw]; cbv; try simp only [k1, k2, hrw]; cbv; try simp only [k1, k2, hrw]; cbv; try simp only [k1, k2, hrw]; cbv) ?_
           refine on_guard rfl rfl (fun c10 => ?_) (fun c10 => ?_)
           ·
            simp [ee] at c10
            refine goA 60 ?_
            refine on_gskip rfl rfl ?_
            refine goA 60 ?_
            refine on_gskip rfl rfl ?_
            refine goA 60 ?_
            refine fn_ret rfl rfl (.val ?_)
            exact congrArg (Value.int .i64) (hR3 (by omega) (by assumption) (by assumption) (by assumption) (by assumption) (fun _ => by assumption) (by simp [*])).symm
           ·
            simp [ee] at c10
            refine goA 60 ?_
            refine oPG v3 ?_
            refine goB hX 0 (by conv => lhs; cbv; try simp only [k1, k2, hrw]; cbv; try simp only [k1, k2, hrw]; cbv; try simp only [k1, k2, hrw]; cbv; try simp only [k1, k2, hrw]; cbv) ?_
            refine on_guard rfl rfl (fun c11 => ?_) (fun c11 => ?_)
            ·
             simp [ee] at c11
             refine goA 60 ?_
             refine on_gskip rfl rfl ?_
             refine goA 60 ?_
             refine fn_ret rfl rfl (.val ?_)
             exact congrArg (Value.int .i64) (hR3 (by omega) (by assumption) (by assumption) (by assumption) (by assumption) (fun _ => by assumption) (by simp [*])).symm
            ·
             simp [ee] at c11
             refine goA 60 ?_
             refine oPG v4 ?_
             refine goB hX 0 (by conv => lhs; cbv; try simp only [k1, k2, hrw]; cbv; try simp only [k1, k2, hrw]; cbv; try simp only [k1, k2, hrw]; cbv; try simp only [k1, k2, hrw]; cbv) ?_
             refine on_cond rfl (fun c12 => ?_) (fun c12 => ?_)
             ·
              simp [ee] at c12
              refine goA 60 ?_
              refine fn_ret rfl rfl (.val ?_)
              exact congrArg (Value.int .i64) (hR3 (by omega) (by assumption) (by assumption) (by assumption) (by assumption) (fun _ => by assumption) (by simp [*])).symm
             ·
              simp [ee] at c12
              refine goA 60 ?_
              refine fn_ret rfl rfl (.val ?_)
              exact congrArg (Value.int .i64) (hR0 (by omega) (by assumption) (by assumption) (by assumption) (by assumption) (fun _ => by assumption) (by simp [*])).symm
 | false =>
  refine goB hX 0 (by conv => lhs; cbv; try simp only [k1, k2, hrw]; cbv; try simp only [k1, k2, hrw]; cbv; try simp only [k1, k2, hrw]; cbv; try simp only [k1, k2, hrw]; cbv) ?_
  refine on_cond rfl (fun c1 => ?_) (fun c1 => ?_)
  ·
   simp [ee] at c1
  ·
   simp [ee] at c1
   refine goB hX 0 (by conv => lhs; cbv; try simp only [k1, k2, hrw]; cbv; try simp only [k1, k2, hrw]; cbv; try simp only [k1, k2, hrw]; cbv; try simp only [k1, k2, hrw]; cbv) ?_
   refine on_cond rfl (fun c2 => ?_) (fun c2 => ?_)
   ·
    simp [ee] at c2
    refine goA 60 ?_
    refine fn_ret rfl rfl (.val ?_)
    exact congrArg (Value.int .i64) (hR15 (by omega)).symm
   ·
    simp [ee] at c2
    refine goA 60 ?_
    refine oPA w1 ?_
    refine goB hX 0 (by conv => lhs; cbv; try simp only [k1, k2, hrw]; cbv; try simp only [k1, k2, hrw]; cbv; try simp only [k1, k2, hrw]; cbv; try simp only [k1, k2, hrw]; cbv) ?_
    refine on_guard rfl rfl (fun c3 => ?_) (fun c3 => ?_)
    ·
     simp [ee] at c3
     refine goA 60 ?_
     refine on_gskip rfl rfl ?_
     refine goA 60 ?_
     refine on_gskip rfl rfl ?_
     refine goA 60 ?_
     refine on_gskip rfl rfl ?_
     refine goA 60 ?_
     refine fn_ret rfl rfl (.val ?_)
     exact congrArg (Value.int .i64) (hR2 (by omega) (by simp [*])).symm
    ·
     simp [ee] at c3
     refine goA 60 ?_
     refine oPG w2 ?_
     refine goB hX 0 (by conv => lhs; cbv; try simp only [k1, k2, hrw]; cbv; try simp only [k1, k2, hrw]; cbv; try simp only [k1, k2, hrw]; cbv; try simp only [k1, k2, hrw]; cbv) ?_
     refine on_guard rfl rfl (fun c4 => ?_) (fun c4 => ?_)
     ·
      simp [ee] at c4
      refine goA 60 ?_
      refine on_gskip rfl rfl ?_
      refine goA 60 ?_
      refine on_gskip rfl rfl ?_
      refine goA 60 ?_
      refine fn_ret rfl rfl (.val ?_)
      exact congrArg (Value.int .i64) (hR2 (by omega) (by simp [*])).symm
     ·
      simp [ee] at c4
      refine goA 60 ?_
      refine oPG w3 ?_
      refine goB hX 0 (by conv => lhs; cbv; try simp only [k1, k2, hrw]; cbv; try simp only [k1, k2, hrw]; cbv; try simp only [k1, k2, hrw]; cbv; try simp only [k1, k2, hrw]; cbv) ?_
      refine on_guard rfl rfl (fun c5 => ?_) (fun c5 => ?_)
      ·
       simp [ee] at c5
       refine goA 60 ?_
       refine on_gskip rfl rfl ?_
       refine goA 60 ?_
       refine fn_ret rfl rfl (.val ?_)
       exact congrArg (Value.int .i64) (hR2 (by omega) (by simp [*])).symm
      ·
       simp [ee] at c5
       refine goA 60 ?_
       refine oPG w4 ?_
       refine goB hX 0 (by conv => lhs; cbv; try simp only [k1, k2, hrw]; cbv; try simp only [k1, k2, hrw]; cbv; try simp only [k1, k2, hrw]; cbv; try simp only [k1, k2, hrw]; cbv) ?_
       refine on_cond rfl (fun c6 => ?_) (fun c6 => ?_)
       ·
        simp [ee] at c6
        refine goA 60 ?_
        refine fn_ret rfl rfl (.val ?_)
        exact congrArg (Value.int .i64) (hR2 (by omega) (by simp [*])).symm
       ·
        simp [ee] at c6
        refine goB hX 0 (by conv => lhs; cbv; try simp only [k1, k2, hrw]; cbv; try simp only [k1, k2, hrw]; cbv; try simp only [k1, k2, hrw]; cbv; try simp only [k1, k2, hrw]; cbv) ?_
        refine goB hX 1 (by conv => lhs; cbv; try simp only [k1, k2, hrw]; cbv; try simp only [k1, k2, hrw]; cbv; try simp only [k1, k2, hrw]; cbv; try simp only [k1, k2, hrw]; cbv) ?_
        refine on_guard rfl rfl (fun c7 => ?_) (fun c7 => ?_)
        ·
         simp [ee] at c7
         refine goA 60 ?_
         refine oPG hsm ?_
         refine goB hX 0 (by conv => lhs; cbv; try simp only [k1, k2, hrw]; cbv; try simp only [k1, k2, hrw]; cbv; try simp only [k1, k2, hrw]; cbv; try simp only [k1, k2, hrw]; cbv) ?_
         refine on_guard rfl rfl (fun c8 => ?_) (fun c8 => ?_)
         ·
          simp [ee] at c8
          refine goA 60 ?_
          refine on_gskip rfl rfl ?_
          refine goA 60 ?_
          refine on_gskip rfl rfl ?_
          refine goA 60 ?_
          refine on_gskip rfl rfl ?_
          refine goA 60 ?_
          refine on_gskip rfl rfl ?_
          refine goA 60 ?_
          refine fn_ret rfl rfl (.val ?_)
          exact congrArg (Value.int .i64) (hR3 (by omega) (by assumption) (by assumption) (by assumption) (by assumption) (fun h => by cases h) (by simp [*])).symm
         ·
          simp [ee] at c8
          refine goA 60 ?_
          refine oPG v1 ?_
          refine goB hX 0 (by conv => lhs; cbv; try simp only [k1, k2, hrw]; cbv; try simp only [k1, k2, hrw]; cbv; try simp only [k1, k2, hrw]; cbv; try simp only [k1, k2, hrw]; cbv) ?_
          refine on_guard rfl rfl (fun c9 => ?_) (fun c9 => ?_)
          ·
           simp [ee] at c9
           refine goA 60 ?_
           refine on_gskip rfl rfl ?_
           refine goA 60 ?_
           refine on_gskip rfl rfl ?_
           refine goA 60 ?_
           refine on_gskip rfl rfl ?_
           refine goA 60 ?_
           refine fn_ret rfl rfl (.val ?_)
           exact congrArg (Value.int .i64) (hR3 (by omega) (by assumption) (by assumption) (by assumption) (by assumption) (fun h => by cases h) (by simp [*])).symm
          ·
           simp [ee] at c9
           refine goA 60 ?_
           refine oPG v2 ?_
           refine goB hX 0 (by conv => lhs; cbv; try simp only [k1, k2, hrw]; cbv; try simp only [k1, k2, hrw]; cbv; try simp only [k1, k2, hrw]; cbv; try simp only [k1, k2, hrw]; cbv) ?_
           refine on_guard rfl rfl (fun c10 => ?_) (fun c10 => ?_)
           ·
            simp [ee] at c10
            refine goA 60 ?_
            refine on_gskip rfl rfl ?_
            refine goA 60 ?_
            refine on_gskip rfl rfl ?_
            refine goA 60 ?_
            refine fn_ret rfl rfl (.val ?_)
            exact congrArg (Value.int .i64) (hR3 (by omega) (by assumption) (by assumption) (by assumption) (by assumption) (fun h => by cases h) (by simp [*])).symm
           ·
            simp [ee] at c10
            refine goA 60 ?_
            refine oPG v3 ?_
            refine goB hX 0 (by conv => lhs; cbv; try simp only [k1, k2, hrw]; cbv; try simp only [k1, k2, hrw]; cbv; try simp only [k1, k2, hrw]; cbv; try simp only [k1, k2, hrw]; cbv) ?_
            refine on_guard rfl rfl (fun c11 => ?_) (fun c11 => ?_)
            ·
             simp [ee] at c11
             refine goA 60 ?_
             refine on_gskip rfl rfl ?_
             refine goA 60 ?_
             refine fn_ret rfl rfl (.val ?_)
             exact congrArg (Value.int .i64) (hR3 (by omega) (by assumption) (by assumption) (by assumption) (by assumption) (fun h => by cases h) (by simp [*])).symm
            ·
             simp [ee] at c11
             refine goA 60 ?_
             refine oPG v4 ?_
             refine goB hX 0 (by conv => lhs; cbv; try simp only [k1, k2, hrw]; cbv; try simp only [k1, k2, hrw]; cbv; try simp only [k1, k2, hrw]; cbv; try simp only [k1, k2, hrw]; cbv) ?_
             refine on_cond rfl (fun c12 => ?_) (fun c12 => ?_)
             ·
              simp [ee] at c12
              refine goA 60 ?_
              refine fn_ret rfl rfl (.val ?_)
              exact congrArg (Value.int .i64) (hR3 (by omega) (by assumption) (by assumption) (by assumption) (by assumption) (fun h => by cases h) (by simp [*])).symm
             ·
              simp [ee] at c12
              refine goA 60 ?_
              refine fn_ret rfl rfl (.val ?_)
              exact congrArg (Value.int .i64) (hR0 (by omega) (by assumption) (by assumption) (by assumption) (by assumption) (fun h => by cases h) (by simp [*])).symm
        ·
         simp [ee] at c7
noncomputable def Pat.chkR (p : Pat) : Int := if 64 < p.cnt then 5 else if 12 < p.dep then 12 else firstE Pat.nodeE p.nodes
theorem firstE_ok {α : Type} {F : α → Int} : ∀ {l : List α}, (∀ q ∈ l, F q = 0) → firstE F l = 0
 | [], _ => rfl
 | q :: r, h => by rw [firstE, if_neg (by simp [h q]), firstE_ok fun q hq => h q (by simp [hq])]
theorem firstE_at {α : Type} {F : α → Int} {d : List α} {q : α} {r : List α} (h : ∀ q ∈ d, F q = 0) (hq : F q ≠ 0) : firstE F (d ++ q :: r) = F q := by
 rw [firstE_append, if_neg (by simp [firstE_ok h]), firstE, if_pos hq]
theorem P_CheckRest (p : Pat) (hs : p.Sm) : PCall EE 49 [p.enc] (int p.chkR) := by
 have h1 := P_pattern_Size p hs
 have hsn := hs.node
 have hcl := Pat.closed p
 obtain ⟨R, hR⟩ : ∃ R, R = p.chkR := ⟨_, rfl⟩
 rw [← hR]
 unfold Pat.chkR at hR
 obtain ⟨pcs, hpe⟩ : ∃ cs, p.enc = .agg cs := by obtain ⟨o, es, t, v, s, n, co, ec, cv, cf, ck, xk, xn, xt, h⟩ := Pat.form p; exact ⟨_, h⟩
 have hpre := P_preorder p hpe
 obtain ⟨pO, pA, pT, pV, pS, pN, pCo, pCa, pCv, pCf, pCk, pXk, pXn, pXt, hx⟩ := Pat.form p
 rw [hx] at h1 hcl hpe ⊢
 injection hpe with hpe
 subst hpe
 have hip : (AV.fn 61 [.iptr [int pO, .isl 14 pA, int pT, int pV, int pS, int pN, int pCo, .isl 8 pCa, int pCv, int pCf, int pCk, int pXk, int pXn, str pXt]]).closed = true := by simp only [closed_fn, AV.closedL, closed_iptr, Bool.and_true]; exact hcl
 generalize hn : (p.cnt : Int) = cn at *
 generalize hd : (p.dep : Int) = dn at *
 refine wordsN ?_; unhygienic intros
 refine fn_body (fn := Tryd.f49) (n := 24) (ac := Trydc49) (rvs := [.cell 2 1 false]) rfl (by decide) Trydp49 rfl rfl rfl ?_
 by_cases g1 : 64 < p.cnt
 · have k1 : iLt 64 cn = true := by simp only [ee]; simp; omega
   have hR : R = 5 := by rw [hR, if_pos g1]
   refine goA 60 ?_
   refine oPA h1 ?_
   refine goB hX 0 (by conv => lhs; cbv; try simp only [k1]; cbv; try simp only [k1]; cbv; try simp only [k1]; cbv; try simp only [k1]; cbv) ?_
   refine goA 60 ?_
   refine fn_ret rfl rfl (.val ?_)
   exact congrArg (Value.int .i64) hR.symm
 have k1 : iLt 64 cn = false := by simp only [ee]; simp; omega
 by_cases g2 : 12 < p.dep
 · have k2 : iLt 12 dn = true := by simp only [ee]; simp; omega
   have hR : R = 12 := by rw [hR, if_neg g1, if_pos g2]
   refine goA 60 ?_
   refine oPA h1 ?_
   refine goB hX 0 (by conv => lhs; cbv; try simp only [k1, k2]; cbv; try simp only [k1, k2]; cbv; try simp only [k1, k2]; cbv; try simp only [k1, k2]; cbv) ?_
   refine goB hX 1 (by conv => lhs; cbv; try simp only [k1, k2]; cbv; try simp only [k1, k2]; cbv; try simp only [k1, k2]; cbv; try simp only [k1, k2]; cbv) ?_
   refine goA 60 ?_
   refine fn_ret rfl rfl (.val ?_)
   exact congrArg (Value.int .i64) hR.symm
 have k2 : iLt 12 dn = false := by simp only [ee]; simp; omega
 have hR : R = firstE Pat.nodeE p.nodes := by rw [hR, if_neg g1, if_neg g2]
 refine goA 60 ?_
 refine oPA h1 ?_
 refine goB hX 0 (by conv => lhs; cbv; try simp only [k1, k2]; cbv; try simp only [k1, k2]; cbv; try simp only [k1, k2]; cbv; try simp only [k1, k2]; cbv) ?_
 refine goB hX 1 (by conv => lhs; cbv; try simp only [k1, k2]; cbv; try simp only [k1, k2]; cbv; try simp only [k1, k2]; cbv; try simp only [k1, k2]; cbv) ?_
 refine goA 60 ?_
 refine oPA hpre ?_
 refine goA 60 ?_
 refine on_ent (F' := [(17, .fn 61 [.iptr [int pO, .isl 14 pA, int pT, int pV, int pS, int pN, int pCo, .isl 8 pCa, int pCv, int pCf, int pCk, int pXk, int pXn, str pXt]]), (2, .ptr 0 0)]) (H' := [.cells [int 0], .dead, .dead, .dead, .dead, .dead, .dead]) ?_ ?_
 · exact (ent_sub [.gone, .to 0] [some 1, none, none, none, none, none, none] ⟨trivial, ⟨by simp, rfl⟩, trivial⟩ ⟨osrc_cells (b := 1) rfl rfl rfl ⟨.refl _, trivial⟩, .dead, .dead, .dead, .dead, .dead, .dead, trivial⟩ ⟨.cl hip, .refl _, trivial⟩)
 refine on_preorder (fun _ => .cells [int 0]) (fun _ => .dead) (fun _ => .dead) (fun _ => .dead) (fun _ => .dead) (fun _ => .dead) (fun _ => .dead) (fun _ => .dead) (fun _ => .dead) (fun d => ∀ q ∈ d, q.nodeE = 0) p hs hx rfl rfl ⟨.cl hip, .ptr (by decide), trivial⟩ (fun q hq => by cases hq) ?_ (fun _ => .cells ⟨.cl rfl, trivial⟩) (fun _ => .dead) (fun _ => .dead) (fun _ => .dead) (fun _ => .dead) (fun _ => .dead) (fun _ => .dead) (fun _ => .dead) (fun _ => .dead) (fun hall => ?_) (fun d q r hd hok => ?_)
 · exact (hent_sub [.to 0, .gone, .gone, .gone, .gone, .gone, .gone, .to 7] [some 0, some 1, some 2, some 3, some 4, some 5, some 6, some 7, none, none] rfl ⟨rfl, rfl, rfl, rfl, rfl, rfl, rfl, rfl, trivial⟩ (by simp) (by simp) ⟨⟨by simp, rfl⟩, trivial, trivial, trivial, trivial, trivial, trivial, ⟨by simp, rfl⟩, trivial⟩ ⟨osrc_cells (b := 0) rfl rfl rfl ⟨.refl _, trivial⟩, .dead, .dead, .dead, .dead, .dead, .dead, .some 7 _ _ rfl rfl rfl (.loop _ _ _ _ _ _ _ _ ⟨.cl hip, .refl _, trivial⟩), .dead, .dead, trivial⟩)
 · have hR : R = 0 := by rw [hR]; exact firstE_ok hall
   refine goA 60 ?_
   refine fn_ret rfl rfl (.val ?_)
   exact congrArg (Value.int .i64) hR.symm
 · have hq := P_check q (hsn q (by rw [hd]; simp))
   have hqc := Pat.closed q
   have hfe := fun h => firstE_at (F := Pat.nodeE) (r := r) hok (q := q) h
   rw [← hd] at hfe
   have hok2 : q.nodeE = 0 → ∀ q' ∈ d ++ [q], q'.nodeE = 0 := fun h q' hq' => by
    rcases List.mem_append.1 hq' with h' | h'
    · exact hok q' h'
    · simp at h'; rw [h']; exact h
   obtain ⟨qO, qA, qT, qV, qS, qN, qCo, qCa, qCv, qCf, qCk, qXk, qXn, qXt, hx2⟩ := Pat.form q
   rw [hx2] at hq hqc ⊢
   generalize q.nodeE = qe at *
   by_cases hqe : qe = 0
   · have k3 : iNe qe 0 = false := by simp only [ee]; simpa using hqe
     refine goA 60 ?_
     refine rnd_assign rfl ?_
     refine goA 60 ?_
     refine oPA hq ?_
     refine goB hX 0 (by conv => lhs; cbv; try simp only [k3]; cbv; try simp only [k3]; cbv; try simp only [k3]; cbv; try simp only [k3]; cbv) ?_
     refine goA 60 ?_
     exact rnd_next rfl (hok2 hqe) (hent_sub [.to 0, .gone, .gone, .gone, .gone, .gone, .gone, .to 7, .gone, .gone, .gone] [some 0, some 1, some 2, some 3, some 4, some 5, some 6, some 7, none, none] rfl ⟨rfl, rfl, rfl, rfl, rfl, rfl, rfl, rfl, trivial⟩ (by simp) (by simp) ⟨⟨by simp, rfl⟩, trivial, trivial, trivial, trivial, trivial, trivial, ⟨by simp, rfl⟩, trivial, trivial, trivial, trivial⟩ ⟨osrc_cells (b := 0) rfl rfl rfl ⟨.refl _, trivial⟩, .dead, .dead, .dead, .dead, .dead, .dead, .some 7 _ _ rfl rfl rfl (.loop _ _ _ _ _ _ _ _ ⟨.cl hip, .refl _, trivial⟩), .dead, .dead, trivial⟩)
   · have k3 : iNe qe 0 = true := by simp only [ee]; simpa using hqe
     have hR : R = qe := by rw [hR]; exact hfe hqe
     refine goA 60 ?_
     refine rnd_assign rfl ?_
     refine goA 60 ?_
     refine oPA hq ?_
     refine goB hX 0 (by conv => lhs; cbv; try simp only [k3]; cbv; try simp only [k3]; cbv; try simp only [k3]; cbv; try simp only [k3]; cbv) ?_
     refine goA 60 ?_
     refine rnd_stop (by simp) rfl ?_
     refine goA 60 ?_
     refine fn_ret rfl rfl (.val ?_)
     exact congrArg (Value.int .i64) hR.symm
end Go.Am
end
