/- Contracts of the program's functions, for every argument that meets the conditions that each theorem names. -/
import Derived.Test.YtdbikeconboifaaGreatDoorAm6
import Derived.Test.YtdbikeconboifaaGreatDoorCt1
import Derived.Test.YtdbikeconboifaaGreatDoorAm5
import Derived.Test.YtdbikeconboifaaGreatDoorRows
import Derived.Test.YtdbikeconboifaaGreatDoorCards
import Derived.Test.YtdbikeconboifaaGreatDoorTie
import Derived.ProofKit
import Derived.OpenShut
import Derived.Deep.DeepHandedRow
import Derived.Deep.CondSized
import Derived.Lib.LaidTab
import Derived.Shelf.Bits.Mul64
import Derived.Shelf.Sort.Plain
import Derived.Ground.Names2Prog
import Derived.Shelf.Slices.CompactI
import Derived.Shelf.Slices.In.SortNone
section
set_option maxHeartbeats 16000000
set_option maxRecDepth 100000
namespace Go.Am
open Go.Proofs
abbrev int (n : Int) : AV := .val (.int .i64 n)
abbrev bool (b : Bool) : AV := .val (.bool b)
abbrev str (s : ByteArray) : AV := .val (.string s)
structure Vl where
 kind : Int
 num : Int
 text : ByteArray
inductive Ex where
 | mk (op : Int) (args : List Ex) (var fld kind : Int) (val : Vl)
inductive Pat where
 | mk (op : Int) (args : List Pat) (ty var scope span : Int) (cond : Ex)
def Ex.op : Ex → Int | .mk o _ _ _ _ _ => o
def Ex.args : Ex → List Ex | .mk _ a _ _ _ _ => a
def Ex.var : Ex → Int | .mk _ _ v _ _ _ => v
def Ex.fld : Ex → Int | .mk _ _ _ f _ _ => f
def Ex.kind : Ex → Int | .mk _ _ _ _ k _ => k
def Ex.val : Ex → Vl | .mk _ _ _ _ _ v => v
def Pat.op : Pat → Int | .mk o _ _ _ _ _ _ => o
def Pat.args : Pat → List Pat | .mk _ a _ _ _ _ _ => a
def Pat.ty : Pat → Int | .mk _ _ t _ _ _ _ => t
def Pat.var : Pat → Int | .mk _ _ _ v _ _ _ => v
def Pat.scope : Pat → Int | .mk _ _ _ _ s _ _ => s
def Pat.span : Pat → Int | .mk _ _ _ _ _ s _ => s
def Pat.cond : Pat → Ex | .mk _ _ _ _ _ _ c => c
theorem Ex.ind {p : Ex → Prop} (h : ∀ o a v f k x, (∀ e ∈ a, p e) → p (.mk o a v f k x)) : ∀ e, p e
 | .mk o a v f k x => h o a v f k x fun e _he => Ex.ind h e
termination_by e => SizeOf.sizeOf e
decreasing_by simp; have := List.sizeOf_lt_of_mem _he; omega
theorem Pat.ind {p : Pat → Prop} (h : ∀ o a t v s n c, (∀ q ∈ a, p q) → p (.mk o a t v s n c)) : ∀ q, p q
 | .mk o a t v s n c => h o a t v s n c fun q _hq => Pat.ind h q
termination_by q => SizeOf.sizeOf q
decreasing_by simp; have := List.sizeOf_lt_of_mem _hq; omega
def Vl.cs (v : Vl) : List AV := [int v.kind, int v.num, str v.text]
def Vl.enc (v : Vl) : AV := .agg v.cs
mutual
def Ex.cs0 : Ex → List AV
 | .mk o a v f k x => [int o, .isl 8 (Ex.csL a), int v, int f, int k, int x.kind, int x.num, str x.text]
def Ex.csL : List Ex → List AV
 | [] => []
 | e :: r => .agg (Ex.cs0 e) :: Ex.csL r
end
mutual
def Pat.cs0 : Pat → List AV
 | .mk o a t v s n c => [int o, .isl 14 (Pat.csL a), int t, int v, int s, int n] ++ Ex.cs0 c
def Pat.csL : List Pat → List AV
 | [] => []
 | e :: r => .agg (Pat.cs0 e) :: Pat.csL r
end
structure EncBox where
 ex : Ex → AV
 pat : Pat → AV
 hex : ∀ e, ex e = .agg (Ex.cs0 e)
 hpat : ∀ e, pat e = .agg (Pat.cs0 e)
theorem encBox_ne : Nonempty EncBox := ⟨⟨fun e => .agg (Ex.cs0 e), fun e => .agg (Pat.cs0 e), fun _ => rfl, fun _ => rfl⟩⟩
noncomputable def Ex.enc (e : Ex) : AV := (Classical.choice encBox_ne).ex e
noncomputable def Pat.enc (e : Pat) : AV := (Classical.choice encBox_ne).pat e
theorem Ex.enc_def (e : Ex) : e.enc = .agg (Ex.cs0 e) := (Classical.choice encBox_ne).hex e
theorem Pat.enc_def (e : Pat) : e.enc = .agg (Pat.cs0 e) := (Classical.choice encBox_ne).hpat e
theorem Ex.csL_eq : ∀ l : List Ex, Ex.csL l = mapE Ex.enc l
 | [] => by rw [Ex.csL, mapE_eq]; rfl
 | e :: r => by rw [Ex.csL, Ex.csL_eq r, mapE_eq, mapE_eq, List.map_cons, Ex.enc_def]
theorem Pat.csL_eq : ∀ l : List Pat, Pat.csL l = mapE Pat.enc l
 | [] => by rw [Pat.csL, mapE_eq]; rfl
 | e :: r => by rw [Pat.csL, Pat.csL_eq r, mapE_eq, mapE_eq, List.map_cons, Pat.enc_def]
theorem Ex.enc_mk (o a v f k x) : (Ex.mk o a v f k x).enc = .agg [int o, .isl 8 (mapE Ex.enc a), int v, int f, int k, int x.kind, int x.num, str x.text] := by rw [Ex.enc_def, Ex.cs0, Ex.csL_eq]
theorem Pat.enc_mk (o a t v s n) (co ca cv cf ck cx) : (Pat.mk o a t v s n (.mk co ca cv cf ck cx)).enc = .agg [int o, .isl 14 (mapE Pat.enc a), int t, int v, int s, int n, int co, .isl 8 (mapE Ex.enc ca), int cv, int cf, int ck, int cx.kind, int cx.num, str cx.text] := by
 rw [Pat.enc_def, Pat.cs0, Pat.csL_eq, Ex.cs0, Ex.csL_eq]; rfl
theorem Ex.form (e : Ex) : ∃ o es v f k xk xn xt, e.enc = .agg [int o, .isl 8 es, int v, int f, int k, int xk, int xn, str xt] := by
 obtain ⟨o, a, v, f, k, x⟩ := e
 exact ⟨_, _, _, _, _, _, _, _, Ex.enc_mk ..⟩
theorem Pat.form (p : Pat) : ∃ o es t v s n co ec cv cf ck xk xn xt, p.enc = .agg [int o, .isl 14 es, int t, int v, int s, int n, int co, .isl 8 ec, int cv, int cf, int ck, int xk, int xn, str xt] := by
 obtain ⟨o, a, t, v, s, n, ⟨co, ca, cv, cf, ck, cx⟩⟩ := p
 exact ⟨_, _, _, _, _, _, _, _, _, _, _, _, _, _, Pat.enc_mk ..⟩
theorem Pat.form2 (p : Pat) : ∃ o es t v s n co ec cv cf ck xk xn xt, p.enc = .agg [int o, .isl 14 es, int t, int v, int s, int n, int co, .isl 8 ec, int cv, int cf, int ck, int xk, int xn, str xt] ∧
 p.cond.enc = .agg [int co, .isl 8 ec, int cv, int cf, int ck, int xk, int xn, str xt] ∧ o = p.op ∧ es = mapE Pat.enc p.args ∧ t = p.ty ∧ v = p.var ∧ s = p.scope ∧ n = p.span := by
 obtain ⟨o, a, t, v, s, n, ⟨co, ca, cv, cf, ck, cx⟩⟩ := p
 exact ⟨_, _, _, _, _, _, _, _, _, _, _, _, _, _, Pat.enc_mk .., Ex.enc_mk .., rfl, rfl, rfl, rfl, rfl, rfl⟩
theorem Ex.closed : ∀ e : Ex, e.enc.closed = true := Ex.ind fun o a v f k x h => by
 rw [Ex.enc_mk]
 simp only [AV.closed, AV.closedL, Bool.and_true, Bool.true_and]
 rw [mapE_eq]
 exact AV.closedL_of fun c hc => by obtain ⟨e, he, rfl⟩ := List.mem_map.1 hc; exact h e he
theorem Ex.closedL (l : List Ex) : AV.closedL (mapE Ex.enc l) = true := closed_mapE Ex.closed l
theorem Pat.closed : ∀ e : Pat, e.enc.closed = true := Pat.ind fun o a t v s n c h => by
 obtain ⟨co, ca, cv, cf, ck, cx⟩ := c
 rw [Pat.enc_mk]
 simp only [AV.closed, AV.closedL, Bool.and_true, Bool.true_and, Ex.closedL]
 rw [mapE_eq]
 exact AV.closedL_of fun c hc => by obtain ⟨e, he, rfl⟩ := List.mem_map.1 hc; exact h e he
theorem Pat.closedL (l : List Pat) : AV.closedL (mapE Pat.enc l) = true := closed_mapE Pat.closed l
theorem Ex.closedI (l : List Ex) : (AV.isl 8 (mapE Ex.enc l)).closed = true := by simp [AV.closed, Ex.closedL]
theorem Pat.closedI (l : List Pat) : (AV.isl 14 (mapE Pat.enc l)).closed = true := by simp [AV.closed, Pat.closedL]
mutual
def Ex.cnt : Ex → Nat
 | .mk _ a _ _ _ _ => 1 + Ex.cntL a
def Ex.cntL : List Ex → Nat
 | [] => 0
 | e :: r => e.cnt + Ex.cntL r
end
mutual
def Pat.cnt : Pat → Nat
 | .mk _ a _ _ _ _ _ => 1 + Pat.cntL a
def Pat.cntL : List Pat → Nat
 | [] => 0
 | e :: r => e.cnt + Pat.cntL r
end
mutual
def Pat.exs : Pat → List Ex
 | .mk _ a _ _ _ _ c => c :: Pat.exsL a
def Pat.exsL : List Pat → List Ex
 | [] => []
 | e :: r => e.exs ++ Pat.exsL r
end
theorem Ex.cnt_mem {e : Ex} : ∀ {l : List Ex}, e ∈ l → e.cnt ≤ Ex.cntL l
 | x :: r, h => by
  rcases List.mem_cons.1 h with rfl | h
  · simp [Ex.cntL]
  · have := Ex.cnt_mem h; simp [Ex.cntL]; omega
theorem Pat.cnt_mem {e : Pat} : ∀ {l : List Pat}, e ∈ l → e.cnt ≤ Pat.cntL l
 | x :: r, h => by
  rcases List.mem_cons.1 h with rfl | h
  · simp [Pat.cntL]
  · have := Pat.cnt_mem h; simp [Pat.cntL]; omega
theorem Ex.cnt_pos (e : Ex) : 1 ≤ e.cnt := by cases e; simp [Ex.cnt]
theorem Pat.cnt_pos (e : Pat) : 1 ≤ e.cnt := by cases e; simp [Pat.cnt]
theorem Ex.cntL_len : ∀ l : List Ex, l.length ≤ Ex.cntL l
 | [] => by simp [Ex.cntL]
 | x :: r => by have := Ex.cntL_len r; have := Ex.cnt_pos x; simp [Ex.cntL]; omega
theorem Pat.cntL_len : ∀ l : List Pat, l.length ≤ Pat.cntL l
 | [] => by simp [Pat.cntL]
 | x :: r => by have := Pat.cntL_len r; have := Pat.cnt_pos x; simp [Pat.cntL]; omega
theorem Ex.cntL_append (a b : List Ex) : Ex.cntL (a ++ b) = Ex.cntL a + Ex.cntL b := by
 induction a with
 | nil => simp [Ex.cntL]
 | cons x r ih => simp [Ex.cntL, ih]; omega
theorem Pat.cntL_append (a b : List Pat) : Pat.cntL (a ++ b) = Pat.cntL a + Pat.cntL b := by
 induction a with
 | nil => simp [Pat.cntL]
 | cons x r ih => simp [Pat.cntL, ih]; omega
theorem Pat.exs_mem {q : Pat} {c : Ex} (hc : c ∈ q.exs) : ∀ {l : List Pat}, q ∈ l → c ∈ Pat.exsL l
 | x :: r, h => by
  rcases List.mem_cons.1 h with rfl | h
  · simp [Pat.exsL, hc]
  · simp [Pat.exsL, Pat.exs_mem hc h]
def Ex.Sm (e : Ex) : Prop := e.cnt ≤ 1048576
def Pat.Sm (p : Pat) : Prop := p.cnt ≤ 1048576 ∧ ∀ c ∈ p.exs, c.Sm
theorem Ex.Sm.arg {o a v f k x} (h : (Ex.mk o a v f k x).Sm) {e : Ex} (he : e ∈ a) : e.Sm := by
 unfold Ex.Sm at h ⊢; have := Ex.cnt_mem he; simp [Ex.cnt] at h; omega
theorem Ex.Sm.len {o a v f k x} (h : (Ex.mk o a v f k x).Sm) : a.length < 1048576 := by
 unfold Ex.Sm at h; have := Ex.cntL_len a; simp [Ex.cnt] at h; omega
theorem Pat.Sm.arg {o a t v s n c} (h : (Pat.mk o a t v s n c).Sm) {e : Pat} (he : e ∈ a) : e.Sm := by
 obtain ⟨h1, h2⟩ := h
 refine ⟨?_, fun c hc => h2 c ?_⟩
 · have := Pat.cnt_mem he; simp [Pat.cnt] at h1; omega
 · simp [Pat.exs, Pat.exs_mem hc he]
theorem Pat.Sm.len {o a t v s n c} (h : (Pat.mk o a t v s n c).Sm) : a.length < 1048576 := by
 have h := h.1; have := Pat.cntL_len a; simp [Pat.cnt] at h; omega
theorem Pat.Sm.cond {o a t v s n c} (h : (Pat.mk o a t v s n c).Sm) : c.Sm := h.2 c (by simp [Pat.exs])
mutual
def Ex.dep : Ex → Nat
 | .mk _ a _ _ _ _ => Ex.depL 0 a + 1
def Ex.depL : Nat → List Ex → Nat
 | d, [] => d
 | d, e :: r => Ex.depL (max d e.dep) r
end
mutual
def Pat.dep : Pat → Nat
 | .mk _ a _ _ _ _ _ => Pat.depL 0 a + 1
def Pat.depL : Nat → List Pat → Nat
 | d, [] => d
 | d, e :: r => Pat.depL (max d e.dep) r
end
theorem Ex.depL_le {l : List Ex} (h : ∀ e ∈ l, Ex.dep e ≤ e.cnt) : ∀ d, Ex.depL d l ≤ max d (Ex.cntL l) := by
 induction l with
 | nil => intro d; simp [Ex.depL]; omega
 | cons e r ih =>
  intro d
  have h1 := h e (by simp)
  have h2 := ih (fun e he => h e (by simp [he])) (max d e.dep)
  simp only [Ex.depL, Ex.cntL]; omega
theorem Ex.dep_le : ∀ e : Ex, e.dep ≤ e.cnt := Ex.ind fun o a v f k x h => by
 have := Ex.depL_le h 0
 simp only [Ex.dep, Ex.cnt]; omega
theorem Pat.depL_le {l : List Pat} (h : ∀ e ∈ l, Pat.dep e ≤ e.cnt) : ∀ d, Pat.depL d l ≤ max d (Pat.cntL l) := by
 induction l with
 | nil => intro d; simp [Pat.depL]; omega
 | cons e r ih =>
  intro d
  have h1 := h e (by simp)
  have h2 := ih (fun e he => h e (by simp [he])) (max d e.dep)
  simp only [Pat.depL, Pat.cntL]; omega
theorem Pat.dep_le : ∀ e : Pat, e.dep ≤ e.cnt := Pat.ind fun o a t v s n c h => by
 have := Pat.depL_le h 0
 simp only [Pat.dep, Pat.cnt]; omega
mutual
def Pat.nodes : Pat → List Pat
 | .mk o a t v s n c => .mk o a t v s n c :: Pat.nodesL a
def Pat.nodesL : List Pat → List Pat
 | [] => []
 | e :: r => e.nodes ++ Pat.nodesL r
end
mutual
def Ex.nodes : Ex → List Ex
 | .mk o a v f k x => .mk o a v f k x :: Ex.nodesL a
def Ex.nodesL : List Ex → List Ex
 | [] => []
 | e :: r => e.nodes ++ Ex.nodesL r
end
theorem Pat.nodesL_append (a b : List Pat) : Pat.nodesL (a ++ b) = Pat.nodesL a ++ Pat.nodesL b := by
 induction a with
 | nil => simp [Pat.nodesL]
 | cons x r ih => simp [Pat.nodesL, ih]
theorem Ex.nodesL_append (a b : List Ex) : Ex.nodesL (a ++ b) = Ex.nodesL a ++ Ex.nodesL b := by
 induction a with
 | nil => simp [Ex.nodesL]
 | cons x r ih => simp [Ex.nodesL, ih]
theorem Pat.nodesL_len {l : List Pat} (h : ∀ e ∈ l, e.nodes.length = e.cnt) : (Pat.nodesL l).length = Pat.cntL l := by
 induction l with
 | nil => simp [Pat.nodesL, Pat.cntL]
 | cons x r ih => simp [Pat.nodesL, Pat.cntL, h x (by simp), ih fun e he => h e (by simp [he])]
theorem Pat.nodes_len : ∀ p : Pat, p.nodes.length = p.cnt := Pat.ind fun o a t v s n c h => by
 simp [Pat.nodes, Pat.cnt, Pat.nodesL_len h]; omega
theorem Pat.nodesL_len' (l : List Pat) : (Pat.nodesL l).length = Pat.cntL l := Pat.nodesL_len fun e _ => e.nodes_len
theorem Ex.nodesL_len {l : List Ex} (h : ∀ e ∈ l, e.nodes.length = e.cnt) : (Ex.nodesL l).length = Ex.cntL l := by
 induction l with
 | nil => simp [Ex.nodesL, Ex.cntL]
 | cons x r ih => simp [Ex.nodesL, Ex.cntL, h x (by simp), ih fun e he => h e (by simp [he])]
theorem Ex.nodes_len : ∀ p : Ex, p.nodes.length = p.cnt := Ex.ind fun o a v f k x h => by
 simp [Ex.nodes, Ex.cnt, Ex.nodesL_len h]; omega
theorem Pat.mem_nodesL {q : Pat} : ∀ {l : List Pat}, q ∈ Pat.nodesL l → ∃ e ∈ l, q ∈ e.nodes
 | [], h => by simp [Pat.nodesL] at h
 | x :: r, h => by
  simp only [Pat.nodesL, List.mem_append] at h
  rcases h with h | h
  · exact ⟨x, by simp, h⟩
  · obtain ⟨e, he, hq⟩ := Pat.mem_nodesL h; exact ⟨e, by simp [he], hq⟩
theorem Ex.mem_nodesL {q : Ex} : ∀ {l : List Ex}, q ∈ Ex.nodesL l → ∃ e ∈ l, q ∈ e.nodes
 | [], h => by simp [Ex.nodesL] at h
 | x :: r, h => by
  simp only [Ex.nodesL, List.mem_append] at h
  rcases h with h | h
  · exact ⟨x, by simp, h⟩
  · obtain ⟨e, he, hq⟩ := Ex.mem_nodesL h; exact ⟨e, by simp [he], hq⟩
theorem Pat.Sm.node : ∀ {p : Pat}, p.Sm → ∀ q ∈ p.nodes, q.Sm := fun {p} => Pat.ind (p := fun p => p.Sm → ∀ q ∈ p.nodes, q.Sm) (fun o a t v s n c ih hs q hq => by
 simp only [Pat.nodes, List.mem_cons] at hq
 rcases hq with rfl | hq
 · exact hs
 · obtain ⟨e, he, hq⟩ := Pat.mem_nodesL hq
   exact ih e he (hs.arg he) q hq) p
theorem Ex.Sm.node : ∀ {p : Ex}, p.Sm → ∀ q ∈ p.nodes, q.Sm := fun {p} => Ex.ind (p := fun p => p.Sm → ∀ q ∈ p.nodes, q.Sm) (fun o a v f k x ih hs q hq => by
 simp only [Ex.nodes, List.mem_cons] at hq
 rcases hq with rfl | hq
 · exact hs
 · obtain ⟨e, he, hq⟩ := Ex.mem_nodesL hq
   exact ih e he (hs.arg he) q hq) p
theorem Pat.Sm.cond' {p : Pat} (h : p.Sm) : p.cond.Sm := by obtain ⟨o, a, t, v, s, n, c⟩ := p; exact h.cond
theorem fitL {α : Type} {k : Nat} {enc : α → AV} (h : ∀ x, fitB k [enc x] = true) (l : List α) : fitB k (mapE enc l) = true := by
 rw [mapE_eq, fitB, List.all_map, List.all_eq_true]
 intro x _
 have := h x
 simpa [fitB] using this
theorem fitPat (l : List Pat) : fitB 14 (mapE Pat.enc l) = true := fitL (fun p => by obtain ⟨o, es, t, v, s, n, co, ec, cv, cf, ck, xk, xn, xt, h⟩ := Pat.form p; rw [h]; rfl) l
theorem fitInt (l : List Int) : fitB 1 (mapE int l) = true := fitL (fun _ => rfl) l
theorem closedL_int (l : List Int) : AV.closedL (mapE int l) = true := closed_mapE (fun _ => rfl) l
theorem closedI_int (l : List Int) : (AV.isl 1 (mapE int l)).closed = true := by simp [AV.closed, closedL_int]
theorem bs_inj {a b : ByteArray} (h : a.toList = b.toList) : a = b := by
 rw [ByteArray.toList_eq, ByteArray.toList_eq] at h
 exact ByteArray.ext (Array.toList_inj.1 h)
noncomputable def eqB {α : Type} (a b : α) : Bool := @decide (a = b) (Classical.propDecidable _)
theorem eqB_t {α : Type} {a b : α} (h : a = b) : eqB a b = true := by unfold eqB; exact @decide_eq_true _ (Classical.propDecidable _) h
theorem eqB_f {α : Type} {a b : α} (h : a ≠ b) : eqB a b = false := by unfold eqB; exact @decide_eq_false _ (Classical.propDecidable _) h
theorem eqB_iff {α : Type} {a b : α} : eqB a b = true ↔ a = b := by
 refine ⟨fun h => Classical.byContradiction fun hn => ?_, eqB_t⟩
 rw [eqB_f hn] at h
 exact Bool.noConfusion h
def shapesL : List Value := [
 .int .i64 0, .int .i64 0, .bool true, .bool true, .bool false, .bool false,
 .int .i64 2, .int .i64 64, .bool false, .bool false, .bool false, .bool false,
 .int .i64 2, .int .i64 64, .bool false, .bool false, .bool false, .bool false,
 .int .i64 2, .int .i64 64, .bool false, .bool false, .bool false, .bool false,
 .int .i64 1, .int .i64 1, .bool false, .bool false, .bool false, .bool false,
 .int .i64 1, .int .i64 1, .bool true, .bool true, .bool true, .bool false,
 .int .i64 1, .int .i64 1, .bool false, .bool false, .bool true, .bool true,
 .int .i64 1, .int .i64 1, .bool false, .bool true, .bool false, .bool false,
 .int .i64 2, .int .i64 2, .bool false, .bool false, .bool false, .bool false,
 .int .i64 1, .int .i64 1, .bool true, .bool true, .bool true, .bool false,
 .int .i64 1, .int .i64 1, .bool false, .bool false, .bool true, .bool true]
structure TabBox where
 g : List AV
 h : g = shapesL.map .val
theorem tabBox_ne : Nonempty TabBox := ⟨⟨_, rfl⟩⟩
noncomputable def EE : Env := ⟨Tryz.prog, fun n => cond (Nat.beq n 0) (.iptr (Classical.choice tabBox_ne).g) .undef⟩
end Go.Am
end
section
set_option maxHeartbeats 16000000
set_option maxRecDepth 20000
namespace Go.Am
open Go.Proofs Go.ChangeShapes Go.WideShapes Go.ChangeAt Go.RowKit
theorem cellsE : Tryz.prog.cellsOf 27 = 8 := by kernel_rfl
theorem cellsP : Tryz.prog.cellsOf 29 = 14 := by kernel_rfl
theorem aggE : aggT EE.P 27 = true := by kernel_rfl
theorem aggP : aggT EE.P 29 = true := by kernel_rfl
theorem rdInt {n : Nat} {x : AV} (h : El EE.P (Cl EE.P n) 3 x) : ∃ i, x = int i := by
 obtain ⟨i, h, _⟩ := (h.one (by kernel_rfl)).int Tryz.underlying3
 exact ⟨i, by simpa using h⟩
theorem rdEx : ∀ (k : Nat) (x : AV), SizeOf.sizeOf x ≤ k → ∀ n, El EE.P (Cl EE.P n) 27 x → ∃ e : Ex, x = e.enc := by
 intro k
 induction k with
 | zero => intro x hk n h; cases x <;> simp at hk <;> omega
 | succ k ih =>
  intro x hk n h
  obtain ⟨cs, rfl, g⟩ := h.agg aggE
  obtain ⟨m, a, r, rfl, ha, b, r, rfl, hb, c, r, rfl, hc, d, r, rfl, hd, e, r, rfl, he, f, r, rfl, hf, rfl⟩ := g.struct Tryz.underlying27
  obtain ⟨i1, rfl, _⟩ := ha.int Tryz.underlying3
  obtain ⟨m2, es, rfl, hl, hes⟩ := hb.slice Tryz.underlying23
  obtain ⟨i3, rfl, _⟩ := hc.int Tryz.underlying3
  obtain ⟨i4, rfl, _⟩ := hd.int Tryz.underlying3
  obtain ⟨i5, rfl, _⟩ := he.int Tryz.underlying3
  obtain ⟨m3, a, r, rfl, ha, b, r, rfl, hb, c, r, rfl, hc, rfl⟩ := hf.struct Tryz.underlying25
  obtain ⟨i6, rfl, _⟩ := ha.int Tryz.underlying3
  obtain ⟨i7, rfl, _⟩ := hb.int Tryz.underlying3
  obtain ⟨s, rfl, _⟩ := hc.str Tryz.underlying9
  obtain ⟨l, rfl, _⟩ := list_enc (enc := Ex.enc) (ok := fun _ => True) fun x hx => by
   have h1 := List.sizeOf_lt_of_mem hx
   obtain ⟨q, hq⟩ := ih x (by simp only [List.cons_append, List.nil_append, AV.agg.sizeOf_spec, List.cons.sizeOf_spec, AV.isl.sizeOf_spec] at hk; omega) m2 (hes x hx)
   exact ⟨q, hq, trivial⟩
  exact ⟨.mk i1 l i3 i4 i5 ⟨i6, i7, s⟩, by rw [Ex.enc_mk, cellsE]; rfl⟩
theorem rdPat : ∀ (k : Nat) (x : AV), SizeOf.sizeOf x ≤ k → ∀ n, El EE.P (Cl EE.P n) 29 x → ∃ p : Pat, x = p.enc := by
 intro k
 induction k with
 | zero => intro x hk n h; cases x <;> simp at hk <;> omega
 | succ k ih =>
  intro x hk n h
  obtain ⟨cs, rfl, g⟩ := h.agg aggP
  obtain ⟨m, a, r, rfl, ha, b, r, rfl, hb, c, r, rfl, hc, d, r, rfl, hd, e, r, rfl, he, f, r, rfl, hf, g2, r, rfl, hg, rfl⟩ := g.struct Tryz.underlying29
  obtain ⟨i1, rfl, _⟩ := ha.int Tryz.underlying3
  obtain ⟨m2, es, rfl, hl, hes⟩ := hb.slice Tryz.underlying22
  obtain ⟨i3, rfl, _⟩ := hc.int Tryz.underlying3
  obtain ⟨i4, rfl, _⟩ := hd.int Tryz.underlying3
  obtain ⟨i5, rfl, _⟩ := he.int Tryz.underlying3
  obtain ⟨i6, rfl, _⟩ := hf.int Tryz.underlying3
  obtain ⟨ce, hce⟩ := rdEx _ (.agg g2) (Nat.le_refl _) m (by unfold El; rw [aggE]; exact ⟨g2, rfl, hg⟩)
  obtain ⟨co, ca, cv, cf, ck, cx⟩ := ce
  rw [Ex.enc_mk] at hce
  injection hce with hce
  subst hce
  obtain ⟨l, rfl, _⟩ := list_enc (enc := Pat.enc) (ok := fun _ => True) fun x hx => by
   have h1 := List.sizeOf_lt_of_mem hx
   obtain ⟨q, hq⟩ := ih x (by simp only [List.cons_append, List.nil_append, AV.agg.sizeOf_spec, List.cons.sizeOf_spec, AV.isl.sizeOf_spec] at hk; omega) m2 (hes x hx)
   exact ⟨q, hq, trivial⟩
  exact ⟨.mk i1 l i3 i4 i5 i6 (.mk co ca cv cf ck cx), by rw [Pat.enc_mk, cellsP]; rfl⟩
theorem Ex.cntL_bulk {l : List Ex} (h : ∀ e ∈ l, e.cnt ≤ e.enc.bulk) : Ex.cntL l ≤ AV.bulkL (mapE Ex.enc l) := by
 induction l with
 | nil => simp [Ex.cntL]
 | cons e r ih =>
  have h1 := h e (by simp)
  have h2 := ih fun e he => h e (by simp [he])
  rw [mapE_eq] at h2 ⊢
  simp only [List.map_cons, AV.bulkL, Ex.cntL]; omega
theorem Ex.cnt_bulk : ∀ e : Ex, e.cnt ≤ e.enc.bulk := Ex.ind fun o a v f k x h => by
 have := Ex.cntL_bulk h
 rw [Ex.enc_mk]
 simp only [Ex.cnt, AV.bulk, AV.bulkL]; omega
theorem Pat.cntL_bulk {l : List Pat} (h : ∀ e ∈ l, e.cnt ≤ e.enc.bulk ∧ ∀ c ∈ e.exs, c.cnt ≤ e.enc.bulk) : Pat.cntL l ≤ AV.bulkL (mapE Pat.enc l) ∧ ∀ c ∈ Pat.exsL l, c.cnt ≤ AV.bulkL (mapE Pat.enc l) := by
 induction l with
 | nil => simp [Pat.cntL, Pat.exsL]
 | cons e r ih =>
  have h1 := h e (by simp)
  have h2 := ih fun e he => h e (by simp [he])
  rw [mapE_eq] at h2 ⊢
  simp only [List.map_cons, AV.bulkL, Pat.cntL, Pat.exsL, List.mem_append]
  refine ⟨by omega, fun c hc => ?_⟩
  rcases hc with hc | hc
  · have := h1.2 c hc; omega
  · have := h2.2 c hc; omega
theorem Pat.cnt_bulk : ∀ e : Pat, e.cnt ≤ e.enc.bulk ∧ ∀ c ∈ e.exs, c.cnt ≤ e.enc.bulk := Pat.ind fun o a t v s n c h => by
 have h1 := Pat.cntL_bulk h
 obtain ⟨co, ca, cv, cf, ck, cx⟩ := c
 have h2 := Ex.cnt_bulk (.mk co ca cv cf ck cx)
 rw [Ex.enc_mk] at h2
 rw [Pat.enc_mk]
 simp only [Pat.cnt, Pat.exs, List.mem_cons, AV.bulk, AV.bulkL] at h2 ⊢
 refine ⟨by omega, fun c hc => ?_⟩
 rcases hc with rfl | hc
 · omega
 · have := h1.2 c hc; omega
theorem Pat.sm_of {p : Pat} (h : p.enc.bulk ≤ 1048576) : p.Sm := by
 have := Pat.cnt_bulk p
 exact ⟨by omega, fun c hc => by have := this.2 c hc; unfold Ex.Sm; omega⟩
theorem Ex.sm_of {p : Ex} (h : p.enc.bulk ≤ 1048576) : p.Sm := by
 have := Ex.cnt_bulk p
 unfold Ex.Sm; omega
theorem bulk_upto {H : Type} : (∀ d : DataW H, Proofs.YtdbikeconboifaaGreatDoor.Rows.uptoBulk d = dBulk d) ∧ (∀ d : List (DataW H), Proofs.YtdbikeconboifaaGreatDoor.Rows.uptoBulkAll d = dBulkAll d) := by
 have : ∀ k : Nat, (∀ d : DataW H, SizeOf.sizeOf d ≤ k → Proofs.YtdbikeconboifaaGreatDoor.Rows.uptoBulk d = dBulk d) ∧ (∀ d : List (DataW H), SizeOf.sizeOf d ≤ k → Proofs.YtdbikeconboifaaGreatDoor.Rows.uptoBulkAll d = dBulkAll d) ∧ (∀ d : List (Lit × DataW H), SizeOf.sizeOf d ≤ k → Proofs.YtdbikeconboifaaGreatDoor.Rows.uptoBulkEntries d = dBulkEntries d) ∧ (∀ d : Lit × DataW H, SizeOf.sizeOf d ≤ k → Proofs.YtdbikeconboifaaGreatDoor.Rows.uptoBulkEntry d = dBulkEntry d) := by
  intro k
  induction k with
  | zero =>
   refine ⟨fun d h => ?_, fun d h => ?_, fun d h => ?_, fun d h => ?_⟩
   · cases d <;> simp at h <;> omega
   · cases d <;> simp at h <;> omega
   · cases d <;> simp at h <;> omega
   · obtain ⟨a, b⟩ := d; simp at h <;> omega
  | succ k ih =>
   obtain ⟨i1, i2, i3, i4⟩ := ih
   refine ⟨fun d h => ?_, fun d h => ?_, fun d h => ?_, fun d h => ?_⟩
   · cases d with
     | lit l => cases l <;> simp [Proofs.YtdbikeconboifaaGreatDoor.Rows.uptoBulk, dBulk]
     | nil => simp [Proofs.YtdbikeconboifaaGreatDoor.Rows.uptoBulk, dBulk]
     | ptr d => simp only [Proofs.YtdbikeconboifaaGreatDoor.Rows.uptoBulk, dBulk]; rw [i1 d (by simp at h; omega)]
     | slice a b => simp only [Proofs.YtdbikeconboifaaGreatDoor.Rows.uptoBulk, dBulk]; rw [i2 a (by simp at h; omega), i2 b (by simp at h; omega)]
     | agg a => simp only [Proofs.YtdbikeconboifaaGreatDoor.Rows.uptoBulk, dBulk]; rw [i2 a (by simp at h; omega)]
     | iface t d => simp only [Proofs.YtdbikeconboifaaGreatDoor.Rows.uptoBulk, dBulk]; rw [i1 d (by simp at h; omega)]
     | map a => simp only [Proofs.YtdbikeconboifaaGreatDoor.Rows.uptoBulk, dBulk]; rw [i3 a (by simp at h; omega)]
     | held a => simp only [Proofs.YtdbikeconboifaaGreatDoor.Rows.uptoBulk, dBulk]
   · cases d with
     | nil => simp only [Proofs.YtdbikeconboifaaGreatDoor.Rows.uptoBulkAll, dBulkAll]
     | cons x r => simp only [Proofs.YtdbikeconboifaaGreatDoor.Rows.uptoBulkAll, dBulkAll]; rw [i1 x (by simp at h; omega), i2 r (by simp at h; omega)]
   · cases d with
     | nil => simp only [Proofs.YtdbikeconboifaaGreatDoor.Rows.uptoBulkEntries, dBulkEntries]
     | cons x r => simp only [Proofs.YtdbikeconboifaaGreatDoor.Rows.uptoBulkEntries, dBulkEntries]; rw [i4 x (by simp at h; omega), i3 r (by simp at h; omega)]
   · obtain ⟨l, b⟩ := d
     cases l <;> (simp only [Proofs.YtdbikeconboifaaGreatDoor.Rows.uptoBulkEntry, dBulkEntry]; rw [i1 b (by simp at h; omega)])
 exact ⟨fun d => (this _).1 d (Nat.le_refl _), fun d => (this _).2.1 d (Nat.le_refl _)⟩
theorem own_none : ownKnob Tryz.prog.godebug = none := by kernel_rfl
theorem kidsP : Kids EE.P (· < EE.P.types.size) := kids_rows (by kernel_rfl) (by kernel_rfl)
theorem fullP : ∀ t e, t < EE.P.types.size → EE.P.underlying t = some (.slice e) → 0 < EE.P.cellsOf e := slices_full_of EE.P (by kernel_rfl)
end Go.Am
end
section
set_option maxHeartbeats 16000000
set_option maxRecDepth 100000
namespace Go.Am
open Go.Proofs Go.ChangeShapes Go.WideShapes Go.ChangeAt Go.RowKit
theorem gShapes : Tryz.prog.globalNamed "tidegate/pattern.shapes" = some 0 := by kernel_rfl
theorem gShapesT : ∃ t, (Tryz.prog.globals[0]?).map (·.type) = some t ∧ flatTy Tryz.prog 8 t = true := ⟨_, rfl, by kernel_rfl⟩
theorem glob_of_laid {laid : List (String × DataW Unit)} (hm : ("tidegate/pattern.shapes", Proofs.YtdbikeconboifaaGreatDoor.Rows.laid_tidegate_pattern_shapes) ∈ laid) {W : World} (h : laidMet Tryz.prog laid W) :
 ∀ g, VRep ⟨fun _ => none, fun b => b < W.heap.size⟩ 0 W (EE.G g) (.pointer (some ⟨g, 0, none⟩)) := by
 intro g
 obtain ⟨ps, hv, _⟩ := h
 obtain ⟨t, ht, hf⟩ := gShapesT
 have hc := laid_cells hv hm gShapes ht hf
 show VRep _ 0 W (cond (Nat.beq g 0) (.iptr (Classical.choice tabBox_ne).g) .undef) _
 cases hb : Nat.beq g 0 with
 | false => exact .undef _
 | true =>
  obtain rfl := Nat.eq_of_beq_eq_true hb
  have e : flatD (H := Unit) Proofs.YtdbikeconboifaaGreatDoor.Rows.laid_tidegate_pattern_shapes = shapesL := by rfl
  rw [e] at hc
  exact glob_rep hc gShapes (Classical.choice tabBox_ne).h (by
   intro v hv c h
   subst h
   have h2 : shapesL.all (fun v => match v with | .agg _ => false | _ => true) = true := by rfl
   exact Bool.noConfusion (List.all_eq_true.1 h2 _ hv))
noncomputable def laidWorld (os : Os) : World :=
 { World.holding Tryz.prog os ⟨#[], #[], []⟩ with heap := (World.holding Tryz.prog os ⟨#[], #[], []⟩).heap.modify 0 fun
  | .cells _ t frozen => .cells #[.int .i64 0, .int .i64 0, .bool true, .bool true, .bool false, .bool false,
 .int .i64 2, .int .i64 64, .bool false, .bool false, .bool false, .bool false,
 .int .i64 2, .int .i64 64, .bool false, .bool false, .bool false, .bool false,
 .int .i64 2, .int .i64 64, .bool false, .bool false, .bool false, .bool false,
 .int .i64 1, .int .i64 1, .bool false, .bool false, .bool false, .bool false,
 .int .i64 1, .int .i64 1, .bool true, .bool true, .bool true, .bool false,
 .int .i64 1, .int .i64 1, .bool false, .bool false, .bool true, .bool true,
 .int .i64 1, .int .i64 1, .bool false, .bool true, .bool false, .bool false,
 .int .i64 2, .int .i64 2, .bool false, .bool false, .bool false, .bool false,
 .int .i64 1, .int .i64 1, .bool true, .bool true, .bool true, .bool false,
 .int .i64 1, .int .i64 1, .bool false, .bool false, .bool true, .bool true] t frozen
  | o => o }
end Go.Am
end
section
set_option maxHeartbeats 16000000
set_option maxRecDepth 100000
namespace Go.Am
open Go.Proofs
theorem vrep_val {K : Ctx} {M : Nat} {w : World} {a : Value} {y : Value} (h : VRep K M w (.val a) y) : y = a := by
 cases h with
 | val _ _ => rfl
theorem pcall_tup2 {E : Env} {f : FuncId} {a b c d : Value} (hc : ∀ cs, c ≠ .agg cs) (hd : ∀ cs, d ≠ .agg cs) (he : Enters E.P f)
 (h : ∀ w, Calls E.P f #[a, b] w fun e w' => e = .returned (.tuple #[c, d]) ∧ w' = w) : PCall E f [.val a, .val b] (.tup [.val c, .val d]) := by
 refine ⟨he, ?_⟩
 intro K w ys hh hv
 obtain ⟨y, z, rfl⟩ : ∃ y z, ys = [y, z] := by
  match ys, hv.1 with
  | [y, z], _ => exact ⟨y, z, rfl⟩
 have v0 := vrep_val (hv.2 0 _ y rfl rfl)
 have v1 := vrep_val (hv.2 1 _ z rfl rfl)
 subst v0 v1
 refine (h w).mono ?_
 rintro e w' ⟨rfl, rfl⟩
 refine ⟨_, _, _, K, rfl, ⟨rfl, rfl⟩, hh, .tup _ [c, d] rfl ?_, Ev.refl _ _ _ _ (Nat.le_refl _)⟩
 intro i x y h1 h2
 match i, h1, h2 with
 | 0, h1, h2 => simp at h1 h2; subst h1 h2; exact .val _ hc
 | 1, h1, h2 => simp at h1 h2; subst h1 h2; exact .val _ hd
end Go.Am
end
section
set_option maxHeartbeats 16000000
set_option maxRecDepth 20000
namespace Go.Proofs
open Go.Shelf
def Tryz.lays189_ren : Go.Shelf.Ren := ⟨fun | 189 => 58 | 125 => 83 | 257 => 82 | 128 => 102 | 129 => 103 | 294 => 93 | 295 => 94 | 296 => 95 | 297 => 96 | 298 => 97 | 299 => 98 | 216 => 99 | 300 => 100 | 301 => 101 | 328 => 108 | 329 => 109 | 330 => 110 | 331 => 111 | 332 => 112 | 215 => 113 | 343 => 119 | n => n, fun | 28 => 32 | 3 => 3 | 46 => 99 | 0 => 0 | 51 => 119 | 53 => 122 | 4 => 4 | 183 => 128 | 182 => 127 | 131 => 133 | 5 => 5 | 9 => 9 | 218 => 138 | 222 => 142 | 228 => 148 | 229 => 40 | n => n, fun | n => n⟩
theorem Tryz.lays189 : Go.Proofs.Lays.n189 Tryz.prog Tryz.lays189_ren := {
 mixed := by kernel_rfl
 f125 := Tryz.func83.trans (congrArg some (by kernel_rfl))
 f128 := Tryz.func102.trans (congrArg some (by kernel_rfl))
 f129 := Tryz.func103.trans (congrArg some (by kernel_rfl))
 f189 := Tryz.func58.trans (congrArg some (by kernel_rfl))
 f215 := Tryz.func113.trans (congrArg some (by kernel_rfl))
 f216 := Tryz.func99.trans (congrArg some (by kernel_rfl))
 f257 := Tryz.func82.trans (congrArg some (by kernel_rfl))
 f294 := Tryz.func93.trans (congrArg some (by kernel_rfl))
 f295 := Tryz.func94.trans (congrArg some (by kernel_rfl))
 f296 := Tryz.func95.trans (congrArg some (by kernel_rfl))
 f297 := Tryz.func96.trans (congrArg some (by kernel_rfl))
 f298 := Tryz.func97.trans (congrArg some (by kernel_rfl))
 f299 := Tryz.func98.trans (congrArg some (by kernel_rfl))
 f300 := Tryz.func100.trans (congrArg some (by kernel_rfl))
 f301 := Tryz.func101.trans (congrArg some (by kernel_rfl))
 f328 := Tryz.func108.trans (congrArg some (by kernel_rfl))
 f329 := Tryz.func109.trans (congrArg some (by kernel_rfl))
 f330 := Tryz.func110.trans (congrArg some (by kernel_rfl))
 f331 := Tryz.func111.trans (congrArg some (by kernel_rfl))
 f332 := Tryz.func112.trans (congrArg some (by kernel_rfl))
 f343 := Tryz.func119.trans (congrArg some (by kernel_rfl))
 t0 := Tryz.underlying0
 a0 := Tryz.isAgg0
 z0 := Tryz.sizeOf0
 v0 := Tryz.zeroValue0
 t3 := Tryz.underlying3
 a3 := Tryz.isAgg3
 z3 := Tryz.sizeOf3
 v3 := Tryz.zeroValue3
 t4 := Tryz.underlying4
 a4 := Tryz.isAgg4
 z4 := Tryz.sizeOf4
 v4 := Tryz.zeroValue4
 t5 := Tryz.underlying5
 a5 := Tryz.isAgg5
 z5 := Tryz.sizeOf5
 v5 := Tryz.zeroValue5
 t9 := Tryz.underlying9
 a9 := Tryz.isAgg9
 z9 := Tryz.sizeOf9
 v9 := Tryz.zeroValue9
 t28 := Tryz.underlying32
 a28 := Tryz.isAgg32
 z28 := Tryz.sizeOf32
 v28 := Tryz.zeroValue32
 t46 := Tryz.underlying99
 a46 := Tryz.isAgg99
 z46 := Tryz.sizeOf99
 v46 := Tryz.zeroValue99
 t51 := Tryz.underlying119
 a51 := Tryz.isAgg119
 z51 := Tryz.sizeOf119
 v51 := Tryz.zeroValue119
 t53 := Tryz.underlying122
 a53 := Tryz.isAgg122
 z53 := Tryz.sizeOf122
 v53 := Tryz.zeroValue122
 t131 := Tryz.underlying133
 a131 := Tryz.isAgg133
 z131 := Tryz.sizeOf133
 v131 := Tryz.zeroValue133
 t182 := Tryz.underlying127
 a182 := Tryz.isAgg127
 z182 := Tryz.sizeOf127
 v182 := Tryz.zeroValue127
 t183 := Tryz.underlying128
 a183 := Tryz.isAgg128
 z183 := Tryz.sizeOf128
 v183 := Tryz.zeroValue128
 t218 := Tryz.underlying138
 a218 := Tryz.isAgg138
 z218 := Tryz.sizeOf138
 v218 := Tryz.zeroValue138
 t222 := Tryz.underlying142
 a222 := Tryz.isAgg142
 z222 := Tryz.sizeOf142
 v222 := Tryz.zeroValue142
 t228 := Tryz.underlying148
 a228 := Tryz.isAgg148
 z228 := Tryz.sizeOf148
 v228 := Tryz.zeroValue148
 t229 := Tryz.underlying40
 a229 := Tryz.isAgg40
 z229 := Tryz.sizeOf40
 v229 := Tryz.zeroValue40 }
def Tryz.lays212_ren : Go.Shelf.Ren := ⟨fun | 212 => 66 | 263 => 87 | 264 => 88 | n => n, fun | 46 => 99 | 51 => 119 | 146 => 120 | 53 => 122 | 148 => 123 | n => n, fun | n => n⟩
theorem Tryz.lays212 : Go.Proofs.Lays.n212 Tryz.prog Tryz.lays212_ren := {
 mixed := by kernel_rfl
 f212 := Tryz.func66.trans (congrArg some (by kernel_rfl))
 f263 := Tryz.func87.trans (congrArg some (by kernel_rfl))
 f264 := Tryz.func88.trans (congrArg some (by kernel_rfl))
 t46 := Tryz.underlying99
 a46 := Tryz.isAgg99
 z46 := Tryz.sizeOf99
 v46 := Tryz.zeroValue99
 t51 := Tryz.underlying119
 a51 := Tryz.isAgg119
 z51 := Tryz.sizeOf119
 v51 := Tryz.zeroValue119
 t53 := Tryz.underlying122
 a53 := Tryz.isAgg122
 z53 := Tryz.sizeOf122
 v53 := Tryz.zeroValue122
 t146 := Tryz.underlying120
 a146 := Tryz.isAgg120
 z146 := Tryz.sizeOf120
 v146 := Tryz.zeroValue120
 t148 := Tryz.underlying123
 a148 := Tryz.isAgg123
 z148 := Tryz.sizeOf123
 v148 := Tryz.zeroValue123 }
def Tryz.laysNm220_ren : Go.Shelf.Ren := ⟨fun | 20 => 59 | n => n, fun | 22 => 32 | 3 => 3 | 4 => 4 | 0 => 0 | n => n, fun | n => n⟩
theorem Tryz.laysNm220 : Go.Proofs.Lays2.n20 Tryz.prog Tryz.laysNm220_ren := {
 mixed := by kernel_rfl
 f20 := Tryz.func59.trans (congrArg some (by kernel_rfl))
 t0 := Tryz.underlying0
 a0 := Tryz.isAgg0
 z0 := Tryz.sizeOf0
 v0 := Tryz.zeroValue0
 t3 := Tryz.underlying3
 a3 := Tryz.isAgg3
 z3 := Tryz.sizeOf3
 v3 := Tryz.zeroValue3
 t4 := Tryz.underlying4
 a4 := Tryz.isAgg4
 z4 := Tryz.sizeOf4
 v4 := Tryz.zeroValue4
 t22 := Tryz.underlying32
 a22 := Tryz.isAgg32
 z22 := Tryz.sizeOf32
 v22 := Tryz.zeroValue32
 i3 := by kernel_rfl }
end Go.Proofs
namespace Go.Am
open Go.Proofs
theorem enters_math_bits_Mul : Enters EE.P 66 := enters_of (fn := Tryz.f66) (n := 30) (ac := Tryzc66) rfl (by decide) Tryzp66
theorem P_Mul (x y : Nat) (hx : x < 18446744073709551616) (hy : y < 18446744073709551616) :
 PCall EE 66 [.val (.int .u64 x), .val (.int .u64 y)] (.tup [.val (.int .u64 ((x * y / 18446744073709551616 : Nat) : Int)), .val (.int .u64 ((x * y % 18446744073709551616 : Nat) : Int))]) :=
 pcall_tup2 (fun _ h => by cases h) (fun _ h => by cases h) enters_math_bits_Mul fun w => Any.bits_Mul Tryz.lays212 x y hx hy w
end Go.Am
end
section
set_option maxHeartbeats 16000000
set_option maxRecDepth 100000
namespace Go.Am
open Go.Proofs
theorem C_Repeat : ACall EE 37 [.isl 1 [int (-1)], int 16] [] (fun v H' => v = .sl 0 1 0 16 ∧ H' = [.arr 1 (List.replicate 16 (int (-1)))]) := by
 have h1 : PCall EE 66 [.val (.int .u64 1), .val (.int .u64 16)] (.tup [.val (.int .u64 0), .val (.int .u64 16)]) := by
  have h := P_Mul 1 16 (by omega) (by omega)
  have e1 : ((1 * 16 / 18446744073709551616 : Nat) : Int) = 0 := by simp
  have e2 : ((1 * 16 % 18446744073709551616 : Nat) : Int) = 16 := by simp
  rw [e1, e2] at h
  exact h
 refine wordsN ?_; unhygienic intros
 have k1 : iLt 16 0 = false := by simp only [ee] <;> rfl
 have kA : iCvt .u64 (lenA [int (-1)]) = 1 := by simp only [ee] <;> rfl
 have kB : iCvt .u64 16 = 16 := by simp only [ee] <;> rfl
 have kC : iLt 0 0 = false := by simp only [ee] <;> rfl
 have kD : iLt 9223372036854775807 16 = false := by simp only [ee] <;> rfl
 have kE : iCvt .i64 16 = 16 := by simp only [ee] <;> rfl
 have h2 : PCall EE 66 [.val (.int .u64 (iCvt .u64 (lenA [int (-1)]))), .val (.int .u64 (iCvt .u64 16))] (.tup [.val (.int .u64 0), .val (.int .u64 16)]) := by rw [kA, kB]; exact h1
 refine rcall_body (fn := Tryz.f37) (n := 48) (ac := Tryzc37) (rvs := [.t 4]) rfl Tryzp37 rfl rfl rfl ?_
 have kF : natOf 16 = 16 := by simp only [ee] <;> rfl
 have kG : lenN [int (-1)] = 1 := by simp only [ee] <;> rfl
 have kH : minN 1 16 = 1 := by simp only [ee] <;> rfl
 have kI : partA [int (-1)] 0 1 = [int (-1)] := by simp only [ee] <;> rfl
 have kJ : repA 16 (int 0) = [int 0, int 0, int 0, int 0, int 0, int 0, int 0, int 0, int 0, int 0, int 0, int 0, int 0, int 0, int 0, int 0] := by simp only [ee] <;> rfl
 have kK : addN 0 16 = 16 := by simp only [ee] <;> rfl
 have kL : lenN [int 0, int 0, int 0, int 0, int 0, int 0, int 0, int 0, int 0, int 0, int 0, int 0, int 0, int 0, int 0, int 0] = 16 := by simp only [ee] <;> rfl
 have kM : iOf 1 = 1 := by simp only [ee] <;> rfl
 have kN : putA [int 0, int 0, int 0, int 0, int 0, int 0, int 0, int 0, int 0, int 0, int 0, int 0, int 0, int 0, int 0, int 0] 0 1 [int (-1)] = [int (-1), int 0, int 0, int 0, int 0, int 0, int 0, int 0, int 0, int 0, int 0, int 0, int 0, int 0, int 0, int 0] := by simp only [ee] <;> rfl
 refine goB hX 0 (by conv => lhs; cbv; try simp only [k1, kA, kB, kC, kD, kE]; cbv; try simp only [k1, kA, kB, kC, kD, kE]; cbv; try simp only [k1, kA, kB, kC, kD, kE]; cbv; try simp only [k1, kA, kB, kC, kD, kE]; cbv) ?_
 refine goA 60 ?_
 refine oPA h2 ?_
 refine goB hX 0 (by conv => lhs; cbv; try simp only [k1, kA, kB, kC, kD, kE]; cbv; try simp only [k1, kA, kB, kC, kD, kE]; cbv; try simp only [k1, kA, kB, kC, kD, kE]; cbv; try simp only [k1, kA, kB, kC, kD, kE]; cbv) ?_
 refine on_cond rfl (fun c1 => ?_) (fun c1 => ?_)
 · simp [ee] at c1
 simp [ee] at c1
 refine goB hX 0 (by conv => lhs; cbv; try simp only [kE, kF, kG, kH, kI, kJ, kK, kL, kM, kN]; cbv; try simp only [kE, kF, kG, kH, kI, kJ, kK, kL, kM, kN]; cbv; try simp only [kE, kF, kG, kH, kI, kJ, kK, kL, kM, kN]; cbv; try simp only [kE, kF, kG, kH, kI, kJ, kK, kL, kM, kN]; cbv) ?_
 refine on_loopP (ι := List AV × Int) (fun p => ([(8, int p.2), (7, .sl 0 1 0 16)], [.arr 1 p.1])) (fun p => (p.2 = 1 ∧ p.1 = [int (-1), int 0, int 0, int 0, int 0, int 0, int 0, int 0, int 0, int 0, int 0, int 0, int 0, int 0, int 0, int 0]) ∨ (p.2 = 2 ∧ p.1 = [int (-1), int (-1), int 0, int 0, int 0, int 0, int 0, int 0, int 0, int 0, int 0, int 0, int 0, int 0, int 0, int 0]) ∨ (p.2 = 4 ∧ p.1 = [int (-1), int (-1), int (-1), int (-1), int 0, int 0, int 0, int 0, int 0, int 0, int 0, int 0, int 0, int 0, int 0, int 0]) ∨ (p.2 = 8 ∧ p.1 = [int (-1), int (-1), int (-1), int (-1), int (-1), int (-1), int (-1), int (-1), int 0, int 0, int 0, int 0, int 0, int 0, int 0, int 0]) ∨ (p.2 = 16 ∧ p.1 = [int (-1), int (-1), int (-1), int (-1), int (-1), int (-1), int (-1), int (-1), int (-1), int (-1), int (-1), int (-1), int (-1), int (-1), int (-1), int (-1)])) (fun p => (16 - p.2).toNat) ([int (-1), int 0, int 0, int 0, int 0, int 0, int 0, int 0, int 0, int 0, int 0, int 0, int 0, int 0, int 0, int 0], 1) (.inl ⟨rfl, rfl⟩) ?_ ?_
 · exact (ent_sub [.to 0] [some 0] ⟨⟨by simp, rfl⟩, trivial⟩ ⟨osrc_arr (b := 0) rfl rfl rfl rfl (by rfl), trivial⟩ ⟨.refl _, .refl _, trivial⟩)
 rintro ⟨w, n⟩ g
 dsimp only at g ⊢
 rcases g with ⟨rfl, rfl⟩ | ⟨rfl, rfl⟩ | ⟨rfl, rfl⟩ | ⟨rfl, rfl⟩ | ⟨rfl, rfl⟩
 · have q0 : iLt 1 16 = true := by simp only [ee] <;> rfl
   refine goB hX 0 (by conv => lhs; cbv; try simp only [q0]; cbv; try simp only [q0]; cbv; try simp only [q0]; cbv; try simp only [q0]; cbv) ?_
   refine on_cond rfl (fun c1 => ?_) (fun c1 => ?_)
   · simp [ee] at c1
     refine goA 60 ?_
     refine tr_drawX rfl (by conv => lhs; cbv) (by conv => lhs; cbv) (by decide) (by decide) (by conv => lhs; cbv) rfl ?_
     refine tgA ?_
     refine tr_nil ⟨rfl, by simp [LooksL, lookAll], ?_⟩
     refine goA 60 ?_
     refine loopP_next (putA [int (-1), int 0, int 0, int 0, int 0, int 0, int 0, int 0, int 0, int 0, int 0, int 0, int 0, int 0, int 0, int 0] (idxN 0 1) (minN (lenN (partA [int (-1), int 0, int 0, int 0, int 0, int 0, int 0, int 0, int 0, int 0, int 0, int 0, int 0, int 0, int 0, int 0] (idxN 0 0) (lenCut 0 1))) (lenCut 1 (iOf 16))) (partA [int (-1), int 0, int 0, int 0, int 0, int 0, int 0, int 0, int 0, int 0, int 0, int 0, int 0, int 0, int 0, int 0] (idxN 0 0) (lenCut 0 1)), iAdd .i64 1 (iOf (minN (lenN (partA [int (-1), int 0, int 0, int 0, int 0, int 0, int 0, int 0, int 0, int 0, int 0, int 0, int 0, int 0, int 0, int 0] (idxN 0 0) (lenCut 0 1))) (lenCut 1 (iOf 16))))) (by simp only [ee]; exact .inr (.inl ⟨rfl, rfl⟩)) (by simp only [ee]; decide) (ent_sub [.to 0] [some 0] ⟨⟨by simp, rfl⟩, trivial⟩ ⟨osrc_arr (b := 0) rfl rfl rfl rfl (by simp only [ee]; rfl), trivial⟩ ⟨.refl _, .refl _, trivial⟩)
   · simp [ee] at c1
 · have q0 : iLt 2 16 = true := by simp only [ee] <;> rfl
   refine goB hX 0 (by conv => lhs; cbv; try simp only [q0]; cbv; try simp only [q0]; cbv; try simp only [q0]; cbv; try simp only [q0]; cbv) ?_
   refine on_cond rfl (fun c1 => ?_) (fun c1 => ?_)
   · simp [ee] at c1
     refine goA 60 ?_
     refine tr_drawX rfl (by conv => lhs; cbv) (by conv => lhs; cbv) (by decide) (by decide) (by conv => lhs; cbv) rfl ?_
     refine tgA ?_
     refine tr_nil ⟨rfl, by simp [LooksL, lookAll], ?_⟩
     refine goA 60 ?_
     refine loopP_next (putA [int (-1), int (-1), int 0, int 0, int 0, int 0, int 0, int 0, int 0, int 0, int 0, int 0, int 0, int 0, int 0, int 0] (idxN 0 2) (minN (lenN (partA [int (-1), int (-1), int 0, int 0, int 0, int 0, int 0, int 0, int 0, int 0, int 0, int 0, int 0, int 0, int 0, int 0] (idxN 0 0) (lenCut 0 2))) (lenCut 2 (iOf 16))) (partA [int (-1), int (-1), int 0, int 0, int 0, int 0, int 0, int 0, int 0, int 0, int 0, int 0, int 0, int 0, int 0, int 0] (idxN 0 0) (lenCut 0 2)), iAdd .i64 2 (iOf (minN (lenN (partA [int (-1), int (-1), int 0, int 0, int 0, int 0, int 0, int 0, int 0, int 0, int 0, int 0, int 0, int 0, int 0, int 0] (idxN 0 0) (lenCut 0 2))) (lenCut 2 (iOf 16))))) (by simp only [ee]; exact .inr (.inr (.inl ⟨rfl, rfl⟩))) (by simp only [ee]; decide) (ent_sub [.to 0] [some 0] ⟨⟨by simp, rfl⟩, trivial⟩ ⟨osrc_arr (b := 0) rfl rfl rfl rfl (by simp only [ee]; rfl), trivial⟩ ⟨.refl _, .refl _, trivial⟩)
   · simp [ee] at c1
 · have q0 : iLt 4 16 = true := by simp only [ee] <;> rfl
   refine goB hX 0 (by conv => lhs; cbv; try simp only [q0]; cbv; try simp only [q0]; cbv; try simp only [q0]; cbv; try simp only [q0]; cbv) ?_
   refine on_cond rfl (fun c1 => ?_) (fun c1 => ?_)
   · simp [ee] at c1
     refine goA 60 ?_
     refine tr_drawX rfl (by conv => lhs; cbv) (by conv => lhs; cbv) (by decide) (by decide) (by conv => lhs; cbv) rfl ?_
     refine tgA ?_
     refine tr_nil ⟨rfl, by simp [LooksL, lookAll], ?_⟩
     refine goA 60 ?_
     refine loopP_next (putA [int (-1), int (-1), int (-1), int (-1), int 0, int 0, int 0, int 0, int 0, int 0, int 0, int 0, int 0, int 0, int 0, int 0] (idxN 0 4) (minN (lenN (partA [int (-1), int (-1), int (-1), int (-1), int 0, int 0, int 0, int 0, int 0, int 0, int 0, int 0, int 0, int 0, int 0, int 0] (idxN 0 0) (lenCut 0 4))) (lenCut 4 (iOf 16))) (partA [int (-1), int (-1), int (-1), int (-1), int 0, int 0, int 0, int 0, int 0, int 0, int 0, int 0, int 0, int 0, int 0, int 0] (idxN 0 0) (lenCut 0 4)), iAdd .i64 4 (iOf (minN (lenN (partA [int (-1), int (-1), int (-1), int (-1), int 0, int 0, int 0, int 0, int 0, int 0, int 0, int 0, int 0, int 0, int 0, int 0] (idxN 0 0) (lenCut 0 4))) (lenCut 4 (iOf 16))))) (by simp only [ee]; exact .inr (.inr (.inr (.inl ⟨rfl, rfl⟩)))) (by simp only [ee]; decide) (ent_sub [.to 0] [some 0] ⟨⟨by simp, rfl⟩, trivial⟩ ⟨osrc_arr (b := 0) rfl rfl rfl rfl (by simp only [ee]; rfl), trivial⟩ ⟨.refl _, .refl _, trivial⟩)
   · simp [ee] at c1
 · have q0 : iLt 8 16 = true := by simp only [ee] <;> rfl
   refine goB hX 0 (by conv => lhs; cbv; try simp only [q0]; cbv; try simp only [q0]; cbv; try simp only [q0]; cbv; try simp only [q0]; cbv) ?_
   refine on_cond rfl (fun c1 => ?_) (fun c1 => ?_)
   · simp [ee] at c1
     refine goA 60 ?_
     refine tr_drawX rfl (by conv => lhs; cbv) (by conv => lhs; cbv) (by decide) (by decide) (by conv => lhs; cbv) rfl ?_
     refine tgA ?_
     refine tr_nil ⟨rfl, by simp [LooksL, lookAll], ?_⟩
     refine goA 60 ?_
     refine loopP_next (putA [int (-1), int (-1), int (-1), int (-1), int (-1), int (-1), int (-1), int (-1), int 0, int 0, int 0, int 0, int 0, int 0, int 0, int 0] (idxN 0 8) (minN (lenN (partA [int (-1), int (-1), int (-1), int (-1), int (-1), int (-1), int (-1), int (-1), int 0, int 0, int 0, int 0, int 0, int 0, int 0, int 0] (idxN 0 0) (lenCut 0 8))) (lenCut 8 (iOf 16))) (partA [int (-1), int (-1), int (-1), int (-1), int (-1), int (-1), int (-1), int (-1), int 0, int 0, int 0, int 0, int 0, int 0, int 0, int 0] (idxN 0 0) (lenCut 0 8)), iAdd .i64 8 (iOf (minN (lenN (partA [int (-1), int (-1), int (-1), int (-1), int (-1), int (-1), int (-1), int (-1), int 0, int 0, int 0, int 0, int 0, int 0, int 0, int 0] (idxN 0 0) (lenCut 0 8))) (lenCut 8 (iOf 16))))) (by simp only [ee]; exact .inr (.inr (.inr (.inr ⟨rfl, rfl⟩)))) (by simp only [ee]; decide) (ent_sub [.to 0] [some 0] ⟨⟨by simp, rfl⟩, trivial⟩ ⟨osrc_arr (b := 0) rfl rfl rfl rfl (by simp only [ee]; rfl), trivial⟩ ⟨.refl _, .refl _, trivial⟩)
   · simp [ee] at c1
 · have q0 : iLt 16 16 = false := by simp only [ee] <;> rfl
   refine goB hX 0 (by conv => lhs; cbv; try simp only [q0]; cbv; try simp only [q0]; cbv; try simp only [q0]; cbv; try simp only [q0]; cbv) ?_
   refine on_cond rfl (fun c1 => ?_) (fun c1 => ?_)
   · simp [ee] at c1
   · simp [ee] at c1
     refine goA 60 ?_
     refine loopP_exit ?_
     refine goA 60 ?_
     refine o_ret (F2 := [(4, .sl 0 1 0 16)]) (H2 := [.arr 1 [int (-1), int (-1), int (-1), int (-1), int (-1), int (-1), int (-1), int (-1), int (-1), int (-1), int (-1), int (-1), int (-1), int (-1), int (-1), int (-1)]]) ?_ rfl ⟨rfl, rfl⟩
     exact (ent_sub [.to 0] [some 0] ⟨⟨by simp, rfl⟩, trivial⟩ ⟨osrc_arr (b := 0) rfl rfl rfl rfl (by rfl), trivial⟩ ⟨.refl _, trivial⟩)
def idxW (f : Int → Bool) : List Int → Int → Int
 | [], _ => -1
 | q :: r, i => if f q = true then i else idxW f r (i + 1)
theorem idxW_any (f : Int → Bool) : ∀ (l : List Int) (i : Int), 0 ≤ i → (0 ≤ idxW f l i ↔ l.any f = true) := by
 intro l
 induction l with
 | nil => intro i _; simp [idxW]
 | cons q r ih =>
  intro i hi
  rw [idxW, List.any_cons]
  cases hq : f q with
  | true => simp [hi]
  | false => simp [ih (i + 1) (by omega)]
theorem P_IndexFunc (g : FuncId) (cs : List AV) (hcs : AV.closedL cs = true) (f : Int → Bool) (l : List Int) (hl : l.length < 1048577) (hg : ∀ x ∈ l, PCall EE g ([int x] ++ cs) (bool (f x))) : PCall EE 70 [.isl 1 (mapE int l), .fn g cs] (int (idxW f l 0)) := by
 obtain ⟨j, hj⟩ : ∃ j, j = idxW f l 0 := ⟨_, rfl⟩
 rw [← hj]
 have hcl := closedI_int l
 have hfn : (AV.fn g cs).closed = true := by simp [AV.closed, hcs]
 refine wordsN ?_; unhygienic intros
 generalize hes : mapE int l = es at *
 have hel : es.length = l.length := by rw [← hes, mapE_len]
 refine fn_body (fn := Tryz.f70) (n := 19) (ac := Tryzc70) (rvs := [.t 4]) rfl (by decide) Tryzp70 rfl rfl rfl ?_
 refine goA 60 ?_
 refine on_loopP (ι := List Int × List Int × Int) (fun p => ([(8, int p.2.2), (7, int (lenA es)), (0, .isl 1 es), (1, .fn g cs)], [])) (fun p => l = p.1 ++ p.2.1 ∧ p.2.2 = p.1.length ∧ j = idxW f p.2.1 p.2.2) (fun p => p.2.1.length) ([], l, 0) ⟨rfl, rfl, hj⟩ ?_ ?_
 · exact (ent_sub [] [] trivial trivial ⟨.refl _, .refl _, .cl hcl, .cl hfn, trivial⟩)
 rintro ⟨d, r, i⟩ ⟨g1, gi, gv⟩
 dsimp only at g1 gi gv ⊢
 cases r with
 | nil =>
  have L1 := len_split g1
  try simp only [List.length] at L1
  have hc : iLt i (lenA es) = false := lt_f e_iLt e_lenA (by omega)
  rw [idxW] at gv
  refine goB hX 0 (by conv => lhs; cbv; try simp only [hc]; cbv; try simp only [hc]; cbv; try simp only [hc]; cbv; try simp only [hc]; cbv) ?_
  refine goA 60 ?_
  refine loopP_exit ?_
  refine goA 60 ?_
  refine fn_ret rfl rfl (.val ?_)
  exact congrArg (Value.int .i64) gv.symm
 | cons q r =>
  have L1 := len_split g1
  try simp only [List.length] at L1
  have hc : iLt i (lenA es) = true := lt_t e_iLt e_lenA (by omega)
  have hat := el_at e_atA hes g1 gi
  have hq := hg q (by rw [g1]; simp)
  have hi2 : iAdd .i64 i 1 = ((d ++ [q]).length : Int) := by rw [List.length_append]; exact inc_w e_iAdd gi (by omega)
  rw [idxW] at gv
  cases hfq : f q with
  | true =>
   rw [hfq] at hq gv
   rw [if_pos rfl] at gv
   refine goB hX 0 (by conv => lhs; cbv; try simp only [hc, hat]; cbv; try simp only [hc, hat]; cbv; try simp only [hc, hat]; cbv; try simp only [hc, hat]; cbv) ?_
   refine goB hX 1 (by conv => lhs; cbv; try simp only [hc, hat]; cbv; try simp only [hc, hat]; cbv; try simp only [hc, hat]; cbv; try simp only [hc, hat]; cbv) ?_
   refine on_pcallv (args := [int q] ++ cs) rfl rfl rfl rfl hq (by simp [AV.closedL, closed_v, hcs]) ?_
   refine goB hX 0 (by conv => lhs; cbv; try simp only [hc, hat]; cbv; try simp only [hc, hat]; cbv; try simp only [hc, hat]; cbv; try simp only [hc, hat]; cbv) ?_
   refine goA 60 ?_
   refine loopP_ret ?_
   refine goA 60 ?_
   refine fn_ret rfl rfl (.val ?_)
   exact congrArg (Value.int .i64) gv.symm
  | false =>
   rw [hfq] at hq gv
   rw [if_neg (by decide)] at gv
   have gv2 : j = idxW f r (iAdd .i64 i 1) := by rw [gv, hi2, gi]; simp
   refine goB hX 0 (by conv => lhs; cbv; try simp only [hc, hat]; cbv; try simp only [hc, hat]; cbv; try simp only [hc, hat]; cbv; try simp only [hc, hat]; cbv) ?_
   refine goB hX 1 (by conv => lhs; cbv; try simp only [hc, hat]; cbv; try simp only [hc, hat]; cbv; try simp only [hc, hat]; cbv; try simp only [hc, hat]; cbv) ?_
   refine on_pcallv (args := [int q] ++ cs) rfl rfl rfl rfl hq (by simp [AV.closedL, closed_v, hcs]) ?_
   refine goB hX 0 (by conv => lhs; cbv; try simp only [hc, hat]; cbv; try simp only [hc, hat]; cbv; try simp only [hc, hat]; cbv; try simp only [hc, hat]; cbv) ?_
   refine goA 60 ?_
   refine loopP_next (d ++ [q], r, iAdd .i64 i 1) ⟨by simp [g1], hi2, gv2⟩ (by simp) (ent_sub [] [] trivial trivial ⟨.refl _, .refl _, .cl hcl, .cl hfn, trivial⟩)
theorem P_ContainsFunc (g : FuncId) (cs : List AV) (hcs : AV.closedL cs = true) (f : Int → Bool) (l : List Int) (hl : l.length < 1048577) (hg : ∀ x ∈ l, PCall EE g ([int x] ++ cs) (bool (f x))) : PCall EE 40 [.isl 1 (mapE int l), .fn g cs] (bool (l.any f)) := by
 have h1 := P_IndexFunc g cs hcs f l hl hg
 have hj := idxW_any f l 0 (by omega)
 generalize idxW f l 0 = j at *
 have hcl := closedI_int l
 have hfn : (AV.fn g cs).closed = true := by simp [AV.closed, hcs]
 obtain ⟨R, hR⟩ : ∃ R, R = l.any f := ⟨_, rfl⟩
 rw [← hR] at hj ⊢
 refine wordsN ?_; unhygienic intros
 generalize mapE int l = es at *
 refine fn_body (fn := Tryz.f40) (n := 9) (ac := Tryzc40) (rvs := [.t 4]) rfl (by decide) Tryzp40 rfl rfl rfl ?_
 have hRe : iLe 0 j = R := by simp only [ee]; rw [Bool.eq_iff_iff]; simp [hj]
 refine goA 60 ?_
 refine oPA h1 ?_
 refine goA 60 ?_
 refine fn_ret rfl rfl (.val ?_)
 exact congrArg Value.bool hRe
theorem P_num1 (to : List Int) (v : Int) (h0 : 0 ≤ v) (h1 : v < to.length) : PCall EE 42 [int v, .iptr [.isl 1 (mapE int to)]] (bool (decide (to.getD v.toNat 0 < 0))) := by
 have hcl := closedI_int to
 obtain ⟨R, hR⟩ : ∃ R, R = decide (to.getD v.toNat 0 < 0) := ⟨_, rfl⟩
 rw [← hR]
 refine wordsN ?_; unhygienic intros
 generalize hes : mapE int to = es at *
 have hel : es.length = to.length := by rw [← hes, mapE_len]
 have hat : atA es v = int (to.getD v.toNat 0) := by
  simp only [ee]
  rw [← hes, mapE_eq, List.getD_eq_getElem?_getD, List.getElem?_map, List.getD_eq_getElem?_getD, List.getElem?_eq_getElem (by omega)]; rfl
 generalize to.getD v.toNat 0 = tv at *
 refine fn_body (fn := Tryz.f42) (n := 9) (ac := Tryzc42) (rvs := [.t 3]) rfl (by decide) Tryzp42 rfl rfl rfl ?_
 have hRe : iLt tv 0 = R := by simp only [ee]; exact hR.symm
 refine goB hX 0 (by conv => lhs; cbv; try simp only [hat]; cbv; try simp only [hat]; cbv; try simp only [hat]; cbv; try simp only [hat]; cbv) ?_
 refine goA 60 ?_
 refine fn_ret rfl rfl (.val ?_)
 exact congrArg Value.bool hRe
def Vl.sizeE (v : Vl) : Int := if v.kind = 0 ∧ (v.num < -1099511627776 ∨ 1099511627776 < v.num) then 2 else if v.kind = 1 ∧ v.num ≠ 0 ∧ v.num ≠ 1 then 2 else if 64 < (v.text.size : Int) then 13 else 0
def Vl.chk (v : Vl) : Int := if v.kind = 0 ∨ v.kind = 1 then (if v.text ≠ ⟨#[]⟩ then 3 else v.sizeE) else if v.kind = 2 then (if v.num ≠ 0 then 3 else v.sizeE) else 1
def suitsF (k : Int) (v : Vl) : Bool := decide (v.kind = 0 ∨ k = 4 ∨ k = 5)
theorem bs_nil {a : ByteArray} : a.toList = (ByteArray.mk #[]).toList ↔ a = ⟨#[]⟩ := ⟨fun h => bs_inj h, fun h => by rw [h]⟩
theorem P_value_size (v : Vl) : PCall EE 120 [v.enc] (int v.sizeE) := by
 obtain ⟨k, n, t⟩ := v
 unfold Vl.enc Vl.cs
 dsimp only
 obtain ⟨R, hR⟩ : ∃ R, R = Vl.sizeE ⟨k, n, t⟩ := ⟨_, rfl⟩
 rw [← hR]
 unfold Vl.sizeE at hR
 dsimp only at hR
 refine wordsN ?_; unhygienic intros
 refine fn_body (fn := Tryz.f120) (n := 36) (ac := Tryzc120) (rvs := [.t 2]) rfl (by decide) Tryzp120 rfl rfl rfl ?_
 refine goA 0 ?_
 refine nsB hX (by conv => lhs; cbv) ?_
 refine goA 0 ?_
 refine on_cond rfl (fun c1 => ?_) (fun c1 => ?_)
 ·
  simp [ee] at c1
  refine goA 60 ?_
  refine fn_ret rfl rfl (.val ?_)
  exact congrArg (Value.int .i64) (by rw [hR]; (repeat' split) <;> first | rfl | (exfalso; omega))
 ·
  simp [ee] at c1
  refine goA 0 ?_
  refine on_cond rfl (fun c2 => ?_) (fun c2 => ?_)
  ·
   simp [ee] at c2
   refine goA 60 ?_
   refine fn_ret rfl rfl (.val ?_)
   exact congrArg (Value.int .i64) (by rw [hR]; (repeat' split) <;> first | rfl | (exfalso; omega))
  ·
   simp [ee] at c2
   refine goA 0 ?_
   refine on_cond rfl (fun c3 => ?_) (fun c3 => ?_)
   ·
    simp [ee] at c3
    refine goA 60 ?_
    refine fn_ret rfl rfl (.val ?_)
    exact congrArg (Value.int .i64) (by rw [hR]; (repeat' split) <;> first | rfl | (exfalso; omega))
   ·
    simp [ee] at c3
    refine goA 60 ?_
    refine fn_ret rfl rfl (.val ?_)
    exact congrArg (Value.int .i64) (by rw [hR]; (repeat' split) <;> first | rfl | (exfalso; omega))
theorem P_value_Check (v : Vl) : PCall EE 114 [v.enc] (int v.chk) := by
 have hs := P_value_size v
 obtain ⟨k, n, t⟩ := v
 unfold Vl.enc Vl.cs at *
 dsimp only at *
 obtain ⟨R, hR⟩ : ∃ R, R = Vl.chk ⟨k, n, t⟩ := ⟨_, rfl⟩
 rw [← hR]
 unfold Vl.chk at hR
 generalize Vl.sizeE ⟨k, n, t⟩ = sz at *
 dsimp only at hR
 refine wordsN ?_; unhygienic intros
 refine fn_body (fn := Tryz.f114) (n := 18) (ac := Tryzc114) (rvs := [.t 2]) rfl (by decide) Tryzp114 rfl rfl rfl ?_
 by_cases ht : t = ⟨#[]⟩
 · have hw : sNe t ⟨#[]⟩ = false := by simp only [ee]; rw [ht]; simp
   have ht2 : ¬ (t ≠ ⟨#[]⟩) := fun h => h ht
   simp only [ht2, if_false] at hR
   refine goB hX 0 (by conv => lhs; cbv; try simp only [hw]; cbv; try simp only [hw]; cbv; try simp only [hw]; cbv; try simp only [hw]; cbv) ?_
   refine on_cond rfl (fun c1 => ?_) (fun c1 => ?_)
   ·
    simp [ee] at c1
    refine goB hX 0 (by conv => lhs; cbv; try simp only [hw]; cbv; try simp only [hw]; cbv; try simp only [hw]; cbv; try simp only [hw]; cbv) ?_
    refine on_cond rfl (fun c2 => ?_) (fun c2 => ?_)
    ·
     simp [ee] at c2
     refine goB hX 0 (by conv => lhs; cbv; try simp only [hw]; cbv; try simp only [hw]; cbv; try simp only [hw]; cbv; try simp only [hw]; cbv) ?_
     refine goA 60 ?_
     refine oPA hs ?_
     refine goA 60 ?_
     refine fn_ret rfl rfl (.val ?_)
     exact congrArg (Value.int .i64) (by rw [hR]; (repeat' split) <;> first | rfl | (exfalso; omega))
    ·
     simp [ee] at c2
     refine goB hX 0 (by conv => lhs; cbv; try simp only [hw]; cbv; try simp only [hw]; cbv; try simp only [hw]; cbv; try simp only [hw]; cbv) ?_
     refine on_cond rfl (fun c3 => ?_) (fun c3 => ?_)
     ·
      simp [ee] at c3
      refine goB hX 0 (by conv => lhs; cbv; try simp only [hw]; cbv; try simp only [hw]; cbv; try simp only [hw]; cbv; try simp only [hw]; cbv) ?_
      refine on_cond rfl (fun c4 => ?_) (fun c4 => ?_)
      ·
       simp [ee] at c4
       refine goA 60 ?_
       refine fn_ret rfl rfl (.val ?_)
       exact congrArg (Value.int .i64) (by rw [hR]; (repeat' split) <;> first | rfl | (exfalso; omega))
      ·
       simp [ee] at c4
       refine goA 60 ?_
       refine oPA hs ?_
       refine goA 60 ?_
       refine fn_ret rfl rfl (.val ?_)
       exact congrArg (Value.int .i64) (by rw [hR]; (repeat' split) <;> first | rfl | (exfalso; omega))
     ·
      simp [ee] at c3
      refine goA 60 ?_
      refine fn_ret rfl rfl (.val ?_)
      exact congrArg (Value.int .i64) (by rw [hR]; (repeat' split) <;> first | rfl | (exfalso; omega))
   ·
    simp [ee] at c1
    refine goB hX 0 (by conv => lhs; cbv; try simp only [hw]; cbv; try simp only [hw]; cbv; try simp only [hw]; cbv; try simp only [hw]; cbv) ?_
    refine on_cond rfl (fun c5 => ?_) (fun c5 => ?_)
    ·
     simp [ee] at c5
     refine goB hX 0 (by conv => lhs; cbv; try simp only [hw]; cbv; try simp only [hw]; cbv; try simp only [hw]; cbv; try simp only [hw]; cbv) ?_
     refine goA 60 ?_
     refine oPA hs ?_
     refine goA 60 ?_
     refine fn_ret rfl rfl (.val ?_)
     exact congrArg (Value.int .i64) (by rw [hR]; (repeat' split) <;> first | rfl | (exfalso; omega))
    ·
     simp [ee] at c5
     refine goB hX 0 (by conv => lhs; cbv; try simp only [hw]; cbv; try simp only [hw]; cbv; try simp only [hw]; cbv; try simp only [hw]; cbv) ?_
     refine on_cond rfl (fun c6 => ?_) (fun c6 => ?_)
     ·
      simp [ee] at c6
      refine goB hX 0 (by conv => lhs; cbv; try simp only [hw]; cbv; try simp only [hw]; cbv; try simp only [hw]; cbv; try simp only [hw]; cbv) ?_
      refine on_cond rfl (fun c7 => ?_) (fun c7 => ?_)
      ·
       simp [ee] at c7
       refine goA 60 ?_
       refine fn_ret rfl rfl (.val ?_)
       exact congrArg (Value.int .i64) (by rw [hR]; (repeat' split) <;> first | rfl | (exfalso; omega))
      ·
       simp [ee] at c7
       refine goA 60 ?_
       refine oPA hs ?_
       refine goA 60 ?_
       refine fn_ret rfl rfl (.val ?_)
       exact congrArg (Value.int .i64) (by rw [hR]; (repeat' split) <;> first | rfl | (exfalso; omega))
     ·
      simp [ee] at c6
      refine goA 60 ?_
      refine fn_ret rfl rfl (.val ?_)
      exact congrArg (Value.int .i64) (by rw [hR]; (repeat' split) <;> first | rfl | (exfalso; omega))
 · have hw : sNe t ⟨#[]⟩ = true := by simp only [ee]; simpa using fun h => ht (bs_inj h)
   have ht2 : t ≠ ⟨#[]⟩ := ht
   simp only [ne_eq, ht, not_false_eq_true, if_true] at hR
   refine goB hX 0 (by conv => lhs; cbv; try simp only [hw]; cbv; try simp only [hw]; cbv; try simp only [hw]; cbv; try simp only [hw]; cbv) ?_
   refine on_cond rfl (fun c1 => ?_) (fun c1 => ?_)
   ·
    simp [ee] at c1
    refine goB hX 0 (by conv => lhs; cbv; try simp only [hw]; cbv; try simp only [hw]; cbv; try simp only [hw]; cbv; try simp only [hw]; cbv) ?_
    refine on_cond rfl (fun c2 => ?_) (fun c2 => ?_)
    ·
     simp [ee] at c2
     refine goB hX 0 (by conv => lhs; cbv; try simp only [hw]; cbv; try simp only [hw]; cbv; try simp only [hw]; cbv; try simp only [hw]; cbv) ?_
     refine goA 60 ?_
     refine fn_ret rfl rfl (.val ?_)
     exact congrArg (Value.int .i64) (by rw [hR]; (repeat' split) <;> first | rfl | (exfalso; omega))
    ·
     simp [ee] at c2
     refine goB hX 0 (by conv => lhs; cbv; try simp only [hw]; cbv; try simp only [hw]; cbv; try simp only [hw]; cbv; try simp only [hw]; cbv) ?_
     refine on_cond rfl (fun c3 => ?_) (fun c3 => ?_)
     ·
      simp [ee] at c3
      refine goB hX 0 (by conv => lhs; cbv; try simp only [hw]; cbv; try simp only [hw]; cbv; try simp only [hw]; cbv; try simp only [hw]; cbv) ?_
      refine on_cond rfl (fun c4 => ?_) (fun c4 => ?_)
      ·
       simp [ee] at c4
       refine goA 60 ?_
       refine fn_ret rfl rfl (.val ?_)
       exact congrArg (Value.int .i64) (by rw [hR]; (repeat' split) <;> first | rfl | (exfalso; omega))
      ·
       simp [ee] at c4
       refine goA 60 ?_
       refine oPA hs ?_
       refine goA 60 ?_
       refine fn_ret rfl rfl (.val ?_)
       exact congrArg (Value.int .i64) (by rw [hR]; (repeat' split) <;> first | rfl | (exfalso; omega))
     ·
      simp [ee] at c3
      refine goA 60 ?_
      refine fn_ret rfl rfl (.val ?_)
      exact congrArg (Value.int .i64) (by rw [hR]; (repeat' split) <;> first | rfl | (exfalso; omega))
   ·
    simp [ee] at c1
    refine goB hX 0 (by conv => lhs; cbv; try simp only [hw]; cbv; try simp only [hw]; cbv; try simp only [hw]; cbv; try simp only [hw]; cbv) ?_
    refine on_cond rfl (fun c5 => ?_) (fun c5 => ?_)
    ·
     simp [ee] at c5
     refine goB hX 0 (by conv => lhs; cbv; try simp only [hw]; cbv; try simp only [hw]; cbv; try simp only [hw]; cbv; try simp only [hw]; cbv) ?_
     refine goA 60 ?_
     refine fn_ret rfl rfl (.val ?_)
     exact congrArg (Value.int .i64) (by rw [hR]; (repeat' split) <;> first | rfl | (exfalso; omega))
    ·
     simp [ee] at c5
     refine goB hX 0 (by conv => lhs; cbv; try simp only [hw]; cbv; try simp only [hw]; cbv; try simp only [hw]; cbv; try simp only [hw]; cbv) ?_
     refine on_cond rfl (fun c6 => ?_) (fun c6 => ?_)
     ·
      simp [ee] at c6
      refine goB hX 0 (by conv => lhs; cbv; try simp only [hw]; cbv; try simp only [hw]; cbv; try simp only [hw]; cbv; try simp only [hw]; cbv) ?_
      refine on_cond rfl (fun c7 => ?_) (fun c7 => ?_)
      ·
       simp [ee] at c7
       refine goA 60 ?_
       refine fn_ret rfl rfl (.val ?_)
       exact congrArg (Value.int .i64) (by rw [hR]; (repeat' split) <;> first | rfl | (exfalso; omega))
      ·
       simp [ee] at c7
       refine goA 60 ?_
       refine oPA hs ?_
       refine goA 60 ?_
       refine fn_ret rfl rfl (.val ?_)
       exact congrArg (Value.int .i64) (by rw [hR]; (repeat' split) <;> first | rfl | (exfalso; omega))
     ·
      simp [ee] at c6
      refine goA 60 ?_
      refine fn_ret rfl rfl (.val ?_)
      exact congrArg (Value.int .i64) (by rw [hR]; (repeat' split) <;> first | rfl | (exfalso; omega))
theorem P_expr_suits (k : Int) (v : Vl) : PCall EE 115 [int k, v.enc] (bool (suitsF k v)) := by
 obtain ⟨vk, n, t⟩ := v
 unfold Vl.enc Vl.cs
 dsimp only
 obtain ⟨R, hR⟩ : ∃ R, R = suitsF k ⟨vk, n, t⟩ := ⟨_, rfl⟩
 rw [← hR]
 unfold suitsF at hR
 dsimp only at hR
 refine wordsN ?_; unhygienic intros
 refine fn_body (fn := Tryz.f115) (n := 16) (ac := Tryzc115) (rvs := [.t 4]) rfl (by decide) Tryzp115 rfl rfl rfl ?_
 refine goA 60 ?_
 refine fn_ret rfl rfl (.val ?_)
 exact congrArg Value.bool (by rw [hR, Bool.eq_iff_iff]; simp [ee, or_assoc])
def usesV (o : Int) : Bool := decide (o = 1 ∨ o = 4 ∨ o = 2 ∨ o = 3)
def usesF (o : Int) : Bool := decide (o = 1 ∨ o = 4)
def arityN (o : Int) : Int := if o < 0 ∨ 12 < o then 0 else if o < 5 then 0 else if o = 12 then 1 else 2
def arityB (o : Int) : Bool := decide (0 ≤ o ∧ o ≤ 12)
theorem P_expr_uses (o : Int) : PCall EE 73 [int o] (.tup [bool (usesV o), bool (usesF o)]) := by
 obtain ⟨R, hR⟩ : ∃ R, R = usesV o := ⟨_, rfl⟩
 obtain ⟨R2, hR2⟩ : ∃ R, R = usesF o := ⟨_, rfl⟩
 rw [← hR, ← hR2]
 unfold usesV at hR
 unfold usesF at hR2
 refine wordsN ?_; unhygienic intros
 refine fn_body (fn := Tryz.f73) (n := 11) (ac := Tryzc73) (rvs := [.t 2, .t 3]) rfl (by decide) Tryzp73 rfl rfl rfl ?_
 refine goA 0 ?_
 refine on_cond rfl (fun c1 => ?_) (fun c1 => ?_)
 ·
  simp [ee] at c1
  refine goA 0 ?_
  refine on_cond rfl (fun c2 => ?_) (fun c2 => ?_)
  ·
   simp [ee] at c2
   refine goA 60 ?_
   refine fn_ret rfl rfl ?_
   exact Fz.none (.tup' ⟨.of (congrArg bool (by rw [hR]; symm; first | exact decide_eq_true (by omega) | exact decide_eq_false (by omega))), .of (congrArg bool (by rw [hR2]; symm; first | exact decide_eq_true (by omega) | exact decide_eq_false (by omega))), trivial⟩)
  ·
   simp [ee] at c2
   refine goA 0 ?_
   refine on_cond rfl (fun c3 => ?_) (fun c3 => ?_)
   ·
    simp [ee] at c3
    refine goA 0 ?_
    refine on_cond rfl (fun c4 => ?_) (fun c4 => ?_)
    ·
     simp [ee] at c4
     refine goA 60 ?_
     refine fn_ret rfl rfl ?_
     exact Fz.none (.tup' ⟨.of (congrArg bool (by rw [hR]; symm; first | exact decide_eq_true (by omega) | exact decide_eq_false (by omega))), .of (congrArg bool (by rw [hR2]; symm; first | exact decide_eq_true (by omega) | exact decide_eq_false (by omega))), trivial⟩)
    ·
     simp [ee] at c4
     refine goA 60 ?_
     refine fn_ret rfl rfl ?_
     exact Fz.none (.tup' ⟨.of (congrArg bool (by rw [hR]; symm; first | exact decide_eq_true (by omega) | exact decide_eq_false (by omega))), .of (congrArg bool (by rw [hR2]; symm; first | exact decide_eq_true (by omega) | exact decide_eq_false (by omega))), trivial⟩)
   ·
    simp [ee] at c3
    refine goA 0 ?_
    refine on_cond rfl (fun c5 => ?_) (fun c5 => ?_)
    ·
     simp [ee] at c5
     refine goA 60 ?_
     refine fn_ret rfl rfl ?_
     exact Fz.none (.tup' ⟨.of (congrArg bool (by rw [hR]; symm; first | exact decide_eq_true (by omega) | exact decide_eq_false (by omega))), .of (congrArg bool (by rw [hR2]; symm; first | exact decide_eq_true (by omega) | exact decide_eq_false (by omega))), trivial⟩)
    ·
     simp [ee] at c5
     refine goA 60 ?_
     refine fn_ret rfl rfl ?_
     exact Fz.none (.tup' ⟨.of (congrArg bool (by rw [hR]; symm; first | exact decide_eq_true (by omega) | exact decide_eq_false (by omega))), .of (congrArg bool (by rw [hR2]; symm; first | exact decide_eq_true (by omega) | exact decide_eq_false (by omega))), trivial⟩)
 ·
  simp [ee] at c1
  refine goA 0 ?_
  refine on_cond rfl (fun c6 => ?_) (fun c6 => ?_)
  ·
   simp [ee] at c6
   refine goA 60 ?_
   refine fn_ret rfl rfl ?_
   exact Fz.none (.tup' ⟨.of (congrArg bool (by rw [hR]; symm; first | exact decide_eq_true (by omega) | exact decide_eq_false (by omega))), .of (congrArg bool (by rw [hR2]; symm; first | exact decide_eq_true (by omega) | exact decide_eq_false (by omega))), trivial⟩)
  ·
   simp [ee] at c6
   refine goA 0 ?_
   refine on_cond rfl (fun c7 => ?_) (fun c7 => ?_)
   ·
    simp [ee] at c7
    refine goA 0 ?_
    refine on_cond rfl (fun c8 => ?_) (fun c8 => ?_)
    ·
     simp [ee] at c8
     refine goA 60 ?_
     refine fn_ret rfl rfl ?_
     exact Fz.none (.tup' ⟨.of (congrArg bool (by rw [hR]; symm; first | exact decide_eq_true (by omega) | exact decide_eq_false (by omega))), .of (congrArg bool (by rw [hR2]; symm; first | exact decide_eq_true (by omega) | exact decide_eq_false (by omega))), trivial⟩)
    ·
     simp [ee] at c8
     refine goA 60 ?_
     refine fn_ret rfl rfl ?_
     exact Fz.none (.tup' ⟨.of (congrArg bool (by rw [hR]; symm; first | exact decide_eq_true (by omega) | exact decide_eq_false (by omega))), .of (congrArg bool (by rw [hR2]; symm; first | exact decide_eq_true (by omega) | exact decide_eq_false (by omega))), trivial⟩)
   ·
    simp [ee] at c7
    refine goA 0 ?_
    refine on_cond rfl (fun c9 => ?_) (fun c9 => ?_)
    ·
     simp [ee] at c9
     refine goA 60 ?_
     refine fn_ret rfl rfl ?_
     exact Fz.none (.tup' ⟨.of (congrArg bool (by rw [hR]; symm; first | exact decide_eq_true (by omega) | exact decide_eq_false (by omega))), .of (congrArg bool (by rw [hR2]; symm; first | exact decide_eq_true (by omega) | exact decide_eq_false (by omega))), trivial⟩)
    ·
     simp [ee] at c9
     refine goA 60 ?_
     refine fn_ret rfl rfl ?_
     exact Fz.none (.tup' ⟨.of (congrArg bool (by rw [hR]; symm; first | exact decide_eq_true (by omega) | exact decide_eq_false (by omega))), .of (congrArg bool (by rw [hR2]; symm; first | exact decide_eq_true (by omega) | exact decide_eq_false (by omega))), trivial⟩)
theorem P_expr_arity (o : Int) : PCall EE 105 [int o] (.tup [int (arityN o), bool (arityB o)]) := by
 obtain ⟨R, hR⟩ : ∃ R, R = arityN o := ⟨_, rfl⟩
 obtain ⟨R2, hR2⟩ : ∃ R, R = arityB o := ⟨_, rfl⟩
 rw [← hR, ← hR2]
 unfold arityN at hR
 unfold arityB at hR2
 refine wordsN ?_; unhygienic intros
 refine fn_body (fn := Tryz.f105) (n := 17) (ac := Tryzc105) (rvs := [.t 2, .t 3]) rfl (by decide) Tryzp105 rfl rfl rfl ?_
 refine goA 0 ?_
 refine on_cond rfl (fun c1 => ?_) (fun c1 => ?_)
 ·
  simp [ee] at c1
  refine goA 60 ?_
  refine fn_ret rfl rfl ?_
  exact Fz.none (.tup' ⟨.of (congrArg int (by rw [hR]; (repeat' split) <;> first | rfl | omega)), .of (congrArg bool (by rw [hR2]; simp; omega)), trivial⟩)
 ·
  simp [ee] at c1
  refine goA 0 ?_
  refine on_cond rfl (fun c2 => ?_) (fun c2 => ?_)
  ·
   simp [ee] at c2
   refine goA 60 ?_
   refine fn_ret rfl rfl ?_
   exact Fz.none (.tup' ⟨.of (congrArg int (by rw [hR]; (repeat' split) <;> first | rfl | omega)), .of (congrArg bool (by rw [hR2]; simp; omega)), trivial⟩)
  ·
   simp [ee] at c2
   refine goA 0 ?_
   refine on_cond rfl (fun c3 => ?_) (fun c3 => ?_)
   ·
    simp [ee] at c3
    refine goA 60 ?_
    refine fn_ret rfl rfl ?_
    exact Fz.none (.tup' ⟨.of (congrArg int (by rw [hR]; (repeat' split) <;> first | rfl | omega)), .of (congrArg bool (by rw [hR2]; simp; omega)), trivial⟩)
   ·
    simp [ee] at c3
    refine goA 60 ?_
    refine fn_ret rfl rfl ?_
    exact Fz.none (.tup' ⟨.of (congrArg int (by rw [hR]; (repeat' split) <;> first | rfl | omega)), .of (congrArg bool (by rw [hR2]; simp; omega)), trivial⟩)
def Vl0 : Vl := ⟨0, 0, ⟨#[]⟩⟩
theorem Vl.eq0 {v : Vl} : v = Vl0 ↔ v.kind = 0 ∧ v.num = 0 ∧ v.text.toList = [] := by
 have hn : (ByteArray.mk #[]).toList = [] := by simp
 rw [← hn]
 obtain ⟨k, n, t⟩ := v
 simp only [Vl0, Vl.mk.injEq, bs_nil]
open Classical in
noncomputable def Ex.consE (e : Ex) : Int := if e.val.chk ≠ 0 then e.val.chk else if e.op = 4 ∧ (suitsF e.kind e.val = false ∨ (e.kind = 1 ∧ e.val ≠ Vl0)) then 9 else 0
def Ex.formB (e : Ex) : Prop := (usesV e.op = true ∨ e.var = 0) ∧ (usesF e.op = true ∨ e.fld = 0) ∧ (e.op = 4 ∨ e.kind = 0) ∧ ((e.op = 4 ∨ e.op = 0) ∨ e.val = Vl0)
open Classical in
noncomputable def Ex.nodeE (e : Ex) : Int :=
 if arityB e.op = false then 1 else if (e.args.length : Int) ≠ arityN e.op then 15
 else if (usesV e.op = true ∧ (e.var < 0 ∨ 16 ≤ e.var)) ∨ (usesF e.op = true ∧ (e.fld < 0 ∨ 8 ≤ e.fld)) then 2
 else if e.op = 4 ∧ (e.kind < 1 ∨ 5 < e.kind) then 1
 else if (e.op = 4 ∨ e.op = 0) ∧ e.consE ≠ 0 then e.consE
 else if e.formB then 0 else 3
theorem P_expr_constants (e : Ex) : PCall EE 106 [e.enc] (int e.consE) := by
 have hs := P_expr_suits e.kind e.val
 have hk := P_value_Check e.val
 have h0 := @Vl.eq0 e.val
 have hcl := Ex.closed e
 obtain ⟨R, hR⟩ : ∃ R, R = e.consE := ⟨_, rfl⟩
 rw [← hR]
 unfold Ex.consE at hR
 generalize suitsF e.kind e.val = sb at *
 generalize e.val.chk = ck at *
 obtain ⟨o, a, v, f, k, ⟨xk, xn, xt⟩⟩ := e
 simp only [Ex.op, Ex.kind, Ex.val] at *
 rw [Ex.enc_mk] at hcl ⊢
 unfold Vl.enc Vl.cs at *
 dsimp only at *
 refine wordsN ?_; unhygienic intros
 generalize mapE Ex.enc a = es at *
 refine fn_body (fn := Tryz.f106) (n := 32) (ac := Tryzc106) (rvs := [.t 2]) rfl (by decide) Tryzp106 rfl rfl rfl ?_
 refine goA 60 ?_
 refine oPA hk ?_
 refine goA 0 ?_
 refine on_cond rfl (fun c1 => ?_) (fun c1 => ?_)
 ·
  simp [ee] at c1
  refine goA 60 ?_
  refine fn_ret rfl rfl (.val ?_)
  exact congrArg (Value.int .i64) (by rw [hR]; clear ee hX; grind)
 ·
  simp [ee] at c1
  refine goA 0 ?_
  refine on_guard rfl rfl (fun c2 => ?_) (fun c2 => ?_)
  ·
   simp [ee] at c2
   refine goA 60 ?_
   refine oPG hs ?_
   refine goA 0 ?_
   refine goA 1 ?_
   refine goA 1 ?_
   refine nsB hX (by conv => lhs; cbv) ?_
   refine goA 0 ?_
   refine on_cond rfl (fun c3 => ?_) (fun c3 => ?_)
   ·
    simp [ee] at c3
    refine goA 60 ?_
    refine fn_ret rfl rfl (.val ?_)
    exact congrArg (Value.int .i64) (by rw [hR]; clear ee hX; grind)
   ·
    simp [ee] at c3
    refine goA 60 ?_
    refine fn_ret rfl rfl (.val ?_)
    exact congrArg (Value.int .i64) (by rw [hR]; clear ee hX; grind)
  ·
   simp [ee] at c2
   refine goA 60 ?_
   refine on_gskip rfl rfl ?_
   refine goA 60 ?_
   refine fn_ret rfl rfl (.val ?_)
   exact congrArg (Value.int .i64) (by rw [hR]; clear ee hX; grind)
theorem P_expr_node (e : Ex) (hlen : e.args.length < 1048576) : PCall EE 91 [e.enc] (int e.nodeE) := by
 have hu := P_expr_uses e.op
 have har := P_expr_arity e.op
 have hk := P_expr_constants e
 have h0 := @Vl.eq0 e.val
 have hcl := Ex.closed e
 obtain ⟨R, hR⟩ : ∃ R, R = e.nodeE := ⟨_, rfl⟩
 rw [← hR]
 unfold Ex.nodeE Ex.formB at hR
 generalize usesV e.op = uv at *
 generalize usesF e.op = uf at *
 generalize arityN e.op = an at *
 generalize arityB e.op = ab at *
 generalize e.consE = ck at *
 obtain ⟨o, a, v, f, k, ⟨xk, xn, xt⟩⟩ := e
 simp only [Ex.op, Ex.kind, Ex.val, Ex.args, Ex.var, Ex.fld] at *
 rw [Ex.enc_mk] at hcl hk ⊢
 dsimp only at *
 refine wordsN ?_; unhygienic intros
 generalize hes : mapE Ex.enc a = es at *
 have hel : es.length = a.length := by rw [← hes, mapE_len]
 refine fn_body (fn := Tryz.f91) (n := 114) (ac := Tryzc91) (rvs := [.t 2]) rfl (by decide) Tryzp91 rfl rfl rfl ?_
 refine goA 60 ?_
 refine oPA har ?_
 refine goA 0 ?_
 refine on_cond rfl (fun c1 => ?_) (fun c1 => ?_)
 ·
  simp [ee] at c1
  refine goA 60 ?_
  refine fn_ret rfl rfl (.val ?_)
  exact congrArg (Value.int .i64) (by rw [hR]; clear ee hX; grind)
 ·
  simp [ee] at c1
  refine goA 0 ?_
  refine on_cond rfl (fun c2 => ?_) (fun c2 => ?_)
  ·
   simp [ee] at c2
   refine goA 60 ?_
   refine fn_ret rfl rfl (.val ?_)
   exact congrArg (Value.int .i64) (by rw [hR]; clear ee hX; grind)
  ·
   simp [ee] at c2
   refine goA 60 ?_
   refine oPA hu ?_
   refine goA 0 ?_
   refine nsB hX (by conv => lhs; cbv) ?_
   refine goA 0 ?_
   refine nsB hX (by conv => lhs; cbv) ?_
   refine goA 0 ?_
   refine on_cond rfl (fun c3 => ?_) (fun c3 => ?_)
   ·
    simp [ee] at c3
    refine goA 60 ?_
    refine fn_ret rfl rfl (.val ?_)
    exact congrArg (Value.int .i64) (by rw [hR]; clear ee hX; grind)
   ·
    simp [ee] at c3
    refine goA 0 ?_
    refine nsB hX (by conv => lhs; cbv) ?_
    refine goA 0 ?_
    refine on_cond rfl (fun c4 => ?_) (fun c4 => ?_)
    ·
     simp [ee] at c4
     refine goA 60 ?_
     refine fn_ret rfl rfl (.val ?_)
     exact congrArg (Value.int .i64) (by rw [hR]; clear ee hX; grind)
    ·
     simp [ee] at c4
     refine goA 0 ?_
     refine on_cond rfl (fun c5 => ?_) (fun c5 => ?_)
     ·
      simp [ee] at c5
      refine goA 60 ?_
      refine oPA hk ?_
      refine goA 0 ?_
      refine on_cond rfl (fun c6 => ?_) (fun c6 => ?_)
      ·
       simp [ee] at c6
       refine goA 60 ?_
       refine fn_ret rfl rfl (.val ?_)
       exact congrArg (Value.int .i64) (by rw [hR]; clear ee hX; grind)
      ·
       simp [ee] at c6
       refine goA 0 ?_
       refine nsB hX (by conv => lhs; cbv) ?_
       refine goA 0 ?_
       refine nsB hX (by conv => lhs; cbv) ?_
       refine goA 0 ?_
       refine nsB hX (by conv => lhs; cbv) ?_
       refine goA 0 ?_
       refine on_cond rfl (fun c7 => ?_) (fun c7 => ?_)
       ·
        simp [ee] at c7
        refine goA 60 ?_
        refine fn_ret rfl rfl (.val ?_)
        exact congrArg (Value.int .i64) (by rw [hR]; clear ee hX; grind)
       ·
        simp [ee] at c7
        refine goA 60 ?_
        refine fn_ret rfl rfl (.val ?_)
        exact congrArg (Value.int .i64) (by rw [hR]; clear ee hX; grind)
     ·
      simp [ee] at c5
      refine goA 0 ?_
      refine nsB hX (by conv => lhs; cbv) ?_
      refine goA 0 ?_
      refine nsB hX (by conv => lhs; cbv) ?_
      refine goA 0 ?_
      refine nsB hX (by conv => lhs; cbv) ?_
      refine goA 0 ?_
      refine on_cond rfl (fun c8 => ?_) (fun c8 => ?_)
      ·
       simp [ee] at c8
       refine goA 60 ?_
       refine fn_ret rfl rfl (.val ?_)
       exact congrArg (Value.int .i64) (by rw [hR]; clear ee hX; grind)
      ·
       simp [ee] at c8
       refine goA 60 ?_
       refine fn_ret rfl rfl (.val ?_)
       exact congrArg (Value.int .i64) (by rw [hR]; clear ee hX; grind)
theorem P_expr_Size : ∀ p : Ex, p.Sm → PCall EE 90 [p.enc] (.tup [int p.cnt, int p.dep]) := by
 refine Ex.ind ?_
 intro o a v f k x ih hs
 have hlen := hs.len
 have hih : ∀ q ∈ a, PCall EE 90 [q.enc] (.tup [int q.cnt, int q.dep]) := fun q hq => ih q hq (hs.arg hq)
 have hcl := Ex.closedI a
 unfold Ex.Sm at hs
 have hcnt := hs
 simp only [Ex.cnt] at hcnt
 have hde := fun q : Ex => Ex.dep_le q
 simp only [Ex.cnt, Ex.dep]
 rw [Ex.enc_mk]
 refine wordsN ?_; unhygienic intros
 generalize hes : mapE Ex.enc a = es at *
 have hel : es.length = a.length := by rw [← hes, mapE_len]
 refine fn_body (fn := Tryz.f90) (n := 32) (ac := Tryzc90) (rvs := [.t 2, .t 3]) rfl (by decide) Tryzp90 rfl rfl rfl ?_
 refine goA 60 ?_
 refine on_loopP (ι := List Ex × List Ex × Int × Int × Int) (fun p => ([(5, int p.2.2.2.2), (4, int p.2.2.2.1), (13, int p.2.2.1), (12, int (lenA es)), (11, .isl 8 es)], [])) (fun p => a = p.1 ++ p.2.1 ∧ p.2.2.1 = p.1.length ∧ p.2.2.2.1 = 1 + Ex.cntL p.1 ∧ Ex.depL 0 a = Ex.depL p.2.2.2.2.toNat p.2.1 ∧ 0 ≤ p.2.2.2.2 ∧ p.2.2.2.2 ≤ 1048576) (fun p => p.2.1.length) ([], a, 0, 1, 0) ⟨rfl, rfl, rfl, rfl, by simp⟩ ?_ ?_
 · exact (ent_sub [.gone] [] ⟨trivial, trivial⟩ trivial ⟨.refl _, .refl _, .refl _, .refl _, .cl hcl, trivial⟩)
 rintro ⟨d, r, i, nn, dd⟩ ⟨g1, gi, gn, gd, gb⟩
 dsimp only at g1 gi gn gd gb ⊢
 cases r with
 | nil =>
  have L1 := len_split g1
  try simp only [List.length] at L1
  have hc : iLt i (lenA es) = false := lt_f e_iLt e_lenA (by omega)
  rw [List.append_nil] at g1
  rw [gd, Ex.depL, g1]
  have ha1 : iAdd .i64 dd 1 = ((dd.toNat + 1 : Nat) : Int) := by rw [add_w e_iAdd (by omega) (by omega)]; omega
  have hn : nn = ((1 + Ex.cntL d : Nat) : Int) := by omega
  refine goB hX 0 (by conv => lhs; cbv; try simp only [hc]; cbv; try simp only [hc]; cbv; try simp only [hc]; cbv; try simp only [hc]; cbv) ?_
  refine goA 60 ?_
  refine loopP_exit ?_
  refine goA 60 ?_
  refine fn_ret rfl rfl ?_
  exact ⟨[], trivial, .tup' ⟨.of (congrArg int hn), .of (congrArg int ha1), trivial⟩⟩
 | cons q r =>
  have L1 := len_split g1
  try simp only [List.length] at L1
  have hc : iLt i (lenA es) = true := lt_t e_iLt e_lenA (by omega)
  have hat := el_at e_atA hes g1 gi
  have hq := hih q (by rw [g1]; simp)
  have hqc := Ex.closed q
  have hqd := hde q
  rw [g1, Ex.cntL_append, Ex.cntL] at hcnt
  obtain ⟨qO, qA, qV, qF, qK, qXk, qXn, qXt, hx⟩ := Ex.form q
  rw [hx] at hq hat hqc
  generalize hqn : (q.cnt : Int) = qn at hq
  generalize hqp : (q.dep : Int) = qp at hq
  have hn2 : iAdd .i64 nn qn = 1 + Ex.cntL (d ++ [q]) := by rw [Ex.cntL_append, Ex.cntL, Ex.cntL, add_w e_iAdd (by omega) (by omega)]; omega
  have hi2 : iAdd .i64 i 1 = ((d ++ [q]).length : Int) := by rw [List.length_append]; exact inc_w e_iAdd gi (by omega)
  have hd2 : iMax dd qp = ((max dd.toNat q.dep : Nat) : Int) := by simp only [ee]; split <;> omega
  refine goB hX 0 (by conv => lhs; cbv; try simp only [hc, hat]; cbv; try simp only [hc, hat]; cbv; try simp only [hc, hat]; cbv; try simp only [hc, hat]; cbv) ?_
  refine goB hX 1 (by conv => lhs; cbv; try simp only [hc, hat]; cbv; try simp only [hc, hat]; cbv; try simp only [hc, hat]; cbv; try simp only [hc, hat]; cbv) ?_
  refine oPA hq ?_
  refine goA 60 ?_
  refine loopP_next (d ++ [q], r, iAdd .i64 i 1, iAdd .i64 nn qn, iMax dd qp) ⟨by simp [g1], hi2, hn2, by rw [gd, hd2, Ex.depL]; rfl, by show 0 ≤ iMax dd qp; omega, by show iMax dd qp ≤ 1048576; omega⟩ (by simp) (ent_sub [.gone] [] ⟨trivial, trivial⟩ trivial ⟨.refl _, .refl _, .refl _, .refl _, .cl hcl, trivial⟩)
def firstE {α : Type} (F : α → Int) : List α → Int
 | [] => 0
 | q :: r => if F q ≠ 0 then F q else firstE F r
theorem firstE_append {α : Type} (F : α → Int) : ∀ a b : List α, firstE F (a ++ b) = if firstE F a ≠ 0 then firstE F a else firstE F b
 | [], b => by simp [firstE]
 | q :: a, b => by
  rw [List.cons_append, firstE, firstE, firstE_append F a b]
  by_cases h : F q = 0 <;> simp [h]
theorem P_expr_visit (g : FuncId) (cs : List AV) (hcs : AV.closedL cs = true) (F : Ex → Int) : ∀ e : Ex, e.Sm → (∀ q ∈ e.nodes, PCall EE g ([q.enc] ++ cs) (int (F q))) → PCall EE 71 [e.enc, .fn g cs] (int (firstE F e.nodes)) := by
 refine Ex.ind ?_
 intro o a v f k x ih hs hF
 have hlen := hs.len
 have hih : ∀ q ∈ a, PCall EE 71 [q.enc, .fn g cs] (int (firstE F q.nodes)) := fun q hq => ih q hq (hs.arg hq) fun q2 hq2 => hF q2 (by
  rw [Ex.nodes]
  obtain ⟨d, r, rfl⟩ := List.append_of_mem hq
  simp [Ex.nodesL_append, Ex.nodesL, hq2])
 have hcl := Ex.closedI a
 obtain ⟨pp, hpp⟩ : ∃ pp, pp = Ex.mk o a v f k x := ⟨_, rfl⟩
 have hh := hF pp (by rw [Ex.nodes, hpp]; simp)
 have hpe : pp.enc = (Ex.mk o a v f k x).enc := by rw [hpp]
 rw [Ex.nodes, ← hpp]
 obtain ⟨xk, xn, xt⟩ := x
 rw [Ex.enc_mk] at hpe
 dsimp only at hpe
 have hpc := Ex.closed pp
 rw [hpe] at hh hpc ⊢
 obtain ⟨R, hR⟩ : ∃ R, R = firstE F (pp :: Ex.nodesL a) := ⟨_, rfl⟩
 rw [← hR]
 rw [firstE] at hR
 have hfn : (AV.fn g cs).closed = true := by simp [AV.closed, hcs]
 clear ih hs hF hpp hpe
 refine wordsN ?_; unhygienic intros
 generalize hes : mapE Ex.enc a = es at *
 have hel : es.length = a.length := by rw [← hes, mapE_len]
 generalize F pp = fp at *
 refine fn_body (fn := Tryz.f71) (n := 29) (ac := Tryzc71) (rvs := [.t 4]) rfl (by decide) Tryzp71 rfl rfl rfl ?_
 by_cases h1 : fp = 0
 rotate_left
 · have w1 : iNe fp 0 = true := by simp only [ee]; simpa using h1
   have hR : R = fp := by rw [hR, if_pos h1]
   refine goA 60 ?_
   refine on_pcallv (args := [AV.agg [int o, AV.isl 8 es, int v, int f, int k, int xk, int xn, str xt]] ++ cs) rfl rfl rfl rfl hh (by simp [AV.closedL, closed_v, closed_agg, closed_fn, closed_iptr, hpc, hcs]) ?_
   refine goB hX 0 (by conv => lhs; cbv; try simp only [w1]; cbv; try simp only [w1]; cbv; try simp only [w1]; cbv; try simp only [w1]; cbv) ?_
   refine goA 60 ?_
   refine fn_ret rfl rfl (.val ?_)
   exact congrArg (Value.int .i64) hR.symm
 have w1 : iNe fp 0 = false := by simp only [ee]; simpa using h1
 have hR : R = firstE F (Ex.nodesL a) := by rw [hR, if_neg (by simpa using h1)]
 refine goA 60 ?_
 refine on_pcallv (args := [AV.agg [int o, AV.isl 8 es, int v, int f, int k, int xk, int xn, str xt]] ++ cs) rfl rfl rfl rfl hh (by simp [AV.closedL, closed_v, closed_agg, closed_fn, closed_iptr, hpc, hcs]) ?_
 refine goB hX 0 (by conv => lhs; cbv; try simp only [w1]; cbv; try simp only [w1]; cbv; try simp only [w1]; cbv; try simp only [w1]; cbv) ?_
 refine goA 60 ?_
 refine on_loopP (ι := List Ex × List Ex × Int) (fun p => ([(18, int p.2.2), (17, int (lenA es)), (16, .isl 8 es), (1, .fn g cs)], [])) (fun p => a = p.1 ++ p.2.1 ∧ p.2.2 = p.1.length ∧ R = firstE F (Ex.nodesL p.2.1)) (fun p => p.2.1.length) ([], a, 0) ⟨rfl, rfl, hR⟩ ?_ ?_
 · exact (ent_sub [.gone] [] ⟨trivial, trivial⟩ trivial ⟨.refl _, .refl _, .cl hcl, .cl hfn, trivial⟩)
 rintro ⟨d, r, i⟩ ⟨g1, gi, gR⟩
 dsimp only at g1 gi gR ⊢
 cases r with
 | nil =>
  have L1 := len_split g1
  try simp only [List.length] at L1
  have hc : iLt i (lenA es) = false := lt_f e_iLt e_lenA (by omega)
  have gR : R = 0 := gR
  refine goB hX 0 (by conv => lhs; cbv; try simp only [hc]; cbv; try simp only [hc]; cbv; try simp only [hc]; cbv; try simp only [hc]; cbv) ?_
  refine goA 60 ?_
  refine loopP_exit ?_
  refine goA 60 ?_
  refine fn_ret rfl rfl (.val ?_)
  exact congrArg (Value.int .i64) gR.symm
 | cons q r =>
  have L1 := len_split g1
  try simp only [List.length] at L1
  have hc : iLt i (lenA es) = true := lt_t e_iLt e_lenA (by omega)
  have hat := el_at e_atA hes g1 gi
  have hq := hih q (by rw [g1]; simp)
  have hqc := Ex.closed q
  rw [Ex.nodesL, firstE_append] at gR
  obtain ⟨qO, qA, qV, qF, qK, qXk, qXn, qXt, hx⟩ := Ex.form q
  rw [hx] at hat hqc hq
  have hi2 : iAdd .i64 i 1 = ((d ++ [q]).length : Int) := by rw [List.length_append]; exact inc_w e_iAdd gi (by omega)
  generalize firstE F q.nodes = fq at *
  by_cases h2 : fq = 0
  · have w2 : iNe fq 0 = false := by simp only [ee]; simpa using h2
    rw [if_neg (by simpa using h2)] at gR
    refine goB hX 0 (by conv => lhs; cbv; try simp only [hc, hat, w2]; cbv; try simp only [hc, hat, w2]; cbv; try simp only [hc, hat, w2]; cbv; try simp only [hc, hat, w2]; cbv) ?_
    refine goB hX 1 (by conv => lhs; cbv; try simp only [hc, hat, w2]; cbv; try simp only [hc, hat, w2]; cbv; try simp only [hc, hat, w2]; cbv; try simp only [hc, hat, w2]; cbv) ?_
    refine oPA hq ?_
    refine goB hX 0 (by conv => lhs; cbv; try simp only [hc, hat, w2]; cbv; try simp only [hc, hat, w2]; cbv; try simp only [hc, hat, w2]; cbv; try simp only [hc, hat, w2]; cbv) ?_
    refine goA 60 ?_
    refine loopP_next (d ++ [q], r, iAdd .i64 i 1) ⟨by simp [g1], hi2, gR⟩ (by simp) (ent_sub [.gone] [] ⟨trivial, trivial⟩ trivial ⟨.refl _, .refl _, .cl hcl, .cl hfn, trivial⟩)
  · have w2 : iNe fq 0 = true := by simp only [ee]; simpa using h2
    rw [if_pos h2] at gR
    refine goB hX 0 (by conv => lhs; cbv; try simp only [hc, hat, w2]; cbv; try simp only [hc, hat, w2]; cbv; try simp only [hc, hat, w2]; cbv; try simp only [hc, hat, w2]; cbv) ?_
    refine goB hX 1 (by conv => lhs; cbv; try simp only [hc, hat, w2]; cbv; try simp only [hc, hat, w2]; cbv; try simp only [hc, hat, w2]; cbv; try simp only [hc, hat, w2]; cbv) ?_
    refine oPA hq ?_
    refine goB hX 0 (by conv => lhs; cbv; try simp only [hc, hat, w2]; cbv; try simp only [hc, hat, w2]; cbv; try simp only [hc, hat, w2]; cbv; try simp only [hc, hat, w2]; cbv) ?_
    refine goA 60 ?_
    refine loopP_ret ?_
    refine goA 60 ?_
    refine fn_ret rfl rfl (.val ?_)
    exact congrArg (Value.int .i64) gR.symm
noncomputable def Ex.chk (e : Ex) : Int := if 64 < e.cnt then 5 else if 12 < e.dep then 12 else firstE Ex.nodeE e.nodes
theorem Ex.Sm.len' {e : Ex} (h : e.Sm) : e.args.length < 1048576 := by obtain ⟨o, a, v, f, k, x⟩ := e; exact h.len
theorem P_expr_Check (e : Ex) (hs : e.Sm) : PCall EE 77 [e.enc] (int e.chk) := by
 have h1 := P_expr_Size e hs
 have h2 := P_expr_visit 91 [] rfl Ex.nodeE e hs fun q hq => P_expr_node q (hs.node q hq).len'
 have hcl := Ex.closed e
 obtain ⟨R, hR⟩ : ∃ R, R = e.chk := ⟨_, rfl⟩
 rw [← hR]
 unfold Ex.chk at hR
 generalize firstE Ex.nodeE e.nodes = fe at *
 obtain ⟨eO, eA, eV, eF, eK, eXk, eXn, eXt, hx⟩ := Ex.form e
 rw [hx] at h1 h2 hcl ⊢
 generalize hn : (e.cnt : Int) = cn at *
 generalize hd : (e.dep : Int) = dn at *
 refine wordsN ?_; unhygienic intros
 refine fn_body (fn := Tryz.f77) (n := 18) (ac := Tryzc77) (rvs := [.t 2]) rfl (by decide) Tryzp77 rfl rfl rfl ?_
 refine goA 60 ?_
 refine oPA h1 ?_
 refine goA 0 ?_
 refine on_cond rfl (fun c1 => ?_) (fun c1 => ?_)
 ·
  simp [ee] at c1
  refine goA 60 ?_
  refine fn_ret rfl rfl (.val ?_)
  exact congrArg (Value.int .i64) (by rw [hR]; clear ee hX; grind)
 ·
  simp [ee] at c1
  refine goA 0 ?_
  refine on_cond rfl (fun c2 => ?_) (fun c2 => ?_)
  ·
   simp [ee] at c2
   refine goA 60 ?_
   refine fn_ret rfl rfl (.val ?_)
   exact congrArg (Value.int .i64) (by rw [hR]; clear ee hX; grind)
  ·
   simp [ee] at c2
   refine goA 60 ?_
   refine oPA h2 ?_
   refine goA 60 ?_
   refine fn_ret rfl rfl (.val ?_)
   exact congrArg (Value.int .i64) (by rw [hR]; clear ee hX; grind)
def markV (s : List Bool) (q : Ex) : List Bool := if usesV q.op = true ∧ 0 ≤ q.var ∧ q.var < 16 then s.set q.var.toNat true else s
theorem markV_len (s : List Bool) (q : Ex) : (markV s q).length = s.length := by unfold markV; split <;> simp
theorem closedL_bool (l : List Bool) : AV.closedL (mapE bool l) = true := closed_mapE (fun _ => rfl) l
theorem list16 (s : List Bool) (h : s.length = 16) : ∃ s0 s1 s2 s3 s4 s5 s6 s7 s8 s9 s10 s11 s12 s13 s14 s15, s = [s0, s1, s2, s3, s4, s5, s6, s7, s8, s9, s10, s11, s12, s13, s14, s15] := by
 match s, h with
 | [s0, s1, s2, s3, s4, s5, s6, s7, s8, s9, s10, s11, s12, s13, s14, s15], _ => exact ⟨s0, s1, s2, s3, s4, s5, s6, s7, s8, s9, s10, s11, s12, s13, s14, s15, rfl⟩
theorem enters_expr_Variables_1 : Enters EE.P 72 := enters_of (fn := Tryz.f72) (n := 26) (ac := Tryzc72) rfl (by decide) Tryzp72
theorem enters_expr_visit : Enters EE.P 71 := enters_of (fn := Tryz.f71) (n := 29) (ac := Tryzc71) rfl (by decide) Tryzp71
theorem C_var1 (q : Ex) (s : List Bool) (hs : s.length = 16) : ACall EE 72 [q.enc, .ptr 0 0] [.cells (mapE bool s)] (fun v H' => v = int 0 ∧ H' = [.cells (mapE bool (markV s q))]) := by
 have hu := P_expr_uses q.op
 have hqc := Ex.closed q
 obtain ⟨R, hR⟩ : ∃ R, R = markV s q := ⟨_, rfl⟩
 rw [← hR]
 have r1 : ¬(usesV q.op = true ∧ 0 ≤ q.var ∧ q.var < 16) → R = s := fun h => by rw [hR, markV, if_neg h]
 have r2 : (usesV q.op = true ∧ 0 ≤ q.var ∧ q.var < 16) → R = s.set q.var.toNat true := fun h => by rw [hR, markV, if_pos h]
 clear hR
 generalize usesV q.op = uv at *
 generalize usesF q.op = uf at *
 obtain ⟨o, a, v, f, k, ⟨xk, xn, xt⟩⟩ := q
 simp only [Ex.op, Ex.kind, Ex.val, Ex.args, Ex.var, Ex.fld] at *
 rw [Ex.enc_mk] at hqc ⊢
 dsimp only at hqc ⊢
 obtain ⟨s0, s1, s2, s3, s4, s5, s6, s7, s8, s9, s10, s11, s12, s13, s14, s15, rfl⟩ := list16 s hs
 have hm : ∀ l : List Bool, mapE bool l = l.map bool := fun l => mapE_eq _ _
 rw [hm, hm]
 refine wordsN ?_; unhygienic intros
 generalize mapE Ex.enc a = ea at *
 refine rcall_body (fn := Tryz.f72) (n := 26) (ac := Tryzc72) (rvs := [.t 3]) rfl Tryzp72 rfl rfl rfl ?_
 by_cases hc : uv = true ∧ 0 ≤ v ∧ v < 16
 rotate_left
 · rw [r1 hc]
   have k1 : bAnd (bAnd uv (iLe 0 v)) (iLt v 16) = false := by
    simp only [ee]
    cases huv : uv with
    | false => rfl
    | true =>
     have : ¬ (0 ≤ v ∧ v < 16) := fun h => hc ⟨huv, h⟩
     simp; omega
   refine goA 0 ?_
   refine oPA hu ?_
   refine goB hX 0 (by conv => lhs; cbv; try simp only [k1]; cbv; try simp only [k1]; cbv; try simp only [k1]; cbv; try simp only [k1]; cbv) ?_
   refine goB hX 1 (by conv => lhs; cbv; try simp only [k1]; cbv; try simp only [k1]; cbv; try simp only [k1]; cbv; try simp only [k1]; cbv) ?_
   refine o_ret (F2 := [(3, int 0)]) (H2 := [.cells [bool s0, bool s1, bool s2, bool s3, bool s4, bool s5, bool s6, bool s7, bool s8, bool s9, bool s10, bool s11, bool s12, bool s13, bool s14, bool s15]]) ?_ rfl ⟨rfl, rfl⟩
   exact (ent_subN [.to 0, .gone] [some 0] ⟨rfl, trivial⟩ (by simp) (by simp) ⟨⟨by simp, rfl⟩, trivial, trivial⟩ ⟨osrc_cells (b := 0) rfl rfl rfl ⟨.refl _, .refl _, .refl _, .refl _, .refl _, .refl _, .refl _, .refl _, .refl _, .refl _, .refl _, .refl _, .refl _, .refl _, .refl _, .refl _, trivial⟩, trivial⟩ ⟨.refl _, trivial⟩)
 · rw [r2 hc]
   obtain ⟨rfl, h0, h1⟩ := hc
   have k1 : bAnd (bAnd true (iLe 0 v)) (iLt v 16) = true := by simp only [ee]; simp; omega
   clear r1 r2
   have key : v = 0 ∨ v = 1 ∨ v = 2 ∨ v = 3 ∨ v = 4 ∨ v = 5 ∨ v = 6 ∨ v = 7 ∨ v = 8 ∨ v = 9 ∨ v = 10 ∨ v = 11 ∨ v = 12 ∨ v = 13 ∨ v = 14 ∨ v = 15 := by omega
   rcases key with rfl | rfl | rfl | rfl | rfl | rfl | rfl | rfl | rfl | rfl | rfl | rfl | rfl | rfl | rfl | rfl
   all_goals
    refine goA 0 ?_
    refine oPA hu ?_
    refine goB hX 0 (by conv => lhs; cbv; try simp only [k1]; cbv; try simp only [k1]; cbv; try simp only [k1]; cbv; try simp only [k1]; cbv) ?_
    refine goA 1 ?_
    refine o_ret (F2 := [(3, int 0)]) (H2 := [.cells (List.map bool (List.set [s0, s1, s2, s3, s4, s5, s6, s7, s8, s9, s10, s11, s12, s13, s14, s15] (Int.toNat _) true))]) ?_ rfl ⟨rfl, rfl⟩
    exact (ent_subN [.to 0, .gone] [some 0] ⟨rfl, trivial⟩ (by simp) (by simp) ⟨⟨by simp, rfl⟩, trivial, trivial⟩ ⟨osrc_cells (b := 0) rfl rfl rfl ⟨.refl _, .refl _, .refl _, .refl _, .refl _, .refl _, .refl _, .refl _, .refl _, .refl _, .refl _, .refl _, .refl _, .refl _, .refl _, .refl _, trivial⟩, trivial⟩ ⟨.refl _, trivial⟩)
theorem markV_foldl_len (l : List Ex) : ∀ s : List Bool, (l.foldl markV s).length = s.length := by
 induction l with
 | nil => intro s; rfl
 | cons q r ih => intro s; rw [List.foldl_cons, ih, markV_len]
theorem C_visitV : ∀ e : Ex, e.Sm → ∀ (s : List Bool), s.length = 16 → ACall EE 71 [e.enc, .fn 72 [.ptr 0 0]] [.cells (mapE bool s)] (fun v H' => v = int 0 ∧ H' = [.cells (mapE bool (e.nodes.foldl markV s))]) := by
 refine Ex.ind ?_
 intro o a v f k x ih hs s hsl
 have hlen := hs.len
 have hih : ∀ q ∈ a, ∀ s : List Bool, s.length = 16 → _ := fun q hq => ih q hq (hs.arg hq)
 obtain ⟨pp, hpp⟩ : ∃ pp, pp = Ex.mk o a v f k x := ⟨_, rfl⟩
 have h1 := C_var1 pp s hsl
 have hpe : pp.enc = (Ex.mk o a v f k x).enc := by rw [hpp]
 rw [Ex.nodes, ← hpp, List.foldl_cons]
 obtain ⟨s1, hs1⟩ : ∃ s1, s1 = markV s pp := ⟨_, rfl⟩
 have hs1l : s1.length = 16 := by rw [hs1, markV_len]; exact hsl
 rw [← hs1] at h1 ⊢
 have hcl := Ex.closedI a
 have hpc := Ex.closed pp
 obtain ⟨xk, xn, xt⟩ := x
 rw [Ex.enc_mk] at hpe
 dsimp only at hpe
 rw [hpe] at h1 hpc ⊢
 have hcc : AV.closedL [int o, .isl 8 (mapE Ex.enc a), int v, int f, int k, int xk, int xn, str xt] = true := hpc
 have hip : (AV.iptr [int o, .isl 8 (mapE Ex.enc a), int v, int f, int k, int xk, int xn, str xt]).closed = true := hpc
 have hcs := closedL_bool s
 have hcs1 := closedL_bool s1
 clear ih hs hpp hpe hs1
 refine wordsN ?_; unhygienic intros
 generalize hes : mapE Ex.enc a = es at *
 have hel : es.length = a.length := by rw [← hes, mapE_len]
 have k0 : iNe 0 0 = false := by simp [ee]
 refine rcall_body (fn := Tryz.f71) (n := 29) (ac := Tryzc71) (rvs := [.t 4]) rfl Tryzp71 rfl rfl rfl ?_
 show Holds EE 29 1 _ _ _ _ _
 refine goA 0 ?_
 refine on_entO (F' := [(9, .fn 72 [.ptr 0 0]), (10, .agg [int o, .isl 8 es, int v, int f, int k, int xk, int xn, str xt]), (2, .iptr [int o, .isl 8 es, int v, int f, int k, int xk, int xn, str xt]), (1, .fn 72 [.ptr 0 0])]) (H' := [.cells (mapE bool s)]) ?_ ?_
 · exact (ent_subN [.to 0, .icells ([int o, AV.isl 8 es, int v, int f, int k, int xk, int xn, str xt])] [some 0] ⟨rfl, trivial⟩ (by simp) (by simp) ⟨⟨by simp, rfl⟩, ⟨_, rfl, (subL_closed _ hcc).symm⟩, trivial⟩ ⟨.same 0 _ _ rfl rfl rfl (congrArg AObj.cells (subL_closed _ hcs)), trivial⟩ ⟨.refl _, .cl hpc, .refl _, .refl _, trivial⟩)
 refine on_callv rfl rfl rfl rfl ⟨enters_expr_Variables_1, h1⟩ ?_
 rintro v1 H1 ⟨rfl, rfl⟩
 refine goB hX 0 (by conv => lhs; cbv; try simp only [k0]; cbv; try simp only [k0]; cbv; try simp only [k0]; cbv; try simp only [k0]; cbv) ?_
 refine goA 60 ?_
 refine on_loopP (ι := List Ex × List Ex × Int × List Bool) (fun p => ([(18, int p.2.2.1), (17, int (lenA es)), (16, .isl 8 es), (1, .fn 72 [.ptr 0 0])], [.cells (mapE bool p.2.2.2)])) (fun p => a = p.1 ++ p.2.1 ∧ p.2.2.1 = p.1.length ∧ p.2.2.2.length = 16 ∧ p.2.2.2 = (Ex.nodesL p.1).foldl markV s1) (fun p => p.2.1.length) ([], a, 0, s1) ⟨rfl, rfl, hs1l, rfl⟩ ?_ ?_
 · exact (ent_subN [.to 0] [some 0] ⟨rfl, trivial⟩ (by simp) (by simp) ⟨⟨by simp, rfl⟩, trivial⟩ ⟨.same 0 _ _ rfl rfl rfl (congrArg AObj.cells (subL_closed _ hcs1)), trivial⟩ ⟨.refl _, .refl _, .cl hcl, .refl _, trivial⟩)
 rintro ⟨d, r, i, t⟩ ⟨g1, gi, gl, gt⟩
 dsimp only at g1 gi gl gt ⊢
 have hct := closedL_bool t
 cases r with
 | nil =>
  have L1 := len_split g1
  try simp only [List.length] at L1
  have hc : iLt i (lenA es) = false := lt_f e_iLt e_lenA (by omega)
  rw [List.append_nil] at g1
  rw [g1, ← gt]
  refine goB hX 1 (by conv => lhs; cbv; try simp only [hc]; cbv; try simp only [hc]; cbv; try simp only [hc]; cbv; try simp only [hc]; cbv) ?_
  refine loopP_exit ?_
  refine goA 60 ?_
  refine o_ret (F2 := [(4, int 0)]) (H2 := [.cells (mapE bool t)]) ?_ rfl ⟨rfl, rfl⟩
  exact (ent_subN [.to 0] [some 0] ⟨rfl, trivial⟩ (by simp) (by simp) ⟨⟨by simp, rfl⟩, trivial⟩ ⟨.same 0 _ _ rfl rfl rfl (congrArg AObj.cells (subL_closed _ hct)), trivial⟩ ⟨.refl _, trivial⟩)
 | cons q r =>
  have L1 := len_split g1
  try simp only [List.length] at L1
  have hc : iLt i (lenA es) = true := lt_t e_iLt e_lenA (by omega)
  have hat := el_at e_atA hes g1 gi
  have hq := hih q (by rw [g1]; simp) t gl
  have hqc := Ex.closed q
  have hi2 : iAdd .i64 i 1 = ((d ++ [q]).length : Int) := by rw [List.length_append]; exact inc_w e_iAdd gi (by omega)
  have ht2 : q.nodes.foldl markV t = (Ex.nodesL (d ++ [q])).foldl markV s1 := by rw [Ex.nodesL_append, List.foldl_append, ← gt]; simp [Ex.nodesL]
  have hl2 : (q.nodes.foldl markV t).length = 16 := by rw [markV_foldl_len]; exact gl
  generalize q.nodes.foldl markV t = t2 at *
  have hct2 := closedL_bool t2
  obtain ⟨qO, qA, qV, qF, qK, qXk, qXn, qXt, hxq⟩ := Ex.form q
  rw [hxq] at hat hqc hq
  refine goB hX 1 (by conv => lhs; cbv; try simp only [hc, hat]; cbv; try simp only [hc, hat]; cbv; try simp only [hc, hat]; cbv; try simp only [hc, hat]; cbv) ?_
  refine on_entO (F' := [(22, .agg [int qO, .isl 8 qA, int qV, int qF, int qK, int qXk, int qXn, str qXt]), (23, .fn 72 [.ptr 0 0]), (18, int i), (17, int (lenA es)), (16, .isl 8 es), (1, .fn 72 [.ptr 0 0])]) (H' := [.cells (mapE bool t)]) ?_ ?_
  · exact (ent_subN [.to 0, .gone] [some 0] ⟨rfl, trivial⟩ (by simp) (by simp) ⟨⟨by simp, rfl⟩, trivial, trivial⟩ ⟨.same 0 _ _ rfl rfl rfl (congrArg AObj.cells (subL_closed _ hct)), trivial⟩ ⟨.cl hqc, .refl _, .refl _, .refl _, .cl hcl, .refl _, trivial⟩)
  refine on_call rfl rfl rfl enters_expr_visit hq ?_
  rintro v1 H1 ⟨rfl, rfl⟩
  refine goB hX 0 (by conv => lhs; cbv; try simp only [k0]; cbv; try simp only [k0]; cbv; try simp only [k0]; cbv; try simp only [k0]; cbv) ?_
  refine goA 60 ?_
  refine loopP_next (d ++ [q], r, iAdd .i64 i 1, t2) ⟨by simp [g1], hi2, hl2, ht2⟩ (by simp) (ent_subN [.to 0] [some 0] ⟨rfl, trivial⟩ (by simp) (by simp) ⟨⟨by simp, rfl⟩, trivial⟩ ⟨.same 0 _ _ rfl rfl rfl (congrArg AObj.cells (subL_closed _ hct2)), trivial⟩ ⟨.refl _, .refl _, .cl hcl, .refl _, trivial⟩)
def varsU (S : List Bool) : Nat → List Int
 | 0 => []
 | j + 1 => varsU S j ++ (if S.getD j false then [(j : Int)] else [])
theorem varsU_len (S : List Bool) : ∀ j, (varsU S j).length ≤ j
 | 0 => by simp [varsU]
 | j + 1 => by rw [varsU, List.length_append]; have := varsU_len S j; split <;> simp <;> omega
def Ex.marks (e : Ex) : List Bool := e.nodes.foldl markV (List.replicate 16 false)
def Ex.vars (e : Ex) : List Int := varsU e.marks 16
theorem P_Variables (e : Ex) (hs : e.Sm) : PCall EE 41 [e.enc] (.isl 1 (mapE int e.vars)) := by
 have hv0 := C_visitV e hs (List.replicate 16 false) rfl
 have hv : ACall EE 71 [e.enc, .fn 72 [.ptr 0 0]] [.cells [bool false, bool false, bool false, bool false, bool false, bool false, bool false, bool false, bool false, bool false, bool false, bool false, bool false, bool false, bool false, bool false]] (fun v H' => v = int 0 ∧ H' = [.cells (e.marks.map bool)]) := by
  rw [mapE_eq, mapE_eq] at hv0; exact hv0
 clear hv0
 obtain ⟨S, hS⟩ : ∃ S, S = e.marks := ⟨_, rfl⟩
 have hSl : S.length = 16 := by rw [hS, Ex.marks, markV_foldl_len]; rfl
 rw [Ex.vars, ← hS]
 rw [← hS] at hv
 clear hS
 have hcl := Ex.closed e
 obtain ⟨R, hR⟩ : ∃ R, R = mapE int (varsU S 16) := ⟨_, rfl⟩
 rw [← hR]
 obtain ⟨s0, s1, s2, s3, s4, s5, s6, s7, s8, s9, s10, s11, s12, s13, s14, s15, hSe⟩ := list16 S hSl
 rw [hSe] at hv
 have hnil : mapE int [] = [] := by rw [mapE_eq]; rfl
 obtain ⟨eO, eA, eV, eF, eK, eXk, eXn, eXt, hx⟩ := Ex.form e
 rw [hx] at hv hcl ⊢
 refine wordsN ?_; unhygienic intros
 refine fn_body (fn := Tryz.f41) (n := 22) (ac := Tryzc41) (rvs := [.t 2]) rfl (by decide) Tryzp41 rfl rfl rfl ?_
 refine goA 0 ?_
 refine on_entO (F' := [(7, .agg [int eO, .isl 8 eA, int eV, int eF, int eK, int eXk, int eXn, str eXt]), (8, .fn 72 [.ptr 0 0]), (3, .ptr 0 0)]) (H' := [.cells [bool false, bool false, bool false, bool false, bool false, bool false, bool false, bool false, bool false, bool false, bool false, bool false, bool false, bool false, bool false, bool false]]) ?_ ?_
 · exact (ent_sub [.gone, .to 0] [some 1] ⟨trivial, ⟨by simp, rfl⟩, trivial⟩ ⟨osrc_cells (b := 1) rfl rfl rfl ⟨.refl _, .refl _, .refl _, .refl _, .refl _, .refl _, .refl _, .refl _, .refl _, .refl _, .refl _, .refl _, .refl _, .refl _, .refl _, .refl _, trivial⟩, trivial⟩ ⟨.cl hcl, .refl _, .refl _, trivial⟩)
 refine on_call rfl rfl rfl enters_expr_visit hv ?_
 rintro v1 H1 ⟨rfl, rfl⟩
 refine goA 60 ?_
 refine on_loopP (ι := Int × Nat × List AV) (fun p => ([(11, int p.1), (10, .agg [bool s0, bool s1, bool s2, bool s3, bool s4, bool s5, bool s6, bool s7, bool s8, bool s9, bool s10, bool s11, bool s12, bool s13, bool s14, bool s15]), (4, .sl 0 1 0 p.2.1)], [.arr 1 p.2.2])) (fun p => 0 ≤ p.1 ∧ p.1 ≤ 16 ∧ p.2.1 = p.2.2.length ∧ p.2.2 = mapE int (varsU S p.1.toNat)) (fun p => (16 - p.1).toNat) (0, 0, []) ⟨by simp, by simp, rfl, hnil.symm⟩ ?_ ?_
 · exact (ent_sub [.gone] [none] ⟨trivial, trivial⟩ ⟨.none _ rfl, trivial⟩ ⟨.refl _, .refl _, .nilS _ _ _ (by simp), trivial⟩)
 rintro ⟨i, m, w⟩ ⟨g0, g1, gm, gw⟩
 dsimp only at g0 g1 gm gw ⊢
 have hcw : AV.closedL w = true := by rw [gw]; exact closedL_int _
 have hm16 : m ≤ 16 := by rw [gm, gw, mapE_len]; have := varsU_len S i.toNat; omega
 by_cases h16 : i = 16
 · have k1 : iLt i 16 = false := by simp only [ee]; simp; omega
   have hRw : R = w := by rw [hR, gw, h16]; rfl
   rw [hRw]
   refine goB hX 0 (by conv => lhs; cbv; try simp only [k1]; cbv; try simp only [k1]; cbv; try simp only [k1]; cbv; try simp only [k1]; cbv) ?_
   refine goA 60 ?_
   refine loopP_exit ?_
   refine goA 60 ?_
   refine fn_ret rfl rfl ?_
   exact ⟨[.isl 1 (w)], ⟨⟨_, rfl, (subL_closed _ hcw).symm⟩, trivial⟩, .of (sub_whole rfl (by assumption))⟩
 have k1 : iLt i 16 = true := by simp only [ee]; simp; omega
 have hi2 : iAdd .i64 i 1 = i + 1 := add_w e_iAdd (by omega) (by omega)
 have hmu : (16 - iAdd .i64 i 1).toNat < (16 - i).toNat := by rw [hi2]; omega
 have hg : 0 ≤ iAdd .i64 i 1 ∧ iAdd .i64 i 1 ≤ 16 := by rw [hi2]; omega
 have hnx : (iAdd .i64 i 1).toNat = i.toNat + 1 := by rw [hi2]; omega
 have hwt : S.getD i.toNat false = true → catA (dropA w 0) (partA [int i] 0 1) = mapE int (varsU S (iAdd .i64 i 1).toNat) := fun h => by
  rw [hnx, varsU, if_pos h]; simp only [ee]; rw [gw, mapE_eq, mapE_eq]; simp; omega
 have hwf : S.getD i.toNat false = false → w = mapE int (varsU S (iAdd .i64 i 1).toNat) := fun h => by
  rw [hnx, varsU, if_neg (by rw [h]; decide), List.append_nil]; exact gw
 have hc2 : AV.closedL (catA (dropA w 0) (partA [int i] 0 1)) = true := by simp only [ee]; exact closedL_append (by simpa using hcw) rfl
 have hm2 : addN m (lenN (partA [int i] 0 1)) = (catA (dropA w 0) (partA [int i] 0 1)).length := by simp only [ee]; simp [gm]
 have key : i = 0 ∨ i = 1 ∨ i = 2 ∨ i = 3 ∨ i = 4 ∨ i = 5 ∨ i = 6 ∨ i = 7 ∨ i = 8 ∨ i = 9 ∨ i = 10 ∨ i = 11 ∨ i = 12 ∨ i = 13 ∨ i = 14 ∨ i = 15 := by omega
 clear hi2 hnx h16 hR g0 g1 hv gw
 subst hSe
 rcases key with rfl | rfl | rfl | rfl | rfl | rfl | rfl | rfl | rfl | rfl | rfl | rfl | rfl | rfl | rfl | rfl
 all_goals
  refine goB hX 0 (by conv => lhs; cbv; try simp only [k1]; cbv; try simp only [k1]; cbv; try simp only [k1]; cbv; try simp only [k1]; cbv) ?_
  refine goB hX 1 (by conv => lhs; cbv; try simp only [k1]; cbv; try simp only [k1]; cbv; try simp only [k1]; cbv; try simp only [k1]; cbv) ?_
  refine on_cond rfl (fun c1 => ?_) (fun c1 => ?_)
  · refine goA 60 ?_
    exact loopP_next (iAdd .i64 _ 1, addN m (lenN (partA [int _] 0 1)), catA (dropA w 0) (partA [int _] 0 1)) ⟨hg.1, hg.2, hm2, hwt (by assumption)⟩ hmu (ent_sub [.gone, .gone, .to 0] [some 2] ⟨trivial, trivial, ⟨by simp, rfl⟩, trivial⟩ ⟨osrc_arr (b := 2) rfl rfl rfl rfl hc2, trivial⟩ ⟨.refl _, .refl _, .refl _, trivial⟩)
  · refine goA 60 ?_
    exact loopP_next (iAdd .i64 _ 1, m, w) ⟨hg.1, hg.2, gm, hwf (by assumption)⟩ hmu (ent_sub [.to 0] [some 0] ⟨⟨by simp, rfl⟩, trivial⟩ ⟨osrc_arr (b := 0) rfl rfl rfl rfl hcw, trivial⟩ ⟨.refl _, .refl _, .refl _, trivial⟩)
def renE (to : List Int) (q : Ex) : Int := if usesV q.op = false then 0 else if (to.length : Int) ≤ q.var then 6 else if to.getD q.var.toNat 0 < 0 ∨ 16 ≤ to.getD q.var.toNat 0 then 2 else 0
def renG (to : List Int) (q : Ex) : Ex := if usesV q.op = true then .mk q.op q.args (to.getD q.var.toNat 0) q.fld q.kind q.val else q
theorem P_ren1 (to : List Int) (q : Ex) (hq : usesV q.op = true → 0 ≤ q.var) : PCall EE 84 [q.enc, .iptr [.isl 1 (mapE int to)]] (int (renE to q)) := by
 have hu := P_expr_uses q.op
 have hcl := closedI_int to
 obtain ⟨R, hR⟩ : ∃ R, R = renE to q := ⟨_, rfl⟩
 rw [← hR]
 have r0 : usesV q.op = false → R = 0 := fun h => by rw [hR, renE, if_pos h]
 have r6 : usesV q.op = true → (to.length : Int) ≤ q.var → R = 6 := fun h h2 => by rw [hR, renE, if_neg (by simp [h]), if_pos h2]
 have r2 : usesV q.op = true → ¬ (to.length : Int) ≤ q.var → (to.getD q.var.toNat 0 < 0 ∨ 16 ≤ to.getD q.var.toNat 0) → R = 2 := fun h h2 h3 => by rw [hR, renE, if_neg (by simp [h]), if_neg h2, if_pos h3]
 have r00 : usesV q.op = true → ¬ (to.length : Int) ≤ q.var → ¬ (to.getD q.var.toNat 0 < 0 ∨ 16 ≤ to.getD q.var.toNat 0) → R = 0 := fun h h2 h3 => by rw [hR, renE, if_neg (by simp [h]), if_neg h2, if_neg h3]
 clear hR
 generalize usesV q.op = uv at *
 generalize usesF q.op = uf at *
 obtain ⟨o, a, v, f, k, ⟨xk, xn, xt⟩⟩ := q
 simp only [Ex.op, Ex.kind, Ex.val, Ex.args, Ex.var, Ex.fld] at *
 rw [Ex.enc_mk]
 dsimp only
 refine wordsN ?_; unhygienic intros
 generalize mapE Ex.enc a = ea
 generalize hes : mapE int to = es at *
 have hel : es.length = to.length := by rw [← hes, mapE_len]
 refine fn_body (fn := Tryz.f84) (n := 36) (ac := Tryzc84) (rvs := [.t 3]) rfl (by decide) Tryzp84 rfl rfl rfl ?_
 cases uv with
 | false =>
  have k0 : bNot false = true := by simp only [ee]; rfl
  have hR := r0 rfl
  refine goA 60 ?_
  refine oPA hu ?_
  refine goB hX 0 (by conv => lhs; cbv; try simp only [k0]; cbv; try simp only [k0]; cbv; try simp only [k0]; cbv; try simp only [k0]; cbv) ?_
  refine goA 60 ?_
  refine fn_ret rfl rfl (.val ?_)
  exact congrArg (Value.int .i64) hR.symm
 | true =>
  have k0 : bNot true = false := by simp only [ee]; rfl
  have hv := hq rfl
  have r6 := r6 rfl
  have r2 := r2 rfl
  have r00 := r00 rfl
  by_cases h1 : (to.length : Int) ≤ v
  · have k1 : iLe (lenA es) v = true := by simp only [ee]; simp; omega
    have hR := r6 h1
    refine goA 60 ?_
    refine oPA hu ?_
    refine goB hX 0 (by conv => lhs; cbv; try simp only [k0, k1]; cbv; try simp only [k0, k1]; cbv; try simp only [k0, k1]; cbv; try simp only [k0, k1]; cbv) ?_
    refine goB hX 1 (by conv => lhs; cbv; try simp only [k0, k1]; cbv; try simp only [k0, k1]; cbv; try simp only [k0, k1]; cbv; try simp only [k0, k1]; cbv) ?_
    refine goA 60 ?_
    refine fn_ret rfl rfl (.val ?_)
    exact congrArg (Value.int .i64) hR.symm
  · have k1 : iLe (lenA es) v = false := by simp only [ee]; simp; omega
    have r2 := r2 h1
    have r00 := r00 h1
    have hat : atA es v = int (to.getD v.toNat 0) := by
     simp only [ee]
     rw [← hes, mapE_eq, List.getD_eq_getElem?_getD, List.getElem?_map, List.getD_eq_getElem?_getD, List.getElem?_eq_getElem (by omega)]; rfl
    generalize to.getD v.toNat 0 = tv at *
    refine goA 60 ?_
    refine oPA hu ?_
    refine goB hX 0 (by conv => lhs; cbv; try simp only [k0, k1, hat]; cbv; try simp only [k0, k1, hat]; cbv; try simp only [k0, k1, hat]; cbv; try simp only [k0, k1, hat]; cbv) ?_
    refine goB hX 1 (by conv => lhs; cbv; try simp only [k0, k1, hat]; cbv; try simp only [k0, k1, hat]; cbv; try simp only [k0, k1, hat]; cbv; try simp only [k0, k1, hat]; cbv) ?_
    refine goB hX 1 (by conv => lhs; cbv; try simp only [k0, k1, hat]; cbv; try simp only [k0, k1, hat]; cbv; try simp only [k0, k1, hat]; cbv; try simp only [k0, k1, hat]; cbv) ?_
    refine on_cond rfl (fun c1 => ?_) (fun c1 => ?_)
    ·
     simp [ee] at c1
     refine goA 60 ?_
     refine fn_ret rfl rfl (.val ?_)
     exact congrArg (Value.int .i64) (r2 (by omega)).symm
    ·
     simp [ee] at c1
     refine goA 60 ?_
     refine fn_ret rfl rfl (.val ?_)
     exact congrArg (Value.int .i64) (r00 (by omega)).symm
theorem P_ren2 (to : List Int) (q : Ex) (hq : usesV q.op = true → 0 ≤ q.var ∧ q.var < to.length) : PCall EE 86 [q.enc, .iptr [.isl 1 (mapE int to)]] (renG to q).enc := by
 have hu := P_expr_uses q.op
 have hcl := closedI_int to
 have hqc := Ex.closed q
 obtain ⟨R, hR⟩ : ∃ R, R = renG to q := ⟨_, rfl⟩
 rw [← hR]
 unfold renG at hR
 generalize usesV q.op = uv at *
 generalize usesF q.op = uf at *
 obtain ⟨o, a, v, f, k, ⟨xk, xn, xt⟩⟩ := q
 simp only [Ex.op, Ex.kind, Ex.val, Ex.args, Ex.var, Ex.fld] at *
 have hac := Ex.closedI a
 cases uv with
 | false =>
  rw [if_neg (by simp)] at hR
  rw [hR, Ex.enc_mk] at *
  dsimp only at *
  refine wordsN ?_; unhygienic intros
  generalize mapE Ex.enc a = ea at *
  generalize hes : mapE int to = es at *
  refine fn_body (fn := Tryz.f86) (n := 20) (ac := Tryzc86) (rvs := [.cell 3 8 true]) rfl (by decide) Tryzp86 rfl rfl rfl ?_
  refine goA 60 ?_
  refine oPA hu ?_
  refine goA 60 ?_
  refine fn_ret rfl rfl ?_
  exact ⟨[.gone, .gone], ⟨trivial, trivial, trivial⟩, .cl hqc⟩
 | true =>
  rw [if_pos rfl] at hR
  have hv := hq rfl
  rw [hR, Ex.enc_mk, Ex.enc_mk] at *
  dsimp only at *
  refine wordsN ?_; unhygienic intros
  generalize mapE Ex.enc a = ea at *
  generalize hes : mapE int to = es at *
  have hel : es.length = to.length := by rw [← hes, mapE_len]
  have hat : atA es v = int (to.getD v.toNat 0) := by
   simp only [ee]
   rw [← hes, mapE_eq, List.getD_eq_getElem?_getD, List.getElem?_map, List.getD_eq_getElem?_getD, List.getElem?_eq_getElem (by omega)]; rfl
  generalize to.getD v.toNat 0 = tv at *
  refine fn_body (fn := Tryz.f86) (n := 20) (ac := Tryzc86) (rvs := [.cell 3 8 true]) rfl (by decide) Tryzp86 rfl rfl rfl ?_
  refine goA 60 ?_
  refine oPA hu ?_
  refine goB hX 0 (by conv => lhs; cbv; try simp only [hat]; cbv; try simp only [hat]; cbv; try simp only [hat]; cbv; try simp only [hat]; cbv) ?_
  refine goB hX 1 (by conv => lhs; cbv; try simp only [hat]; cbv; try simp only [hat]; cbv; try simp only [hat]; cbv; try simp only [hat]; cbv) ?_
  refine fn_ret rfl rfl ?_
  exact ⟨[.gone, .gone], ⟨trivial, trivial, trivial⟩, .cl hqc⟩
mutual
def Ex.reb (G : Ex → Ex) : Ex → Ex
 | .mk o a v f k x => G (.mk o (Ex.rebL G a) v f k x)
def Ex.rebL (G : Ex → Ex) : List Ex → List Ex
 | [] => []
 | e :: r => e.reb G :: Ex.rebL G r
end
theorem Ex.rebL_append (G : Ex → Ex) (a b : List Ex) : Ex.rebL G (a ++ b) = Ex.rebL G a ++ Ex.rebL G b := by
 induction a with
 | nil => rfl
 | cons x r ih => simp [Ex.rebL, ih]
theorem Ex.rebL_len (G : Ex → Ex) (a : List Ex) : (Ex.rebL G a).length = a.length := by
 induction a with
 | nil => rfl
 | cons x r ih => simp [Ex.rebL, ih]
theorem P_rebuilt (g : FuncId) (cs : List AV) (hcs : AV.closedL cs = true) (G : Ex → Ex) (ok : Int → Int → Prop) (hg : ∀ q : Ex, ok q.op q.var → PCall EE g ([q.enc] ++ cs) (G q).enc) : ∀ e : Ex, e.Sm → (∀ q ∈ e.nodes, ok q.op q.var) → PCall EE 85 [e.enc, .fn g cs] (e.reb G).enc := by
 refine Ex.ind ?_
 intro o a v f k x ih hs hF
 have hlen := hs.len
 have hih : ∀ q ∈ a, PCall EE 85 [q.enc, .fn g cs] (q.reb G).enc := fun q hq => ih q hq (hs.arg hq) fun q2 hq2 => hF q2 (by
  rw [Ex.nodes]
  obtain ⟨d, r, rfl⟩ := List.append_of_mem hq
  simp [Ex.nodesL_append, Ex.nodesL, hq2])
 have hcl := Ex.closedI a
 have hh := hg (.mk o (Ex.rebL G a) v f k x) (hF (.mk o a v f k x) (by rw [Ex.nodes]; simp))
 rw [Ex.reb]
 obtain ⟨R, hR⟩ : ∃ R, R = (G (.mk o (Ex.rebL G a) v f k x)) := ⟨_, rfl⟩
 rw [← hR] at hh ⊢
 have hRc := Ex.closed R
 obtain ⟨xk, xn, xt⟩ := x
 have hnc := Ex.closed (.mk o (Ex.rebL G a) v f k ⟨xk, xn, xt⟩)
 have hrc := Ex.closedL (Ex.rebL G a)
 rw [Ex.enc_mk] at hh hnc ⊢
 dsimp only at hh hnc ⊢
 have hfn : (AV.fn g cs).closed = true := by simp [AV.closed, hcs]
 have hnil : mapE Ex.enc [] = [] := by rw [mapE_eq]; rfl
 have hrl : (mapE Ex.enc (Ex.rebL G a)).length = a.length := by rw [mapE_len, Ex.rebL_len]
 clear ih hs hF hR
 obtain ⟨RO, RA, RV, RF, RK, RXk, RXn, RXt, hx⟩ := Ex.form R
 rw [hx] at hh hRc ⊢
 refine wordsN ?_; unhygienic intros
 generalize hes : mapE Ex.enc a = es at *
 have hel : es.length = a.length := by rw [← hes, mapE_len]
 refine fn_body (fn := Tryz.f85) (n := 29) (ac := Tryzc85) (rvs := [.cell 4 8 true]) rfl (by decide) Tryzp85 rfl rfl rfl ?_
 refine goA 60 ?_
 refine on_loopP (ι := List Ex × List Ex × Int × Nat × List AV) (fun p => ([(13, int p.2.2.1), (12, int (lenA es)), (11, .isl 8 es), (1, .fn g cs), (4, .ptr 0 0), (5, .ptr 1 0)], [.cells [int 0, .val (.slice none 0 0), int 0, int 0, int 0, int 0, int 0, str ⟨#[]⟩], .cells [int o, .sl 2 8 0 p.2.2.2.1, int v, int f, int k, int xk, int xn, str xt], .arr 8 p.2.2.2.2])) (fun p => a = p.1 ++ p.2.1 ∧ p.2.2.1 = p.1.length ∧ p.2.2.2.1 = p.2.2.2.2.length ∧ p.2.2.2.2 = mapE Ex.enc (Ex.rebL G p.1)) (fun p => p.2.1.length) ([], a, 0, 0, []) ⟨rfl, rfl, rfl, hnil.symm⟩ ?_ ?_
 · exact (ent_sub [.gone, .to 0, .to 1] [some 1, some 2, none] ⟨trivial, ⟨by simp, rfl⟩, ⟨by simp, rfl⟩, trivial⟩ ⟨osrc_cells (b := 1) rfl rfl rfl ⟨.refl _, .refl _, .refl _, .refl _, .refl _, .refl _, .refl _, .refl _, trivial⟩, osrc_cells (b := 2) rfl rfl rfl ⟨.refl _, .nilS _ _ _ (by simp), .refl _, .refl _, .refl _, .refl _, .refl _, .refl _, trivial⟩, .none _ rfl, trivial⟩ ⟨.refl _, .refl _, .cl hcl, .cl hfn, .refl _, .refl _, trivial⟩)
 rintro ⟨d, r, i, m, w⟩ ⟨g1, gi, gm, gw⟩
 dsimp only at g1 gi gm gw ⊢
 have hcw : AV.closedL w = true := by rw [gw]; exact Ex.closedL _
 have hm : m = d.length := by rw [gm, gw, mapE_len, Ex.rebL_len]
 cases r with
 | nil =>
  have L1 := len_split g1
  try simp only [List.length] at L1
  have hc : iLt i (lenA es) = false := lt_f e_iLt e_lenA (by omega)
  rw [List.append_nil] at g1
  rw [g1, ← gw] at hh
  rw [g1, ← gw] at hnc
  refine goB hX 1 (by conv => lhs; cbv; try simp only [hc]; cbv; try simp only [hc]; cbv; try simp only [hc]; cbv; try simp only [hc]; cbv) ?_
  refine loopP_exit ?_
  refine goA 0 ?_
  refine on_entO (F' := [(27, .agg [int o, .isl 8 w, int v, int f, int k, int xk, int xn, str xt]), (26, .fn g cs), (4, .ptr 0 0)]) (H' := [.cells [int 0, .val (.slice none 0 0), int 0, int 0, int 0, int 0, int 0, str ⟨#[]⟩]]) ?_ ?_
  · exact (ent_sub [.to 0, .gone, .isl 8 (w)] [some 0] ⟨⟨by simp, rfl⟩, trivial, ⟨_, rfl, (subL_closed _ hcw).symm⟩, trivial⟩ ⟨osrc_cells (b := 0) rfl rfl rfl ⟨.refl _, .refl _, .refl _, .refl _, .refl _, .refl _, .refl _, .refl _, trivial⟩, trivial⟩ ⟨.agg' ⟨.refl _, .of (sub_whole rfl (by assumption)), .refl _, .refl _, .refl _, .refl _, .refl _, .refl _, trivial⟩, .cl hfn, .refl _, trivial⟩)
  refine on_pcallv (args := [AV.agg [int o, AV.isl 8 w, int v, int f, int k, int xk, int xn, str xt]] ++ cs) rfl rfl rfl rfl hh (by simp [AV.closedL, closed_v, closed_agg, closed_fn, closed_iptr, hnc, hcs]) ?_
  refine goA 60 ?_
  refine fn_ret rfl rfl ?_
  exact ⟨[.gone], ⟨trivial, trivial⟩, .cl hRc⟩
 | cons q r =>
  have L1 := len_split g1
  try simp only [List.length] at L1
  have hc : iLt i (lenA es) = true := lt_t e_iLt e_lenA (by omega)
  have hat := el_at e_atA hes g1 gi
  have hq := hih q (by rw [g1]; simp)
  have hqc := Ex.closed q
  have hqr := Ex.closed (q.reb G)
  have hi2 : iAdd .i64 i 1 = ((d ++ [q]).length : Int) := by rw [List.length_append]; exact inc_w e_iAdd gi (by omega)
  have hw2 : w ++ [(q.reb G).enc] = mapE Ex.enc (Ex.rebL G (d ++ [q])) := by rw [gw, mapE_eq, mapE_eq, Ex.rebL_append]; simp [Ex.rebL]
  generalize q.reb G = qr at *
  obtain ⟨qO, qA, qV, qF, qK, qXk, qXn, qXt, hxq⟩ := Ex.form q
  obtain ⟨qrO, qrA, qrV, qrF, qrK, qrXk, qrXn, qrXt, hxr⟩ := Ex.form qr
  rw [hxq] at hat hqc hq
  rw [hxr] at hq hqr hw2
  have hw3 : catA (dropA w 0) (partA [.agg [int qrO, .isl 8 qrA, int qrV, int qrF, int qrK, int qrXk, int qrXn, str qrXt]] 0 1) = mapE Ex.enc (Ex.rebL G (d ++ [q])) := by simp only [ee]; simpa using hw2
  have hm3 : addN m (lenN (partA [.agg [int qrO, .isl 8 qrA, int qrV, int qrF, int qrK, int qrXk, int qrXn, str qrXt]] 0 1)) = (catA (dropA w 0) (partA [.agg [int qrO, .isl 8 qrA, int qrV, int qrF, int qrK, int qrXk, int qrXn, str qrXt]] 0 1)).length := by simp only [ee]; simp [gm]
  have hc3 : AV.closedL (catA (dropA w 0) (partA [.agg [int qrO, .isl 8 qrA, int qrV, int qrF, int qrK, int qrXk, int qrXn, str qrXt]] 0 1)) = true := by rw [hw3]; exact Ex.closedL _
  refine goB hX 0 (by conv => lhs; cbv; try simp only [hc, hat]; cbv; try simp only [hc, hat]; cbv; try simp only [hc, hat]; cbv; try simp only [hc, hat]; cbv) ?_
  refine goB hX 1 (by conv => lhs; cbv; try simp only [hc, hat]; cbv; try simp only [hc, hat]; cbv; try simp only [hc, hat]; cbv; try simp only [hc, hat]; cbv) ?_
  refine tr_drawB rfl (by conv => lhs; cbv) rfl ?_
  refine tgA ?_
  refine oPT hq ?_
  refine tgA ?_
  refine tr_nil ⟨rfl, ?_, ?_⟩
  · simp only [LooksL, lookAll, List.append, List.cons_append, List.nil_append, List.append_nil]; and_intros <;> first | trivial | (intro hp; first | rfl | exact absurd (show false = true from hp) Bool.false_ne_true)
  refine goA 60 ?_
  refine loopP_next (d ++ [q], r, iAdd .i64 i 1, addN m (lenN (partA [.agg [int qrO, .isl 8 qrA, int qrV, int qrF, int qrK, int qrXk, int qrXn, str qrXt]] 0 1)), catA (dropA w 0) (partA [.agg [int qrO, .isl 8 qrA, int qrV, int qrF, int qrK, int qrXk, int qrXn, str qrXt]] 0 1)) ⟨by simp [g1], hi2, hm3, hw3⟩ (by simp) (ent_sub [.to 0, .to 1, .gone, .gone, .gone, .to 2] [some 0, some 1, some 5] ⟨⟨by simp, rfl⟩, ⟨by simp, rfl⟩, trivial, trivial, trivial, ⟨by simp, rfl⟩, trivial⟩ ⟨osrc_cells (b := 0) rfl rfl rfl ⟨.refl _, .refl _, .refl _, .refl _, .refl _, .refl _, .refl _, .refl _, trivial⟩, osrc_cells (b := 1) rfl rfl rfl ⟨.refl _, .refl _, .refl _, .refl _, .refl _, .refl _, .refl _, .refl _, trivial⟩, osrc_arr (b := 5) rfl rfl rfl rfl hc3, trivial⟩ ⟨.refl _, .refl _, .cl hcl, .cl hfn, .refl _, .refl _, trivial⟩)
theorem P_expr_Same : ∀ x y : Ex, x.Sm → PCall EE 60 [x.enc, y.enc] (bool (eqB x y)) := by
 refine Ex.ind ?_
 intro o a v f k x ih y hs
 obtain ⟨o2, a2, v2, f2, k2, x2⟩ := y
 obtain ⟨xk, xn, xt⟩ := x
 obtain ⟨yk, yn, yt⟩ := x2
 have hlen := hs.len
 have hih : ∀ q ∈ a, ∀ q2, PCall EE 60 [q.enc, q2.enc] (bool (eqB q q2)) := fun q hq q2 => ih q hq q2 (hs.arg hq)
 have hcl := Ex.closedI a
 have hcl2 := Ex.closedI a2
 obtain ⟨R, hR⟩ : ∃ R, R = eqB (Ex.mk o a v f k ⟨xk, xn, xt⟩) (Ex.mk o2 a2 v2 f2 k2 ⟨yk, yn, yt⟩) := ⟨_, rfl⟩
 rw [← hR, Ex.enc_mk, Ex.enc_mk]
 clear ih hs
 refine wordsN ?_; unhygienic intros
 generalize hes : mapE Ex.enc a = es at *
 generalize hes2 : mapE Ex.enc a2 = es2 at *
 have hel : es.length = a.length := by rw [← hes, mapE_len]
 have hel2 : es2.length = a2.length := by rw [← hes2, mapE_len]
 refine fn_body (fn := Tryz.f60) (n := 67) (ac := Tryzc60) (rvs := [.t 4]) rfl (by decide) Tryzp60 rfl rfl rfl ?_
 refine goA 0 ?_
 refine on_cond rfl (fun c1 => ?_) (fun c1 => ?_)
 · simp [ee] at c1
   have hR : R = false := by
    rw [hR]; refine eqB_f fun h => ?_
    simp only [Ex.mk.injEq, Vl.mk.injEq] at h
    obtain ⟨rfl, rfl, rfl, rfl, rfl, rfl, rfl, rfl⟩ := h
    simp [hel, hel2] at c1
   refine goA 60 ?_
   refine fn_ret rfl rfl (.val ?_)
   exact congrArg Value.bool hR.symm
 simp [ee] at c1
 obtain ⟨⟨⟨⟨⟨h1, h2⟩, h3⟩, h4⟩, ⟨h5, h6, h7⟩⟩, h8⟩ := c1
 have h7 := bs_inj h7
 subst h1 h2 h3 h4 h5 h6 h7
 have hl8 : a.length = a2.length := by omega
 have hR : R = eqB a a2 := by
  rw [hR]
  by_cases h : a = a2
  · rw [h, eqB_t rfl, eqB_t rfl]
  · rw [eqB_f h, eqB_f (by simp [h])]
 refine goA 60 ?_
 refine on_loopP (ι := List Ex × List Ex × List Ex × List Ex × Int) (fun p => ([(51, int p.2.2.2.2), (50, int (lenA es)), (2, .ptr 0 0), (3, .ptr 1 0)], [.cells [int o, .isl 8 es, int v, int f, int k, int xk, int xn, str xt], .cells [int o, .isl 8 es2, int v, int f, int k, int xk, int xn, str xt]])) (fun p => a = p.1 ++ p.2.1 ∧ a2 = p.2.2.1 ++ p.2.2.2.1 ∧ p.2.2.2.2 = p.1.length ∧ p.1 = p.2.2.1) (fun p => p.2.1.length) ([], a, [], a2, 0) ⟨rfl, rfl, rfl, rfl⟩ ?_ ?_
 · exact (ent_sub [.to 0, .to 1] [some 0, some 1] ⟨⟨by simp, rfl⟩, ⟨by simp, rfl⟩, trivial⟩ ⟨osrc_cells (b := 0) rfl rfl rfl ⟨.refl _, .cl hcl, .refl _, .refl _, .refl _, .refl _, .refl _, .refl _, trivial⟩, osrc_cells (b := 1) rfl rfl rfl ⟨.refl _, .cl hcl2, .refl _, .refl _, .refl _, .refl _, .refl _, .refl _, trivial⟩, trivial⟩ ⟨.refl _, .refl _, .refl _, .refl _, trivial⟩)
 rintro ⟨d, r, d2, r2, i⟩ ⟨g1, g2, gi, gd⟩
 dsimp only at g1 g2 gi gd ⊢
 subst gd
 cases r with
 | nil =>
  have L1 := len_split g1
  try simp only [List.length] at L1
  have hc : iLt i (lenA es) = false := lt_f e_iLt e_lenA (by omega)
  have L2 := len_split g2
  try simp only [List.length] at L2
  have hr2 : r2 = [] := List.length_eq_zero_iff.1 (by omega)
  have hR : R = true := by rw [hR]; exact eqB_t (by rw [g1, g2, hr2])
  refine goB hX 0 (by conv => lhs; cbv; try simp only [hc]; cbv; try simp only [hc]; cbv; try simp only [hc]; cbv; try simp only [hc]; cbv) ?_
  refine goA 60 ?_
  refine loopP_exit ?_
  refine goA 60 ?_
  refine fn_ret rfl rfl (.val ?_)
  exact congrArg Value.bool hR.symm
 | cons q r =>
  have L1 := len_split g1
  try simp only [List.length] at L1
  have hc : iLt i (lenA es) = true := lt_t e_iLt e_lenA (by omega)
  have hat := el_at e_atA hes g1 gi
  have L2 := len_split g2
  try simp only [List.length] at L2
  cases r2 with
  | nil => exfalso; simp at L2; omega
  | cons q2 r2 =>
   have hat2 := el_at e_atA hes2 g2 gi
   have hq := hih q (by rw [g1]; simp) q2
   have hqc := Ex.closed q
   have hqc2 := Ex.closed q2
   obtain ⟨qO, qA, qV, qF, qK, qXk, qXn, qXt, hx⟩ := Ex.form q
   obtain ⟨q2O, q2A, q2V, q2F, q2K, q2Xk, q2Xn, q2Xt, hx2⟩ := Ex.form q2
   rw [hx, hx2] at hq
   rw [hx] at hat hqc
   rw [hx2] at hat2 hqc2
   have hi2 : iAdd .i64 i 1 = ((d ++ [q]).length : Int) := by rw [List.length_append]; exact inc_w e_iAdd gi (by omega)
   by_cases hqq : q = q2
   · rw [eqB_t hqq] at hq
     have hn : bNot true = false := by simp [ee]
     refine goB hX 0 (by conv => lhs; cbv; try simp only [hc, hat, hat2, hn]; cbv; try simp only [hc, hat, hat2, hn]; cbv; try simp only [hc, hat, hat2, hn]; cbv; try simp only [hc, hat, hat2, hn]; cbv) ?_
     refine goB hX 1 (by conv => lhs; cbv; try simp only [hc, hat, hat2, hn]; cbv; try simp only [hc, hat, hat2, hn]; cbv; try simp only [hc, hat, hat2, hn]; cbv; try simp only [hc, hat, hat2, hn]; cbv) ?_
     refine tr_drawB rfl (by conv => lhs; cbv) rfl ?_
     refine tgB hX (by conv => lhs; cbv; try simp only [hc, hat, hat2, hn]; cbv; try simp only [hc, hat, hat2, hn]; cbv; try simp only [hc, hat, hat2, hn]; cbv; try simp only [hc, hat, hat2, hn]; cbv) ?_
     refine oPT hq ?_
     refine tgA ?_
     refine tr_nil ⟨rfl, ?_, ?_⟩
     · simp only [LooksL, lookAll, List.append, List.cons_append, List.nil_append, List.append_nil]; and_intros <;> first | trivial | (intro hp; first | rfl | exact absurd (show false = true from hp) Bool.false_ne_true)
     refine goB hX 0 (by conv => lhs; cbv; try simp only [hc, hat, hat2, hn]; cbv; try simp only [hc, hat, hat2, hn]; cbv; try simp only [hc, hat, hat2, hn]; cbv; try simp only [hc, hat, hat2, hn]; cbv) ?_
     refine goA 60 ?_
     refine loopP_next (d ++ [q], r, d ++ [q2], r2, iAdd .i64 i 1) ⟨by simp [g1], by simp [g2], hi2, by simp [hqq]⟩ (by simp) (ent_sub [.to 0, .to 1] [some 0, some 1] ⟨⟨by simp, rfl⟩, ⟨by simp, rfl⟩, trivial⟩ ⟨osrc_cells (b := 0) rfl rfl rfl ⟨.refl _, .cl hcl, .refl _, .refl _, .refl _, .refl _, .refl _, .refl _, trivial⟩, osrc_cells (b := 1) rfl rfl rfl ⟨.refl _, .cl hcl2, .refl _, .refl _, .refl _, .refl _, .refl _, .refl _, trivial⟩, trivial⟩ ⟨.refl _, .refl _, .refl _, .refl _, trivial⟩)
   · rw [eqB_f hqq] at hq
     have hn : bNot false = true := by simp [ee]
     have hR : R = false := by rw [hR]; exact eqB_f (by rw [g1, g2]; simp [hqq])
     refine goB hX 0 (by conv => lhs; cbv; try simp only [hc, hat, hat2, hn]; cbv; try simp only [hc, hat, hat2, hn]; cbv; try simp only [hc, hat, hat2, hn]; cbv; try simp only [hc, hat, hat2, hn]; cbv) ?_
     refine goB hX 1 (by conv => lhs; cbv; try simp only [hc, hat, hat2, hn]; cbv; try simp only [hc, hat, hat2, hn]; cbv; try simp only [hc, hat, hat2, hn]; cbv; try simp only [hc, hat, hat2, hn]; cbv) ?_
     refine tr_drawB rfl (by conv => lhs; cbv) rfl ?_
     refine tgB hX (by conv => lhs; cbv; try simp only [hc, hat, hat2, hn]; cbv; try simp only [hc, hat, hat2, hn]; cbv; try simp only [hc, hat, hat2, hn]; cbv; try simp only [hc, hat, hat2, hn]; cbv) ?_
     refine oPT hq ?_
     refine tgA ?_
     refine tr_nil ⟨rfl, ?_, ?_⟩
     · simp only [LooksL, lookAll, List.append, List.cons_append, List.nil_append, List.append_nil]; and_intros <;> first | trivial | (intro hp; first | rfl | exact absurd (show false = true from hp) Bool.false_ne_true)
     refine goB hX 0 (by conv => lhs; cbv; try simp only [hc, hat, hat2, hn]; cbv; try simp only [hc, hat, hat2, hn]; cbv; try simp only [hc, hat, hat2, hn]; cbv; try simp only [hc, hat, hat2, hn]; cbv) ?_
     refine goA 60 ?_
     refine loopP_ret ?_
     refine goA 60 ?_
     refine fn_ret rfl rfl (.val ?_)
     exact congrArg Value.bool hR.symm
theorem P_pattern_Size : ∀ p : Pat, p.Sm → PCall EE 13 [p.enc] (.tup [int p.cnt, int p.dep]) := by
 refine Pat.ind ?_
 intro o a t v s n c ih hs
 obtain ⟨co, ca, cv, cf, ck, cx⟩ := c
 have hlen := hs.len
 have hih : ∀ q ∈ a, PCall EE 13 [q.enc] (.tup [int q.cnt, int q.dep]) := fun q hq => ih q hq (hs.arg hq)
 have hcl := Pat.closedI a
 have hcnt := hs.1
 simp only [Pat.cnt] at hcnt
 have hde := fun q : Pat => Pat.dep_le q
 simp only [Pat.cnt, Pat.dep]
 rw [Pat.enc_mk]
 refine wordsN ?_; unhygienic intros
 generalize hes : mapE Pat.enc a = es at *
 have hel : es.length = a.length := by rw [← hes, mapE_len]
 generalize mapE Ex.enc ca = ec
 refine fn_body (fn := Tryz.f13) (n := 32) (ac := Tryzc13) (rvs := [.t 2, .t 3]) rfl (by decide) Tryzp13 rfl rfl rfl ?_
 refine goA 60 ?_
 refine on_loopP (ι := List Pat × List Pat × Int × Int × Int) (fun p => ([(5, int p.2.2.2.2), (4, int p.2.2.2.1), (13, int p.2.2.1), (12, int (lenA es)), (11, .isl 14 es)], [])) (fun p => a = p.1 ++ p.2.1 ∧ p.2.2.1 = p.1.length ∧ p.2.2.2.1 = 1 + Pat.cntL p.1 ∧ Pat.depL 0 a = Pat.depL p.2.2.2.2.toNat p.2.1 ∧ 0 ≤ p.2.2.2.2 ∧ p.2.2.2.2 ≤ 1048576) (fun p => p.2.1.length) ([], a, 0, 1, 0) ⟨rfl, rfl, rfl, rfl, by simp⟩ ?_ ?_
 · exact (ent_sub [.gone] [] ⟨trivial, trivial⟩ trivial ⟨.refl _, .refl _, .refl _, .refl _, .cl hcl, trivial⟩)
 rintro ⟨d, r, i, nn, dd⟩ ⟨g1, gi, gn, gd, gb⟩
 dsimp only at g1 gi gn gd gb ⊢
 cases r with
 | nil =>
  have L1 := len_split g1
  try simp only [List.length] at L1
  have hc : iLt i (lenA es) = false := lt_f e_iLt e_lenA (by omega)
  rw [List.append_nil] at g1
  rw [gd, Pat.depL, g1]
  have ha1 : iAdd .i64 dd 1 = ((dd.toNat + 1 : Nat) : Int) := by rw [add_w e_iAdd (by omega) (by omega)]; omega
  have hn : nn = ((1 + Pat.cntL d : Nat) : Int) := by omega
  refine goB hX 0 (by conv => lhs; cbv; try simp only [hc]; cbv; try simp only [hc]; cbv; try simp only [hc]; cbv; try simp only [hc]; cbv) ?_
  refine goA 60 ?_
  refine loopP_exit ?_
  refine goA 60 ?_
  refine fn_ret rfl rfl ?_
  exact ⟨[], trivial, .tup' ⟨.of (congrArg int hn), .of (congrArg int ha1), trivial⟩⟩
 | cons q r =>
  have L1 := len_split g1
  try simp only [List.length] at L1
  have hc : iLt i (lenA es) = true := lt_t e_iLt e_lenA (by omega)
  have hat := el_at e_atA hes g1 gi
  have hq := hih q (by rw [g1]; simp)
  have hqc := Pat.closed q
  have hqd := hde q
  rw [g1, Pat.cntL_append, Pat.cntL] at hcnt
  obtain ⟨qO, qA, qT, qV, qS, qN, qCo, qCa, qCv, qCf, qCk, qXk, qXn, qXt, hx⟩ := Pat.form q
  rw [hx] at hq hat hqc
  generalize hqn : (q.cnt : Int) = qn at hq
  generalize hqp : (q.dep : Int) = qp at hq
  have hn2 : iAdd .i64 nn qn = 1 + Pat.cntL (d ++ [q]) := by rw [Pat.cntL_append, Pat.cntL, Pat.cntL, add_w e_iAdd (by omega) (by omega)]; omega
  have hi2 : iAdd .i64 i 1 = ((d ++ [q]).length : Int) := by rw [List.length_append]; exact inc_w e_iAdd gi (by omega)
  have hd2 : iMax dd qp = ((max dd.toNat q.dep : Nat) : Int) := by simp only [ee]; split <;> omega
  refine goB hX 0 (by conv => lhs; cbv; try simp only [hc, hat]; cbv; try simp only [hc, hat]; cbv; try simp only [hc, hat]; cbv; try simp only [hc, hat]; cbv) ?_
  refine goB hX 1 (by conv => lhs; cbv; try simp only [hc, hat]; cbv; try simp only [hc, hat]; cbv; try simp only [hc, hat]; cbv; try simp only [hc, hat]; cbv) ?_
  refine oPA hq ?_
  refine goA 60 ?_
  refine loopP_next (d ++ [q], r, iAdd .i64 i 1, iAdd .i64 nn qn, iMax dd qp) ⟨by simp [g1], hi2, hn2, by rw [gd, hd2, Pat.depL]; rfl, by show 0 ≤ iMax dd qp; omega, by show iMax dd qp ≤ 1048576; omega⟩ (by simp) (ent_sub [.gone] [] ⟨trivial, trivial⟩ trivial ⟨.refl _, .refl _, .refl _, .refl _, .cl hcl, trivial⟩)
end Go.Am
end
