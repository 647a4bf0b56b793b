/- Contracts of the program's functions, for every argument that meets the conditions that each theorem names. -/
import Derived.Test.YtehpdnkachbakaaDoorAm6
import Derived.Test.YtehpdnkachbakaaDoorCt4
import Derived.Test.YtehpdnkachbakaaDoorCt3
import Derived.Test.YtehpdnkachbakaaDoorCt2
section
set_option maxHeartbeats 16000000
set_option maxRecDepth 20000
namespace Go.Am
open Go.Proofs
section
variable {E : Env} {n N : Nat} {Q : AExit → AFr → AHeap → Prop} {k : List KI} {F : AFr} {H : AHeap}
theorem on_fcallv {o : AOper} {l : List AOper} {x : Opd} {xs : List Opd} {f : FuncId} {cs args : List AV} {R : AV → AHeap → Prop} {Hl : AHeap} (L : List Nat) (hg : o.guard = none) (ho : o.op = .callv x xs) (hf : x.ev E.G F = .fn f cs) (hen : Enters E.P f) (hc : ACall E f args Hl R) (hnd : L.Nodup) (hlt : ∀ x ∈ L, x < H.length)
 (hHl : Hl = L.map fun x => (H.getD x .dead).sub (subOut L)) (hargs : args = (xs.map (·.ev E.G F) ++ cs).map (AV.sub (subOut L)))
 (h : ∀ v0 H', R v0 H' → L.length ≤ H'.length → Holds E n N Q (.ops l) k (F.set o.dst (v0.sub (subIn L H.length))) (mergeH H L H')) : Holds E n N Q (.ops (o :: l)) k F H := by
 refine on_callv hg ho hf rfl ⟨hen, ACall.frame hc (H := H) (args' := xs.map (·.ev E.G F) ++ cs) L hnd hlt hHl hargs⟩ ?_
 rintro _ _ ⟨v0, H', h1, h2, rfl, rfl⟩
 exact h v0 H' h1 h2
end
def runV {S : Type} (V : Int → Pat × Plc → S → S × Bool) : Int → S → List (Pat × Plc) → S × Int × Bool
 | i, s, [] => (s, i, true)
 | i, s, x :: r => if (V (i + 1) x s).2 = true then runV V (i + 1) (V (i + 1) x s).1 r else ((V (i + 1) x s).1, i + 1, false)
theorem runV_append {S : Type} (V : Int → Pat × Plc → S → S × Bool) : ∀ (a b : List (Pat × Plc)) (i : Int) (s : S), runV V i s (a ++ b) = if (runV V i s a).2.2 = true then runV V (runV V i s a).2.1 (runV V i s a).1 b else runV V i s a
 | [], b, i, s => by simp [runV]
 | x :: a, b, i, s => by
  rw [List.cons_append, runV, runV]
  by_cases h : (V (i + 1) x s).2 = true
  · rw [if_pos h, if_pos h, runV_append V a b]
  · rw [if_neg h, if_neg h]; simp
theorem runV_len {S : Type} (V : Int → Pat × Plc → S → S × Bool) : ∀ (a : List (Pat × Plc)) (i : Int) (s : S), i ≤ (runV V i s a).2.1 ∧ (runV V i s a).2.1 ≤ i + a.length ∧ ((runV V i s a).2.2 = true → (runV V i s a).2.1 = i + a.length)
 | [], i, s => by simp [runV]
 | x :: a, i, s => by
  rw [runV]
  by_cases h : (V (i + 1) x s).2 = true
  · rw [if_pos h]
    have := runV_len V a (i + 1) (V (i + 1) x s).1
    simp only [List.length_cons]
    refine ⟨by omega, by omega, fun h2 => ?_⟩
    have := this.2.2 h2
    omega
  · rw [if_neg h]
    simp only [List.length_cons]
    exact ⟨by omega, by omega, fun h2 => by cases h2⟩
theorem subOut6 : ∀ i, i < 6 → subOut [0, 1, 2, 3, 4, 5] i = .to i := fun i hi => by
 match i, hi with
 | 0, _ | 1, _ | 2, _ | 3, _ | 4, _ | 5, _ => rfl
theorem subIn6 (m : Nat) : ∀ i, i < 6 → subIn [0, 1, 2, 3, 4, 5] m i = .to i := fun i hi => by
 match i, hi with
 | 0, _ | 1, _ | 2, _ | 3, _ | 4, _ | 5, _ => rfl
theorem ofL6 (r : List Sub) : ∀ i, i < 6 → ofL (.to 0 :: .to 1 :: .to 2 :: .to 3 :: .to 4 :: .to 5 :: r) i = .to i := fun i hi => by
 match i, hi with
 | 0, _ | 1, _ | 2, _ | 3, _ | 4, _ | 5, _ => rfl
def K6 (o : AObj) : Prop := ∀ σ : Nat → Sub, (∀ i, i < 6 → σ i = .to i) → o.sub σ = o
theorem six_out {a0 a1 a2 a3 a4 a5 : AObj} (h0 : K6 a0) (h1 : K6 a1) (h2 : K6 a2) (h3 : K6 a3) (h4 : K6 a4) (h5 : K6 a5) (rest : AHeap) :
 [a0, a1, a2, a3, a4, a5] = [0, 1, 2, 3, 4, 5].map fun x => ((a0 :: a1 :: a2 :: a3 :: a4 :: a5 :: rest).getD x .dead).sub (subOut [0, 1, 2, 3, 4, 5]) := by
 show _ = [a0.sub _, a1.sub _, a2.sub _, a3.sub _, a4.sub _, a5.sub _]
 rw [h0 _ subOut6, h1 _ subOut6, h2 _ subOut6, h3 _ subOut6, h4 _ subOut6, h5 _ subOut6]
theorem six_merge2 {b0 b1 b2 b3 b4 b5 : AObj} (h0 : K6 b0) (h1 : K6 b1) (h2 : K6 b2) (h3 : K6 b3) (h4 : K6 b4) (h5 : K6 b5) (a0 a1 a2 a3 a4 a5 r0 r1 : AObj) :
 mergeH [a0, a1, a2, a3, a4, a5, r0, r1] [0, 1, 2, 3, 4, 5] [b0, b1, b2, b3, b4, b5] = [b0, b1, b2, b3, b4, b5, r0, r1] := by
 show [b0.sub _, b1.sub _, b2.sub _, b3.sub _, b4.sub _, b5.sub _, r0, r1] = _
 rw [h0 _ (subIn6 _), h1 _ (subIn6 _), h2 _ (subIn6 _), h3 _ (subIn6 _), h4 _ (subIn6 _), h5 _ (subIn6 _)]
theorem six_merge3 {b0 b1 b2 b3 b4 b5 : AObj} (h0 : K6 b0) (h1 : K6 b1) (h2 : K6 b2) (h3 : K6 b3) (h4 : K6 b4) (h5 : K6 b5) (a0 a1 a2 a3 a4 a5 r0 r1 r2 : AObj) :
 mergeH [a0, a1, a2, a3, a4, a5, r0, r1, r2] [0, 1, 2, 3, 4, 5] [b0, b1, b2, b3, b4, b5] = [b0, b1, b2, b3, b4, b5, r0, r1, r2] := by
 show [b0.sub _, b1.sub _, b2.sub _, b3.sub _, b4.sub _, b5.sub _, r0, r1, r2] = _
 rw [h0 _ (subIn6 _), h1 _ (subIn6 _), h2 _ (subIn6 _), h3 _ (subIn6 _), h4 _ (subIn6 _), h5 _ (subIn6 _)]
theorem args6 {a b c : AV} {cs : List AV} (ha : a.closed = true) (hb : b.closed = true) (hc : c.closed = true) (h : ∀ σ : Nat → Sub, (∀ i, i < 6 → σ i = .to i) → AV.subL σ cs = cs) : [a, b, c] ++ cs = ([a, b, c] ++ cs).map (AV.sub (subOut [0, 1, 2, 3, 4, 5])) := by
 rw [List.map_append, ← AV.subL_eq _ cs, h _ subOut6]
 show _ = [a.sub _, b.sub _, c.sub _] ++ cs
 rw [sub_closed _ _ a (Nat.le_refl _) ha, sub_closed _ _ b (Nat.le_refl _) hb, sub_closed _ _ c (Nat.le_refl _) hc]
theorem args6b {a b : AV} {cs : List AV} (ha : a.closed = true) (hb : b.closed = true) (h : ∀ σ : Nat → Sub, (∀ i, i < 6 → σ i = .to i) → AV.subL σ cs = cs) : [a, b] ++ cs = ([a, b] ++ cs).map (AV.sub (subOut [0, 1, 2, 3, 4, 5])) := by
 rw [List.map_append, ← AV.subL_eq _ cs, h _ subOut6]
 show _ = [a.sub _, b.sub _] ++ cs
 rw [sub_closed _ _ a (Nat.le_refl _) ha, sub_closed _ _ b (Nat.le_refl _) hb]
theorem K6.int (i : Int) : K6 (.cells [int i]) := fun _ _ => rfl
theorem K6.fn {f : FuncId} {cs : List AV} (h : ∀ σ : Nat → Sub, (∀ i, i < 6 → σ i = .to i) → AV.subL σ cs = cs) : K6 (.cells [.fn f cs]) := fun σ hs => by
 show AObj.cells [.fn f (AV.subL σ cs)] = _
 rw [h σ hs]
theorem sub_ptrs {σ : Nat → Sub} (h : ∀ i, i < 6 → σ i = .to i) : AV.subL σ [.ptr 0 0, .ptr 1 0, .ptr 2 0] = [.ptr 0 0, .ptr 1 0, .ptr 2 0] := by
 simp only [AV.subL, AV.sub, h 0 (by decide), h 1 (by decide), h 2 (by decide)]
theorem enters_scope_walk_1 : Enters EE.P 56 := enters_of (fn := Tryd.f56) (n := 45) (ac := Trydc56) rfl (by decide) Trydp56
def hpV {S : Type} (vf : FuncId) (vcs : List AV) (o3 o4 o5 : S → AObj) (i : Int) (s : S) : AHeap :=
 [.cells [int i], .cells [.fn vf vcs], .cells [.fn 56 [.ptr 0 0, .ptr 1 0, .ptr 2 0]], o3 s, o4 s, o5 s]
theorem C_each {S : Type} (vf : FuncId) (vcs : List AV) (o3 o4 o5 : S → AObj) (V : Int → Pat × Plc → S → S × Bool) (hen : Enters EE.P vf)
 (h3 : ∀ s, K6 (o3 s)) (h4 : ∀ s, K6 (o4 s)) (h5 : ∀ s, K6 (o5 s)) (hvc : ∀ (σ : Nat → Sub), (∀ i, i < 6 → σ i = .to i) → AV.subL σ vcs = vcs)
 (hV : ∀ (i : Int) (x : Pat × Plc) (s : S), x.1.Sm → x.1.wf → x.2.ok → 0 ≤ i → ACall EE vf ([int i, x.1.enc, x.2.enc] ++ vcs) (hpV vf vcs o3 o4 o5 i s) (fun v H' => v = bool (V i x s).2 ∧ H' = hpV vf vcs o3 o4 o5 i (V i x s).1)) :
 ∀ p : Pat, p.Sm → p.wf → ∀ (l : Plc), l.ok → ∀ (i : Int) (s : S), -1 ≤ i → i + p.cnt < 1073741824 →
  ACall EE 56 [p.enc, l.enc, .ptr 0 0, .ptr 1 0, .ptr 2 0] (hpV vf vcs o3 o4 o5 i s) (fun v H' => v = bool (runV V i s (Pat.lf l p)).2.2 ∧ H' = hpV vf vcs o3 o4 o5 (runV V i s (Pat.lf l p)).2.1 (runV V i s (Pat.lf l p)).1) := by
 have k1 : K6 (.cells [.fn vf vcs]) := K6.fn hvc
 have k2 : K6 (.cells [.fn 56 [.ptr 0 0, .ptr 1 0, .ptr 2 0]]) := K6.fn fun σ h => sub_ptrs h
 refine Pat.ind ?_
 intro o a t v sc n c ih hs hw l hl i s hi0 hi1
 have hlen := hs.len
 have hih := fun q (hq : q ∈ a) => ih q hq (hs.arg hq) (hw.arg hq)
 have hwa : ∀ q ∈ a, q.wf := fun q hq => hw.arg hq
 have hsa : ∀ q ∈ a, q.Sm := fun q hq => hs.arg hq
 obtain ⟨pp, hpp⟩ : ∃ pp, pp = Pat.mk o a t v sc n c := ⟨_, rfl⟩
 have hv1 := hV (i + 1) (pp, l) s (by rw [hpp]; exact hs) (by rw [hpp]; exact hw) hl (by omega)
 rw [Pat.lf, runV, ← hpp]
 rw [Pat.cnt] at hi1
 obtain ⟨s1, hs1⟩ : ∃ z, z = (V (i + 1) (pp, l) s).1 := ⟨_, rfl⟩
 obtain ⟨b1, hb1⟩ : ∃ z, z = (V (i + 1) (pp, l) s).2 := ⟨_, rfl⟩
 rw [← hs1, ← hb1] at hv1 ⊢
 obtain ⟨Z, hZ⟩ : ∃ Z, Z = (if b1 = true then runV V (i + 1) s1 (Pat.lfL (decide (o = 1)) l a) else (s1, i + 1, false)) := ⟨_, rfl⟩
 rw [← hZ]
 dsimp only at hv1
 have hpc := Pat.closed pp
 have hlc := l.closed
 have hcl := Pat.closedI a
 have hcc := Ex.closed c
 have hpe : pp.enc = (Pat.mk o a t v sc n c).enc := by rw [hpp]
 obtain ⟨cO, cA, cV, cF, cK, cXk, cXn, cXt, hcx⟩ := Ex.form c
 have hpx := Pat.enc_c o a t v sc n hcx
 simp only [List.cons_append, List.nil_append] at hpx
 rw [hpx] at hpe
 rw [hpe] at hv1 hpc ⊢
 rw [hcx] at hcc
 have hcaI : (AV.isl 8 cA).closed = true := by have := hcc; simp [AV.closed, AV.closedL] at this ⊢; exact this
 simp only [Plc.enc] at hv1 hlc ⊢
 have hLU := closedI_int l.us
 have hLS := closedI_int l.si
 obtain ⟨LU, eLU⟩ : ∃ z, z = mapE int l.us := ⟨_, rfl⟩
 obtain ⟨LS, eLS⟩ : ∃ z, z = mapE int l.si := ⟨_, rfl⟩
 obtain ⟨fb, efb⟩ : ∃ z, z = l.fb := ⟨_, rfl⟩
 rw [← eLU, ← eLS, ← efb] at hv1 hlc ⊢
 rw [← eLU] at hLU
 rw [← eLS] at hLS
 unfold hpV at hv1 ⊢
 clear ih hs hw hpx hcx hpe
 refine wordsN ?_; unhygienic intros
 generalize hes : mapE Pat.enc a = es at *
 have hel : es.length = a.length := by rw [← hes, mapE_len]
 have ha1 : iAdd .i64 i 1 = i + 1 := add_w e_iAdd (by omega) (by omega)
 obtain ⟨i1, ei1⟩ : ∃ z, z = i + 1 := ⟨_, rfl⟩
 rw [← ei1] at ha1 hv1 hZ
 have n0 : bNot false = true := by simp only [ee]; rfl
 have n1 : bNot true = false := by simp only [ee]; rfl
 refine rcall_body (fn := Tryd.f56) (n := 45) (ac := Trydc56) (rvs := [.t 7]) rfl Trydp56 rfl rfl rfl ?_
 show Holds EE 45 6 _ _ _ _ _
 refine goB hX 0 (by conv => lhs; cbv; try simp only [ha1]; cbv; try simp only [ha1]; cbv; try simp only [ha1]; cbv; try simp only [ha1]; cbv) ?_
 refine on_fcallv [0, 1, 2, 3, 4, 5] rfl rfl rfl hen hv1 (by decide) (by simp) (six_out (K6.int _) k1 k2 (h3 _) (h4 _) (h5 _) _) (args6 rfl hpc hlc hvc) ?_
 rintro v0 H' ⟨rfl, rfl⟩ -
 rw [six_merge2 (K6.int _) k1 k2 (h3 _) (h4 _) (h5 _)]
 cases b1 with
 | false =>
  rw [if_neg (by decide)] at hZ
  rw [hZ]
  refine goB hX 0 (by conv => lhs; cbv; try simp only [n0]; cbv; try simp only [n0]; cbv; try simp only [n0]; cbv; try simp only [n0]; cbv) ?_
  refine goA 60 ?_
  refine o_ret (F2 := [(7, bool false)]) (H2 := [.cells [int i1], .cells [.fn vf vcs], .cells [.fn 56 [.ptr 0 0, .ptr 1 0, .ptr 2 0]], o3 s1, o4 s1, o5 s1]) ?_ rfl ⟨rfl, rfl⟩
  exact (ent_subN [.to 0, .to 1, .to 2, .to 3, .to 4, .to 5, .gone, .gone] [some 0, some 1, some 2, some 3, some 4, some 5] ⟨rfl, rfl, rfl, rfl, rfl, rfl, trivial⟩ (by simp) (by simp) ⟨⟨by simp, rfl⟩, ⟨by simp, rfl⟩, ⟨by simp, rfl⟩, ⟨by simp, rfl⟩, ⟨by simp, rfl⟩, ⟨by simp, rfl⟩, trivial, trivial, trivial⟩ ⟨.same 0 _ _ rfl rfl rfl (K6.int _ _ (ofL6 _)), .same 1 _ _ rfl rfl rfl (k1 _ (ofL6 _)), .same 2 _ _ rfl rfl rfl (k2 _ (ofL6 _)), .same 3 _ _ rfl rfl rfl (h3 _ _ (ofL6 _)), .same 4 _ _ rfl rfl rfl (h4 _ _ (ofL6 _)), .same 5 _ _ rfl rfl rfl (h5 _ _ (ofL6 _)), trivial⟩ ⟨.refl _, trivial⟩)
 | true =>
 rw [if_pos rfl] at hZ
 refine goB hX 0 (by conv => lhs; cbv; try simp only [n1]; cbv; try simp only [n1]; cbv; try simp only [n1]; cbv; try simp only [n1]; cbv) ?_
 refine goA 60 ?_
 refine on_loopP (ι := List Pat × List Pat × Int × Int × S × Plc × List AV × List AV × Int) (fun p => ([(21, int p.2.2.1), (20, int (lenA es)), (19, .isl 14 es), (2, .ptr 0 0), (3, .ptr 1 0), (4, .ptr 2 0), (5, .ptr 6 0), (6, .ptr 7 0)], [.cells [int p.2.2.2.1], .cells [.fn vf vcs], .cells [.fn 56 [.ptr 0 0, .ptr 1 0, .ptr 2 0]], o3 p.2.2.2.2.1, o4 p.2.2.2.2.1, o5 p.2.2.2.2.1, .cells [int o, .isl 14 es, int t, int v, int sc, int n, int cO, .isl 8 cA, int cV, int cF, int cK, int cXk, int cXn, str cXt], .cells [.isl 1 p.2.2.2.2.2.2.1, .isl 1 p.2.2.2.2.2.2.2.1, int p.2.2.2.2.2.2.2.2]])) (fun p => a = p.1 ++ p.2.1 ∧ p.2.2.1 = p.1.length ∧ p.2.2.2.2.2.1.ok ∧ 0 ≤ p.2.2.2.1 ∧ p.2.2.2.1 + Pat.cntL p.2.1 < 1073741824 ∧ Z = runV V p.2.2.2.1 p.2.2.2.2.1 (Pat.lfL (decide (o = 1)) p.2.2.2.2.2.1 p.2.1) ∧ p.2.2.2.2.2.2.1 = mapE int p.2.2.2.2.2.1.us ∧ p.2.2.2.2.2.2.2.1 = mapE int p.2.2.2.2.2.1.si ∧ p.2.2.2.2.2.2.2.2 = p.2.2.2.2.2.1.fb) (fun p => p.2.1.length) ([], a, 0, i1, s1, l, LU, LS, fb) ⟨rfl, rfl, hl, (by show 0 ≤ i1; omega), (by show i1 + (Pat.cntL a : Int) < 1073741824; omega), hZ, eLU, eLS, efb⟩ ?_ ?_
 · exact (ent_subN [.to 0, .to 1, .to 2, .to 3, .to 4, .to 5, .to 6, .to 7] [some 0, some 1, some 2, some 3, some 4, some 5, some 6, some 7] ⟨rfl, rfl, rfl, rfl, rfl, rfl, trivial⟩ (by simp) (by simp) ⟨⟨by simp, rfl⟩, ⟨by simp, rfl⟩, ⟨by simp, rfl⟩, ⟨by simp, rfl⟩, ⟨by simp, rfl⟩, ⟨by simp, rfl⟩, ⟨by simp, rfl⟩, ⟨by simp, rfl⟩, trivial⟩ ⟨.same 0 _ _ rfl rfl rfl (K6.int _ _ (ofL6 _)), .same 1 _ _ rfl rfl rfl (k1 _ (ofL6 _)), .same 2 _ _ rfl rfl rfl (k2 _ (ofL6 _)), .same 3 _ _ rfl rfl rfl (h3 _ _ (ofL6 _)), .same 4 _ _ rfl rfl rfl (h4 _ _ (ofL6 _)), .same 5 _ _ rfl rfl rfl (h5 _ _ (ofL6 _)), osrc_cells (b := 6) rfl rfl rfl ⟨.refl _, .cl hcl, .refl _, .refl _, .refl _, .refl _, .refl _, .cl hcaI, .refl _, .refl _, .refl _, .refl _, .refl _, .refl _, trivial⟩, osrc_cells (b := 7) rfl rfl rfl ⟨.cl hLU, .cl hLS, .refl _, trivial⟩, trivial⟩ ⟨.refl _, .refl _, .cl hcl, .refl _, .refl _, .refl _, .refl _, .refl _, trivial⟩)
 rintro ⟨d, r, j, i2, s2, l2, LU2, LS2, fb2⟩ ⟨g1, gj, gl, g0, gb, gZ, gU, gS, gf⟩
 dsimp only at g1 gj gl g0 gb gZ gU gS gf ⊢
 have hU2 : (AV.isl 1 LU2).closed = true := by rw [gU]; exact closedI_int _
 have hS2 : (AV.isl 1 LS2).closed = true := by rw [gS]; exact closedI_int _
 cases r with
 | nil =>
  have L1 := len_split g1
  try simp only [List.length] at L1
  have hc : iLt j (lenA es) = false := lt_f e_iLt e_lenA (by omega)
  rw [Pat.lfL, runV] at gZ
  rw [gZ]
  refine goB hX 0 (by conv => lhs; cbv; try simp only [hc]; cbv; try simp only [hc]; cbv; try simp only [hc]; cbv; try simp only [hc]; cbv) ?_
  refine goA 60 ?_
  refine loopP_exit ?_
  refine goA 60 ?_
  refine o_ret (F2 := [(7, bool true)]) (H2 := [.cells [int i2], .cells [.fn vf vcs], .cells [.fn 56 [.ptr 0 0, .ptr 1 0, .ptr 2 0]], o3 s2, o4 s2, o5 s2]) ?_ rfl ⟨rfl, rfl⟩
  exact (ent_subN [.to 0, .to 1, .to 2, .to 3, .to 4, .to 5, .gone, .gone] [some 0, some 1, some 2, some 3, some 4, some 5] ⟨rfl, rfl, rfl, rfl, rfl, rfl, trivial⟩ (by simp) (by simp) ⟨⟨by simp, rfl⟩, ⟨by simp, rfl⟩, ⟨by simp, rfl⟩, ⟨by simp, rfl⟩, ⟨by simp, rfl⟩, ⟨by simp, rfl⟩, trivial, trivial, trivial⟩ ⟨.same 0 _ _ rfl rfl rfl (K6.int _ _ (ofL6 _)), .same 1 _ _ rfl rfl rfl (k1 _ (ofL6 _)), .same 2 _ _ rfl rfl rfl (k2 _ (ofL6 _)), .same 3 _ _ rfl rfl rfl (h3 _ _ (ofL6 _)), .same 4 _ _ rfl rfl rfl (h4 _ _ (ofL6 _)), .same 5 _ _ rfl rfl rfl (h5 _ _ (ofL6 _)), trivial⟩ ⟨.refl _, trivial⟩)
 | cons q r =>
  have L1 := len_split g1
  try simp only [List.length] at L1
  have hc : iLt j (lenA es) = true := lt_t e_iLt e_lenA (by omega)
  have hat := el_at e_atA hes g1 gj
  have hqm : q ∈ a := by rw [g1]; simp
  have hqw := hwa q hqm
  have hqs := hsa q hqm
  rw [Pat.cntL] at gb
  have hq := hih q hqm l2 gl i2 s2 (by omega) (by omega)
  rw [Pat.lfL, runV_append] at gZ
  have hrl := runV_len V (Pat.lf l2 q) i2 s2
  rw [Pat.lf_len] at hrl
  obtain ⟨⟨s3, i3, b3⟩, hrun⟩ : ∃ z : S × Int × Bool, runV V i2 s2 (Pat.lf l2 q) = z := ⟨_, rfl⟩
  rw [hrun] at hq gZ hrl
  dsimp only at hq gZ hrl
  have hqc := Pat.closed q
  have hj2 : iAdd .i64 j 1 = ((d ++ [q]).length : Int) := by rw [List.length_append]; exact inc_w e_iAdd gj (by omega)
  have hl2c : (AV.agg [.isl 1 LU2, .isl 1 LS2, int fb2]).closed = true := by simp [AV.closed, AV.closedL] at hU2 hS2 ⊢; exact ⟨hU2, hS2⟩
  simp only [Plc.enc] at hq
  rw [← gU, ← gS, ← gf] at hq
  unfold hpV at hq
  obtain ⟨qO, qA, qT, qV, qS, qN, qCo, qCa, qCv, qCf, qCk, qXk, qXn, qXt, hxq⟩ := Pat.form q
  rw [hxq] at hat hqc hq
  refine goB hX 0 (by conv => lhs; cbv; try simp only [hc, hat]; cbv; try simp only [hc, hat]; cbv; try simp only [hc, hat]; cbv; try simp only [hc, hat]; cbv) ?_
  refine goB hX 1 (by conv => lhs; cbv; try simp only [hc, hat]; cbv; try simp only [hc, hat]; cbv; try simp only [hc, hat]; cbv; try simp only [hc, hat]; cbv) ?_
  refine on_fcallv [0, 1, 2, 3, 4, 5] rfl rfl rfl enters_scope_walk_1 hq (by decide) (by simp) (six_out (K6.int _) k1 k2 (h3 _) (h4 _) (h5 _) _) (args6b hqc hl2c (fun σ h => sub_ptrs h)) ?_
  rintro v0 H' ⟨rfl, rfl⟩ -
  rw [six_merge3 (K6.int _) k1 k2 (h3 _) (h4 _) (h5 _)]
  cases b3 with
  | false =>
   rw [if_neg (by decide)] at gZ
   rw [gZ]
   refine goB hX 0 (by conv => lhs; cbv; try simp only [n0]; cbv; try simp only [n0]; cbv; try simp only [n0]; cbv; try simp only [n0]; cbv) ?_
   refine goA 60 ?_
   refine loopP_ret ?_
   refine goA 60 ?_
   refine o_ret (F2 := [(7, bool false)]) (H2 := [.cells [int i3], .cells [.fn vf vcs], .cells [.fn 56 [.ptr 0 0, .ptr 1 0, .ptr 2 0]], o3 s3, o4 s3, o5 s3]) ?_ rfl ⟨rfl, rfl⟩
   exact (ent_subN [.to 0, .to 1, .to 2, .to 3, .to 4, .to 5, .gone, .gone, .gone] [some 0, some 1, some 2, some 3, some 4, some 5] ⟨rfl, rfl, rfl, rfl, rfl, rfl, trivial⟩ (by simp) (by simp) ⟨⟨by simp, rfl⟩, ⟨by simp, rfl⟩, ⟨by simp, rfl⟩, ⟨by simp, rfl⟩, ⟨by simp, rfl⟩, ⟨by simp, rfl⟩, trivial, trivial, trivial, trivial⟩ ⟨.same 0 _ _ rfl rfl rfl (K6.int _ _ (ofL6 _)), .same 1 _ _ rfl rfl rfl (k1 _ (ofL6 _)), .same 2 _ _ rfl rfl rfl (k2 _ (ofL6 _)), .same 3 _ _ rfl rfl rfl (h3 _ _ (ofL6 _)), .same 4 _ _ rfl rfl rfl (h4 _ _ (ofL6 _)), .same 5 _ _ rfl rfl rfl (h5 _ _ (ofL6 _)), trivial⟩ ⟨.refl _, trivial⟩)
  | true =>
  rw [if_pos rfl] at gZ
  have hi3 := hrl.2.2 rfl
  by_cases ho1 : o = 1
  rotate_left
  · have k1o : iEq o 1 = false := by simp only [ee]; simpa using ho1
    rw [decide_eq_false ho1] at gZ
    simp only [Bool.false_eq_true, if_false] at gZ
    refine goB hX 0 (by conv => lhs; cbv; try simp only [n1, k1o]; cbv; try simp only [n1, k1o]; cbv; try simp only [n1, k1o]; cbv; try simp only [n1, k1o]; cbv) ?_
    refine goB hX 1 (by conv => lhs; cbv; try simp only [n1, k1o]; cbv; try simp only [n1, k1o]; cbv; try simp only [n1, k1o]; cbv; try simp only [n1, k1o]; cbv) ?_
    refine goB hX 1 (by conv => lhs; cbv; try simp only [n1, k1o]; cbv; try simp only [n1, k1o]; cbv; try simp only [n1, k1o]; cbv; try simp only [n1, k1o]; cbv) ?_
    refine loopP_next (d ++ [q], r, iAdd .i64 j 1, i3, s3, l2, LU2, LS2, fb2) ⟨by simp [g1], hj2, gl, (by show 0 ≤ i3; omega), (by show i3 + (Pat.cntL r : Int) < 1073741824; omega), (by rw [decide_eq_false ho1]; exact gZ), gU, gS, gf⟩ (by simp) (ent_subN [.to 0, .to 1, .to 2, .to 3, .to 4, .to 5, .to 6, .to 7, .gone] [some 0, some 1, some 2, some 3, some 4, some 5, some 6, some 7] ⟨rfl, rfl, rfl, rfl, rfl, rfl, trivial⟩ (by simp) (by simp) ⟨⟨by simp, rfl⟩, ⟨by simp, rfl⟩, ⟨by simp, rfl⟩, ⟨by simp, rfl⟩, ⟨by simp, rfl⟩, ⟨by simp, rfl⟩, ⟨by simp, rfl⟩, ⟨by simp, rfl⟩, trivial, trivial⟩ ⟨.same 0 _ _ rfl rfl rfl (K6.int _ _ (ofL6 _)), .same 1 _ _ rfl rfl rfl (k1 _ (ofL6 _)), .same 2 _ _ rfl rfl rfl (k2 _ (ofL6 _)), .same 3 _ _ rfl rfl rfl (h3 _ _ (ofL6 _)), .same 4 _ _ rfl rfl rfl (h4 _ _ (ofL6 _)), .same 5 _ _ rfl rfl rfl (h5 _ _ (ofL6 _)), osrc_cells (b := 6) rfl rfl rfl ⟨.refl _, .cl hcl, .refl _, .refl _, .refl _, .refl _, .refl _, .cl hcaI, .refl _, .refl _, .refl _, .refl _, .refl _, .refl _, trivial⟩, osrc_cells (b := 7) rfl rfl rfl ⟨.cl hU2, .cl hS2, .refl _, trivial⟩, trivial⟩ ⟨.refl _, .refl _, .cl hcl, .refl _, .refl _, .refl _, .refl _, .refl _, trivial⟩)
  · have k1o : iEq o 1 = true := by simp only [ee]; simpa using ho1
    rw [decide_eq_true ho1] at gZ
    simp only [if_true] at gZ
    have q1 := P_Bound q hqs
    have q2 := P_union l2.us q.bound (by have := gl.2.2.1; omega) (by have := bound_len hqw; omega)
    have q3 := P_ones q hqs hqw
    have q4 := P_union l2.si q.ones (by have := gl.2.2.2; omega) (by have := ones_len hqw; omega)
    rw [hxq] at q1 q3
    rw [← gU] at q2
    rw [← gS] at q4
    have r1 := closedI_int q.bound
    have r2 := closedI_int q.ones
    have r3 := closedI_int (uniI l2.us q.bound)
    have r4 := closedI_int (uniI l2.si q.ones)
    have gU3 : mapE int (uniI l2.us q.bound) = mapE int (l2.plus q).us := rfl
    have gS3 : mapE int (uniI l2.si q.ones) = mapE int (l2.plus q).si := rfl
    have gf3 : (-1 : Int) = (l2.plus q).fb := rfl
    have gl3 := gl.plus hqw
    generalize mapE int q.bound = B1 at *
    generalize mapE int q.ones = B2 at *
    generalize mapE int (uniI l2.us q.bound) = U3 at *
    generalize mapE int (uniI l2.si q.ones) = S3 at *
    refine goB hX 0 (by conv => lhs; cbv; try simp only [n1, k1o]; cbv; try simp only [n1, k1o]; cbv; try simp only [n1, k1o]; cbv; try simp only [n1, k1o]; cbv) ?_
    refine goB hX 1 (by conv => lhs; cbv; try simp only [n1, k1o]; cbv; try simp only [n1, k1o]; cbv; try simp only [n1, k1o]; cbv; try simp only [n1, k1o]; cbv) ?_
    refine goB hX 1 (by conv => lhs; cbv; try simp only [n1, k1o]; cbv; try simp only [n1, k1o]; cbv; try simp only [n1, k1o]; cbv; try simp only [n1, k1o]; cbv) ?_
    refine tr_drawB rfl (by conv => lhs; cbv) rfl ?_
    refine tgA ?_
    refine oPT q1 ?_
    refine oPT q2 ?_
    refine tgA ?_
    refine oPT q3 ?_
    refine oPT q4 ?_
    refine tgA ?_
    refine tr_nil ⟨rfl, ?_, ?_⟩
    · simp only [LooksL, lookAll, List.append, List.cons_append, List.nil_append, List.append_nil]; and_intros <;> first | trivial | (intro hp; first | rfl | exact absurd (show false = true from hp) Bool.false_ne_true)
    refine goA 60 ?_
    refine loopP_next (d ++ [q], r, iAdd .i64 j 1, i3, s3, l2.plus q, U3, S3, -1) ⟨by simp [g1], hj2, gl3, (by show 0 ≤ i3; omega), (by show i3 + (Pat.cntL r : Int) < 1073741824; omega), (by rw [decide_eq_true ho1]; exact gZ), gU3, gS3, gf3⟩ (by simp) (ent_subN [.to 0, .to 1, .to 2, .to 3, .to 4, .to 5, .to 6, .to 7, .gone] [some 0, some 1, some 2, some 3, some 4, some 5, some 6, some 7] ⟨rfl, rfl, rfl, rfl, rfl, rfl, trivial⟩ (by simp) (by simp) ⟨⟨by simp, rfl⟩, ⟨by simp, rfl⟩, ⟨by simp, rfl⟩, ⟨by simp, rfl⟩, ⟨by simp, rfl⟩, ⟨by simp, rfl⟩, ⟨by simp, rfl⟩, ⟨by simp, rfl⟩, trivial, trivial⟩ ⟨.same 0 _ _ rfl rfl rfl (K6.int _ _ (ofL6 _)), .same 1 _ _ rfl rfl rfl (k1 _ (ofL6 _)), .same 2 _ _ rfl rfl rfl (k2 _ (ofL6 _)), .same 3 _ _ rfl rfl rfl (h3 _ _ (ofL6 _)), .same 4 _ _ rfl rfl rfl (h4 _ _ (ofL6 _)), .same 5 _ _ rfl rfl rfl (h5 _ _ (ofL6 _)), osrc_cells (b := 6) rfl rfl rfl ⟨.refl _, .cl hcl, .refl _, .refl _, .refl _, .refl _, .refl _, .cl hcaI, .refl _, .refl _, .refl _, .refl _, .refl _, .refl _, trivial⟩, osrc_cells (b := 7) rfl rfl rfl ⟨.cl r3, .cl r4, .refl _, trivial⟩, trivial⟩ ⟨.refl _, .refl _, .cl hcl, .refl _, .refl _, .refl _, .refl _, .refl _, trivial⟩)
end Go.Am
end
section
set_option maxHeartbeats 16000000
set_option maxRecDepth 100000
namespace Go.Am
open Go.Proofs
theorem PlcS_enc : PlcS.enc = .agg [.isl 1 [], .isl 1 [], int (-1)] := by
 unfold Plc.enc PlcS
 have : mapE int [] = [] := by rw [mapE_eq]; rfl
 dsimp only
 rw [this]
theorem C_scwalk {S : Type} (vf : FuncId) (o3 o4 o5 : S → AObj) (V : Int → Pat × Plc → S → S × Bool) (hen : Enters EE.P vf)
 (c3 : ∀ s σ, (o3 s).sub σ = o3 s) (c4 : ∀ s σ, (o4 s).sub σ = o4 s) (c5 : ∀ s σ, (o5 s).sub σ = o5 s)
 (hV : ∀ (i : Int) (x : Pat × Plc) (s : S), x.1.Sm → x.1.wf → x.2.ok → 0 ≤ i → ACall EE vf ([int i, x.1.enc, x.2.enc] ++ [.ptr 3 0, .ptr 4 0, .ptr 5 0]) (hpV vf [.ptr 3 0, .ptr 4 0, .ptr 5 0] o3 o4 o5 i s) (fun v H' => v = bool (V i x s).2 ∧ H' = hpV vf [.ptr 3 0, .ptr 4 0, .ptr 5 0] o3 o4 o5 i (V i x s).1))
 (p : Pat) (hs : p.Sm) (hw : p.wf) (hn : p.cnt < 1073741824) (s : S) :
 ACall EE 34 [p.enc, .fn vf [.ptr 0 0, .ptr 1 0, .ptr 2 0]] [o3 s, o4 s, o5 s] (fun _ H' => H' = [o3 (runV V (-1) s (Pat.lf PlcS p)).1, o4 (runV V (-1) s (Pat.lf PlcS p)).1, o5 (runV V (-1) s (Pat.lf PlcS p)).1]) := by
 have hC := C_each vf [.ptr 3 0, .ptr 4 0, .ptr 5 0] o3 o4 o5 V hen (fun s σ _ => c3 s σ) (fun s σ _ => c4 s σ) (fun s σ _ => c5 s σ)
  (fun σ h => by simp only [AV.subL, AV.sub, h 3 (by decide), h 4 (by decide), h 5 (by decide)]) hV p hs hw PlcS PlcS_ok (-1) s (by omega) (by omega)
 rw [PlcS_enc] at hC
 unfold hpV at hC
 obtain ⟨⟨s1, i1, b1⟩, hZ⟩ : ∃ Z : S × Int × Bool, runV V (-1) s (Pat.lf PlcS p) = Z := ⟨_, rfl⟩
 rw [hZ] at hC ⊢
 dsimp only at hC ⊢
 have hpc := Pat.closed p
 have h0c : (AV.agg [.isl 1 [], .isl 1 [], int (-1)]).closed = true := rfl
 obtain ⟨pO, pA, pT, pV, pS, pN, pCo, pCa, pCv, pCf, pCk, pXk, pXn, pXt, hx⟩ := Pat.form p
 rw [hx] at hC hpc ⊢
 clear hx
 refine wordsN ?_; unhygienic intros
 refine rcall_body (fn := Tryd.f34) (n := 11) (ac := Trydc34) (rvs := []) rfl Trydp34 rfl rfl rfl ?_
 show Holds EE 11 3 _ _ _ _ _
 refine goA 0 ?_
 refine on_entO (F' := [(9, .agg [.isl 1 [], .isl 1 [], int (-1)]), (8, .agg [int pO, .isl 14 pA, int pT, int pV, int pS, int pN, int pCo, .isl 8 pCa, int pCv, int pCf, int pCk, int pXk, int pXn, str pXt]), (7, .fn 56 [.ptr 4 0, .ptr 3 0, .ptr 5 0])]) (H' := [o3 s, o4 s, o5 s, .cells [.fn vf [.ptr 0 0, .ptr 1 0, .ptr 2 0]], .cells [int (-1)], .cells [.fn 56 [.ptr 4 0, .ptr 3 0, .ptr 5 0]]]) ?_ ?_
 · exact (ent_subN [.to 0, .to 1, .to 2, .gone, .to 3, .to 4, .to 5] [some 0, some 1, some 2, some 4, some 5, some 6] ⟨rfl, rfl, rfl, trivial⟩ (by simp) (by simp) ⟨⟨by simp, rfl⟩, ⟨by simp, rfl⟩, ⟨by simp, rfl⟩, trivial, ⟨by simp, rfl⟩, ⟨by simp, rfl⟩, ⟨by simp, rfl⟩, trivial⟩ ⟨.same 0 _ _ rfl rfl rfl (c3 _ _), .same 1 _ _ rfl rfl rfl (c4 _ _), .same 2 _ _ rfl rfl rfl (c5 _ _), .same 4 _ _ rfl rfl rfl rfl, .same 5 _ _ rfl rfl rfl rfl, .same 6 _ _ rfl rfl rfl rfl, trivial⟩ ⟨.agg' ⟨.nilI _, .nilI _, .refl _, trivial⟩, .cl hpc, .refl _, trivial⟩)
 refine on_fcallv [4, 3, 5, 0, 1, 2] rfl rfl rfl enters_scope_walk_1 hC (by decide) (by simp) ?_ ?_ ?_
 · show _ = [AObj.sub _ _, AObj.sub _ _, AObj.sub _ _, AObj.sub _ (o3 s), AObj.sub _ (o4 s), AObj.sub _ (o5 s)]
   rw [c3, c4, c5]; rfl
 · show _ = [AV.sub (subOut [4, 3, 5, 0, 1, 2]) (.agg [int pO, .isl 14 pA, int pT, int pV, int pS, int pN, int pCo, .isl 8 pCa, int pCv, int pCf, int pCk, int pXk, int pXn, str pXt]), AV.sub (subOut [4, 3, 5, 0, 1, 2]) (.agg [.isl 1 [], .isl 1 [], int (-1)]), AV.sub (subOut [4, 3, 5, 0, 1, 2]) (.ptr 4 0), AV.sub (subOut [4, 3, 5, 0, 1, 2]) (.ptr 3 0), AV.sub (subOut [4, 3, 5, 0, 1, 2]) (.ptr 5 0)]
   rw [sub_closed _ _ _ (Nat.le_refl _) hpc, sub_closed _ _ _ (Nat.le_refl _) h0c]; rfl
 rintro v0 H' ⟨rfl, rfl⟩ -
 have hm : ∀ (a0 a1 a2 a3 a4 a5 : AObj), mergeH [a0, a1, a2, a3, a4, a5] [4, 3, 5, 0, 1, 2] [.cells [int i1], .cells [.fn vf [.ptr 3 0, .ptr 4 0, .ptr 5 0]], .cells [.fn 56 [.ptr 0 0, .ptr 1 0, .ptr 2 0]], o3 s1, o4 s1, o5 s1] = [o3 s1, o4 s1, o5 s1, .cells [.fn vf [.ptr 0 0, .ptr 1 0, .ptr 2 0]], .cells [int i1], .cells [.fn 56 [.ptr 4 0, .ptr 3 0, .ptr 5 0]]] := fun _ _ _ _ _ _ => by
  show [AObj.sub _ (o3 s1), AObj.sub _ (o4 s1), AObj.sub _ (o5 s1), _, _, _] = _
  rw [c3, c4, c5]; rfl
 rw [hm]
 refine goA 60 ?_
 refine o_norm (F2 := []) (H2 := [o3 s1, o4 s1, o5 s1]) ?_ rfl rfl
 exact (ent_subN [.to 0, .to 1, .to 2, .gone, .gone, .gone] [some 0, some 1, some 2] ⟨rfl, rfl, rfl, trivial⟩ (by simp) (by simp) ⟨⟨by simp, rfl⟩, ⟨by simp, rfl⟩, ⟨by simp, rfl⟩, trivial, trivial, trivial, trivial⟩ ⟨.same 0 _ _ rfl rfl rfl (c3 _ _), .same 1 _ _ rfl rfl rfl (c4 _ _), .same 2 _ _ rfl rfl rfl (c5 _ _), trivial⟩ trivial)
def atV (want : Int) (i : Int) (x : Pat × Plc) (s : Int × Plc) : (Int × Plc) × Bool :=
 if i ≠ want then (s, true) else if testsF x.1.op = true then ((0, x.1.own x.2), false) else ((1, s.2), false)
noncomputable def plcO (l : Plc) : AObj := .cells [.isl 1 (mapE int l.us), .isl 1 (mapE int l.si), int l.fb]
theorem enters_scope_at_1 : Enters EE.P 65 := enters_of (fn := Tryd.f65) (n := 21) (ac := Trydc65) rfl (by decide) Trydp65
theorem C_at1 (want : Int) (i : Int) (x : Pat × Plc) (s : Int × Plc) (hs : x.1.Sm) (hw : x.1.wf) (hl : x.2.ok) :
 ACall EE 65 ([int i, x.1.enc, x.2.enc] ++ [.ptr 3 0, .ptr 4 0, .ptr 5 0]) (hpV 65 [.ptr 3 0, .ptr 4 0, .ptr 5 0] (fun _ => .cells [int want]) (fun s => .cells [int s.1]) (fun s => plcO s.2) i s)
  (fun v H' => v = bool (atV want i x s).2 ∧ H' = hpV 65 [.ptr 3 0, .ptr 4 0, .ptr 5 0] (fun _ => .cells [int want]) (fun s => .cells [int s.1]) (fun s => plcO s.2) i (atV want i x s).1) := by
 obtain ⟨p, l⟩ := x
 obtain ⟨e0, l0⟩ := s
 dsimp only at hs hw hl ⊢
 have qo := fun ht => P_own p hs hw ht l hl
 obtain ⟨ho0, ho1, _, _, _⟩ := hw.self
 have hrow := sc_row ho0 ho1
 obtain ⟨Z, hZ⟩ : ∃ Z, Z = atV want i (p, l) (e0, l0) := ⟨_, rfl⟩
 rw [← hZ]
 unfold atV at hZ
 dsimp only at hZ
 unfold hpV plcO
 simp only [Plc.enc] at qo ⊢
 have hLU := closedI_int l.us
 have hLS := closedI_int l.si
 have hU0 := closedI_int l0.us
 have hS0 := closedI_int l0.si
 have hcl := Pat.closed p
 obtain ⟨LU, eLU⟩ : ∃ z, z = mapE int l.us := ⟨_, rfl⟩
 obtain ⟨LS, eLS⟩ : ∃ z, z = mapE int l.si := ⟨_, rfl⟩
 obtain ⟨fb, efb⟩ : ∃ z, z = l.fb := ⟨_, rfl⟩
 obtain ⟨U0, eU0⟩ : ∃ z, z = mapE int l0.us := ⟨_, rfl⟩
 obtain ⟨S0, eS0⟩ : ∃ z, z = mapE int l0.si := ⟨_, rfl⟩
 obtain ⟨fb0, efb0⟩ : ∃ z, z = l0.fb := ⟨_, rfl⟩
 rw [← eLU, ← eLS, ← efb] at qo ⊢
 rw [← eLU] at hLU
 rw [← eLS] at hLS
 rw [← eU0] at hU0
 rw [← eS0] at hS0
 rw [← eU0, ← eS0, ← efb0]
 have r1 := closedI_int (p.own l).us
 have r2 := closedI_int (p.own l).si
 have hlc : (AV.agg [.isl 1 LU, .isl 1 LS, int fb]).closed = true := by simp [AV.closed, AV.closedL] at hLU hLS ⊢; exact ⟨hLU, hLS⟩
 obtain ⟨pO, pA, pT, pV, pS, pN, pCo, pCa, pCv, pCf, pCk, pXk, pXn, pXt, hx, hxc, hpO, hpA, hpT, hpV, hpS, hpN⟩ := Pat.form2 p
 rw [hx] at qo hcl ⊢
 rw [← hpO] at hrow hZ qo ho0 ho1
 have hpAI : (AV.isl 14 pA).closed = true := by have := hcl; simp [AV.closed, AV.closedL] at this ⊢; exact this.1
 have hpCI : (AV.isl 8 pCa).closed = true := by have := hcl; simp [AV.closed, AV.closedL] at this ⊢; exact this.2
 obtain ⟨A1, eA1⟩ : ∃ z, z = mapE int (p.own l).us := ⟨_, rfl⟩
 obtain ⟨A2, eA2⟩ : ∃ z, z = mapE int (p.own l).si := ⟨_, rfl⟩
 obtain ⟨f2, ef2⟩ : ∃ z, z = (p.own l).fb := ⟨_, rfl⟩
 rw [← eA1, ← eA2, ← ef2] at qo
 rw [← eA1] at r1
 rw [← eA2] at r2
 have hcs : (AV.agg [.isl 1 A1, .isl 1 A2, int f2]).closed = true := by simp [AV.closed, AV.closedL] at r1 r2 ⊢; exact ⟨r1, r2⟩
 clear hx hs hw
 refine wordsN ?_; unhygienic intros
 have hrw : rowA (Classical.choice scBox_ne).g pO 2 = [bool (keepsF pO), bool (testsF pO)] := by rw [e_rowA]; exact hrow
 generalize keepsF pO = kp at *
 obtain ⟨ts, ets⟩ : ∃ z, z = testsF pO := ⟨_, rfl⟩
 rw [← ets] at hrw hZ qo
 refine rcall_body (fn := Tryd.f65) (n := 21) (ac := Trydc65) (rvs := [.t 9]) rfl Trydp65 rfl rfl rfl ?_
 show Holds EE 21 6 _ _ _ _ _
 by_cases hiw : i = want
 rotate_left
 · have kw : iNe i want = true := by simp only [ee]; simpa using hiw
   rw [if_pos hiw] at hZ
   rw [hZ]
   refine goB hX 0 (by conv => lhs; cbv; try simp only [kw]; cbv; try simp only [kw]; cbv; try simp only [kw]; cbv; try simp only [kw]; cbv) ?_
   refine goA 60 ?_
   refine o_ret (F2 := [(9, bool true)]) (H2 := [.cells [int i], .cells [.fn 65 [.ptr 3 0, .ptr 4 0, .ptr 5 0]], .cells [.fn 56 [.ptr 0 0, .ptr 1 0, .ptr 2 0]], .cells [int want], .cells [int e0], .cells [.isl 1 U0, .isl 1 S0, int fb0]]) ?_ rfl ⟨rfl, by dsimp only; rw [eU0, eS0, efb0]⟩
   exact (ent_subN [.to 0, .to 1, .to 2, .to 3, .to 4, .to 5, .gone, .gone] [some 0, some 1, some 2, some 3, some 4, some 5] ⟨rfl, rfl, rfl, rfl, rfl, rfl, trivial⟩ (by simp) (by simp) ⟨⟨by simp, rfl⟩, ⟨by simp, rfl⟩, ⟨by simp, rfl⟩, ⟨by simp, rfl⟩, ⟨by simp, rfl⟩, ⟨by simp, rfl⟩, trivial, trivial, trivial⟩ ⟨.same 0 _ _ rfl rfl rfl rfl, .same 1 _ _ rfl rfl rfl rfl, .same 2 _ _ rfl rfl rfl rfl, .same 3 _ _ rfl rfl rfl rfl, .same 4 _ _ rfl rfl rfl rfl, osrc_cells (b := 5) rfl rfl rfl ⟨.cl hU0, .cl hS0, .refl _, trivial⟩, trivial⟩ ⟨.refl _, trivial⟩)
 have kw : iNe i want = false := by simp only [ee]; simpa using hiw
 rw [if_neg (by simpa using hiw)] at hZ
 cases ts with
 | false =>
  rw [if_neg (by decide)] at hZ
  rw [hZ]
  refine goB hX 0 (by conv => lhs; cbv; try simp only [kw, hrw]; cbv; try simp only [kw, hrw]; cbv; try simp only [kw, hrw]; cbv; try simp only [kw, hrw]; cbv) ?_
  refine goB hX 1 (by conv => lhs; cbv; try simp only [kw, hrw]; cbv; try simp only [kw, hrw]; cbv; try simp only [kw, hrw]; cbv; try simp only [kw, hrw]; cbv) ?_
  refine goA 60 ?_
  refine o_ret (F2 := [(9, bool false)]) (H2 := [.cells [int i], .cells [.fn 65 [.ptr 3 0, .ptr 4 0, .ptr 5 0]], .cells [.fn 56 [.ptr 0 0, .ptr 1 0, .ptr 2 0]], .cells [int want], .cells [int 1], .cells [.isl 1 U0, .isl 1 S0, int fb0]]) ?_ rfl ⟨rfl, by dsimp only; rw [eU0, eS0, efb0]⟩
  exact (ent_subN [.to 0, .to 1, .to 2, .to 3, .to 4, .to 5, .gone, .gone] [some 0, some 1, some 2, some 3, some 4, some 5] ⟨rfl, rfl, rfl, rfl, rfl, rfl, trivial⟩ (by simp) (by simp) ⟨⟨by simp, rfl⟩, ⟨by simp, rfl⟩, ⟨by simp, rfl⟩, ⟨by simp, rfl⟩, ⟨by simp, rfl⟩, ⟨by simp, rfl⟩, trivial, trivial, trivial⟩ ⟨.same 0 _ _ rfl rfl rfl rfl, .same 1 _ _ rfl rfl rfl rfl, .same 2 _ _ rfl rfl rfl rfl, .same 3 _ _ rfl rfl rfl rfl, .same 4 _ _ rfl rfl rfl rfl, osrc_cells (b := 5) rfl rfl rfl ⟨.cl hU0, .cl hS0, .refl _, trivial⟩, trivial⟩ ⟨.refl _, trivial⟩)
 | true =>
  rw [if_pos rfl] at hZ
  rw [hZ]
  have q1 := qo rfl
  refine goB hX 0 (by conv => lhs; cbv; try simp only [kw, hrw]; cbv; try simp only [kw, hrw]; cbv; try simp only [kw, hrw]; cbv; try simp only [kw, hrw]; cbv) ?_
  refine goB hX 1 (by conv => lhs; cbv; try simp only [kw, hrw]; cbv; try simp only [kw, hrw]; cbv; try simp only [kw, hrw]; cbv; try simp only [kw, hrw]; cbv) ?_
  refine goA 60 ?_
  refine oPA q1 ?_
  refine goA 60 ?_
  refine o_ret (F2 := [(9, bool false)]) (H2 := [.cells [int i], .cells [.fn 65 [.ptr 3 0, .ptr 4 0, .ptr 5 0]], .cells [.fn 56 [.ptr 0 0, .ptr 1 0, .ptr 2 0]], .cells [int want], .cells [int 0], .cells [.isl 1 A1, .isl 1 A2, int f2]]) ?_ rfl ⟨rfl, by dsimp only; rw [eA1, eA2, ef2]⟩
  exact (ent_subN [.to 0, .to 1, .to 2, .to 3, .to 4, .to 5, .gone, .gone] [some 0, some 1, some 2, some 3, some 4, some 5] ⟨rfl, rfl, rfl, rfl, rfl, rfl, trivial⟩ (by simp) (by simp) ⟨⟨by simp, rfl⟩, ⟨by simp, rfl⟩, ⟨by simp, rfl⟩, ⟨by simp, rfl⟩, ⟨by simp, rfl⟩, ⟨by simp, rfl⟩, trivial, trivial, trivial⟩ ⟨.same 0 _ _ rfl rfl rfl rfl, .same 1 _ _ rfl rfl rfl rfl, .same 2 _ _ rfl rfl rfl rfl, .same 3 _ _ rfl rfl rfl rfl, .same 4 _ _ rfl rfl rfl rfl, osrc_cells (b := 5) rfl rfl rfl ⟨.cl r1, .cl r2, .refl _, trivial⟩, trivial⟩ ⟨.refl _, trivial⟩)
def atR (x : Pat × Plc) (s : Int × Plc) : Int × Plc := if testsF x.1.op = true then (0, x.1.own x.2) else (1, s.2)
theorem run_at (want : Int) : ∀ (L : List (Pat × Plc)) (j : Int) (s : Int × Plc), (runV (atV want) j s L).1 = if j < want ∧ want ≤ j + L.length then atR (L.getD (want - j - 1).toNat (Pat0, Plc0)) s else s
 | [], j, s => by
  rw [runV, if_neg (by simp only [List.length_nil]; omega)]
 | x :: r, j, s => by
  rw [runV]
  by_cases h : j + 1 = want
  · have hv : atV want (j + 1) x s = (atR x s, false) := by
     unfold atV atR
     rw [if_neg (by simpa using h)]
     split <;> rfl
    rw [hv, if_neg (show ¬ (false = true) by decide), if_pos ⟨by omega, by simp only [List.length_cons]; omega⟩, show (want - j - 1).toNat = 0 by omega]
    rfl
  · have hv : atV want (j + 1) x s = (s, true) := by
     unfold atV
     rw [if_pos h]
    rw [hv, if_pos rfl, run_at want r (j + 1) s]
    by_cases h2 : j + 1 < want ∧ want ≤ j + 1 + r.length
    · rw [if_pos h2, if_pos ⟨by omega, by simp only [List.length_cons]; omega⟩, show (want - j - 1).toNat = (want - (j + 1) - 1).toNat + 1 by omega, List.getD_cons_succ]
    · rw [if_neg h2, if_neg (by simp only [List.length_cons]; omega)]
theorem lf_at (p : Pat) (l : Plc) (k : Nat) : ((Pat.lf l p).getD k (Pat0, Plc0)).1 = p.nodes.getD k Pat0 := by
 rw [← Pat.lf_map p l, List.getD_eq_getElem?_getD, List.getD_eq_getElem?_getD, List.getElem?_map]
 cases (Pat.lf l p)[k]? <;> rfl
theorem at_plain (p : Pat) (i : Int) (h : p.chk = 0) : (runV (atV i) (-1) (6, Plc0) (Pat.lf PlcS p)).1 = (p.atE i, p.atP i) := by
 rw [run_at, Pat.lf_len, show (i - -1 - 1).toNat = i.toNat by omega]
 have hx := lf_at p PlcS i.toNat
 have hn := p.nodes_len
 unfold Pat.atP
 generalize (Pat.lf PlcS p).getD i.toNat (Pat0, Plc0) = x at *
 by_cases hc : 0 ≤ i ∧ i < p.nodes.length
 · have hE : p.atE i = if testsF (p.nodeAt i).op = true then 0 else 1 := by unfold Pat.atE; rw [if_neg (by simpa using h), if_pos hc]
   have hx2 : x.1 = p.nodeAt i := by rw [hx]; unfold Pat.nodeAt; rw [if_pos hc]
   rw [if_pos ⟨by omega, by omega⟩]
   unfold atR
   rw [hx2]
   by_cases ht : testsF (p.nodeAt i).op = true
   · rw [if_pos ht] at hE ⊢
     rw [hE, if_pos rfl]
   · rw [if_neg ht] at hE ⊢
     rw [hE, if_neg (by decide)]
 · have hE : p.atE i = 6 := by unfold Pat.atE; rw [if_neg (by simpa using h), if_neg hc]
   rw [if_neg (by omega), hE, if_neg (by decide)]
theorem plcO_sub (l : Plc) (σ : Nat → Sub) : (plcO l).sub σ = plcO l :=
 congrArg AObj.cells (subL_closed _ (by have h1 := closedI_int l.us; have h2 := closedI_int l.si; simp [AV.closed, AV.closedL] at h1 h2 ⊢; exact ⟨h1, h2⟩))
theorem plcO_0 : plcO Plc0 = .cells [.isl 1 [], .isl 1 [], int 0] := by
 unfold plcO Plc0
 have : mapE int [] = [] := by rw [mapE_eq]; rfl
 dsimp only
 rw [this]
theorem enters_scope_walk : Enters EE.P 34 := enters_of (fn := Tryd.f34) (n := 11) (ac := Trydc34) rfl (by decide) Trydp34
theorem P_at (p : Pat) (i : Int) (hs : p.Sm) : PCall EE 46 [p.enc, int i] (.tup [(p.atP i).enc, int (p.atE i)]) := by
 have q1 := P_pattern_Check p hs
 have hcl := Pat.closed p
 by_cases hk : p.chk = 0
 · have hw := chk_wf hk
   have hcnt := (chkR_zero.1 (wholeE_ok (chk_zero hk).1).1).1
   have qw := C_scwalk 65 (fun _ => .cells [int i]) (fun s => .cells [int s.1]) (fun s : Int × Plc => plcO s.2) (atV i) enters_scope_at_1 (fun _ _ => rfl) (fun _ _ => rfl) (fun s σ => plcO_sub s.2 σ) (fun j x s h1 h2 h3 _ => C_at1 i j x s h1 h2 h3) p hs hw (by omega) (6, Plc0)
   rw [at_plain p i hk] at qw
   dsimp only at qw
   rw [plcO_0] at qw
   have r1 := closedI_int (p.atP i).us
   have r2 := closedI_int (p.atP i).si
   unfold plcO at qw
   simp only [Plc.enc]
   rw [hk] at q1
   generalize mapE int (p.atP i).us = A1 at *
   generalize mapE int (p.atP i).si = A2 at *
   generalize (p.atP i).fb = f2 at *
   generalize p.atE i = er at *
   have hcc : AV.closedL [.isl 1 A1, .isl 1 A2, int f2] = true := by simp [AV.closed, AV.closedL] at r1 r2 ⊢; exact ⟨r1, r2⟩
   obtain ⟨pO, pA, pT, pV, pS, pN, pCo, pCa, pCv, pCf, pCk, pXk, pXn, pXt, hx, hxc, hpO, hpA, hpT, hpV, hpS, hpN⟩ := Pat.form2 p
   rw [hx] at qw q1 hcl ⊢
   have hpAI : (AV.isl 14 pA).closed = true := by have := hcl; simp [AV.closed, AV.closedL] at this ⊢; exact this.1
   have hpCI : (AV.isl 8 pCa).closed = true := by have := hcl; simp [AV.closed, AV.closedL] at this ⊢; exact this.2
   clear hx hs hw
   refine wordsN ?_; unhygienic intros
   have kc : iNe 0 0 = false := by simp only [ee]; rfl
   refine fn_body (fn := Tryd.f46) (n := 21) (ac := Trydc46) (rvs := [.cell 4 3 true, .t 5]) rfl (by decide) Trydp46 rfl rfl rfl ?_
   refine goA 60 ?_
   refine oPA q1 ?_
   refine goB hX 0 (by conv => lhs; cbv; try simp only [kc]; cbv; try simp only [kc]; cbv; try simp only [kc]; cbv; try simp only [kc]; cbv) ?_
   refine goA 60 ?_
   refine on_entO (F' := [(17, .fn 65 [.ptr 1 0, .ptr 4 0, .ptr 3 0]), (16, .agg [int pO, .isl 14 pA, int pT, int pV, int pS, int pN, int pCo, .isl 8 pCa, int pCv, int pCf, int pCk, int pXk, int pXn, str pXt]), (4, .ptr 2 0), (7, .ptr 3 0), (8, .ptr 4 0)]) (H' := [.cells [int pO, .isl 14 pA, int pT, int pV, int pS, int pN, int pCo, .isl 8 pCa, int pCv, int pCf, int pCk, int pXk, int pXn, str pXt], .cells [int i], .cells [.val (.slice none 0 0), .val (.slice none 0 0), int 0], .cells [.isl 1 [], .isl 1 [], int 0], .cells [int 6]]) ?_ ?_
   · exact (ent_sub [.to 0, .to 1, .to 2, .to 3, .to 4] [some 0, some 1, some 2, some 3, some 4] ⟨⟨by simp, rfl⟩, ⟨by simp, rfl⟩, ⟨by simp, rfl⟩, ⟨by simp, rfl⟩, ⟨by simp, rfl⟩, trivial⟩ ⟨osrc_cells (b := 0) rfl rfl rfl ⟨.refl _, .cl hpAI, .refl _, .refl _, .refl _, .refl _, .refl _, .cl hpCI, .refl _, .refl _, .refl _, .refl _, .refl _, .refl _, trivial⟩, osrc_cells (b := 1) rfl rfl rfl ⟨.refl _, trivial⟩, osrc_cells (b := 2) rfl rfl rfl ⟨.refl _, .refl _, .refl _, trivial⟩, osrc_cells (b := 3) rfl rfl rfl ⟨.nilI _, .nilI _, .refl _, trivial⟩, osrc_cells (b := 4) rfl rfl rfl ⟨.refl _, trivial⟩, trivial⟩ ⟨.refl _, .cl hcl, .refl _, .refl _, .refl _, trivial⟩)
   refine on_fcall [1, 4, 3] rfl rfl enters_scope_walk qw (by decide) (by simp) rfl ?_ ?_
   · show _ = [AV.sub (subOut [1, 4, 3]) (.agg [int pO, .isl 14 pA, int pT, int pV, int pS, int pN, int pCo, .isl 8 pCa, int pCv, int pCf, int pCk, int pXk, int pXn, str pXt]), AV.sub (subOut [1, 4, 3]) (.fn 65 [.ptr 1 0, .ptr 4 0, .ptr 3 0])]
     rw [sub_closed _ _ _ (Nat.le_refl _) hcl]; rfl
   rintro v0 H' rfl -
   have hm : ∀ (a0 a1 a2 a3 a4 : AObj), mergeH [a0, a1, a2, a3, a4] [1, 4, 3] [.cells [int i], .cells [int er], .cells [.isl 1 A1, .isl 1 A2, int f2]] = [a0, .cells [int i], a2, .cells [.isl 1 A1, .isl 1 A2, int f2], .cells [int er]] := fun _ _ _ _ _ => by
    show [_, _, _, AObj.sub (subIn [1, 4, 3] 5) (.cells [.isl 1 A1, .isl 1 A2, int f2]), _] = _
    rw [show AObj.sub (subIn [1, 4, 3] 5) (.cells [.isl 1 A1, .isl 1 A2, int f2]) = .cells [.isl 1 A1, .isl 1 A2, int f2] from congrArg AObj.cells (subL_closed _ hcc)]
    rfl
   rw [hm]
   refine goA 60 ?_
   refine tr_drawB rfl (by conv => lhs; cbv) rfl ?_
   refine tgA ?_
   refine tr_nil ⟨rfl, by simp [LooksL, lookAll], ?_⟩
   refine goA 60 ?_
   refine fn_ret rfl rfl ?_
   exact ⟨[.gone, .gone, .gone, .gone, .gone], ⟨trivial, trivial, trivial, trivial, trivial, trivial⟩, .tup' ⟨.agg' ⟨.cl r1, .cl r2, .refl _, trivial⟩, .refl _, trivial⟩⟩
 · have hE : p.atE i = p.chk := by unfold Pat.atE; rw [if_pos hk]
   have hP : p.atP i = Plc0 := by unfold Pat.atP; rw [if_neg (by rw [hE]; exact hk)]
   rw [hE, hP]
   have he : Plc0.enc = .agg [.isl 1 [], .isl 1 [], int 0] := by
    unfold Plc.enc Plc0
    have : mapE int [] = [] := by rw [mapE_eq]; rfl
    dsimp only
    rw [this]
   rw [he]
   generalize p.chk = er at *
   obtain ⟨pO, pA, pT, pV, pS, pN, pCo, pCa, pCv, pCf, pCk, pXk, pXn, pXt, hx, hxc, hpO, hpA, hpT, hpV, hpS, hpN⟩ := Pat.form2 p
   rw [hx] at q1 hcl ⊢
   clear hx hs hE hP
   refine wordsN ?_; unhygienic intros
   have kc : iNe er 0 = true := by simp only [ee]; simpa using hk
   refine fn_body (fn := Tryd.f46) (n := 21) (ac := Trydc46) (rvs := [.cell 4 3 true, .t 5]) rfl (by decide) Trydp46 rfl rfl rfl ?_
   refine goA 60 ?_
   refine oPA q1 ?_
   refine goB hX 0 (by conv => lhs; cbv; try simp only [kc]; cbv; try simp only [kc]; cbv; try simp only [kc]; cbv; try simp only [kc]; cbv) ?_
   refine goA 60 ?_
   refine fn_ret rfl rfl ?_
   exact ⟨[.gone, .gone, .gone], ⟨trivial, trivial, trivial, trivial⟩, .tup' ⟨.agg' ⟨.nilI _, .nilI _, .refl _, trivial⟩, .refl _, trivial⟩⟩
open Classical in
theorem folE_red (s : Plc) (e : Ex) : folE s e = if 1 ≤ e.op ∧ e.op ≤ 4 then (if decide (e.var ∈ s.us) = false then 10 else if (e.op = 1 ∨ e.op = 2) ∧ decide (e.var ∈ s.si) = false then 11 else if ¬ (e.op = 1 ∨ e.op = 2) ∧ e.var = s.fb then 11 else 0) else 0 := by
 unfold folE
 by_cases h : 1 ≤ e.op ∧ e.op ≤ 4
 · rw [if_pos h, if_pos h]
   by_cases h1 : e.var ∈ s.us
   · rw [if_neg (show ¬ (e.var ∉ s.us) from fun hh => hh h1), if_neg (show ¬ (decide (e.var ∈ s.us) = false) by simpa using h1)]
     by_cases h2 : e.op = 1 ∨ e.op = 2
     · have h2' : ¬ (e.op = 3 ∨ e.op = 4) := by omega
       by_cases h3 : e.var ∈ s.si
       · rw [if_neg (show ¬ (((e.op = 1 ∨ e.op = 2) ∧ e.var ∉ s.si) ∨ ((e.op = 3 ∨ e.op = 4) ∧ e.var = s.fb)) from fun hh => hh.elim (fun hh => hh.2 h3) (fun hh => h2' hh.1)), if_neg (show ¬ ((e.op = 1 ∨ e.op = 2) ∧ decide (e.var ∈ s.si) = false) from fun hh => by simp [h3] at hh), if_neg (show ¬ (¬ (e.op = 1 ∨ e.op = 2) ∧ e.var = s.fb) from fun hh => hh.1 h2)]
       · rw [if_pos (show ((e.op = 1 ∨ e.op = 2) ∧ e.var ∉ s.si) ∨ ((e.op = 3 ∨ e.op = 4) ∧ e.var = s.fb) from .inl ⟨h2, h3⟩), if_pos (show (e.op = 1 ∨ e.op = 2) ∧ decide (e.var ∈ s.si) = false from ⟨h2, by simpa using h3⟩)]
     · have h2' : e.op = 3 ∨ e.op = 4 := by omega
       rw [if_neg (show ¬ ((e.op = 1 ∨ e.op = 2) ∧ decide (e.var ∈ s.si) = false) from fun hh => h2 hh.1)]
       by_cases h4 : e.var = s.fb
       · rw [if_pos (show ((e.op = 1 ∨ e.op = 2) ∧ e.var ∉ s.si) ∨ ((e.op = 3 ∨ e.op = 4) ∧ e.var = s.fb) from .inr ⟨h2', h4⟩), if_pos (show ¬ (e.op = 1 ∨ e.op = 2) ∧ e.var = s.fb from ⟨h2, h4⟩)]
       · rw [if_neg (show ¬ (((e.op = 1 ∨ e.op = 2) ∧ e.var ∉ s.si) ∨ ((e.op = 3 ∨ e.op = 4) ∧ e.var = s.fb)) from fun hh => hh.elim (fun hh => h2 hh.1) (fun hh => h4 hh.2)), if_neg (show ¬ (¬ (e.op = 1 ∨ e.op = 2) ∧ e.var = s.fb) from fun hh => h4 hh.2)]
   · rw [if_pos h1, if_pos (show decide (e.var ∈ s.us) = false by simpa using h1)]
 · rw [if_neg h, if_neg h]
def folV (o v fb : Int) (bu bs : Bool) : Int :=
 if 1 ≤ o ∧ o ≤ 4 then (if bu = false then 10 else if (o = 1 ∨ o = 2) ∧ bs = false then 11 else if ¬ (o = 1 ∨ o = 2) ∧ v = fb then 11 else 0) else 0
theorem folV_a {o v fb : Int} {bs : Bool} (h : 1 ≤ o ∧ o ≤ 4) : folV o v fb false bs = 10 := by unfold folV; rw [if_pos h, if_pos rfl]
theorem folV_b {o v fb : Int} (h : 1 ≤ o ∧ o ≤ 4) (h2 : o = 1 ∨ o = 2) : folV o v fb true false = 11 := by
 unfold folV
 rw [if_pos h, if_neg (show ¬ (true = false) by decide), if_pos (show (o = 1 ∨ o = 2) ∧ false = false from ⟨h2, rfl⟩)]
theorem folV_c {o v fb : Int} {bs : Bool} (h : 1 ≤ o ∧ o ≤ 4) (h2 : ¬ (o = 1 ∨ o = 2)) (h3 : v = fb) : folV o v fb true bs = 11 := by
 unfold folV
 rw [if_pos h, if_neg (show ¬ (true = false) by decide), if_neg (show ¬ ((o = 1 ∨ o = 2) ∧ bs = false) from fun h => h2 h.1), if_pos ⟨h2, h3⟩]
theorem folV_d {o v fb : Int} {bu bs : Bool} (h1 : ¬ ((1 ≤ o ∧ o ≤ 4) ∧ bu = false)) (h2 : ¬ ((1 ≤ o ∧ o ≤ 4) ∧ (o = 1 ∨ o = 2) ∧ bs = false)) (h3 : ¬ ((1 ≤ o ∧ o ≤ 4) ∧ ¬ (o = 1 ∨ o = 2) ∧ v = fb)) : folV o v fb bu bs = 0 := by
 unfold folV
 by_cases h : 1 ≤ o ∧ o ≤ 4
 · rw [if_pos h, if_neg (fun g => h1 ⟨h, g⟩), if_neg (fun g => h2 ⟨h, g⟩), if_neg (fun g => h3 ⟨h, g⟩)]
 · rw [if_neg h]
theorem P_follows (s : Plc) (hu : s.us.length < 1048577) (hsi : s.si.length < 1048577) : ∀ e : Ex, e.Sm → PCall EE 36 [e.enc, s.enc] (int (e.fol s)) := by
 refine Ex.ind ?_
 intro o a v f k x ih hs
 have hlen := hs.len
 have hih : ∀ q ∈ a, PCall EE 36 [q.enc, s.enc] (int (q.fol s)) := fun q hq => ih q hq (hs.arg hq)
 have hcl := Ex.closedI a
 have hpc := Ex.closed (.mk o a v f k x)
 have q1 := P_Contains s.us v hu
 have q2 := P_Contains s.si v hsi
 have hsc := s.closed
 obtain ⟨R, hR⟩ : ∃ R, R = Ex.fol s (.mk o a v f k x) := ⟨_, rfl⟩
 rw [← hR]
 unfold Ex.fol at hR hih
 have hfo : folE s (.mk o a v f k x) = folV o v s.fb (decide (v ∈ s.us)) (decide (v ∈ s.si)) := by rw [folE_red]; rfl
 rw [Ex.nodes, firstE, hfo] at hR
 clear hfo
 simp only [Plc.enc] at hih hsc ⊢
 have hLU := closedI_int s.us
 have hLS := closedI_int s.si
 obtain ⟨xk, xn, xt⟩ := x
 rw [Ex.enc_mk] at hpc ⊢
 dsimp only at hpc ⊢
 generalize mapE int s.us = LU at *
 generalize mapE int s.si = LS at *
 generalize decide (v ∈ s.us) = bu at *
 generalize decide (v ∈ s.si) = bs at *
 generalize s.fb = fb at *
 clear ih hs hu hsi
 refine wordsN ?_; unhygienic intros
 generalize hes : mapE Ex.enc a = es at *
 have hel : es.length = a.length := by rw [← hes, mapE_len]
 have n0 : bNot false = true := by simp only [ee]; rfl
 have n1 : bNot true = false := by simp only [ee]; rfl
 have oT : ∀ b, bOr true b = true := fun b => by simp only [ee]; rfl
 have oF : ∀ b, bOr false b = b := fun b => by simp only [ee]; rfl
 have aT : ∀ b, bAnd true b = b := fun b => by simp only [ee]; rfl
 have aF : ∀ b, bAnd false b = false := fun b => by simp only [ee]; rfl
 refine fn_body (fn := Tryd.f36) (n := 65) (ac := Trydc36) (rvs := [.t 4]) rfl (by decide) Trydp36 rfl rfl rfl ?_
 by_cases e1 : (1 ≤ o ∧ o ≤ 4) ∧ bu = false
 · obtain ⟨h14, rfl⟩ := e1
   have kin : bAnd (iLe 1 o) (iLe o 4) = true := by simp only [ee]; simpa using h14
   rw [folV_a h14, if_pos (by decide)] at hR
   by_cases h12 : o = 1 ∨ o = 2
   · have k3 : bOr (iEq o 1) (iEq o 2) = true := by simp only [ee]; simpa using h12
     refine goB hX 0 (by conv => lhs; cbv; try simp only [kin, k3, n0, n1, oT, oF, aT, aF]; cbv; try simp only [kin, k3, n0, n1, oT, oF, aT, aF]; cbv; try simp only [kin, k3, n0, n1, oT, oF, aT, aF]; cbv; try simp only [kin, k3, n0, n1, oT, oF, aT, aF]; cbv) ?_
     refine goA 60 ?_
     refine oPA q1 ?_
     refine goB hX 0 (by conv => lhs; cbv; try simp only [kin, k3, n0, n1, oT, oF, aT, aF]; cbv; try simp only [kin, k3, n0, n1, oT, oF, aT, aF]; cbv; try simp only [kin, k3, n0, n1, oT, oF, aT, aF]; cbv; try simp only [kin, k3, n0, n1, oT, oF, aT, aF]; cbv) ?_
     refine goA 60 ?_
     refine fn_ret rfl rfl (.val ?_)
     exact congrArg (Value.int .i64) hR.symm
   · have k3 : bOr (iEq o 1) (iEq o 2) = false := by simp only [ee]; simpa using h12
     refine goB hX 0 (by conv => lhs; cbv; try simp only [kin, k3, n0, n1, oT, oF, aT, aF]; cbv; try simp only [kin, k3, n0, n1, oT, oF, aT, aF]; cbv; try simp only [kin, k3, n0, n1, oT, oF, aT, aF]; cbv; try simp only [kin, k3, n0, n1, oT, oF, aT, aF]; cbv) ?_
     refine goA 60 ?_
     refine oPA q1 ?_
     refine goB hX 0 (by conv => lhs; cbv; try simp only [kin, k3, n0, n1, oT, oF, aT, aF]; cbv; try simp only [kin, k3, n0, n1, oT, oF, aT, aF]; cbv; try simp only [kin, k3, n0, n1, oT, oF, aT, aF]; cbv; try simp only [kin, k3, n0, n1, oT, oF, aT, aF]; cbv) ?_
     refine goA 60 ?_
     refine fn_ret rfl rfl (.val ?_)
     exact congrArg (Value.int .i64) hR.symm
 by_cases e2 : (1 ≤ o ∧ o ≤ 4) ∧ (o = 1 ∨ o = 2) ∧ bs = false
 · obtain ⟨h14, h12, rfl⟩ := e2
   obtain rfl : bu = true := by cases bu; exact absurd ⟨h14, rfl⟩ e1; rfl
   have kin : bAnd (iLe 1 o) (iLe o 4) = true := by simp only [ee]; simpa using h14
   have k3 : bOr (iEq o 1) (iEq o 2) = true := by simp only [ee]; simpa using h12
   rw [folV_b h14 h12, if_pos (by decide)] at hR
   refine goB hX 0 (by conv => lhs; cbv; try simp only [kin, k3, n0, n1]; cbv; try simp only [kin, k3, n0, n1]; cbv; try simp only [kin, k3, n0, n1]; cbv; try simp only [kin, k3, n0, n1]; cbv) ?_
   refine goA 60 ?_
   refine oPA q1 ?_
   refine goB hX 0 (by conv => lhs; cbv; try simp only [kin, k3, n0, n1, oT, oF, aT, aF]; cbv; try simp only [kin, k3, n0, n1, oT, oF, aT, aF]; cbv; try simp only [kin, k3, n0, n1, oT, oF, aT, aF]; cbv; try simp only [kin, k3, n0, n1, oT, oF, aT, aF]; cbv) ?_
   refine goA 60 ?_
   refine oPG q2 ?_
   refine goB hX 0 (by conv => lhs; cbv; try simp only [kin, k3, n0, n1, oT, oF, aT, aF]; cbv; try simp only [kin, k3, n0, n1, oT, oF, aT, aF]; cbv; try simp only [kin, k3, n0, n1, oT, oF, aT, aF]; cbv; try simp only [kin, k3, n0, n1, oT, oF, aT, aF]; cbv) ?_
   refine goA 60 ?_
   refine fn_ret rfl rfl (.val ?_)
   exact congrArg (Value.int .i64) hR.symm
 by_cases e3 : (1 ≤ o ∧ o ≤ 4) ∧ ¬ (o = 1 ∨ o = 2) ∧ v = fb
 · obtain ⟨h14, h12, hvf⟩ := e3
   obtain rfl : bu = true := by cases bu; exact absurd ⟨h14, rfl⟩ e1; rfl
   have kin : bAnd (iLe 1 o) (iLe o 4) = true := by simp only [ee]; simpa using h14
   have k3 : bOr (iEq o 1) (iEq o 2) = false := by simp only [ee]; simpa using h12
   have kf : iEq v fb = true := by simp only [ee]; simpa using hvf
   rw [folV_c h14 h12 hvf, if_pos (by decide)] at hR
   refine goB hX 0 (by conv => lhs; cbv; try simp only [kin, k3, kf, n0, n1, oT, oF, aT, aF]; cbv; try simp only [kin, k3, kf, n0, n1, oT, oF, aT, aF]; cbv; try simp only [kin, k3, kf, n0, n1, oT, oF, aT, aF]; cbv; try simp only [kin, k3, kf, n0, n1, oT, oF, aT, aF]; cbv) ?_
   refine goA 60 ?_
   refine oPA q1 ?_
   refine goB hX 0 (by conv => lhs; cbv; try simp only [kin, k3, kf, n0, n1, oT, oF, aT, aF]; cbv; try simp only [kin, k3, kf, n0, n1, oT, oF, aT, aF]; cbv; try simp only [kin, k3, kf, n0, n1, oT, oF, aT, aF]; cbv; try simp only [kin, k3, kf, n0, n1, oT, oF, aT, aF]; cbv) ?_
   refine goA 60 ?_
   refine on_gskip rfl rfl ?_
   refine goB hX 0 (by conv => lhs; cbv; try simp only [kin, k3, kf, n0, n1, oT, oF, aT, aF]; cbv; try simp only [kin, k3, kf, n0, n1, oT, oF, aT, aF]; cbv; try simp only [kin, k3, kf, n0, n1, oT, oF, aT, aF]; cbv; try simp only [kin, k3, kf, n0, n1, oT, oF, aT, aF]; cbv) ?_
   refine goB hX 1 (by conv => lhs; cbv; try simp only [kin, k3, kf, n0, n1, oT, oF, aT, aF]; cbv; try simp only [kin, k3, kf, n0, n1, oT, oF, aT, aF]; cbv; try simp only [kin, k3, kf, n0, n1, oT, oF, aT, aF]; cbv; try simp only [kin, k3, kf, n0, n1, oT, oF, aT, aF]; cbv) ?_
   refine goA 60 ?_
   refine fn_ret rfl rfl (.val ?_)
   exact congrArg (Value.int .i64) hR.symm
 replace hR : R = firstE (folE s) (Ex.nodesL a) := by
  rw [folV_d e1 e2 e3, if_neg (by decide)] at hR
  exact hR
 have hco : ¬ (1 ≤ o ∧ o ≤ 4) ∨ ((1 ≤ o ∧ o ≤ 4) ∧ (o = 1 ∨ o = 2) ∧ bu = true ∧ bs = true) ∨ ((1 ≤ o ∧ o ≤ 4) ∧ ¬ (o = 1 ∨ o = 2) ∧ bu = true ∧ v ≠ fb) := by
  by_cases h14 : 1 ≤ o ∧ o ≤ 4
  · have hbu : bu = true := by cases bu; exact absurd ⟨h14, rfl⟩ e1; rfl
    by_cases h12 : o = 1 ∨ o = 2
    · exact .inr (.inl ⟨h14, h12, hbu, by cases bs; exact absurd ⟨h14, h12, rfl⟩ e2; rfl⟩)
    · exact .inr (.inr ⟨h14, h12, hbu, fun h => e3 ⟨h14, h12, h⟩⟩)
  · exact .inl h14
 clear e1 e2 e3
 rcases hco with h14 | ⟨h14, h12, hbu, hbs⟩ | ⟨h14, h12, hbu, hvf⟩
 case' inl =>
  have kin : bAnd (iLe 1 o) (iLe o 4) = false := by simp only [ee]; simpa using h14
  have k3 := n0
  have kf := n1
  refine goB hX 0 (by conv => lhs; cbv; try simp only [kin, k3, kf, n0, n1, oT, oF, aT, aF]; cbv; try simp only [kin, k3, kf, n0, n1, oT, oF, aT, aF]; cbv; try simp only [kin, k3, kf, n0, n1, oT, oF, aT, aF]; cbv; try simp only [kin, k3, kf, n0, n1, oT, oF, aT, aF]; cbv) ?_
  refine goA 60 ?_
  refine on_ent (F' := [(54, int 0), (53, int (lenA es)), (52, .isl 8 es), (2, .ptr 0 0), (3, .ptr 1 0)]) (H' := [.cells [int o, .isl 8 es, int v, int f, int k, int xk, int xn, str xt], .cells [.isl 1 LU, .isl 1 LS, int fb]]) ?_ ?_
  · exact (ent_sub [.to 0, .to 1] [some 0, some 1] ⟨⟨by simp, rfl⟩, ⟨by simp, rfl⟩, trivial⟩ ⟨osrc_cells (b := 0) rfl rfl rfl ⟨.refl _, .cl hcl, .refl _, .refl _, .refl _, .refl _, .refl _, .refl _, trivial⟩, osrc_cells (b := 1) rfl rfl rfl ⟨.cl hLU, .cl hLS, .refl _, trivial⟩, trivial⟩ ⟨.refl _, .refl _, .cl hcl, .refl _, .refl _, trivial⟩)
  clear kin k3 kf h14
 case' inr.inl =>
  subst hbu hbs
  have kin : bAnd (iLe 1 o) (iLe o 4) = true := by simp only [ee]; simpa using h14
  have k3 : bOr (iEq o 1) (iEq o 2) = true := by simp only [ee]; simpa using h12
  have kf := n1
  refine goB hX 0 (by conv => lhs; cbv; try simp only [kin, k3, kf, n0, n1]; cbv; try simp only [kin, k3, kf, n0, n1]; cbv; try simp only [kin, k3, kf, n0, n1]; cbv; try simp only [kin, k3, kf, n0, n1]; cbv) ?_
  refine goA 60 ?_
  refine oPA q1 ?_
  refine goB hX 0 (by conv => lhs; cbv; try simp only [kin, k3, kf, n0, n1, oT, oF, aT, aF]; cbv; try simp only [kin, k3, kf, n0, n1, oT, oF, aT, aF]; cbv; try simp only [kin, k3, kf, n0, n1, oT, oF, aT, aF]; cbv; try simp only [kin, k3, kf, n0, n1, oT, oF, aT, aF]; cbv) ?_
  refine goA 60 ?_
  refine oPG q2 ?_
  refine goB hX 0 (by conv => lhs; cbv; try simp only [kin, k3, kf, n0, n1, oT, oF, aT, aF]; cbv; try simp only [kin, k3, kf, n0, n1, oT, oF, aT, aF]; cbv; try simp only [kin, k3, kf, n0, n1, oT, oF, aT, aF]; cbv; try simp only [kin, k3, kf, n0, n1, oT, oF, aT, aF]; cbv) ?_
  refine goB hX 1 (by conv => lhs; cbv; try simp only [kin, k3, kf, n0, n1, oT, oF, aT, aF]; cbv; try simp only [kin, k3, kf, n0, n1, oT, oF, aT, aF]; cbv; try simp only [kin, k3, kf, n0, n1, oT, oF, aT, aF]; cbv; try simp only [kin, k3, kf, n0, n1, oT, oF, aT, aF]; cbv) ?_
  refine goA 60 ?_
  refine on_ent (F' := [(54, int 0), (53, int (lenA es)), (52, .isl 8 es), (2, .ptr 0 0), (3, .ptr 1 0)]) (H' := [.cells [int o, .isl 8 es, int v, int f, int k, int xk, int xn, str xt], .cells [.isl 1 LU, .isl 1 LS, int fb]]) ?_ ?_
  · exact (ent_sub [.to 0, .to 1] [some 0, some 1] ⟨⟨by simp, rfl⟩, ⟨by simp, rfl⟩, trivial⟩ ⟨osrc_cells (b := 0) rfl rfl rfl ⟨.refl _, .cl hcl, .refl _, .refl _, .refl _, .refl _, .refl _, .refl _, trivial⟩, osrc_cells (b := 1) rfl rfl rfl ⟨.cl hLU, .cl hLS, .refl _, trivial⟩, trivial⟩ ⟨.refl _, .refl _, .cl hcl, .refl _, .refl _, trivial⟩)
  clear kin k3 kf h14 h12
 case' inr.inr =>
  subst hbu
  have kin : bAnd (iLe 1 o) (iLe o 4) = true := by simp only [ee]; simpa using h14
  have k3 : bOr (iEq o 1) (iEq o 2) = false := by simp only [ee]; simpa using h12
  have kf : iEq v fb = false := by simp only [ee]; simpa using hvf
  refine goB hX 0 (by conv => lhs; cbv; try simp only [kin, k3, kf, n0, n1, oT, oF, aT, aF]; cbv; try simp only [kin, k3, kf, n0, n1, oT, oF, aT, aF]; cbv; try simp only [kin, k3, kf, n0, n1, oT, oF, aT, aF]; cbv; try simp only [kin, k3, kf, n0, n1, oT, oF, aT, aF]; cbv) ?_
  refine goA 60 ?_
  refine oPA q1 ?_
  refine goB hX 0 (by conv => lhs; cbv; try simp only [kin, k3, kf, n0, n1, oT, oF, aT, aF]; cbv; try simp only [kin, k3, kf, n0, n1, oT, oF, aT, aF]; cbv; try simp only [kin, k3, kf, n0, n1, oT, oF, aT, aF]; cbv; try simp only [kin, k3, kf, n0, n1, oT, oF, aT, aF]; cbv) ?_
  refine goA 60 ?_
  refine on_gskip rfl rfl ?_
  refine goB hX 0 (by conv => lhs; cbv; try simp only [kin, k3, kf, n0, n1, oT, oF, aT, aF]; cbv; try simp only [kin, k3, kf, n0, n1, oT, oF, aT, aF]; cbv; try simp only [kin, k3, kf, n0, n1, oT, oF, aT, aF]; cbv; try simp only [kin, k3, kf, n0, n1, oT, oF, aT, aF]; cbv) ?_
  refine goB hX 1 (by conv => lhs; cbv; try simp only [kin, k3, kf, n0, n1, oT, oF, aT, aF]; cbv; try simp only [kin, k3, kf, n0, n1, oT, oF, aT, aF]; cbv; try simp only [kin, k3, kf, n0, n1, oT, oF, aT, aF]; cbv; try simp only [kin, k3, kf, n0, n1, oT, oF, aT, aF]; cbv) ?_
  refine goA 60 ?_
  refine on_ent (F' := [(54, int 0), (53, int (lenA es)), (52, .isl 8 es), (2, .ptr 0 0), (3, .ptr 1 0)]) (H' := [.cells [int o, .isl 8 es, int v, int f, int k, int xk, int xn, str xt], .cells [.isl 1 LU, .isl 1 LS, int fb]]) ?_ ?_
  · exact (ent_sub [.to 0, .to 1] [some 0, some 1] ⟨⟨by simp, rfl⟩, ⟨by simp, rfl⟩, trivial⟩ ⟨osrc_cells (b := 0) rfl rfl rfl ⟨.refl _, .cl hcl, .refl _, .refl _, .refl _, .refl _, .refl _, .refl _, trivial⟩, osrc_cells (b := 1) rfl rfl rfl ⟨.cl hLU, .cl hLS, .refl _, trivial⟩, trivial⟩ ⟨.refl _, .refl _, .cl hcl, .refl _, .refl _, trivial⟩)
  clear kin k3 kf h14 h12 hvf
 all_goals
  clear q1 q2
  refine on_loopP (ι := List Ex × List Ex × Int) (fun p => ([(54, int p.2.2), (53, int (lenA es)), (52, .isl 8 es), (2, .ptr 0 0), (3, .ptr 1 0)], [.cells [int o, .isl 8 es, int v, int f, int k, int xk, int xn, str xt], .cells [.isl 1 LU, .isl 1 LS, int fb]])) (fun p => a = p.1 ++ p.2.1 ∧ p.2.2 = p.1.length ∧ R = firstE (folE s) (Ex.nodesL p.2.1)) (fun p => p.2.1.length) ([], a, 0) ⟨rfl, rfl, hR⟩ ?_ ?_
  · exact (ent_sub [.to 0, .to 1] [some 0, some 1] ⟨⟨by simp, rfl⟩, ⟨by simp, rfl⟩, trivial⟩ ⟨osrc_cells (b := 0) rfl rfl rfl ⟨.refl _, .cl hcl, .refl _, .refl _, .refl _, .refl _, .refl _, .refl _, trivial⟩, osrc_cells (b := 1) rfl rfl rfl ⟨.cl hLU, .cl hLS, .refl _, trivial⟩, trivial⟩ ⟨.refl _, .refl _, .cl hcl, .refl _, .refl _, trivial⟩)
  rintro ⟨d, r, i⟩ ⟨g1, gi, gR⟩
  dsimp only at g1 gi gR ⊢
  cases r with
  | nil =>
   have L1 := len_split g1
   try simp only [List.length] at L1
   have hc : iLt i (lenA es) = false := lt_f e_iLt e_lenA (by omega)
   have gR : R = 0 := gR
   refine goB hX 0 (by conv => lhs; cbv; try simp only [hc]; cbv; try simp only [hc]; cbv; try simp only [hc]; cbv; try simp only [hc]; cbv) ?_
   refine goA 60 ?_
   refine loopP_exit ?_
   refine goA 60 ?_
   refine fn_ret rfl rfl (.val ?_)
   exact congrArg (Value.int .i64) gR.symm
  | cons q r =>
   have L1 := len_split g1
   try simp only [List.length] at L1
   have hc : iLt i (lenA es) = true := lt_t e_iLt e_lenA (by omega)
   have hat := el_at e_atA hes g1 gi
   have hq := hih q (by rw [g1]; simp)
   have hqc := Ex.closed q
   rw [Ex.nodesL, firstE_append] at gR
   have hi2 : iAdd .i64 i 1 = ((d ++ [q]).length : Int) := by rw [List.length_append]; exact inc_w e_iAdd gi (by omega)
   generalize firstE (folE s) q.nodes = fq at *
   obtain ⟨qO, qA, qV, qF, qK, qXk, qXn, qXt, hx⟩ := Ex.form q
   rw [hx] at hat hqc hq
   by_cases h2 : fq = 0
   · have w2 : iNe fq 0 = false := by simp only [ee]; simpa using h2
     rw [if_neg (by simpa using h2)] at gR
     refine goB hX 0 (by conv => lhs; cbv; try simp only [hc, hat, w2]; cbv; try simp only [hc, hat, w2]; cbv; try simp only [hc, hat, w2]; cbv; try simp only [hc, hat, w2]; cbv) ?_
     refine goB hX 1 (by conv => lhs; cbv; try simp only [hc, hat, w2]; cbv; try simp only [hc, hat, w2]; cbv; try simp only [hc, hat, w2]; cbv; try simp only [hc, hat, w2]; cbv) ?_
     refine oPA hq ?_
     refine goB hX 0 (by conv => lhs; cbv; try simp only [hc, hat, w2]; cbv; try simp only [hc, hat, w2]; cbv; try simp only [hc, hat, w2]; cbv; try simp only [hc, hat, w2]; cbv) ?_
     refine goA 60 ?_
     refine loopP_next (d ++ [q], r, iAdd .i64 i 1) ⟨by simp [g1], hi2, gR⟩ (by simp) (ent_sub [.to 0, .to 1, .gone] [some 0, some 1] ⟨⟨by simp, rfl⟩, ⟨by simp, rfl⟩, trivial, trivial⟩ ⟨osrc_cells (b := 0) rfl rfl rfl ⟨.refl _, .cl hcl, .refl _, .refl _, .refl _, .refl _, .refl _, .refl _, trivial⟩, osrc_cells (b := 1) rfl rfl rfl ⟨.cl hLU, .cl hLS, .refl _, trivial⟩, trivial⟩ ⟨.refl _, .refl _, .cl hcl, .refl _, .refl _, trivial⟩)
   · have w2 : iNe fq 0 = true := by simp only [ee]; simpa using h2
     rw [if_pos h2] at gR
     refine goB hX 0 (by conv => lhs; cbv; try simp only [hc, hat, w2]; cbv; try simp only [hc, hat, w2]; cbv; try simp only [hc, hat, w2]; cbv; try simp only [hc, hat, w2]; cbv) ?_
     refine goB hX 1 (by conv => lhs; cbv; try simp only [hc, hat, w2]; cbv; try simp only [hc, hat, w2]; cbv; try simp only [hc, hat, w2]; cbv; try simp only [hc, hat, w2]; cbv) ?_
     refine oPA hq ?_
     refine goB hX 0 (by conv => lhs; cbv; try simp only [hc, hat, w2]; cbv; try simp only [hc, hat, w2]; cbv; try simp only [hc, hat, w2]; cbv; try simp only [hc, hat, w2]; cbv) ?_
     refine goA 60 ?_
     refine loopP_ret ?_
     refine goA 60 ?_
     refine fn_ret rfl rfl (.val ?_)
     exact congrArg (Value.int .i64) gR.symm
theorem C_scwalk2 {S : Type} (vf : FuncId) (o3 o4 o5 : S → AObj) (V : Int → Pat × Plc → S → S × Bool) (hen : Enters EE.P vf)
 (c3 : ∀ s σ, (o3 s).sub σ = o3 s) (c4 : ∀ s σ, (o4 s).sub σ = o4 s) (c5 : ∀ s σ, (o5 s).sub σ = o5 s)
 (hV : ∀ (i : Int) (x : Pat × Plc) (s : S), x.1.Sm → x.1.wf → x.2.ok → 0 ≤ i → ACall EE vf ([int i, x.1.enc, x.2.enc] ++ [.ptr 3 0, .ptr 4 0]) (hpV vf [.ptr 3 0, .ptr 4 0] o3 o4 o5 i s) (fun v H' => v = bool (V i x s).2 ∧ H' = hpV vf [.ptr 3 0, .ptr 4 0] o3 o4 o5 i (V i x s).1))
 (p : Pat) (hs : p.Sm) (hw : p.wf) (hn : p.cnt < 1073741824) (s : S) :
 ACall EE 34 [p.enc, .fn vf [.ptr 0 0, .ptr 1 0]] [o3 s, o4 s, o5 s] (fun _ H' => H' = [o3 (runV V (-1) s (Pat.lf PlcS p)).1, o4 (runV V (-1) s (Pat.lf PlcS p)).1, o5 (runV V (-1) s (Pat.lf PlcS p)).1]) := by
 have hC := C_each vf [.ptr 3 0, .ptr 4 0] o3 o4 o5 V hen (fun s σ _ => c3 s σ) (fun s σ _ => c4 s σ) (fun s σ _ => c5 s σ)
  (fun σ h => by simp only [AV.subL, AV.sub, h 3 (by decide), h 4 (by decide)]) hV p hs hw PlcS PlcS_ok (-1) s (by omega) (by omega)
 rw [PlcS_enc] at hC
 unfold hpV at hC
 obtain ⟨⟨s1, i1, b1⟩, hZ⟩ : ∃ Z : S × Int × Bool, runV V (-1) s (Pat.lf PlcS p) = Z := ⟨_, rfl⟩
 rw [hZ] at hC ⊢
 dsimp only at hC ⊢
 have hpc := Pat.closed p
 have h0c : (AV.agg [.isl 1 [], .isl 1 [], int (-1)]).closed = true := rfl
 obtain ⟨pO, pA, pT, pV, pS, pN, pCo, pCa, pCv, pCf, pCk, pXk, pXn, pXt, hx⟩ := Pat.form p
 rw [hx] at hC hpc ⊢
 clear hx
 refine wordsN ?_; unhygienic intros
 refine rcall_body (fn := Tryd.f34) (n := 11) (ac := Trydc34) (rvs := []) rfl Trydp34 rfl rfl rfl ?_
 show Holds EE 11 3 _ _ _ _ _
 refine goA 0 ?_
 refine on_entO (F' := [(9, .agg [.isl 1 [], .isl 1 [], int (-1)]), (8, .agg [int pO, .isl 14 pA, int pT, int pV, int pS, int pN, int pCo, .isl 8 pCa, int pCv, int pCf, int pCk, int pXk, int pXn, str pXt]), (7, .fn 56 [.ptr 4 0, .ptr 3 0, .ptr 5 0])]) (H' := [o3 s, o4 s, o5 s, .cells [.fn vf [.ptr 0 0, .ptr 1 0]], .cells [int (-1)], .cells [.fn 56 [.ptr 4 0, .ptr 3 0, .ptr 5 0]]]) ?_ ?_
 · exact (ent_subN [.to 0, .to 1, .to 2, .gone, .to 3, .to 4, .to 5] [some 0, some 1, some 2, some 4, some 5, some 6] ⟨rfl, rfl, rfl, trivial⟩ (by simp) (by simp) ⟨⟨by simp, rfl⟩, ⟨by simp, rfl⟩, ⟨by simp, rfl⟩, trivial, ⟨by simp, rfl⟩, ⟨by simp, rfl⟩, ⟨by simp, rfl⟩, trivial⟩ ⟨.same 0 _ _ rfl rfl rfl (c3 _ _), .same 1 _ _ rfl rfl rfl (c4 _ _), .same 2 _ _ rfl rfl rfl (c5 _ _), .same 4 _ _ rfl rfl rfl rfl, .same 5 _ _ rfl rfl rfl rfl, .same 6 _ _ rfl rfl rfl rfl, trivial⟩ ⟨.agg' ⟨.nilI _, .nilI _, .refl _, trivial⟩, .cl hpc, .refl _, trivial⟩)
 refine on_fcallv [4, 3, 5, 0, 1, 2] rfl rfl rfl enters_scope_walk_1 hC (by decide) (by simp) ?_ ?_ ?_
 · show _ = [AObj.sub _ _, AObj.sub _ _, AObj.sub _ _, AObj.sub _ (o3 s), AObj.sub _ (o4 s), AObj.sub _ (o5 s)]
   rw [c3, c4, c5]; rfl
 · show _ = [AV.sub (subOut [4, 3, 5, 0, 1, 2]) (.agg [int pO, .isl 14 pA, int pT, int pV, int pS, int pN, int pCo, .isl 8 pCa, int pCv, int pCf, int pCk, int pXk, int pXn, str pXt]), AV.sub (subOut [4, 3, 5, 0, 1, 2]) (.agg [.isl 1 [], .isl 1 [], int (-1)]), AV.sub (subOut [4, 3, 5, 0, 1, 2]) (.ptr 4 0), AV.sub (subOut [4, 3, 5, 0, 1, 2]) (.ptr 3 0), AV.sub (subOut [4, 3, 5, 0, 1, 2]) (.ptr 5 0)]
   rw [sub_closed _ _ _ (Nat.le_refl _) hpc, sub_closed _ _ _ (Nat.le_refl _) h0c]; rfl
 rintro v0 H' ⟨rfl, rfl⟩ -
 have hm : ∀ (a0 a1 a2 a3 a4 a5 : AObj), mergeH [a0, a1, a2, a3, a4, a5] [4, 3, 5, 0, 1, 2] [.cells [int i1], .cells [.fn vf [.ptr 3 0, .ptr 4 0]], .cells [.fn 56 [.ptr 0 0, .ptr 1 0, .ptr 2 0]], o3 s1, o4 s1, o5 s1] = [o3 s1, o4 s1, o5 s1, .cells [.fn vf [.ptr 0 0, .ptr 1 0]], .cells [int i1], .cells [.fn 56 [.ptr 4 0, .ptr 3 0, .ptr 5 0]]] := fun _ _ _ _ _ _ => by
  show [AObj.sub _ (o3 s1), AObj.sub _ (o4 s1), AObj.sub _ (o5 s1), _, _, _] = _
  rw [c3, c4, c5]; rfl
 rw [hm]
 refine goA 60 ?_
 refine o_norm (F2 := []) (H2 := [o3 s1, o4 s1, o5 s1]) ?_ rfl rfl
 exact (ent_subN [.to 0, .to 1, .to 2, .gone, .gone, .gone] [some 0, some 1, some 2] ⟨rfl, rfl, rfl, trivial⟩ (by simp) (by simp) ⟨⟨by simp, rfl⟩, ⟨by simp, rfl⟩, ⟨by simp, rfl⟩, trivial, trivial, trivial, trivial⟩ ⟨.same 0 _ _ rfl rfl rfl (c3 _ _), .same 1 _ _ rfl rfl rfl (c4 _ _), .same 2 _ _ rfl rfl rfl (c5 _ _), trivial⟩ trivial)
noncomputable def ckV (i : Int) (x : Pat × Plc) (s : Int × Int) : (Int × Int) × Bool :=
 if testsF x.1.op = true then (if x.1.cond.fol (x.1.own x.2) = 0 then ((0, s.2), true) else ((x.1.cond.fol (x.1.own x.2), i), false)) else (s, true)
theorem enters_scope_Check_1 : Enters EE.P 35 := enters_of (fn := Tryd.f35) (n := 26) (ac := Trydc35) rfl (by decide) Trydp35
theorem C_ck1 (dc : List AV) (hdc : AV.closedL dc = true) (i : Int) (x : Pat × Plc) (s : Int × Int) (hs : x.1.Sm) (hw : x.1.wf) (hl : x.2.ok) :
 ACall EE 35 ([int i, x.1.enc, x.2.enc] ++ [.ptr 3 0, .ptr 4 0]) (hpV 35 [.ptr 3 0, .ptr 4 0] (fun s => .cells [int s.1]) (fun s => .cells [int s.2]) (fun _ => .cells dc) i s)
  (fun v H' => v = bool (ckV i x s).2 ∧ H' = hpV 35 [.ptr 3 0, .ptr 4 0] (fun s => .cells [int s.1]) (fun s => .cells [int s.2]) (fun _ => .cells dc) i (ckV i x s).1) := by
 obtain ⟨p, l⟩ := x
 obtain ⟨e0, i0⟩ := s
 dsimp only at hs hw hl ⊢
 have qo := fun ht => P_own p hs hw ht l hl
 have hok := fun ht => own_ok hw ht hl
 have qf := fun ht => P_follows (p.own l) (by have := (hok ht).2.2.1; omega) (by have := (hok ht).2.2.2; omega) p.cond hs.cond'
 obtain ⟨ho0, ho1, _, _, _⟩ := hw.self
 have hrow := sc_row ho0 ho1
 obtain ⟨Z, hZ⟩ : ∃ Z, Z = ckV i (p, l) (e0, i0) := ⟨_, rfl⟩
 rw [← hZ]
 unfold ckV at hZ
 dsimp only at hZ
 unfold hpV
 obtain ⟨er, eer⟩ : ∃ z, z = p.cond.fol (p.own l) := ⟨_, rfl⟩
 rw [← eer] at hZ qf
 simp only [Plc.enc] at qo qf ⊢
 have hLU := closedI_int l.us
 have hLS := closedI_int l.si
 have hcl := Pat.closed p
 have hcc := Ex.closed p.cond
 obtain ⟨LU, eLU⟩ : ∃ z, z = mapE int l.us := ⟨_, rfl⟩
 obtain ⟨LS, eLS⟩ : ∃ z, z = mapE int l.si := ⟨_, rfl⟩
 obtain ⟨fb, efb⟩ : ∃ z, z = l.fb := ⟨_, rfl⟩
 rw [← eLU, ← eLS, ← efb] at qo ⊢
 rw [← eLU] at hLU
 rw [← eLS] at hLS
 have r1 := closedI_int (p.own l).us
 have r2 := closedI_int (p.own l).si
 have hlc : (AV.agg [.isl 1 LU, .isl 1 LS, int fb]).closed = true := by simp [AV.closed, AV.closedL] at hLU hLS ⊢; exact ⟨hLU, hLS⟩
 obtain ⟨pO, pA, pT, pV, pS, pN, pCo, pCa, pCv, pCf, pCk, pXk, pXn, pXt, hx, hxc, hpO, hpA, hpT, hpV, hpS, hpN⟩ := Pat.form2 p
 rw [hx] at qo hcl ⊢
 rw [hxc] at qf hcc
 rw [← hpO] at hrow hZ qo ho0 ho1 qf
 have hpAI : (AV.isl 14 pA).closed = true := by have := hcl; simp [AV.closed, AV.closedL] at this ⊢; exact this.1
 have hpCI : (AV.isl 8 pCa).closed = true := by have := hcl; simp [AV.closed, AV.closedL] at this ⊢; exact this.2
 obtain ⟨A1, eA1⟩ : ∃ z, z = mapE int (p.own l).us := ⟨_, rfl⟩
 obtain ⟨A2, eA2⟩ : ∃ z, z = mapE int (p.own l).si := ⟨_, rfl⟩
 obtain ⟨f2, ef2⟩ : ∃ z, z = (p.own l).fb := ⟨_, rfl⟩
 rw [← eA1, ← eA2, ← ef2] at qo qf
 rw [← eA1] at r1
 rw [← eA2] at r2
 have hcs : (AV.agg [.isl 1 A1, .isl 1 A2, int f2]).closed = true := by simp [AV.closed, AV.closedL] at r1 r2 ⊢; exact ⟨r1, r2⟩
 clear hx hs hw hok hxc
 refine wordsN ?_; unhygienic intros
 have hrw : rowA (Classical.choice scBox_ne).g pO 2 = [bool (keepsF pO), bool (testsF pO)] := by rw [e_rowA]; exact hrow
 generalize keepsF pO = kp at *
 obtain ⟨ts, ets⟩ : ∃ z, z = testsF pO := ⟨_, rfl⟩
 rw [← ets] at hrw hZ qo qf
 have n0 : bNot false = true := by simp only [ee]; rfl
 have n1 : bNot true = false := by simp only [ee]; rfl
 refine rcall_body (fn := Tryd.f35) (n := 26) (ac := Trydc35) (rvs := [.t 8]) rfl Trydp35 rfl rfl rfl ?_
 show Holds EE 26 6 _ _ _ _ _
 cases ts with
 | false =>
  rw [if_neg (show ¬ (false = true) by decide)] at hZ
  rw [hZ]
  refine goB hX 0 (by conv => lhs; cbv; try simp only [hrw, n0]; cbv; try simp only [hrw, n0]; cbv; try simp only [hrw, n0]; cbv; try simp only [hrw, n0]; cbv) ?_
  refine goA 60 ?_
  refine o_ret (F2 := [(8, bool true)]) (H2 := [.cells [int i], .cells [.fn 35 [.ptr 3 0, .ptr 4 0]], .cells [.fn 56 [.ptr 0 0, .ptr 1 0, .ptr 2 0]], .cells [int e0], .cells [int i0], .cells dc]) ?_ rfl ⟨rfl, rfl⟩
  exact (ent_subN [.to 0, .to 1, .to 2, .to 3, .to 4, .to 5, .gone, .gone] [some 0, some 1, some 2, some 3, some 4, some 5] ⟨rfl, rfl, rfl, rfl, rfl, rfl, trivial⟩ (by simp) (by simp) ⟨⟨by simp, rfl⟩, ⟨by simp, rfl⟩, ⟨by simp, rfl⟩, ⟨by simp, rfl⟩, ⟨by simp, rfl⟩, ⟨by simp, rfl⟩, trivial, trivial, trivial⟩ ⟨.same 0 _ _ rfl rfl rfl rfl, .same 1 _ _ rfl rfl rfl rfl, .same 2 _ _ rfl rfl rfl rfl, .same 3 _ _ rfl rfl rfl rfl, .same 4 _ _ rfl rfl rfl rfl, .same 5 _ _ rfl rfl rfl (congrArg AObj.cells (subL_closed _ hdc)), trivial⟩ ⟨.refl _, trivial⟩)
 | true =>
  rw [if_pos rfl] at hZ
  have q1 := qo rfl
  have q2 := qf rfl
  refine goB hX 0 (by conv => lhs; cbv; try simp only [hrw, n1]; cbv; try simp only [hrw, n1]; cbv; try simp only [hrw, n1]; cbv; try simp only [hrw, n1]; cbv) ?_
  refine goB hX 1 (by conv => lhs; cbv; try simp only [hrw]; cbv; try simp only [hrw]; cbv; try simp only [hrw]; cbv; try simp only [hrw]; cbv) ?_
  refine tr_drawB rfl (by conv => lhs; cbv) rfl ?_
  refine tgA ?_
  refine oPT q1 ?_
  refine oPT q2 ?_
  refine tgA ?_
  refine tr_nil ⟨rfl, by simp [LooksL, lookAll], ?_⟩
  by_cases he : er = 0
  · have w1 : iNe er 0 = false := by simp only [ee]; simpa using he
    have w2 : iEq er 0 = true := by simp only [ee]; simpa using he
    rw [if_pos he] at hZ
    rw [hZ]
    subst he
    refine goB hX 0 (by conv => lhs; cbv; try simp only [w1, w2]; cbv; try simp only [w1, w2]; cbv; try simp only [w1, w2]; cbv; try simp only [w1, w2]; cbv) ?_
    refine goB hX 1 (by conv => lhs; cbv; try simp only [w1, w2]; cbv; try simp only [w1, w2]; cbv; try simp only [w1, w2]; cbv; try simp only [w1, w2]; cbv) ?_
    refine goA 60 ?_
    refine o_ret (F2 := [(8, bool true)]) (H2 := [.cells [int i], .cells [.fn 35 [.ptr 3 0, .ptr 4 0]], .cells [.fn 56 [.ptr 0 0, .ptr 1 0, .ptr 2 0]], .cells [int 0], .cells [int i0], .cells dc]) ?_ rfl ⟨rfl, rfl⟩
    exact (ent_subN [.to 0, .to 1, .to 2, .to 3, .to 4, .to 5, .gone, .gone] [some 0, some 1, some 2, some 3, some 4, some 5] ⟨rfl, rfl, rfl, rfl, rfl, rfl, trivial⟩ (by simp) (by simp) ⟨⟨by simp, rfl⟩, ⟨by simp, rfl⟩, ⟨by simp, rfl⟩, ⟨by simp, rfl⟩, ⟨by simp, rfl⟩, ⟨by simp, rfl⟩, trivial, trivial, trivial⟩ ⟨.same 0 _ _ rfl rfl rfl rfl, .same 1 _ _ rfl rfl rfl rfl, .same 2 _ _ rfl rfl rfl rfl, .same 3 _ _ rfl rfl rfl rfl, .same 4 _ _ rfl rfl rfl rfl, .same 5 _ _ rfl rfl rfl (congrArg AObj.cells (subL_closed _ hdc)), trivial⟩ ⟨.refl _, trivial⟩)
  · have w1 : iNe er 0 = true := by simp only [ee]; simpa using he
    have w2 : iEq er 0 = false := by simp only [ee]; simpa using he
    rw [if_neg he] at hZ
    rw [hZ]
    refine goB hX 0 (by conv => lhs; cbv; try simp only [w1, w2]; cbv; try simp only [w1, w2]; cbv; try simp only [w1, w2]; cbv; try simp only [w1, w2]; cbv) ?_
    refine goB hX 1 (by conv => lhs; cbv; try simp only [w1, w2]; cbv; try simp only [w1, w2]; cbv; try simp only [w1, w2]; cbv; try simp only [w1, w2]; cbv) ?_
    refine goA 60 ?_
    refine o_ret (F2 := [(8, bool false)]) (H2 := [.cells [int i], .cells [.fn 35 [.ptr 3 0, .ptr 4 0]], .cells [.fn 56 [.ptr 0 0, .ptr 1 0, .ptr 2 0]], .cells [int er], .cells [int i], .cells dc]) ?_ rfl ⟨rfl, rfl⟩
    exact (ent_subN [.to 0, .to 1, .to 2, .to 3, .to 4, .to 5, .gone, .gone] [some 0, some 1, some 2, some 3, some 4, some 5] ⟨rfl, rfl, rfl, rfl, rfl, rfl, trivial⟩ (by simp) (by simp) ⟨⟨by simp, rfl⟩, ⟨by simp, rfl⟩, ⟨by simp, rfl⟩, ⟨by simp, rfl⟩, ⟨by simp, rfl⟩, ⟨by simp, rfl⟩, trivial, trivial, trivial⟩ ⟨.same 0 _ _ rfl rfl rfl rfl, .same 1 _ _ rfl rfl rfl rfl, .same 2 _ _ rfl rfl rfl rfl, .same 3 _ _ rfl rfl rfl rfl, .same 4 _ _ rfl rfl rfl rfl, .same 5 _ _ rfl rfl rfl (congrArg AObj.cells (subL_closed _ hdc)), trivial⟩ ⟨.refl _, trivial⟩)
theorem ckV_eq (j : Int) (x : Pat × Plc) : ckV j x (0, 0) = ((condE x, if condE x ≠ 0 then j else 0), decide (condE x = 0)) := by
 unfold ckV condE
 by_cases ht : testsF x.1.op = true
 · rw [if_pos ht, if_pos ht]
   by_cases he : x.1.cond.fol (x.1.own x.2) = 0
   · rw [if_pos he, he]; rfl
   · rw [if_neg he, if_pos he, decide_eq_false he]
 · rw [if_neg ht, if_neg ht]; rfl
theorem run_ck : ∀ (L : List (Pat × Plc)) (j : Int), (runV ckV j (0, 0) L).1 = (firstE condE L, if firstE condE L ≠ 0 then j + 1 + idxE condE L else 0)
 | [], j => by
  rw [runV, firstE]; rfl
 | x :: r, j => by
  by_cases h : condE x = 0
  · have hv : ckV (j + 1) x (0, 0) = ((0, 0), true) := by rw [ckV_eq, h]; rfl
    have e1 : firstE condE (x :: r) = firstE condE r := by rw [firstE, if_neg (fun k => k h)]
    rw [runV, hv, if_pos rfl, run_ck r (j + 1), e1]
    by_cases h2 : firstE condE r = 0
    · rw [if_neg (fun k => k h2), if_neg (fun k => k h2)]
    · have e2 : idxE condE (x :: r) = idxE condE r + 1 := by rw [idxE, if_neg (fun k => k h), if_pos h2]
      rw [if_pos h2, if_pos h2, e2]
      exact congrArg (Prod.mk _) (by omega)
  · have hv : ckV (j + 1) x (0, 0) = ((condE x, j + 1), false) := by rw [ckV_eq, if_pos h, decide_eq_false h]
    rw [runV, hv, if_neg (show ¬ (false = true) by decide), firstE, if_pos h, idxE, if_pos h, if_pos h, Int.add_zero]
theorem idx_zero {α : Type} {F : α → Int} : ∀ {L : List α}, firstE F L = 0 → idxE F L = 0
 | [], _ => by rw [idxE]
 | x :: r, h => by
  rw [firstE] at h
  rw [idxE]
  by_cases hx : F x = 0
  · rw [if_neg (by simpa using hx)] at h ⊢
    rw [if_neg (by simpa using h)]
  · rw [if_pos hx] at h; exact absurd h hx
theorem sc_plain (p : Pat) (h : p.chk = 0) : (runV ckV (-1) (0, 0) (Pat.lf PlcS p)).1 = (p.scE, p.scI) := by
 have e1 : p.scE = firstE condE (Pat.lf PlcS p) := by unfold Pat.scE; rw [if_neg (fun k => k h)]
 have e2 : p.scI = idxE condE (Pat.lf PlcS p) := by unfold Pat.scI; rw [if_neg (fun k => k h)]
 rw [run_ck, e1, e2]
 by_cases h2 : firstE condE (Pat.lf PlcS p) = 0
 · rw [idx_zero h2, if_neg (fun k => k h2)]
 · rw [if_pos h2]
   exact congrArg (Prod.mk _) (by omega)
theorem P_scCheck (p : Pat) (hs : p.Sm) : PCall EE 12 [p.enc] (.tup [int p.scI, int p.scE]) := by
 have q1 := P_pattern_Check p hs
 have hcl := Pat.closed p
 by_cases hk : p.chk = 0
 · have hw := chk_wf hk
   have hcnt := (chkR_zero.1 (wholeE_ok (chk_zero hk).1).1).1
   have qw' := fun (dc : List AV) (hdc : AV.closedL dc = true) => C_scwalk2 35 (fun s => .cells [int s.1]) (fun s => .cells [int s.2]) (fun _ : Int × Int => .cells dc) ckV enters_scope_Check_1 (fun _ _ => rfl) (fun _ _ => rfl) (fun _ σ => congrArg AObj.cells (subL_closed _ hdc)) (fun j x s h1 h2 h3 _ => C_ck1 dc hdc j x s h1 h2 h3) p hs hw (by omega) (0, 0)
   rw [sc_plain p hk] at qw'
   dsimp only at qw'
   rw [hk] at q1
   generalize p.scI = ir at *
   generalize p.scE = er at *
   obtain ⟨pO, pA, pT, pV, pS, pN, pCo, pCa, pCv, pCf, pCk, pXk, pXn, pXt, hx, hxc, hpO, hpA, hpT, hpV, hpS, hpN⟩ := Pat.form2 p
   rw [hx] at qw' q1 hcl ⊢
   have hpAI : (AV.isl 14 pA).closed = true := by have := hcl; simp [AV.closed, AV.closedL] at this ⊢; exact this.1
   have hpCI : (AV.isl 8 pCa).closed = true := by have := hcl; simp [AV.closed, AV.closedL] at this ⊢; exact this.2
   have hdc : AV.closedL [int pO, .isl 14 pA, int pT, int pV, int pS, int pN, int pCo, .isl 8 pCa, int pCv, int pCf, int pCk, int pXk, int pXn, str pXt] = true := hcl
   have qw := qw' _ hdc
   clear hx hs hw qw'
   refine wordsN ?_; unhygienic intros
   have kc : iNe 0 0 = false := by simp only [ee]; rfl
   refine fn_body (fn := Tryd.f12) (n := 17) (ac := Trydc12) (rvs := [.t 2, .t 3]) rfl (by decide) Trydp12 rfl rfl rfl ?_
   refine goA 60 ?_
   refine oPA q1 ?_
   refine goB hX 0 (by conv => lhs; cbv; try simp only [kc]; cbv; try simp only [kc]; cbv; try simp only [kc]; cbv; try simp only [kc]; cbv) ?_
   refine goA 60 ?_
   refine on_entO (F' := [(13, .fn 35 [.ptr 2 0, .ptr 1 0]), (12, .agg [int pO, .isl 14 pA, int pT, int pV, int pS, int pN, int pCo, .isl 8 pCa, int pCv, int pCf, int pCk, int pXk, int pXn, str pXt]), (5, .ptr 1 0), (6, .ptr 2 0)]) (H' := [.cells [int pO, .isl 14 pA, int pT, int pV, int pS, int pN, int pCo, .isl 8 pCa, int pCv, int pCf, int pCk, int pXk, int pXn, str pXt], .cells [int 0], .cells [int 0]]) ?_ ?_
   · exact (ent_sub [.to 0, .to 1, .to 2] [some 0, some 1, some 2] ⟨⟨by simp, rfl⟩, ⟨by simp, rfl⟩, ⟨by simp, rfl⟩, trivial⟩ ⟨osrc_cells (b := 0) rfl rfl rfl ⟨.refl _, .cl hpAI, .refl _, .refl _, .refl _, .refl _, .refl _, .cl hpCI, .refl _, .refl _, .refl _, .refl _, .refl _, .refl _, trivial⟩, osrc_cells (b := 1) rfl rfl rfl ⟨.refl _, trivial⟩, osrc_cells (b := 2) rfl rfl rfl ⟨.refl _, trivial⟩, trivial⟩ ⟨.refl _, .cl hcl, .refl _, .refl _, trivial⟩)
   refine on_fcall [2, 1, 0] rfl rfl enters_scope_walk qw (by decide) (by simp) ?_ ?_ ?_
   · show _ = [_, _, AObj.sub (subOut [2, 1, 0]) (.cells [int pO, .isl 14 pA, int pT, int pV, int pS, int pN, int pCo, .isl 8 pCa, int pCv, int pCf, int pCk, int pXk, int pXn, str pXt])]
     rw [show AObj.sub (subOut [2, 1, 0]) (.cells [int pO, .isl 14 pA, int pT, int pV, int pS, int pN, int pCo, .isl 8 pCa, int pCv, int pCf, int pCk, int pXk, int pXn, str pXt]) = .cells [int pO, .isl 14 pA, int pT, int pV, int pS, int pN, int pCo, .isl 8 pCa, int pCv, int pCf, int pCk, int pXk, int pXn, str pXt] from congrArg AObj.cells (subL_closed _ hdc)]
     rfl
   · show _ = [AV.sub (subOut [2, 1, 0]) (.agg [int pO, .isl 14 pA, int pT, int pV, int pS, int pN, int pCo, .isl 8 pCa, int pCv, int pCf, int pCk, int pXk, int pXn, str pXt]), AV.sub (subOut [2, 1, 0]) (.fn 35 [.ptr 2 0, .ptr 1 0])]
     rw [sub_closed _ _ _ (Nat.le_refl _) hcl]; rfl
   rintro v0 H' rfl -
   have hm : ∀ (a0 a1 a2 : AObj), mergeH [a0, a1, a2] [2, 1, 0] [.cells [int er], .cells [int ir], .cells [int pO, .isl 14 pA, int pT, int pV, int pS, int pN, int pCo, .isl 8 pCa, int pCv, int pCf, int pCk, int pXk, int pXn, str pXt]] = [.cells [int pO, .isl 14 pA, int pT, int pV, int pS, int pN, int pCo, .isl 8 pCa, int pCv, int pCf, int pCk, int pXk, int pXn, str pXt], .cells [int ir], .cells [int er]] := fun _ _ _ => by
    show [AObj.sub (subIn [2, 1, 0] 3) (.cells [int pO, .isl 14 pA, int pT, int pV, int pS, int pN, int pCo, .isl 8 pCa, int pCv, int pCf, int pCk, int pXk, int pXn, str pXt]), _, _] = _
    rw [show AObj.sub (subIn [2, 1, 0] 3) (.cells [int pO, .isl 14 pA, int pT, int pV, int pS, int pN, int pCo, .isl 8 pCa, int pCv, int pCf, int pCk, int pXk, int pXn, str pXt]) = .cells [int pO, .isl 14 pA, int pT, int pV, int pS, int pN, int pCo, .isl 8 pCa, int pCv, int pCf, int pCk, int pXk, int pXn, str pXt] from congrArg AObj.cells (subL_closed _ hdc)]
    rfl
   rw [hm]
   refine goA 60 ?_
   refine fn_ret rfl rfl ?_
   exact ⟨[.gone, .gone, .gone], ⟨trivial, trivial, trivial, trivial⟩, .refl _⟩
 · have hE : p.scE = p.chk := by unfold Pat.scE; rw [if_pos hk]
   have hI : p.scI = 0 := by unfold Pat.scI; rw [if_pos hk]
   rw [hE, hI]
   generalize p.chk = er at *
   obtain ⟨pO, pA, pT, pV, pS, pN, pCo, pCa, pCv, pCf, pCk, pXk, pXn, pXt, hx, hxc, hpO, hpA, hpT, hpV, hpS, hpN⟩ := Pat.form2 p
   rw [hx] at q1 hcl ⊢
   clear hx hs hE hI
   refine wordsN ?_; unhygienic intros
   have kc : iNe er 0 = true := by simp only [ee]; simpa using hk
   refine fn_body (fn := Tryd.f12) (n := 17) (ac := Trydc12) (rvs := [.t 2, .t 3]) rfl (by decide) Trydp12 rfl rfl rfl ?_
   refine goA 60 ?_
   refine oPA q1 ?_
   refine goB hX 0 (by conv => lhs; cbv; try simp only [kc]; cbv; try simp only [kc]; cbv; try simp only [kc]; cbv; try simp only [kc]; cbv) ?_
   refine goA 60 ?_
   refine fn_ret rfl rfl ?_
   exact ⟨[.gone], ⟨trivial, trivial⟩, .refl _⟩
theorem P_Usable (p : Pat) (i : Int) (hs : p.Sm) : PCall EE 18 [p.enc, int i] (.tup [.isl 1 (mapE int (p.atP i).us), int (p.atE i)]) := by
 have q1 := P_at p i hs
 have hcl := Pat.closed p
 simp only [Plc.enc] at q1
 have r1 := closedI_int (p.atP i).us
 have r2 := closedI_int (p.atP i).si
 generalize mapE int (p.atP i).us = A1 at *
 generalize mapE int (p.atP i).si = A2 at *
 generalize (p.atP i).fb = f2 at *
 generalize p.atE i = er at *
 obtain ⟨pO, pA, pT, pV, pS, pN, pCo, pCa, pCv, pCf, pCk, pXk, pXn, pXt, hx, hxc, hpO, hpA, hpT, hpV, hpS, hpN⟩ := Pat.form2 p
 rw [hx] at q1 hcl ⊢
 clear hx hs
 refine wordsN ?_; unhygienic intros
 refine fn_body (fn := Tryd.f18) (n := 17) (ac := Trydc18) (rvs := [.t 4, .t 5]) rfl (by decide) Trydp18 rfl rfl rfl ?_
 refine goA 60 ?_
 refine oPA q1 ?_
 refine goA 60 ?_
 refine fn_ret rfl rfl ?_
 exact ⟨[.gone, .gone], ⟨trivial, trivial, trivial⟩, .tup' ⟨.cl r1, .refl _, trivial⟩⟩
theorem P_Single (p : Pat) (i : Int) (hs : p.Sm) : PCall EE 19 [p.enc, int i] (.tup [.isl 1 (mapE int (p.atP i).si), int (p.atE i)]) := by
 have q1 := P_at p i hs
 have hcl := Pat.closed p
 simp only [Plc.enc] at q1
 have r1 := closedI_int (p.atP i).us
 have r2 := closedI_int (p.atP i).si
 generalize mapE int (p.atP i).us = A1 at *
 generalize mapE int (p.atP i).si = A2 at *
 generalize (p.atP i).fb = f2 at *
 generalize p.atE i = er at *
 obtain ⟨pO, pA, pT, pV, pS, pN, pCo, pCa, pCv, pCf, pCk, pXk, pXn, pXt, hx, hxc, hpO, hpA, hpT, hpV, hpS, hpN⟩ := Pat.form2 p
 rw [hx] at q1 hcl ⊢
 clear hx hs
 refine wordsN ?_; unhygienic intros
 refine fn_body (fn := Tryd.f19) (n := 17) (ac := Trydc19) (rvs := [.t 4, .t 5]) rfl (by decide) Trydp19 rfl rfl rfl ?_
 refine goA 60 ?_
 refine oPA q1 ?_
 refine goA 60 ?_
 refine fn_ret rfl rfl ?_
 exact ⟨[.gone, .gone], ⟨trivial, trivial, trivial⟩, .tup' ⟨.cl r2, .refl _, trivial⟩⟩
theorem P_Returns (p : Pat) (l : List Ex) (hs : p.Sm) (hl : ∀ e ∈ l, e.Sm) (hn : l.length < 1048577) : PCall EE 13 [p.enc, .isl 8 (mapE Ex.enc l)] (.tup [int (p.rtI l), int (p.rtE l)]) := by
 have q1 := P_pattern_Check p hs
 have hcl := Pat.closed p
 have hec := Ex.closedI l
 by_cases hk : p.chk = 0
 rotate_left
 · have hE : p.rtE l = p.chk := by unfold Pat.rtE; rw [if_pos hk]
   have hI : p.rtI l = 0 := by unfold Pat.rtI; rw [if_pos hk]
   rw [hE, hI]
   generalize mapE Ex.enc l = es at *
   generalize p.chk = er at *
   obtain ⟨pO, pA, pT, pV, pS, pN, pCo, pCa, pCv, pCf, pCk, pXk, pXn, pXt, hx, hxc, hpO, hpA, hpT, hpV, hpS, hpN⟩ := Pat.form2 p
   rw [hx] at q1 hcl ⊢
   clear hx hs hE hI
   refine wordsN ?_; unhygienic intros
   have kc : iNe er 0 = true := by simp only [ee]; simpa using hk
   refine fn_body (fn := Tryd.f13) (n := 43) (ac := Trydc13) (rvs := [.t 4, .t 5]) rfl (by decide) Trydp13 rfl rfl rfl ?_
   refine goA 60 ?_
   refine oPA q1 ?_
   refine goB hX 0 (by conv => lhs; cbv; try simp only [kc]; cbv; try simp only [kc]; cbv; try simp only [kc]; cbv; try simp only [kc]; cbv) ?_
   refine goA 60 ?_
   refine fn_ret rfl rfl ?_
   exact ⟨[.gone], ⟨trivial, trivial⟩, .refl _⟩
 have hw := chk_wf hk
 have q2 := P_Bound p hs
 have q3 := P_ones p hs hw
 have hq4 : ∀ e ∈ l, PCall EE 39 [e.enc] (int e.chk) := fun e he => P_expr_Check e (hl e he)
 have hq5 : ∀ e ∈ l, PCall EE 36 [e.enc, p.retP.enc] (int (e.fol p.retP)) := fun e he => P_follows p.retP (by have := bound_len hw; show p.bound.length < _; omega) (by have := ones_len hw; show p.ones.length < _; omega) e (hl e he)
 rw [hk] at q1
 have r1 := closedI_int p.bound
 have r2 := closedI_int p.ones
 have hrc : p.retP.enc = .agg [.isl 1 (mapE int p.bound), .isl 1 (mapE int p.ones), int (-1)] := rfl
 rw [hrc] at hq5
 have hE : p.rtE l = if 256 < l.length then 5 else firstE (retE p.retP) l := by unfold Pat.rtE; rw [if_neg (fun k => k hk)]
 have hI : p.rtI l = if 256 < l.length then 0 else idxE (retE p.retP) l := by unfold Pat.rtI; rw [if_neg (fun k => k hk)]
 rw [hE, hI]
 clear hE hI hrc
 generalize p.retP = s at *
 generalize mapE int p.bound = A1 at *
 generalize mapE int p.ones = A2 at *
 have hcs : (AV.agg [.isl 1 A1, .isl 1 A2, int (-1)]).closed = true := by simp [AV.closed, AV.closedL] at r1 r2 ⊢; exact ⟨r1, r2⟩
 obtain ⟨pO, pA, pT, pV, pS, pN, pCo, pCa, pCv, pCf, pCk, pXk, pXn, pXt, hx, hxc, hpO, hpA, hpT, hpV, hpS, hpN⟩ := Pat.form2 p
 rw [hx] at q1 q2 q3 hcl ⊢
 clear hx hs hw hk
 refine wordsN ?_; unhygienic intros
 generalize hes : mapE Ex.enc l = es at *
 have hel : es.length = l.length := by rw [← hes, mapE_len]
 have kc : iNe 0 0 = false := by simp only [ee]; rfl
 by_cases h256 : 256 < l.length
 · rw [if_pos h256, if_pos h256]
   have kl : iLt 256 (lenA es) = true := by simp only [ee]; simp; omega
   refine fn_body (fn := Tryd.f13) (n := 43) (ac := Trydc13) (rvs := [.t 4, .t 5]) rfl (by decide) Trydp13 rfl rfl rfl ?_
   refine goA 60 ?_
   refine oPA q1 ?_
   refine goB hX 0 (by conv => lhs; cbv; try simp only [kc, kl]; cbv; try simp only [kc, kl]; cbv; try simp only [kc, kl]; cbv; try simp only [kc, kl]; cbv) ?_
   refine goB hX 1 (by conv => lhs; cbv; try simp only [kc, kl]; cbv; try simp only [kc, kl]; cbv; try simp only [kc, kl]; cbv; try simp only [kc, kl]; cbv) ?_
   refine goA 60 ?_
   refine fn_ret rfl rfl ?_
   exact ⟨[.gone], ⟨trivial, trivial⟩, .refl _⟩
 rw [if_neg h256, if_neg h256]
 have kl : iLt 256 (lenA es) = false := by simp only [ee]; simp; omega
 obtain ⟨R, hR⟩ : ∃ R, R = firstE (retE s) l := ⟨_, rfl⟩
 obtain ⟨J, hJ⟩ : ∃ J, J = idxE (retE s) l := ⟨_, rfl⟩
 rw [← hR, ← hJ]
 have hJ2 : J = if R ≠ 0 then 0 + idxE (retE s) l else 0 := by
  by_cases h : R = 0
  · rw [if_neg (fun k => k h), hJ, idx_zero (hR ▸ h)]
  · rw [if_pos h, hJ]; omega
 refine fn_body (fn := Tryd.f13) (n := 43) (ac := Trydc13) (rvs := [.t 4, .t 5]) rfl (by decide) Trydp13 rfl rfl rfl ?_
 refine goA 60 ?_
 refine oPA q1 ?_
 refine goB hX 0 (by conv => lhs; cbv; try simp only [kc, kl]; cbv; try simp only [kc, kl]; cbv; try simp only [kc, kl]; cbv; try simp only [kc, kl]; cbv) ?_
 refine goB hX 1 (by conv => lhs; cbv; try simp only [kc, kl]; cbv; try simp only [kc, kl]; cbv; try simp only [kc, kl]; cbv; try simp only [kc, kl]; cbv) ?_
 refine goA 60 ?_
 refine tr_drawB rfl (by conv => lhs; cbv) rfl ?_
 refine tgA ?_
 refine oPT q2 ?_
 refine tgA ?_
 refine oPT q3 ?_
 refine tgA ?_
 refine tr_nil ⟨rfl, by simp [LooksL, lookAll], ?_⟩
 refine goA 60 ?_
 refine on_loopP (ι := List Ex × List Ex × Int) (fun p => ([(26, int p.2.2), (25, int (lenA es)), (24, .isl 8 es), (7, .ptr 0 0)], [.cells [.isl 1 A1, .isl 1 A2, int (-1)]])) (fun p => l = p.1 ++ p.2.1 ∧ p.2.2 = p.1.length ∧ R = firstE (retE s) p.2.1 ∧ J = (if R ≠ 0 then p.2.2 + idxE (retE s) p.2.1 else 0)) (fun p => p.2.1.length) ([], l, 0) ⟨rfl, rfl, hR, hJ2⟩ ?_ ?_
 · exact (ent_sub [.gone, .to 0] [some 1] ⟨trivial, ⟨by simp, rfl⟩, trivial⟩ ⟨osrc_cells (b := 1) rfl rfl rfl ⟨.cl r1, .cl r2, .refl _, trivial⟩, trivial⟩ ⟨.refl _, .refl _, .cl hec, .refl _, trivial⟩)
 rintro ⟨d, r, i⟩ ⟨g1, gi, gR, gJ⟩
 dsimp only at g1 gi gR gJ ⊢
 cases r with
 | nil =>
  have L1 := len_split g1
  try simp only [List.length] at L1
  have hc : iLt i (lenA es) = false := lt_f e_iLt e_lenA (by omega)
  have gR : R = 0 := gR
  subst gR
  have gJ : J = 0 := gJ
  subst gJ
  refine goB hX 0 (by conv => lhs; cbv; try simp only [hc]; cbv; try simp only [hc]; cbv; try simp only [hc]; cbv; try simp only [hc]; cbv) ?_
  refine goA 60 ?_
  refine loopP_exit ?_
  refine goA 60 ?_
  refine fn_ret rfl rfl ?_
  exact ⟨[.gone], ⟨trivial, trivial⟩, .refl _⟩
 | cons q r =>
  have L1 := len_split g1
  try simp only [List.length] at L1
  have hc : iLt i (lenA es) = true := lt_t e_iLt e_lenA (by omega)
  have hat := el_at e_atA hes g1 gi
  have hqm : q ∈ l := by rw [g1]; simp
  have q4 := hq4 q hqm
  have q5 := hq5 q hqm
  have hqc := Ex.closed q
  have hi2 : iAdd .i64 i 1 = ((d ++ [q]).length : Int) := by rw [List.length_append]; exact inc_w e_iAdd gi (by omega)
  obtain ⟨ck, eck⟩ : ∃ z, z = q.chk := ⟨_, rfl⟩
  obtain ⟨fq, efq⟩ : ∃ z, z = q.fol s := ⟨_, rfl⟩
  have hre : retE s q = if ck ≠ 0 then ck else fq := by rw [eck, efq]; rfl
  rw [← eck] at q4
  rw [← efq] at q5
  rw [firstE, hre] at gR
  rw [idxE, hre] at gJ
  clear eck efq hre
  obtain ⟨qO, qA, qV, qF, qK, qXk, qXn, qXt, hxq⟩ := Ex.form q
  rw [hxq] at hat hqc q4 q5
  by_cases h1 : ck = 0
  · subst h1
    have e1 : (if (0 : Int) ≠ 0 then (0 : Int) else fq) = fq := if_neg (fun k => k rfl)
    rw [e1] at gR gJ
    have w0 : iEq 0 0 = true := by simp only [ee]; rfl
    by_cases h2 : fq = 0
    · subst h2
      rw [if_neg (fun k => k rfl)] at gR
      have e2 : (if (0 : Int) ≠ 0 then (0 : Int) else if firstE (retE s) r ≠ 0 then idxE (retE s) r + 1 else 0) = if firstE (retE s) r ≠ 0 then idxE (retE s) r + 1 else 0 := if_neg (fun k => k rfl)
      rw [e2] at gJ
      have gJ2 : J = if R ≠ 0 then iAdd .i64 i 1 + idxE (retE s) r else 0 := by
       rw [gJ]
       by_cases h : R = 0
       · rw [if_neg (fun k => k h), if_neg (fun k => k h)]
       · rw [if_pos h, if_pos h, if_pos (gR ▸ h), hi2, List.length_append]; simp only [List.length_cons, List.length_nil]; omega
      refine goB hX 0 (by conv => lhs; cbv; try simp only [hc, hat, w0, kc]; cbv; try simp only [hc, hat, w0, kc]; cbv; try simp only [hc, hat, w0, kc]; cbv; try simp only [hc, hat, w0, kc]; cbv) ?_
      refine goB hX 1 (by conv => lhs; cbv; try simp only [hc, hat, w0, kc]; cbv; try simp only [hc, hat, w0, kc]; cbv; try simp only [hc, hat, w0, kc]; cbv; try simp only [hc, hat, w0, kc]; cbv) ?_
      refine oPA q4 ?_
      refine goB hX 0 (by conv => lhs; cbv; try simp only [hc, hat, w0, kc]; cbv; try simp only [hc, hat, w0, kc]; cbv; try simp only [hc, hat, w0, kc]; cbv; try simp only [hc, hat, w0, kc]; cbv) ?_
      refine goA 60 ?_
      refine oPA q5 ?_
      refine goB hX 0 (by conv => lhs; cbv; try simp only [hc, hat, w0, kc]; cbv; try simp only [hc, hat, w0, kc]; cbv; try simp only [hc, hat, w0, kc]; cbv; try simp only [hc, hat, w0, kc]; cbv) ?_
      refine goA 60 ?_
      refine loopP_next (d ++ [q], r, iAdd .i64 i 1) ⟨by simp [g1], hi2, gR, gJ2⟩ (by simp) (ent_sub [.to 0, .gone] [some 0] ⟨⟨by simp, rfl⟩, trivial, trivial⟩ ⟨osrc_cells (b := 0) rfl rfl rfl ⟨.cl r1, .cl r2, .refl _, trivial⟩, trivial⟩ ⟨.refl _, .refl _, .cl hec, .refl _, trivial⟩)
    · rw [if_pos h2] at gR
      subst gR
      rw [if_pos h2, if_pos h2, Int.add_zero] at gJ
      subst gJ
      have w1 : iNe R 0 = true := by simp only [ee]; simpa using h2
      refine goB hX 0 (by conv => lhs; cbv; try simp only [hc, hat, w0, w1]; cbv; try simp only [hc, hat, w0, w1]; cbv; try simp only [hc, hat, w0, w1]; cbv; try simp only [hc, hat, w0, w1]; cbv) ?_
      refine goB hX 1 (by conv => lhs; cbv; try simp only [hc, hat, w0, w1]; cbv; try simp only [hc, hat, w0, w1]; cbv; try simp only [hc, hat, w0, w1]; cbv; try simp only [hc, hat, w0, w1]; cbv) ?_
      refine oPA q4 ?_
      refine goB hX 0 (by conv => lhs; cbv; try simp only [hc, hat, w0, w1]; cbv; try simp only [hc, hat, w0, w1]; cbv; try simp only [hc, hat, w0, w1]; cbv; try simp only [hc, hat, w0, w1]; cbv) ?_
      refine goA 60 ?_
      refine oPA q5 ?_
      refine goB hX 0 (by conv => lhs; cbv; try simp only [hc, hat, w0, w1]; cbv; try simp only [hc, hat, w0, w1]; cbv; try simp only [hc, hat, w0, w1]; cbv; try simp only [hc, hat, w0, w1]; cbv) ?_
      refine goA 60 ?_
      refine loopP_ret ?_
      refine goA 60 ?_
      refine fn_ret rfl rfl ?_
      exact ⟨[.gone, .gone], ⟨trivial, trivial, trivial⟩, .refl _⟩
  · rw [if_pos h1, if_pos h1] at gR
    subst gR
    rw [if_pos h1, if_pos h1, if_pos h1, Int.add_zero] at gJ
    subst gJ
    have w0 : iEq R 0 = false := by simp only [ee]; simpa using h1
    have w1 : iNe R 0 = true := by simp only [ee]; simpa using h1
    refine goB hX 0 (by conv => lhs; cbv; try simp only [hc, hat, w0, w1]; cbv; try simp only [hc, hat, w0, w1]; cbv; try simp only [hc, hat, w0, w1]; cbv; try simp only [hc, hat, w0, w1]; cbv) ?_
    refine goB hX 1 (by conv => lhs; cbv; try simp only [hc, hat, w0, w1]; cbv; try simp only [hc, hat, w0, w1]; cbv; try simp only [hc, hat, w0, w1]; cbv; try simp only [hc, hat, w0, w1]; cbv) ?_
    refine oPA q4 ?_
    refine goB hX 0 (by conv => lhs; cbv; try simp only [hc, hat, w0, w1]; cbv; try simp only [hc, hat, w0, w1]; cbv; try simp only [hc, hat, w0, w1]; cbv; try simp only [hc, hat, w0, w1]; cbv) ?_
    refine goB hX 1 (by conv => lhs; cbv; try simp only [hc, hat, w0, w1]; cbv; try simp only [hc, hat, w0, w1]; cbv; try simp only [hc, hat, w0, w1]; cbv; try simp only [hc, hat, w0, w1]; cbv) ?_
    refine goA 60 ?_
    refine loopP_ret ?_
    refine goA 60 ?_
    refine fn_ret rfl rfl ?_
    exact ⟨[.gone, .gone], ⟨trivial, trivial, trivial⟩, .refl _⟩
theorem PCall.weakA {E : Env} {f : FuncId} {args args' : List AV} {v : AV} (h : PCall E f args' v) (hw : Wk2L 0 args args') : PCall E f args v := by
 refine ⟨h.1, fun K w ys hh hv => h.2 K w ys hh ?_⟩
 obtain ⟨hl, hc⟩ := hw.spec
 refine ⟨hl ▸ hv.1, fun i x' y hx hy => ?_⟩
 obtain ⟨x, hx0⟩ : ∃ x, args[i]? = some x := ⟨_, List.getElem?_eq_getElem (by have := (List.getElem?_eq_some_iff.1 hx).1; omega)⟩
 exact (hc i x x' hx0 hx).rep (hv.2 i x y hx0 hy)
theorem leaf_enc (o v : Int) : (leafE o v).enc = .agg [int o, .isl 8 [], int v, int 0, int 0, int 0, int 0, str ⟨#[]⟩] := by
 rw [leafE, Ex.enc_mk, mapE_eq]; rfl
abbrev leafN (o v : Int) : AV := .agg [int o, .val (.slice none 0 0), int v, int 0, int 0, int 0, int 0, str ⟨#[]⟩]
theorem leaf_wk (o v : Int) : Wk2 0 (leafN o v) (leafE o v).enc := by
 rw [leaf_enc]
 exact .agg' ⟨.refl _, .nilI _, .refl _, .refl _, .refl _, .refl _, .refl _, .refl _, trivial⟩
theorem P_awake : PCall EE 11 [] (bool true) := by
 have sA := ex15_sm yes15_sm yes15_sm
 have q1 := P_truth
 have q2 := P_ex15 yesE yesE
 have q3 := P_Usable (ex15 yesE yesE) 4 sA
 have q4 := P_Single (ex15 yesE yesE) 4 sA
 have q5 := P_Single (ex15 yesE yesE) 3 sA
 have q6 := (P_below (leafE 1 1)).weakA (args := [leafN 1 1]) ⟨leaf_wk _ _, trivial⟩
 have q7 := P_ex15 yesE (belowE (leafE 1 1))
 have q8 := P_scCheck (ex15 yesE (belowE (leafE 1 1))) (ex15_sm yes15_sm (below_sm _ _))
 have q9 := (P_below (leafE 1 2)).weakA (args := [leafN 1 2]) ⟨leaf_wk _ _, trivial⟩
 have qA := P_ex15 (belowE (leafE 1 2)) yesE
 have qB := P_scCheck (ex15 (belowE (leafE 1 2)) yesE) (ex15_sm (below_sm _ _) yes15_sm)
 have qC := (P_below (leafE 3 1)).weakA (args := [leafN 3 1]) ⟨leaf_wk _ _, trivial⟩
 have qD := P_ex15 yesE (belowE (leafE 3 1))
 have qE := P_scCheck (ex15 yesE (belowE (leafE 3 1))) (ex15_sm yes15_sm (below_sm _ _))
 have qF := P_Returns (ex15 yesE yesE) [leafE 1 0, leafE 3 1, leafE 2 1] sA (fun e he => by
  simp only [List.mem_cons, List.not_mem_nil, or_false] at he
  rcases he with rfl | rfl | rfl <;> exact leaf_sm _ _) (by decide)
 have qG := P_Equal [0, 1, 2] (by decide)
 have qH := P_Equal [0, 2] (by decide)
 have qI := P_Equal [0, 1] (by decide)
 obtain ⟨a1, a2⟩ := ex15_at4 yes15_chk yes15_chk
 obtain ⟨a3, a4⟩ := ex15_at3 yes15_chk yes15_chk
 rw [a1, a2] at q3 q4
 rw [a3, a4] at q5
 rw [sc_a.1, sc_a.2] at q8
 rw [sc_b.1, sc_b.2] at qB
 rw [sc_c.1, sc_c.2] at qE
 rw [rt_a.1, rt_a.2] at qF
 simp only [mapE_eq, List.map_cons, List.map_nil] at q3 q4 q5 qF qG qH qI
 have qF := qF.weakA (args := [(ex15 yesE yesE).enc, .isl 8 [leafN 1 0, leafN 3 1, leafN 2 1]]) ⟨.refl _, .isl' (by
  rw [leaf_enc, leaf_enc, leaf_enc]
  exact ⟨⟨.refl _, .nilI _, .refl _, .refl _, .refl _, .refl _, .refl _, .refl _, trivial⟩, ⟨.refl _, .nilI _, .refl _, .refl _, .refl _, .refl _, .refl _, .refl _, trivial⟩, ⟨.refl _, .nilI _, .refl _, .refl _, .refl _, .refl _, .refl _, .refl _, trivial⟩, trivial⟩), trivial⟩
 have k1 := Pat.closed (ex15 yesE yesE)
 have k2 := Pat.closed (ex15 yesE (belowE (leafE 1 1)))
 have k3 := Pat.closed (ex15 (belowE (leafE 1 2)) yesE)
 have k4 := Pat.closed (ex15 yesE (belowE (leafE 3 1)))
 have k5 := Ex.closed (belowE (leafE 1 1))
 have k6 := Ex.closed (belowE (leafE 1 2))
 have k7 := Ex.closed (belowE (leafE 3 1))
 have k8 := Ex.closed yesE
 clear sA a1 a2 a3 a4
 generalize ex15 yesE yesE = pa at *
 generalize ex15 yesE (belowE (leafE 1 1)) = pb at *
 generalize ex15 (belowE (leafE 1 2)) yesE = pc at *
 generalize ex15 yesE (belowE (leafE 3 1)) = pd at *
 generalize belowE (leafE 1 1) = ea at *
 generalize belowE (leafE 1 2) = eb at *
 generalize belowE (leafE 3 1) = ec at *
 generalize yesE = ey at *
 obtain ⟨paO, paA, paT, paV, paS, paN, paCo, paCa, paCv, paCf, paCk, paXk, paXn, paXt, hxa⟩ := Pat.form pa
 obtain ⟨pbO, pbA, pbT, pbV, pbS, pbN, pbCo, pbCa, pbCv, pbCf, pbCk, pbXk, pbXn, pbXt, hxb⟩ := Pat.form pb
 obtain ⟨pcO, pcA, pcT, pcV, pcS, pcN, pcCo, pcCa, pcCv, pcCf, pcCk, pcXk, pcXn, pcXt, hxc⟩ := Pat.form pc
 obtain ⟨pdO, pdA, pdT, pdV, pdS, pdN, pdCo, pdCa, pdCv, pdCf, pdCk, pdXk, pdXn, pdXt, hxd⟩ := Pat.form pd
 obtain ⟨eaO, eaA, eaV, eaF, eaK, eaXk, eaXn, eaXt, hya⟩ := Ex.form ea
 obtain ⟨ebO, ebA, ebV, ebF, ebK, ebXk, ebXn, ebXt, hyb⟩ := Ex.form eb
 obtain ⟨ecO, ecA, ecV, ecF, ecK, ecXk, ecXn, ecXt, hyc⟩ := Ex.form ec
 obtain ⟨eyO, eyA, eyV, eyF, eyK, eyXk, eyXn, eyXt, hyy⟩ := Ex.form ey
 rw [hxa] at q2 q3 q4 q5 qF k1
 rw [hxb] at q7 q8 k2
 rw [hxc] at qA qB k3
 rw [hxd] at qD qE k4
 rw [hya] at q6 q7 k5
 rw [hyb] at q9 qA k6
 rw [hyc] at qC qD k7
 rw [hyy] at q1 q2 q7 qA qD k8
 clear hxa hxb hxc hxd hya hyb hyc hyy
 refine wordsN ?_; unhygienic intros
 have t1 : ∀ x : Int, iNe x x = false := fun x => by simp only [ee]; simp
 have t2 : ∀ x : Int, iEq x x = true := fun x => by simp only [ee]; simp
 refine fn_body (fn := Tryd.f11) (n := 122) (ac := Trydc11) (rvs := [.t 0]) rfl (by decide) Trydp11 rfl rfl rfl ?_
 refine goA 60 ?_
 refine oPA q1 ?_
 refine oPA q1 ?_
 refine oPA q2 ?_
 refine goA 60 ?_
 refine oPA q3 ?_
 refine goA 60 ?_
 refine oPA q4 ?_
 refine goA 60 ?_
 refine oPA q5 ?_
 refine goA 60 ?_
 refine tr_drawB rfl (by conv => lhs; cbv) rfl ?_
 refine oPT q1 ?_
 refine tgA ?_
 refine oPT q6 ?_
 refine oPT q7 ?_
 refine oPT q8 ?_
 refine tgA ?_
 refine tr_nil ⟨rfl, by simp [LooksL, lookAll], ?_⟩
 refine goA 60 ?_
 refine oPA q9 ?_
 refine oPA q1 ?_
 refine oPA qA ?_
 refine oPA qB ?_
 refine goA 60 ?_
 refine tr_drawB rfl (by conv => lhs; cbv) rfl ?_
 refine oPT q1 ?_
 refine tgA ?_
 refine oPT qC ?_
 refine oPT qD ?_
 refine oPT qE ?_
 refine tgA ?_
 refine tr_nil ⟨rfl, by simp [LooksL, lookAll], ?_⟩
 refine goA 60 ?_
 refine on_lend rfl rfl qF rfl ⟨[.gone, .gone, .gone, .isl 8 ([AV.agg [AV.val (Value.int IntKind.i64 1), AV.val (Value.slice none 0 0), AV.val (Value.int IntKind.i64 0), AV.val (Value.int IntKind.i64 0), AV.val (Value.int IntKind.i64 0), AV.val (Value.int IntKind.i64 0), AV.val (Value.int IntKind.i64 0), AV.val (Value.string { data := { toList := [] } })], AV.agg [AV.val (Value.int IntKind.i64 3), AV.val (Value.slice none 0 0), AV.val (Value.int IntKind.i64 1), AV.val (Value.int IntKind.i64 0), AV.val (Value.int IntKind.i64 0), AV.val (Value.int IntKind.i64 0), AV.val (Value.int IntKind.i64 0), AV.val (Value.string { data := { toList := [] } })], AV.agg [AV.val (Value.int IntKind.i64 2), AV.val (Value.slice none 0 0), AV.val (Value.int IntKind.i64 1), AV.val (Value.int IntKind.i64 0), AV.val (Value.int IntKind.i64 0), AV.val (Value.int IntKind.i64 0), AV.val (Value.int IntKind.i64 0), AV.val (Value.string { data := { toList := [] } })]])], ⟨trivial, trivial, trivial, ⟨_, rfl, (subL_closed _ (by rfl)).symm⟩, trivial⟩, ⟨.cl k1, .refl _, trivial⟩⟩ ?_
 refine goB hX 0 (by conv => lhs; cbv; try simp only [t1, t2]; cbv; try simp only [t1, t2]; cbv; try simp only [t1, t2]; cbv; try simp only [t1, t2]; cbv) ?_
 refine on_cond rfl (fun c1 => ?_) (fun c1 => ?_)
 ·
  simp [ee] at c1
 ·
  simp [ee] at c1
  refine goA 60 ?_
  refine on_lend rfl rfl qG rfl ⟨[.gone, .gone, .gone, .gone, .isl 1 ([AV.val (Value.int IntKind.i64 0), AV.val (Value.int IntKind.i64 1), AV.val (Value.int IntKind.i64 2)])], ⟨trivial, trivial, trivial, trivial, ⟨_, rfl, (subL_closed _ (by rfl)).symm⟩, trivial⟩, ⟨.refl _, .refl _, trivial⟩⟩ ?_
  refine goA 60 ?_
  refine on_lend rfl rfl qH rfl ⟨[.gone, .gone, .gone, .gone, .gone, .isl 1 ([AV.val (Value.int IntKind.i64 0), AV.val (Value.int IntKind.i64 2)])], ⟨trivial, trivial, trivial, trivial, trivial, ⟨_, rfl, (subL_closed _ (by rfl)).symm⟩, trivial⟩, ⟨.refl _, .refl _, trivial⟩⟩ ?_
  refine goA 60 ?_
  refine on_lend rfl rfl qI rfl ⟨[.gone, .gone, .gone, .gone, .gone, .gone, .isl 1 ([AV.val (Value.int IntKind.i64 0), AV.val (Value.int IntKind.i64 1)])], ⟨trivial, trivial, trivial, trivial, trivial, trivial, ⟨_, rfl, (subL_closed _ (by rfl)).symm⟩, trivial⟩, ⟨.refl _, .refl _, trivial⟩⟩ ?_
  refine goA 60 ?_
  refine fn_ret rfl rfl (.val ?_)
  exact congrArg Value.bool (by simp only [ee]; simp)
mutual
def Pat.tot (lim : Nat) : Pat → Nat
 | .mk _ a _ _ _ _ _ => Pat.totL lim 1 a
def Pat.totL (lim : Nat) : Nat → List Pat → Nat
 | n, [] => n
 | n, e :: r => if n ≤ lim then Pat.totL lim (n + e.tot lim) r else n
end
theorem Pat.totL_le {lim : Nat} {l : List Pat} (h : ∀ e ∈ l, e.tot lim ≤ e.cnt) : ∀ n, Pat.totL lim n l ≤ n + Pat.cntL l := by
 induction l with
 | nil => intro n; simp [Pat.totL]
 | cons e r ih =>
  intro n
  have h1 := h e (by simp)
  have h2 := ih (fun e he => h e (by simp [he])) (n + e.tot lim)
  simp only [Pat.totL, Pat.cntL]; split <;> omega
theorem Pat.tot_le (lim : Nat) : ∀ e : Pat, e.tot lim ≤ e.cnt := Pat.ind fun o a t v s n c h => by
 have := Pat.totL_le h 1
 simp only [Pat.tot, Pat.cnt]; omega
theorem Pat.totL_eq {lim : Nat} {l : List Pat} (h : ∀ e ∈ l, e.cnt ≤ lim → e.tot lim = e.cnt) : ∀ n, n + Pat.cntL l ≤ lim → Pat.totL lim n l = n + Pat.cntL l := by
 induction l with
 | nil => intro n _; simp [Pat.totL, Pat.cntL]
 | cons e r ih =>
  intro n hn
  simp only [Pat.cntL] at hn ⊢
  have h1 := h e (by simp) (by omega)
  rw [Pat.totL, if_pos (by omega), ih (fun e he => h e (by simp [he])) _ (by omega)]; omega
theorem Pat.tot_eq {lim : Nat} : ∀ e : Pat, e.cnt ≤ lim → e.tot lim = e.cnt := Pat.ind fun o a t v s n c h hl => by
 simp only [Pat.tot, Pat.cnt] at hl ⊢
 exact Pat.totL_eq h 1 hl
theorem Pat.totL_gt {lim : Nat} {l : List Pat} (h : ∀ e ∈ l, lim < e.cnt → lim < e.tot lim) : ∀ n, lim < n + Pat.cntL l → lim < Pat.totL lim n l := by
 induction l with
 | nil => intro n hn; simpa [Pat.totL, Pat.cntL] using hn
 | cons e r ih =>
  intro n hn
  simp only [Pat.cntL] at hn
  rw [Pat.totL]
  split
  · refine ih (fun e he => h e (by simp [he])) _ ?_
    by_cases hc : e.cnt ≤ lim
    · rw [Pat.tot_eq e hc]; omega
    · have := h e (by simp) (by omega); omega
  · omega
theorem Pat.tot_gt {lim : Nat} : ∀ e : Pat, lim < e.cnt → lim < e.tot lim := Pat.ind fun o a t v s n c h hl => by
 simp only [Pat.tot, Pat.cnt] at hl ⊢
 exact Pat.totL_gt h 1 hl
theorem Pat.tot_iff (e : Pat) (lim : Nat) : e.tot lim ≤ lim ↔ e.cnt ≤ lim := by
 by_cases h : e.cnt ≤ lim
 · rw [Pat.tot_eq e h]
 · have := Pat.tot_gt (lim := lim) e (by omega); omega
theorem P_ref09_Total (lim : Nat) (hlim : lim ≤ 1099511627776) : ∀ p : Pat, p.Sm → PCall EE 53 [p.enc, int lim] (int (p.tot lim)) := by
 generalize hli : (lim : Int) = li
 refine Pat.ind ?_
 intro o a t v s n c ih hs
 obtain ⟨co, ca, cv, cf, ck, xk, xn, xt⟩ := c
 have hlen := hs.len
 have hih : ∀ q ∈ a, PCall EE 53 [q.enc, int li] (int (q.tot lim)) := fun q hq => ih q hq (hs.arg hq)
 have hcl := Pat.closedI a
 have hce := Ex.closedI ca
 have hcnt : Pat.cntL a ≤ 1048576 := by have hs := hs.1; simp only [Pat.cnt] at hs; omega
 have hde := fun q : Pat => Pat.tot_le lim q
 simp only [Pat.tot]
 obtain ⟨R, hR⟩ : ∃ R, R = Pat.totL lim 1 a := ⟨_, rfl⟩
 rw [← hR, Pat.enc_mk]
 refine wordsN ?_; unhygienic intros
 generalize hes : mapE Pat.enc a = es at *
 generalize mapE Ex.enc ca = ec at *
 have hel : es.length = a.length := by rw [← hes, mapE_len]
 refine fn_body (fn := Tryd.f53) (n := 29) (ac := Trydc53) (rvs := [.t 4]) rfl (by decide) Trydp53 rfl rfl rfl ?_
 refine goA 60 ?_
 refine on_loopP (ι := List Pat × List Pat × Int × Int) (fun p => ([(5, int p.2.2.2), (6, int p.2.2.1), (1, int li), (2, .ptr 0 0)], [.cells [int o, .isl 14 es, int t, int v, int s, int n, int co, .isl 8 ec, int cv, int cf, int ck, int xk, int xn, str xt]])) (fun p => a = p.1 ++ p.2.1 ∧ p.2.2.1 = p.1.length ∧ p.2.2.2 ≤ 1 + Pat.cntL p.1 ∧ 0 ≤ p.2.2.2 ∧ R = Pat.totL lim p.2.2.2.toNat p.2.1) (fun p => p.2.1.length) ([], a, 0, 1) ⟨rfl, rfl, by simp [Pat.cntL], by simp, hR⟩ ?_ ?_
 · exact (ent_sub [.to 0] [some 0] ⟨⟨by simp, rfl⟩, trivial⟩ ⟨osrc_cells (b := 0) rfl rfl rfl ⟨.refl _, .cl hcl, .refl _, .refl _, .refl _, .refl _, .refl _, .cl hce, .refl _, .refl _, .refl _, .refl _, .refl _, .refl _, trivial⟩, trivial⟩ ⟨.refl _, .refl _, .refl _, .refl _, trivial⟩)
 rintro ⟨d, r, i, nn⟩ ⟨g1, gi, gn, gp, gt⟩
 dsimp only at g1 gi gn gp gt ⊢
 have hnt : (nn.toNat : Int) = nn := Int.toNat_of_nonneg gp
 cases r with
 | nil =>
  have L1 := len_split g1
  try simp only [List.length] at L1
  have hc : iLt i (lenA es) = false := lt_f e_iLt e_lenA (by omega)
  rw [Pat.totL] at gt
  have hv : nn = (R : Int) := by omega
  have hb : ∀ b, bAnd false b = false := by simp [ee]
  refine goB hX 0 (by conv => lhs; cbv; try simp only [hc, hb]; cbv; try simp only [hc, hb]; cbv; try simp only [hc, hb]; cbv; try simp only [hc, hb]; cbv) ?_
  refine goA 60 ?_
  refine loopP_exit ?_
  refine goA 60 ?_
  refine fn_ret rfl rfl (.val ?_)
  exact congrArg (Value.int .i64) hv
 | cons q r =>
  have L1 := len_split g1
  try simp only [List.length] at L1
  have hc : iLt i (lenA es) = true := lt_t e_iLt e_lenA (by omega)
  have hat := el_at e_atA hes g1 gi
  have hq := hih q (by rw [g1]; simp)
  have hqc := Pat.closed q
  have hqd := hde q
  rw [g1, Pat.cntL_append, Pat.cntL] at hcnt
  obtain ⟨qO, qA, qT, qV, qS, qN, qCo, qCa, qCv, qCf, qCk, qXk, qXn, qXt, hx⟩ := Pat.form q
  rw [hx] at hq hat hqc
  have hb : ∀ b, bAnd true b = b := by simp [ee]
  rw [Pat.totL] at gt
  by_cases hle : nn ≤ li
  · have h2 : iLe nn li = true := by simp [ee]; omega
    rw [if_pos (by omega)] at gt
    generalize hqn : (q.tot lim : Int) = qn at hq
    have hn2 : iAdd .i64 nn qn = nn + qn := add_w e_iAdd (by omega) (by omega)
    have hi2 : iAdd .i64 i 1 = ((d ++ [q]).length : Int) := by rw [List.length_append]; exact inc_w e_iAdd gi (by omega)
    have hn4 : iAdd .i64 nn qn ≤ 1 + Pat.cntL (d ++ [q]) ∧ 0 ≤ iAdd .i64 nn qn := by rw [Pat.cntL_append, Pat.cntL, Pat.cntL, hn2]; omega
    have hn3 : (iAdd .i64 nn qn).toNat = nn.toNat + q.tot lim := by omega
    refine goB hX 0 (by conv => lhs; cbv; try simp only [hc, hat, hb, h2]; cbv; try simp only [hc, hat, hb, h2]; cbv; try simp only [hc, hat, hb, h2]; cbv; try simp only [hc, hat, hb, h2]; cbv) ?_
    refine goB hX 1 (by conv => lhs; cbv; try simp only [hc, hat, hb, h2]; cbv; try simp only [hc, hat, hb, h2]; cbv; try simp only [hc, hat, hb, h2]; cbv; try simp only [hc, hat, hb, h2]; cbv) ?_
    refine oPA hq ?_
    refine goA 60 ?_
    refine loopP_next (d ++ [q], r, iAdd .i64 i 1, iAdd .i64 nn qn) ⟨by simp [g1], hi2, hn4.1, hn4.2, hn3 ▸ gt⟩ (by simp) (ent_sub [.to 0] [some 0] ⟨⟨by simp, rfl⟩, trivial⟩ ⟨osrc_cells (b := 0) rfl rfl rfl ⟨.refl _, .cl hcl, .refl _, .refl _, .refl _, .refl _, .refl _, .cl hce, .refl _, .refl _, .refl _, .refl _, .refl _, .refl _, trivial⟩, trivial⟩ ⟨.refl _, .refl _, .refl _, .refl _, trivial⟩)
  · have h2 : iLe nn li = false := by simp [ee]; omega
    rw [if_neg (by omega)] at gt
    have hv : nn = (R : Int) := by omega
    refine goB hX 0 (by conv => lhs; cbv; try simp only [hc, hat, hb, h2]; cbv; try simp only [hc, hat, hb, h2]; cbv; try simp only [hc, hat, hb, h2]; cbv; try simp only [hc, hat, hb, h2]; cbv) ?_
    refine goA 60 ?_
    refine loopP_exit ?_
    refine goA 60 ?_
    refine fn_ret rfl rfl (.val ?_)
    exact congrArg (Value.int .i64) hv
noncomputable def Pat.nVars (p : Pat) : Int := if p.chk = 0 then (cfold p.nodes).1 else 0
noncomputable def Pat.nScs (p : Pat) : Int := if p.chk = 0 then (cfold p.nodes).2.1 else 0
theorem P_pattern_Count (p : Pat) (hs : p.Sm) : PCall EE 23 [p.enc] (.tup [int p.nVars, int p.nScs, int p.chk]) := by
 have h1 := P_pattern_Check p hs
 have h2 := fun h : p.chk = 0 => P_count p hs fun q hq => nodeE_op ((wholeE_ok (chk_zero h).1).2.1 q hq)
 have hcl := Pat.closed p
 obtain ⟨A, hA⟩ : ∃ R, R = p.nVars := ⟨_, rfl⟩
 obtain ⟨B, hB⟩ : ∃ R, R = p.nScs := ⟨_, rfl⟩
 rw [← hA, ← hB]
 unfold Pat.nVars at hA
 unfold Pat.nScs at hB
 generalize p.chk = ck at *
 generalize (cfold p.nodes).1 = c1 at *
 generalize (cfold p.nodes).2.1 = c2 at *
 generalize (cfold p.nodes).2.2 = c3 at *
 obtain ⟨pO, pA, pT, pV, pS, pN, pCo, pCa, pCv, pCf, pCk, pXk, pXn, pXt, hx⟩ := Pat.form p
 rw [hx] at h1 h2 hcl ⊢
 refine wordsN ?_; unhygienic intros
 refine fn_body (fn := Tryd.f23) (n := 22) (ac := Trydc23) (rvs := [.t 2, .t 3, .t 4]) rfl (by decide) Trydp23 rfl rfl rfl ?_
 by_cases g1 : ck = 0
 · have k1 : iNe ck 0 = false := by simp only [ee]; simpa using g1
   have h2 := h2 g1
   rw [if_pos g1] at hA hB
   rw [hA, hB, g1]
   rw [g1] at h1 k1
   refine goA 60 ?_
   refine oPA h1 ?_
   refine goB hX 0 (by conv => lhs; cbv; try simp only [k1]; cbv; try simp only [k1]; cbv; try simp only [k1]; cbv; try simp only [k1]; cbv) ?_
   refine goA 60 ?_
   refine oPA h2 ?_
   refine goA 60 ?_
   refine fn_ret rfl rfl ?_
   exact ⟨[.gone], ⟨trivial, trivial⟩, .refl _⟩
 · have k1 : iNe ck 0 = true := by simp only [ee]; simpa using g1
   rw [if_neg g1] at hA hB
   rw [hA, hB]
   refine goA 60 ?_
   refine oPA h1 ?_
   refine goB hX 0 (by conv => lhs; cbv; try simp only [k1]; cbv; try simp only [k1]; cbv; try simp only [k1]; cbv; try simp only [k1]; cbv) ?_
   refine goA 60 ?_
   refine fn_ret rfl rfl ?_
   exact ⟨[.gone], ⟨trivial, trivial⟩, .refl _⟩
def Ex.few (e : Ex) : Bool := decide (e.cnt ≤ 200) && decide (e.dep ≤ 100)
def Pat.few (p : Pat) : Bool := decide (p.cnt ≤ 150) && decide (p.dep ≤ 60) && p.nodes.all (fun q => q.cond.few)
theorem P_ref08_Few (e : Ex) (hs : e.Sm) : PCall EE 9 [e.enc] (bool e.few) := by
 have h1 : PCall EE 29 [e.enc, int 200] (int (e.tot 200)) := P_ref08_Count 200 (by omega) e hs
 have h2 := P_ref08_Depth e hs
 have hcl := Ex.closed e
 obtain ⟨R, hR⟩ : ∃ R, R = e.few := ⟨_, rfl⟩
 rw [← hR]
 unfold Ex.few at hR
 have ht := Ex.tot_iff e 200
 obtain ⟨eO, eA, eV, eF, eK, eXk, eXn, eXt, hx⟩ := Ex.form e
 rw [hx] at h1 h2 hcl ⊢
 refine wordsN ?_; unhygienic intros
 generalize ht1 : (e.tot 200 : Int) = tn at *
 generalize ht2 : (e.dep : Int) = dn at *
 refine fn_body (fn := Tryd.f9) (n := 11) (ac := Trydc9) (rvs := [.t 2]) rfl (by decide) Trydp9 rfl rfl rfl ?_
 by_cases hc1 : e.cnt ≤ 200
 · have w1 : iLe tn 200 = true := by simp only [ee]; simp; omega
   by_cases hc2 : e.dep ≤ 100
   · have w2 : iLe dn 100 = true := by simp only [ee]; simp; omega
     have hR : R = true := by rw [hR]; simp [hc1, hc2]
     refine goA 60 ?_
     refine oPA h1 ?_
     refine goB hX 0 (by conv => lhs; cbv; try simp only [w1, w2]; cbv; try simp only [w1, w2]; cbv; try simp only [w1, w2]; cbv; try simp only [w1, w2]; cbv) ?_
     refine goA 60 ?_
     refine oPG h2 ?_
     refine goA 60 ?_
     refine fn_ret rfl rfl (.val ?_)
     exact congrArg Value.bool (by rw [w2, hR]; simp [ee])
   · have w2 : iLe dn 100 = false := by simp only [ee]; simp; omega
     have hR : R = false := by rw [hR]; simp [hc2]
     refine goA 60 ?_
     refine oPA h1 ?_
     refine goB hX 0 (by conv => lhs; cbv; try simp only [w1, w2]; cbv; try simp only [w1, w2]; cbv; try simp only [w1, w2]; cbv; try simp only [w1, w2]; cbv) ?_
     refine goA 60 ?_
     refine oPG h2 ?_
     refine goA 60 ?_
     refine fn_ret rfl rfl (.val ?_)
     exact congrArg Value.bool (by rw [w2, hR]; simp [ee])
 · have w1 : iLe tn 200 = false := by simp only [ee]; simp; omega
   have hR : R = false := by rw [hR]; simp [hc1]
   refine goA 60 ?_
   refine oPA h1 ?_
   refine goB hX 0 (by conv => lhs; cbv; try simp only [w1]; cbv; try simp only [w1]; cbv; try simp only [w1]; cbv; try simp only [w1]; cbv) ?_
   refine goA 60 ?_
   refine on_gskip rfl rfl ?_
   refine goA 60 ?_
   refine fn_ret rfl rfl (.val ?_)
   exact congrArg Value.bool hR.symm
theorem P_ref09_Few (p : Pat) (hs : p.Sm) : PCall EE 28 [p.enc] (bool p.few) := by
 have h1 : PCall EE 53 [p.enc, int 150] (int (p.tot 150)) := P_ref09_Total 150 (by omega) p hs
 have h2 := P_ref09_Depth p hs
 have h3 := P_ref09_Nodes p hs
 have hsn := hs.node
 have hnl := Pat.nodes_len p
 have hcn := hs.1
 have hcl := Pat.closed p
 have hcn2 := Pat.closedI p.nodes
 obtain ⟨R, hR⟩ : ∃ R, R = p.few := ⟨_, rfl⟩
 rw [← hR]
 unfold Pat.few at hR
 have ht := Pat.tot_iff p 150
 obtain ⟨pO, pA, pT, pV, pS, pN, pCo, pCa, pCv, pCf, pCk, pXk, pXn, pXt, hx⟩ := Pat.form p
 rw [hx] at h1 h2 h3 hcl ⊢
 refine wordsN ?_; unhygienic intros
 generalize ht1 : (p.tot 150 : Int) = tn at *
 generalize ht2 : (p.dep : Int) = dn at *
 generalize hnod : p.nodes = nl at *
 generalize hes : mapE Pat.enc nl = es at *
 have hel : es.length = nl.length := by rw [← hes, mapE_len]
 refine fn_body (fn := Tryd.f28) (n := 28) (ac := Trydc28) (rvs := [.t 2]) rfl (by decide) Trydp28 rfl rfl rfl ?_
 by_cases hc1 : p.cnt ≤ 150
 rotate_left
 · have w1 : iLt 150 tn = true := by simp only [ee]; simp; omega
   have hR : R = false := by rw [hR]; simp [hc1]
   refine goA 60 ?_
   refine oPA h1 ?_
   refine goB hX 0 (by conv => lhs; cbv; try simp only [w1]; cbv; try simp only [w1]; cbv; try simp only [w1]; cbv; try simp only [w1]; cbv) ?_
   refine goA 60 ?_
   refine on_gskip rfl rfl ?_
   refine goA 60 ?_
   refine fn_ret rfl rfl (.val ?_)
   exact congrArg Value.bool hR.symm
 have w1 : iLt 150 tn = false := by simp only [ee]; simp; omega
 by_cases hc2 : p.dep ≤ 60
 rotate_left
 · have w2 : iLt 60 dn = true := by simp only [ee]; simp; omega
   have hR : R = false := by rw [hR]; simp [hc2]
   refine goA 60 ?_
   refine oPA h1 ?_
   refine goB hX 0 (by conv => lhs; cbv; try simp only [w1, w2]; cbv; try simp only [w1, w2]; cbv; try simp only [w1, w2]; cbv; try simp only [w1, w2]; cbv) ?_
   refine goA 60 ?_
   refine oPG h2 ?_
   refine goB hX 0 (by conv => lhs; cbv; try simp only [w1, w2]; cbv; try simp only [w1, w2]; cbv; try simp only [w1, w2]; cbv; try simp only [w1, w2]; cbv) ?_
   refine on_cond rfl (fun c1 => ?_) (fun c1 => ?_)
   ·
    simp [ee] at c1
    refine goA 60 ?_
    refine fn_ret rfl rfl (.val ?_)
    exact congrArg Value.bool hR.symm
   ·
    simp [ee] at c1
 have w2 : iLt 60 dn = false := by simp only [ee]; simp; omega
 have hR : R = nl.all (fun q => q.cond.few) := by rw [hR]; simp [hc1, hc2]
 have hor : ∀ b, bOr false b = b := by simp [ee]
 refine goA 60 ?_
 refine oPA h1 ?_
 refine goB hX 0 (by conv => lhs; cbv; try simp only [w1, w2, hor]; cbv; try simp only [w1, w2, hor]; cbv; try simp only [w1, w2, hor]; cbv; try simp only [w1, w2, hor]; cbv) ?_
 refine goA 60 ?_
 refine oPG h2 ?_
 refine goB hX 0 (by conv => lhs; cbv; try simp only [w1, w2, hor]; cbv; try simp only [w1, w2, hor]; cbv; try simp only [w1, w2, hor]; cbv; try simp only [w1, w2, hor]; cbv) ?_
 refine goA 60 ?_
 refine oPA h3 ?_
 refine goA 60 ?_
 refine on_loopP (ι := List Pat × List Pat × Int) (fun p => ([(3, .isl 14 es), (4, int p.2.2)], [])) (fun p => nl = p.1 ++ p.2.1 ∧ p.2.2 = p.1.length ∧ R = p.2.1.all (fun q => q.cond.few)) (fun p => p.2.1.length) ([], nl, 0) ⟨rfl, rfl, hR⟩ ?_ ?_
 · exact (ent_sub [.gone] [] ⟨trivial, trivial⟩ trivial ⟨.cl hcn2, .refl _, trivial⟩)
 rintro ⟨d, r, i⟩ ⟨g1, gi, gR⟩
 dsimp only at g1 gi gR ⊢
 cases r with
 | nil =>
  have L1 := len_split g1
  try simp only [List.length] at L1
  have hc : iLt i (lenA es) = false := lt_f e_iLt e_lenA (by omega)
  have gR : R = true := by rw [gR]; rfl
  refine goB hX 0 (by conv => lhs; cbv; try simp only [hc]; cbv; try simp only [hc]; cbv; try simp only [hc]; cbv; try simp only [hc]; cbv) ?_
  refine goA 60 ?_
  refine loopP_exit ?_
  refine goA 60 ?_
  refine fn_ret rfl rfl (.val ?_)
  exact congrArg Value.bool gR.symm
 | cons q r =>
  have L1 := len_split g1
  try simp only [List.length] at L1
  have hc : iLt i (lenA es) = true := lt_t e_iLt e_lenA (by omega)
  have hat := el_at e_atA hes g1 gi
  have hqs : q.Sm := hsn q (by rw [g1]; simp)
  have hq := P_ref08_Few q.cond hqs.cond'
  have hqc := Ex.closed q.cond
  rw [List.all_cons] at gR
  obtain ⟨qO, qA, qT, qV, qS, qN, qCo, qCa, qCv, qCf, qCk, qXk, qXn, qXt, hx2, hx2c, hqO, hqA, hqT, hqV, hqS, hqN⟩ := Pat.form2 q
  rw [hx2c] at hq hqc
  rw [hx2] at hat
  have hi2 : iAdd .i64 i 1 = ((d ++ [q]).length : Int) := by rw [List.length_append]; exact inc_w e_iAdd gi (by omega)
  cases hb : q.cond.few with
  | true =>
   rw [hb] at hq gR
   have hnt : bNot true = false := by simp [ee]
   refine goB hX 0 (by conv => lhs; cbv; try simp only [hc, hat, hnt]; cbv; try simp only [hc, hat, hnt]; cbv; try simp only [hc, hat, hnt]; cbv; try simp only [hc, hat, hnt]; cbv) ?_
   refine goB hX 1 (by conv => lhs; cbv; try simp only [hc, hat, hnt]; cbv; try simp only [hc, hat, hnt]; cbv; try simp only [hc, hat, hnt]; cbv; try simp only [hc, hat, hnt]; cbv) ?_
   refine oPA hq ?_
   refine goB hX 0 (by conv => lhs; cbv; try simp only [hc, hat, hnt]; cbv; try simp only [hc, hat, hnt]; cbv; try simp only [hc, hat, hnt]; cbv; try simp only [hc, hat, hnt]; cbv) ?_
   refine goA 60 ?_
   refine loopP_next (d ++ [q], r, iAdd .i64 i 1) ⟨by simp [g1], hi2, by simpa using gR⟩ (by simp) (ent_sub [] [] trivial trivial ⟨.cl hcn2, .refl _, trivial⟩)
  | false =>
   rw [hb] at hq gR
   have gR : R = false := by simpa using gR
   have hnf : bNot false = true := by simp [ee]
   refine goB hX 0 (by conv => lhs; cbv; try simp only [hc, hat, hnf]; cbv; try simp only [hc, hat, hnf]; cbv; try simp only [hc, hat, hnf]; cbv; try simp only [hc, hat, hnf]; cbv) ?_
   refine goB hX 1 (by conv => lhs; cbv; try simp only [hc, hat, hnf]; cbv; try simp only [hc, hat, hnf]; cbv; try simp only [hc, hat, hnf]; cbv; try simp only [hc, hat, hnf]; cbv) ?_
   refine oPA hq ?_
   refine goB hX 0 (by conv => lhs; cbv; try simp only [hc, hat, hnf]; cbv; try simp only [hc, hat, hnf]; cbv; try simp only [hc, hat, hnf]; cbv; try simp only [hc, hat, hnf]; cbv) ?_
   refine goA 60 ?_
   refine loopP_ret ?_
   refine goA 60 ?_
   refine fn_ret rfl rfl (.val ?_)
   exact congrArg Value.bool gR.symm
theorem P_ref15_Few (p : Pat) (hs : p.Sm) : PCall EE 8 [p.enc] (bool p.few) := by
 have q1 := P_ref09_Few p hs
 have hcl := Pat.closed p
 generalize p.few = b at *
 obtain ⟨pO, pA, pT, pV, pS, pN, pCo, pCa, pCv, pCf, pCk, pXk, pXn, pXt, hx⟩ := Pat.form p
 rw [hx] at q1 hcl ⊢
 clear hx hs
 refine wordsN ?_; unhygienic intros
 refine fn_body (fn := Tryd.f8) (n := 5) (ac := Trydc8) (rvs := [.t 2]) rfl (by decide) Trydp8 rfl rfl rfl ?_
 refine goA 60 ?_
 refine oPA q1 ?_
 refine goA 60 ?_
 refine fn_ret rfl rfl (.val ?_)
 rfl
def wrapP (o : Int) (p : Pat) (e : Ex) : Pat := .mk o [p] 0 0 0 0 e
theorem wrap_nodes (o : Int) (p : Pat) (e : Ex) : (wrapP o p e).nodes = wrapP o p e :: p.nodes := by simp [wrapP, Pat.nodes, Pat.nodesL]
theorem wrap_cnt (o : Int) (p : Pat) (e : Ex) : (wrapP o p e).cnt = p.cnt + 1 := by simp [wrapP, Pat.cnt, Pat.cntL]; omega
theorem wrap_dep (o : Int) (p : Pat) (e : Ex) : (wrapP o p e).dep = p.dep + 1 := by simp [wrapP, Pat.dep, Pat.depL]
theorem wrap_lf (o : Int) (p : Pat) (e : Ex) : Pat.lf PlcS (wrapP o p e) = (wrapP o p e, PlcS) :: Pat.lf PlcS p := by
 simp [wrapP, Pat.lf, Pat.lfL]
theorem wrap_bound {o : Int} (p : Pat) (e : Ex) (h : o ≠ 0) : (wrapP o p e).bound = p.bound := bound_arg (p := wrapP o p e) h rfl
theorem wrap_sm {o : Int} {p : Pat} {e : Ex} (hp : p.Sm) (he : e.Sm) (h : p.cnt < 64) : (wrapP o p e).Sm := by
 refine (Pat.Sm_iff _).2 ⟨by rw [wrap_nodes, List.length_cons, Pat.nodes_len]; omega, fun q hq => ?_⟩
 rw [wrap_nodes] at hq
 rcases List.mem_cons.1 hq with rfl | hq
 · exact he
 · exact ((Pat.Sm_iff p).1 hp).2 q hq
theorem wrap_chk {o : Int} {p : Pat} {e : Ex} (ho : (o = 4 ∧ e = Ex0) ∨ (o = 7 ∧ e.chk = 0)) (h : p.chk = 0) (h1 : p.cnt < 64) (h2 : p.dep < 12) : (wrapP o p e).chk = 0 := by
 obtain ⟨k1, k2⟩ := chk_zero h
 obtain ⟨k3, k4, k5⟩ := wholeE_ok k1
 have n0 : (wrapP o p e).nodeE = 0 := by
  rcases ho with ⟨rfl, rfl⟩ | ⟨rfl, he⟩
  · simp [Pat.nodeE, wrapP, Pat.op, Pat.args, Pat.ty, Pat.var, Pat.scope, Pat.span, Pat.cond, leastF, mostF, typedF, condF, scopeF, spanF]
  · simp [Pat.nodeE, wrapP, Pat.op, Pat.args, Pat.ty, Pat.var, Pat.scope, Pat.span, Pat.cond, leastF, mostF, typedF, condF, scopeF, spanF, he]
 have o8 : (wrapP o p e).op < 8 ∧ typedF (wrapP o p e).op = false ∧ scopeF (wrapP o p e).op = false := by
  rcases ho with ⟨rfl, rfl⟩ | ⟨rfl, he⟩ <;> simp [wrapP, Pat.op, typedF, scopeF]
 have c1 : (wrapP o p e).chkR = 0 := by
  rw [Pat.chkR, wrap_cnt, wrap_dep, if_neg (by omega), if_neg (by omega)]
  refine firstE_ok fun q hq => ?_
  rw [wrap_nodes] at hq
  rcases List.mem_cons.1 hq with rfl | hq
  · exact n0
  · exact k4 q hq
 have c2 : (wrapP o p e).wholeE = 0 := by
  rw [Pat.wholeE, c1, if_neg (by simp)]
  refine firstE_ok fun q hq => ?_
  rw [wrap_nodes] at hq
  rcases List.mem_cons.1 hq with rfl | hq
  · exact if_neg (by omega)
  · exact if_neg (by have := k5 q hq; omega)
 rw [Pat.chk, c2, if_neg (by simp), if_pos]
 rw [wrap_nodes, cfold, List.foldl_cons]
 have e0 : cstep (0, 0, true) (wrapP o p e) = (0, 0, true) := by
  simp only [cstep, o8.2.1, o8.2.2]; rfl
 rw [e0]; exact k2
theorem retE_ok {s : Plc} {e : Ex} (h : e.chk = 0) : retE s e = e.fol s := by rw [retE, if_neg (fun k => k h)]
theorem wraps_plain {p : Pat} {e : Ex} (he : e.chk = 0) (hp : p.scE = 0) (h1 : p.cnt < 64) (h2 : p.dep < 12) :
 (wrapP 7 p e).scE = e.fol p.retP ∧ (wrapP 7 p e).scI = 0 ∧ p.rtE [e] = e.fol p.retP ∧ p.rtI [e] = 0 := by
 have hk : p.chk = 0 := by
  unfold Pat.scE at hp
  by_cases h : p.chk = 0
  · exact h
  · rw [if_pos h] at hp; exact hp
 have hw := wrap_chk (.inr ⟨rfl, he⟩) hk h1 h2
 have hs : firstE condE (Pat.lf PlcS p) = 0 := by
  unfold Pat.scE at hp; rw [if_neg (fun k => k hk)] at hp; exact hp
 have wf := chk_wf hk
 have ho : (wrapP 7 p e).own PlcS = p.retP := by
  unfold Pat.own
  rw [if_neg (by simp [wrapP, Pat.op]), if_neg (by simp [wrapP, Pat.op])]
  show (⟨uniI [] p.bound, uniI [] p.ones, -1⟩ : Plc) = _
  rw [uni_nil p.bound_nodup, uni_nil (ones_spec p wf).1]; rfl
 have hc : condE (wrapP 7 p e, PlcS) = e.fol p.retP := by
  unfold condE; rw [if_pos (by rfl)]; show e.fol ((wrapP 7 p e).own PlcS) = _; rw [ho]
 rw [scE_eq hw, scI_eq hw, rtE_eq hk (by simp), rtI_eq hk (by simp), wrap_lf]
 simp only [firstE, idxE, hc, hs, retE_ok he]
 generalize e.fol p.retP = z
 by_cases h : z = 0 <;> simp [h]
theorem repeats_plain {p : Pat} (hk : p.chk = 0) (h1 : p.cnt < 64) (h2 : p.dep < 12) :
 (wrapP 4 p Ex0).scE = p.scE ∧ (wrapP 4 p Ex0).scI = (if p.scE ≠ 0 then p.scI + 1 else 0) := by
 have hw := wrap_chk (.inl ⟨rfl, rfl⟩) hk h1 h2
 have hc : condE (wrapP 4 p Ex0, PlcS) = 0 := by
  unfold condE; rw [if_neg (by simp [wrapP, Pat.op, testsF])]
 rw [scE_eq hw, scI_eq hw, scE_eq hk, scI_eq hk, wrap_lf, firstE, idxE, hc]
 exact ⟨if_neg (by simp), if_neg (by simp)⟩
def leafV (o v : Int) : Ex := .mk o [] v 0 0 Vl0
theorem leafV_chk (o v : Int) (ho : o = 1 ∨ o = 2 ∨ o = 3) (hv : 0 ≤ v ∧ v < 16) : (leafV o v).chk = 0 := by
 have h1 : (leafV o v).cnt = 1 := by simp [leafV, Ex.cnt, Ex.cntL]
 have h2 : (leafV o v).dep = 1 := by simp [leafV, Ex.dep, Ex.depL]
 have h3 : (leafV o v).nodes = [leafV o v] := by simp [leafV, Ex.nodes, Ex.nodesL]
 rw [Ex.chk, h1, h2, h3]
 rcases ho with rfl | rfl | rfl <;> simp [firstE, Ex.nodeE, leafV, Ex.op, Ex.args, Ex.var, Ex.fld, Ex.kind, Ex.val, Ex.formB, arityB, arityN, usesV, usesF] <;> omega
theorem leafV_fol (s : Plc) (o v : Int) : (leafV o v).fol s = folE s (leafV o v) := by
 have h3 : (leafV o v).nodes = [leafV o v] := by simp [leafV, Ex.nodes, Ex.nodesL]
 rw [Ex.fol, h3]
 simp only [firstE]
 generalize folE s (leafV o v) = z
 by_cases h : z = 0 <;> simp [h]
theorem rt_one {p : Pat} {e : Ex} (hk : p.chk = 0) (he : e.chk = 0) : p.rtE [e] = e.fol p.retP := by
 rw [rtE_eq hk (by simp)]
 simp only [firstE, retE_ok he]
 generalize e.fol p.retP = z
 by_cases h : z = 0 <;> simp [h]
theorem repeats_rt {p : Pat} (hk : p.chk = 0) (h1 : p.cnt < 64) (h2 : p.dep < 12) (v : Int) (hv : 0 ≤ v ∧ v < 16) :
 (wrapP 4 p Ex0).rtE [leafV 2 v] = (if v ∈ p.bound then 11 else 10) ∧ (wrapP 4 p Ex0).rtE [leafV 3 v] = (if v ∈ p.bound then 0 else 10) := by
 have hw := wrap_chk (.inl ⟨rfl, rfl⟩) hk h1 h2
 have hr : (wrapP 4 p Ex0).retP = ⟨p.bound, [], -1⟩ := by
  rw [Pat.retP, wrap_bound _ _ (by decide)]
  have : (wrapP 4 p Ex0).ones = [] := by simp [wrapP, Pat.ones, keepsF]
  rw [this]
 rw [rt_one hw (leafV_chk _ _ (by omega) hv), rt_one hw (leafV_chk _ _ (by omega) hv), leafV_fol, leafV_fol, hr]
 have hv1 : v ≠ -1 := by omega
 by_cases h : v ∈ p.bound
 · simp [folE, leafV, Ex.op, Ex.var, h, hv1]
 · simp [folE, leafV, Ex.op, Ex.var, h]
def OrdV : Int → List Pat → Prop
 | _, [] => True
 | k, q :: r => (typedF q.op = true → q.var = k) ∧ OrdV (if typedF q.op = true then k + 1 else k) r
def cntV : List Pat → Int
 | [] => 0
 | q :: r => (if typedF q.op = true then 1 else 0) + cntV r
theorem cntV_pos : ∀ l, 0 ≤ cntV l
 | [] => by simp [cntV]
 | q :: r => by have := cntV_pos r; rw [cntV]; split <;> omega
theorem OrdV_mem : ∀ {l : List Pat} {k : Int}, OrdV k l → ∀ q ∈ l, typedF q.op = true → k ≤ q.var ∧ q.var < k + cntV l
 | [], _, _, _, h, _ => by cases h
 | x :: r, k, ho, q, hq, ht => by
  rw [OrdV] at ho
  rw [cntV]
  have h0 := cntV_pos r
  rcases List.mem_cons.1 hq with rfl | hq
  · have := ho.1 ht; rw [if_pos ht]; omega
  · have := OrdV_mem ho.2 q hq ht
    split at this <;> rename_i hx
    · rw [if_pos hx]; omega
    · rw [if_neg hx]; omega
theorem cfold_ord : ∀ (l : List Pat) (k m : Int), (l.foldl cstep (k, m, true)).2.2 = true → OrdV k l
 | [], _, _, _ => trivial
 | q :: r, k, m, h => by
  rw [List.foldl_cons] at h
  have hb : ∀ (l : List Pat) (s : Int × Int × Bool), (l.foldl cstep s).2.2 = true → s.2.2 = true := by
   intro l
   induction l with
   | nil => intro s h; exact h
   | cons x r ih => intro s h; have := ih _ h; simp only [cstep, Bool.and_eq_true] at this; exact this.1.1
  have h1 := hb _ _ h
  have h2 : cstep (k, m, true) q = ((if typedF q.op = true then k + 1 else k), (if scopeF q.op = true then m + 1 else m), true) := by
   have : (cstep (k, m, true) q).2.2 = true := h1
   unfold cstep at this ⊢
   dsimp only at this ⊢
   rw [this]
  rw [h2] at h
  refine ⟨fun ht => ?_, cfold_ord r _ _ h⟩
  simp only [cstep, ht, Bool.and_eq_true, Bool.true_and, Bool.not_true, Bool.false_or, beq_iff_eq] at h1
  exact h1.1
theorem chk_ord {p : Pat} (h : p.chk = 0) : OrdV 0 p.nodes := cfold_ord _ _ _ (chk_zero h).2
theorem bound_sub {p q : Pat} (h : q ∈ p.nodes) : ∀ n ∈ q.bound, n ∈ p.bound := fun n hn => by
 rw [Pat.bound_mem] at hn ⊢
 unfold bndF at hn ⊢
 obtain ⟨x, hx, rfl⟩ := List.mem_map.1 hn
 obtain ⟨h1, h2⟩ := List.mem_filter.1 hx
 exact List.mem_map.2 ⟨x, List.mem_filter.2 ⟨(cnt_node p q h).2.2 x h1, h2⟩, rfl⟩
theorem arg_nodes {o a t v s n c} {e : Pat} (he : e ∈ a) : e ∈ (Pat.mk o a t v s n c).nodes := by
 rw [Pat.nodes]
 obtain ⟨d, r, rfl⟩ := List.append_of_mem he
 simp [Pat.nodesL_append, Pat.nodesL, Pat.nodes_eq e]
theorem ones_bd : ∀ p : Pat, ∀ n ∈ p.ones, n ∈ p.bound := Pat.ind fun o a t v s n c ih m hm => by
 rw [Pat.ones] at hm
 split at hm
 · split at hm
   · rename_i _ h0
     simp at hm
     subst hm
     rw [Pat.bound_mem, Pat.nodes, bndF_cons, if_pos (show (Pat.mk o a t m s n c).op = 0 from h0)]
     simp [Pat.var]
   · have hL : ∀ (r : List Pat) (acc : List Int), (∀ e ∈ r, e ∈ a) → (∀ k ∈ acc, k ∈ (Pat.mk o a t v s n c).bound) → ∀ k ∈ Pat.onesL acc r, k ∈ (Pat.mk o a t v s n c).bound := by
      intro r
      induction r with
      | nil => intro acc _ ha; rw [Pat.onesL]; exact ha
      | cons x r ihr =>
       intro acc hm ha
       rw [Pat.onesL]
       refine ihr _ (fun e he => hm e (by simp [he])) fun k hk => ?_
       rcases (uni_mem _ _ _).1 hk with h | h
       · exact ha k h
       · exact bound_sub (arg_nodes (hm x (by simp))) k (ih x (hm x (by simp)) k h)
     exact hL a [] (fun _ h => h) (fun _ h => by cases h) m hm
 · cases hm
theorem Plc0_ok : Plc0.ok := ⟨fun _ h => (by cases h), fun _ h => (by cases h), by decide, by decide⟩
theorem atP_ok (p : Pat) (i : Int) : (p.atP i).ok := by
 unfold Pat.atP
 by_cases h : p.atE i = 0
 · rw [if_pos h]
   unfold Pat.atE at h
   by_cases hk : p.chk = 0
   · rw [if_neg (fun k => k hk)] at h
     by_cases hi : 0 ≤ i ∧ i < p.nodes.length
     · rw [if_pos hi] at h
       by_cases ht : testsF (p.nodeAt i).op = true
       · have hw := chk_wf hk
         have hx := lf_at p PlcS i.toNat
         have hlen := Pat.lf_len p PlcS
         have hn := p.nodes_len
         have hm : (Pat.lf PlcS p).getD i.toNat (Pat0, Plc0) ∈ Pat.lf PlcS p := by
          rw [getD_el _ (by omega)]; exact List.getElem_mem _
         obtain ⟨a1, a2⟩ := Pat.lf_ok p hw PlcS PlcS_ok _ hm
         refine own_ok (hw.node a2) ?_ a1
         rw [hx]; unfold Pat.nodeAt at ht; rw [if_pos hi] at ht; exact ht
       · rw [if_neg ht] at h; exact absurd h (by decide)
     · rw [if_neg hi] at h; exact absurd h (by decide)
   · rw [if_pos hk] at h; exact absurd h hk
 · rw [if_neg h]; exact Plc0_ok
end Go.Am
end
