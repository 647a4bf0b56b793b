/- The abstract machine that the walks of this claim are carried out on: no condition. -/
import Derived.Test.YtdbikeconboifaaGreatDoorAm5
import Derived.Shelf.Slices.CompactI
section
namespace Go.Am
open Go.Shelf Go.Sort Go.Proofs
theorem compact_le (zs : List Int) : (Lib.compact zs).length ≤ zs.length := by
 unfold Lib.compact Lib.compactUpTo
 rw [List.length_map]
 refine Nat.le_trans (List.length_filter_le _ _) ?_
 simp
def compI (zs : List Int) : List Int := Lib.compact zs ++ List.replicate (zs.length - (Lib.compact zs).length) 0
theorem compI_len (zs : List Int) : (compI zs).length = zs.length := by
 have := compact_le zs
 simp [compI]; omega
theorem comp_acall {E : Env} {ρ : Ren} (Ly : Lays2.n20 E.P ρ) (zs : List Int) (hsz : zs.length ≤ 9223372036854775807) :
 ACall E (ρ.f 20) [.sl 0 1 0 zs.length] [.arr 1 (zs.map fun z => .val (.int .i64 z))] fun v H' => v = .sl 0 1 0 (Lib.compact zs).length ∧ H' = [.arr 1 ((compI zs).map fun z => .val (.int .i64 z))] := by
 intro K w ys hh hv
 have hlen : (compI zs).length = zs.length := compI_len zs
 obtain ⟨y, rfl⟩ : ∃ y, ys = [y] := by
  match ys, hv.1 with
  | [y], _ => exact ⟨y, rfl⟩
 have v0 := hv.2 0 _ y rfl rfl
 have tupr : ∀ (K : Ctx) (M : Nat) (w : World), VRep K M w (.tup []) (.tuple #[]) := fun K M w => .tup [] [] rfl fun i c y h => by simp at h
 have nil : zs = [] → ∀ (p : Option Addr), y = .slice p 0 0 → Calls E.P (ρ.f 20) [y].toArray w fun e w' => ∃ v y H' K', e = .returned y ∧ (v = .sl 0 1 0 (Lib.compact zs).length ∧ H' = [.arr 1 ((compI zs).map fun z => .val (.int .i64 z))]) ∧ HRep E K' w' H' ∧ VRep K' H'.length w' v y ∧ Ev 1 K [.arr 1 (zs.map fun z => .val (.int .i64 z))] w K' H' w' := by
  rintro rfl p rfl
  refine (Any.slices_Compact_int_empty Ly p 0 w).mono ?_
  rintro e w' ⟨rfl, rfl⟩
  refine ⟨_, _, _, K, rfl, ⟨rfl, rfl⟩, hh, ?_, Ev.refl _ _ _ _ (Nat.le_refl _)⟩
  cases p with
  | none => exact .slnil 0 1 0 (by simp)
  | some a => exact .sl0 0 1 0 a (by simp)
 generalize hz : zs.length = m at v0
 cases v0 with
 | slnil _ _ _ hM => exact nil (List.length_eq_zero_iff.1 hz) none rfl
 | sl0 _ _ _ a hM => exact nil (List.length_eq_zero_iff.1 hz) (some a) rfl
 | sl _ _ _ _ cap blk base hM hγ hle hs =>
  subst hz
  by_cases h0 : zs = []
  · subst h0
    refine (Any.slices_Compact_int_empty Ly _ cap w).mono ?_
    rintro e w' ⟨rfl, rfl⟩
    exact ⟨_, _, _, K, rfl, ⟨rfl, rfl⟩, hh, VRep.sl 0 1 0 0 cap blk base hM hγ hle hs, Ev.refl _ _ _ _ (Nat.le_refl _)⟩
  have ho := hh.obj 0 _ rfl
  rw [hγ] at ho
  generalize hes : (zs.map fun z => AV.val (.int .i64 z)) = es at ho
  cases ho with
  | arr _ _ _ _ c ty hb hk hl =>
   have hel : es.length = zs.length := by rw [← hes]; simp
   have hat : ∀ j (hj : j < zs.length), c[base + j]? = some (.int .i64 zs[j]) := by
    intro j hj
    have he : es[j]? = some (.val (.int .i64 zs[j])) := by rw [← hes]; simp [hj]
    obtain ⟨y, h1, h2⟩ := hl j _ he 0 _ rfl
    cases h2
    simpa using h1
   have hH : Go.Sort.Holds (Value.int .i64) w blk base zs.toArray := by
    intro j hj
    have hj' : j < zs.length := by simpa using hj
    refine ⟨?_, by simp [World.frozen?, hb]⟩
    simp only [World.cell?, hb, Option.isSome_none, Bool.false_eq_true, if_false]
    rw [hat j hj']; simp [hj']
   have hblk : blk < w.heap.size := (Array.getElem?_eq_some_iff.1 hb).1
   have hc := Any.slices_Compact_int Ly blk base cap zs w hH hsz hle
   have e0 : base + 0 * 1 = base := by omega
   rw [e0]
   refine hc.mono ?_
   rintro e w' ⟨rfl, n, rfl⟩
   have hnew : ∀ k, k < w.heap.size → k ≠ blk → (putRow (Value.int .i64) (Sort.ahead w n) blk base (Lib.compact zs ++ List.replicate (zs.length - (Lib.compact zs).length) 0).toArray).heap[k]? = w.heap[k]? := by
    intro k hk hne
    simp [putRow, mapBlock, Sort.ahead, Array.getElem?_modify, Ne.symm hne]
   have hblk' : (putRow (Value.int .i64) (Sort.ahead w n) blk base (Lib.compact zs ++ List.replicate (zs.length - (Lib.compact zs).length) 0).toArray).heap[blk]? = some (.cells (putCells (Value.int .i64) base (compI zs).toArray c) ty (0, 0)) := by
    simp [putRow, mapBlock, Sort.ahead, Array.getElem?_modify, hb, onCells, compI]
   generalize hw : (putRow (Value.int .i64) (Sort.ahead w n) blk base (Lib.compact zs ++ List.replicate (zs.length - (Lib.compact zs).length) 0).toArray) = w' at hnew hblk'
   have hsize : w.heap.size ≤ w'.heap.size := by rw [← hw]; simp [putRow, mapBlock, Sort.ahead]
   have hos : w'.os = w.os := by rw [← hw]; rfl
   have hout : w'.output = w.output := by rw [← hw]; rfl
   have own : ∀ b, owned K [.arr 1 es] b ↔ b = blk := by
    intro b
    constructor
    · rintro ⟨i, o, base', h1, h2, h3⟩
      cases i with
      | zero => rw [hγ] at h3; cases h3; rfl
      | succ i => simp at h1
    · rintro rfl; exact ⟨0, _, base, rfl, trivial, hγ⟩
   have hnI : ¬ K.I blk := hh.disj blk ⟨0, _, base, rfl, trivial, hγ⟩
   have cells : ∀ (b : Nat) c1 ty fz, w.heap[b]? = some (.cells c1 ty fz) → ∃ c', w'.heap[b]? = some (.cells c' ty fz) ∧ c'.size = c1.size := by
    intro b c1 ty1 fz h1
    by_cases hbb : b = blk
    · subst hbb; rw [hb] at h1; cases h1; exact ⟨_, hblk', putCells_len _ _ _⟩
    · exact ⟨c1, by rw [hnew b (Array.getElem?_eq_some_iff.1 h1).1 hbb]; exact h1, rfl⟩
   have hres : VRep K 1 w' (.sl 0 1 0 (Lib.compact zs).length) (.slice (some ⟨blk, base, none⟩) (Lib.compact zs).length cap) := by
    have h1 : VRep K 1 w (.sl 0 1 0 (Lib.compact zs).length) (.slice (some ⟨blk, base + 0 * 1, none⟩) (Lib.compact zs).length cap) := VRep.sl 0 1 0 _ cap blk base hM hγ (Nat.le_trans (compact_le zs) hle) hs
    rw [e0] at h1
    refine VRep.mono (K := K) (K' := K) (fun _ _ => rfl) (Nat.le_refl _) (fun _ h => h) (fun b hi o => ?_) cells h1
    have hne : b ≠ blk := by rintro rfl; exact hnI hi
    unfold World.cell?
    rw [hnew b (hh.low b hi) hne]
   refine ⟨_, _, _, K, rfl, ⟨rfl, rfl⟩, ⟨?_, ?_, ?_, ?_, ?_⟩, hres, ⟨fun _ _ => rfl, by simp, fun _ h => h, fun _ h => .inl h, ?_, ?_, hsize, cells, ?_, hos, hout⟩⟩
   · intro b o hbo
     cases b with
     | succ b => simp at hbo
     | zero =>
      simp at hbo; subst hbo
      rw [hγ]
      refine .arr blk base 1 _ _ ty hblk' (fun i e he => ?_) (fun i e he => ?_)
      · rw [List.getElem?_map] at he
        obtain ⟨z, _, rfl⟩ := Option.map_eq_some_iff.1 he
        rfl
      · rw [List.getElem?_map] at he
        obtain ⟨z, hz, rfl⟩ := Option.map_eq_some_iff.1 he
        intro j x hx
        cases j with
        | succ j => simp [AV.cells] at hx
        | zero =>
         simp [AV.cells] at hx; subst hx
         have hi : i < (compI zs).length := (List.getElem?_eq_some_iff.1 hz).1
         refine ⟨.int .i64 z, ?_, .val _ (by intro cs; simp)⟩
         have hcs : base + i < c.size := by
          have := hat i (by omega)
          exact (Array.getElem?_eq_some_iff.1 this).1
         have := putCells_at (off := base) (c := c) (ts := compI zs) hi hcs
         have hz' : (compI zs)[i] = z := (List.getElem?_eq_some_iff.1 hz).2
         rw [hz'] at this
         simpa using this
   · intro b b' o o' blk base base' h1 h2
     cases b with
     | succ b => simp at h1
     | zero => cases b' with
      | succ b => simp at h2
      | zero => intros; rfl
   · rintro b ⟨i, o, base', h1, h2, h3⟩ hi
     cases i with
     | zero => rw [hγ] at h3; cases h3; exact hnI hi
     | succ i => simp at h1
   · intro b hi; exact Nat.lt_of_lt_of_le (hh.low b hi) hsize
   · intro g
     refine VRep.mono (K := K) (K' := K) (fun _ _ => rfl) (Nat.le_refl _) (fun _ h => h) (fun b hi o => ?_) cells (hh.glob g)
     have hne : b ≠ blk := by rintro rfl; exact hnI hi
     unfold World.cell?
     rw [hnew b (hh.low b hi) hne]
   · rintro b ⟨i, o, base', h1, h2, h3⟩
     cases i with
     | zero => left; rw [← hes]; exact ⟨0, _, base', rfl, trivial, h3⟩
     | succ i => simp at h1
   · intro b hb1 hno
     refine hnew b hb1 ?_
     rintro rfl
     exact hno (by rw [← hes]; exact ⟨0, _, base, rfl, trivial, hγ⟩)
   · intro b r hr
     by_cases hbb : b = blk
     · subst hbb; rw [hb] at hr; cases hr
     · exact ⟨r, by rw [hnew b (Array.getElem?_eq_some_iff.1 hr).1 hbb]; exact hr⟩
end Go.Am
end
section
set_option linter.unusedVariables false
namespace Go.Am
inductive Wk2 (M : Nat) : AV → AV → Prop
 | wk (v v' : AV) (h : Wk M v v') : Wk2 M v v'
 | agg (cs cs' : List AV) (hl : cs.length = cs'.length) (h : ∀ (i : Nat) c c', cs[i]? = some c → cs'[i]? = some c' → Wk2 M c c') : Wk2 M (.agg cs) (.agg cs')
 | tup (cs cs' : List AV) (hl : cs.length = cs'.length) (h : ∀ (i : Nat) c c', cs[i]? = some c → cs'[i]? = some c' → Wk2 M c c') : Wk2 M (.tup cs) (.tup cs')
 | isl (k : Nat) (es es' : List AV) (hl : es.length = es'.length) (hc : ∀ (i : Nat) e e', es[i]? = some e → es'[i]? = some e' → e.cells.length = e'.cells.length)
  (h : ∀ (i : Nat) e e' (j : Nat) c c', es[i]? = some e → es'[i]? = some e' → e.cells[j]? = some c → e'.cells[j]? = some c' → Wk2 M c c') : Wk2 M (.isl k es) (.isl k es')
theorem Wk2.rep {K : Ctx} {M : Nat} {w : World} {v v' : AV} (h : Wk2 M v v') : ∀ {y : Value}, VRep K M w v y → VRep K M w v' y := by
 induction h with
 | wk v v' h => exact fun hy => h.rep hy
 | agg cs cs' hl _ ih =>
  intro y h
  cases h with
  | agg _ ys hl2 h =>
   refine .agg cs' ys (hl ▸ hl2) fun i c' y hc hy => ?_
   obtain ⟨c, hc1⟩ : ∃ c, cs[i]? = some c := ⟨_, List.getElem?_eq_getElem (by have := (List.getElem?_eq_some_iff.1 hc).1; omega)⟩
   exact ih i c c' hc1 hc (h i c y hc1 hy)
 | tup cs cs' hl _ ih =>
  intro y h
  cases h with
  | tup _ ys hl2 h =>
   refine .tup cs' ys (hl ▸ hl2) fun i c' y hc hy => ?_
   obtain ⟨c, hc1⟩ : ∃ c, cs[i]? = some c := ⟨_, List.getElem?_eq_getElem (by have := (List.getElem?_eq_some_iff.1 hc).1; omega)⟩
   exact ih i c c' hc1 hc (h i c y hc1 hy)
 | isl k es es' hl hcl _ ih =>
  intro y h
  cases h with
  | islnil _ =>
   have : es' = [] := List.length_eq_zero_iff.1 hl.symm
   subst this
   exact .islnil k
  | isl _ _ f a cap hle hI hk hc h =>
   have el : ∀ (i : Nat) e', es'[i]? = some e' → ∃ e, es[i]? = some e := fun i e' he => ⟨_, List.getElem?_eq_getElem (by have := (List.getElem?_eq_some_iff.1 he).1; omega)⟩
   have cl : ∀ (i : Nat) e e' (j : Nat) c', es[i]? = some e → es'[i]? = some e' → e'.cells[j]? = some c' → ∃ c, e.cells[j]? = some c := fun i e e' j c' h1 h2 h3 => ⟨_, List.getElem?_eq_getElem (by have := (List.getElem?_eq_some_iff.1 h3).1; have := hcl i e e' h1 h2; omega)⟩
   have := VRep.isl (K := K) (M := M) (w := w) k es' f a cap (hl ▸ hle) (fun hne => hI fun h0 => hne (by subst h0; exact List.length_eq_zero_iff.1 hl.symm))
    (fun i e' he' => by obtain ⟨e, he⟩ := el i e' he'; rw [← hcl i e e' he he']; exact hk i e he)
    (fun i e' j c' he' hc' => by
     obtain ⟨e, he⟩ := el i e' he'
     obtain ⟨c, hc1⟩ := cl i e e' j c' he he' hc'
     exact hc i e j c he hc1)
    (fun i e' j c' he' hc' => by
     obtain ⟨e, he⟩ := el i e' he'
     obtain ⟨c, hc1⟩ := cl i e e' j c' he he' hc'
     exact ih i e e' j c c' he he' hc1 hc' (h i e j c he hc1))
   rw [← hl] at this
   exact this
def Wk2L (M : Nat) : List AV → List AV → Prop
 | [], [] => True
 | c :: cs, d :: ds => Wk2 M c d ∧ Wk2L M cs ds
 | _, _ => False
theorem Wk2L.spec {M : Nat} : ∀ {cs ds : List AV}, Wk2L M cs ds → cs.length = ds.length ∧ ∀ (i : Nat) c c', cs[i]? = some c → ds[i]? = some c' → Wk2 M c c'
 | [], [], _ => ⟨rfl, fun i c c' h => by simp at h⟩
 | c :: cs, d :: ds, h => by
  obtain ⟨h1, h2⟩ := h.2.spec
  refine ⟨by simp [h1], fun i x y hx hy => ?_⟩
  cases i with
  | zero => cases hx; cases hy; exact h.1
  | succ i => exact h2 i x y (by simpa using hx) (by simpa using hy)
 | [], _ :: _, h => h.elim
 | _ :: _, [], h => h.elim
theorem Wk2.agg' {M : Nat} {cs ds : List AV} (h : Wk2L M cs ds) : Wk2 M (.agg cs) (.agg ds) := .agg _ _ h.spec.1 h.spec.2
theorem Wk2.tup' {M : Nat} {cs ds : List AV} (h : Wk2L M cs ds) : Wk2 M (.tup cs) (.tup ds) := .tup _ _ h.spec.1 h.spec.2
theorem Wk2.refl {M : Nat} (v : AV) : Wk2 M v v := .wk _ _ (.refl _)
theorem Wk2.nilI {M : Nat} (k : Nat) : Wk2 M (.val (.slice none 0 0)) (.isl k []) := .wk _ _ (.nilI k)
theorem Wk2.of {M : Nat} {v v' : AV} (h : v = v') : Wk2 M v v' := h ▸ .refl _
def Wk2E (M : Nat) : List AV → List AV → Prop
 | [], [] => True
 | c :: cs, d :: ds => Wk2L M c.cells d.cells ∧ Wk2E M cs ds
 | _, _ => False
theorem Wk2E.spec {M : Nat} : ∀ {cs ds : List AV}, Wk2E M cs ds → cs.length = ds.length ∧ ∀ (i : Nat) c c', cs[i]? = some c → ds[i]? = some c' → Wk2L M c.cells c'.cells
 | [], [], _ => ⟨rfl, fun i c c' h => by simp at h⟩
 | c :: cs, d :: ds, h => by
  obtain ⟨h1, h2⟩ := h.2.spec
  refine ⟨by simp [h1], fun i x y hx hy => ?_⟩
  cases i with
  | zero => cases hx; cases hy; exact h.1
  | succ i => exact h2 i x y (by simpa using hx) (by simpa using hy)
 | [], _ :: _, h => h.elim
 | _ :: _, [], h => h.elim
theorem Wk2.isl' {M k : Nat} {es es' : List AV} (h : Wk2E M es es') : Wk2 M (.isl k es) (.isl k es') :=
 .isl k es es' h.spec.1 (fun i e e' h1 h2 => (h.spec.2 i e e' h1 h2).spec.1) (fun i e e' j c c' h1 h2 h3 h4 => (h.spec.2 i e e' h1 h2).spec.2 j c c' h3 h4)
theorem Wk2L.refl {M : Nat} : ∀ cs : List AV, Wk2L M cs cs
 | [] => trivial
 | c :: cs => ⟨.refl c, .refl cs⟩
theorem PCall.weak2 {E : Env} {f : FuncId} {args : List AV} {v v' : AV} (h : PCall E f args v) (hw : Wk2 0 v v') : PCall E f args v' :=
 ⟨h.1, fun K w ys a b => (h.2 K w ys a b).mono fun e w' ⟨u, y, H', K', h1, ⟨h2, h2'⟩, h3, h4, h5⟩ => ⟨v', y, H', K', h1, ⟨rfl, h2'⟩, h3, by subst h2; subst h2'; exact hw.rep h4, h5⟩⟩
def SWkL (σ : Nat → Sub) : List AV → List AV → Prop
 | [], [] => True
 | c :: cs, d :: ds => Wk 0 (c.sub σ) d ∧ SWkL σ cs ds
 | _, _ => False
theorem SWkL.wkL {σ : Nat → Sub} : ∀ {cs ds : List AV}, SWkL σ cs ds → WkL 0 (AV.subL σ cs) ds
 | [], [], _ => trivial
 | c :: cs, d :: ds, h => ⟨h.1, h.2.wkL⟩
 | [], _ :: _, h => h.elim
 | _ :: _, [], h => h.elim
def LendOk (H : AHeap) (args args' : List AV) : Prop := ∃ L, SubL H 0 [] (ofL L) 0 L ∧ SWkL (ofL L) args args'
theorem on_lend {E : Env} {n N : Nat} {Q : AExit → AFr → AHeap → Prop} {k : List KI} {F : AFr} {H : AHeap} {o : AOper} {l : List AOper} {f : FuncId} {xs : List Opd} {args' : List AV} {v : AV} (hg : wantA F o.guard = some true) (ho : o.op = .call f xs)
 (hc : PCall E f args' v) (hfl : v.flat = true) (hl : LendOk H (xs.map (·.ev E.G F)) args') (h : Holds E n N Q (.ops l) k (F.set o.dst v) H) : Holds E n N Q (.ops (o :: l)) k F H := by
 obtain ⟨L, h1, h2⟩ := hl
 exact aops_lcall L hg ho rfl h1 rfl (hc.weak h2.wkL) hfl h
end Go.Am
end
section
set_option linter.unusedVariables false
namespace Go.Am
section
variable {E : Env} {n N : Nat} {Q : AExit → AFr → AHeap → Prop}
theorem goA (g : Nat) {X : Words} {cur : Cur} {k : List KI} {F : AFr} {H : AHeap} {c : Cd} {cur' : Cur} {k' : List KI} {F' : AFr} {H' : AHeap} (h : Holds E n N Q cur' k' F' H') (hXs : X = std := by exact hX) (hm : E.P.follows .mixedOrders = true := by exact rfl)
 (he : exec X E.G 1000 g cur k F H = (c, cur', k', F', H') := by conv => lhs; cbv) (hc : c.ok := by first | exact trivial | (simp only [Cd.ok, ee]; and_intros <;> first | omega | rfl | (simp <;> omega))) : Holds E n N Q cur k F H :=
 go hm hXs g he hc h
theorem goB {X : Words} (hXs : X = std) (g : Nat) {cur : Cur} {k : List KI} {F : AFr} {H : AHeap} {c : Cd} {cur' : Cur} {k' : List KI} {F' : AFr} {H' : AHeap} (he : exec X E.G 1000 g cur k F H = (c, cur', k', F', H')) (h : Holds E n N Q cur' k' F' H') (hm : E.P.follows .mixedOrders = true := by exact rfl)
 (hc : c.ok := by first | exact trivial | (simp only [Cd.ok, ee]; and_intros <;> first | omega | rfl | (simp <;> omega))) : Holds E n N Q cur k F H :=
 go hm hXs g he hc h
end
theorem tgA {E : Env} {X : Words} {l : List AOper} {F : AFr} {H : AHeap} {K : List Kd → List AHeap → AFr → AHeap → Prop} {c : Cd} {rest : List AOper} {F' : AFr} {H' : AHeap} {ks : List Kd} {Hs : List AHeap}
 (h : TR E rest F' H' (fun k2 H2 => K (ks ++ k2) (Hs ++ H2))) (hXs : X = std := by exact hX) (he : runT X E.G 1000 l F H = (c, rest, F', H', ks, Hs) := by conv => lhs; cbv) (hc : c.ok := by first | exact trivial | (simp only [Cd.ok, ee]; and_intros <;> first | omega | rfl | (simp <;> omega))) : TR E l F H K := tr_go hXs he hc h
theorem tgB {E : Env} {X : Words} (hXs : X = std) {l : List AOper} {F : AFr} {H : AHeap} {K : List Kd → List AHeap → AFr → AHeap → Prop} {c : Cd} {rest : List AOper} {F' : AFr} {H' : AHeap} {ks : List Kd} {Hs : List AHeap}
 (he : runT X E.G 1000 l F H = (c, rest, F', H', ks, Hs)) (h : TR E rest F' H' (fun k2 H2 => K (ks ++ k2) (Hs ++ H2))) (hc : c.ok := by first | exact trivial | (simp only [Cd.ok, ee]; and_intros <;> first | omega | rfl | (simp <;> omega))) : TR E l F H K := tr_go hXs he hc h
section
variable {E : Env} {n N : Nat} {Q : AExit → AFr → AHeap → Prop} {k : List KI} {F : AFr} {H : AHeap}
theorem nsB {X : Words} (hXs : X = std) {l rest : List AOper} {c : Cd} {F' : AFr} (he : runT2 X E.G l F H = some (c, rest, F')) (h : Holds E n N Q (.ops rest) k F' H) (hc : c.ok := by first | exact trivial | (simp only [Cd.ok, ee]; and_intros <;> first | omega | rfl | (simp <;> omega))) : Holds E n N Q (.ops l) k F H := ns_go hXs he hc h
end
theorem wordsN {p : Prop} (h : ∀ (iLt : Int → Int → Bool) (iLe : Int → Int → Bool) (iEq : Int → Int → Bool) (iNe : Int → Int → Bool) (iAdd : IntKind → Int → Int → Int) (iSub : IntKind → Int → Int → Int) (iMul : IntKind → Int → Int → Int) (iQuo : IntKind → Int → Int → Int) (iRem : Int → Int → Int) (iShr : IntKind → Int → Int → Int) (iNeg : IntKind → Int → Int) (iCvt : IntKind → Int → Int) (iMax : Int → Int → Int) (iMin : Int → Int → Int) (bNot : Bool → Bool) (bEq : Bool → Bool → Bool) (bNe : Bool → Bool → Bool) (bAnd : Bool → Bool → Bool) (bOr : Bool → Bool → Bool) (sEq : ByteArray → ByteArray → Bool) (sNe : ByteArray → ByteArray → Bool) (sLen : ByteArray → Int) (sCat : ByteArray → ByteArray → ByteArray) (sCut : ByteArray → Int → Int → ByteArray) (sAt : ByteArray → Int → Int) (lenA : List AV → Int) (lenN : List AV → Nat) (iOf : Nat → Int) (natOf : Int → Nat) (atA : List AV → Int → AV) (atN : List AV → Nat → AV) (cutA : List AV → Int → Int → List AV) (partA : List AV → Nat → Nat → List AV) (dropA : List AV → Nat → List AV) (catA : List AV → List AV → List AV) (setA : List AV → Nat → AV → List AV) (repA : Int → AV → List AV) (putA : List AV → Nat → Nat → List AV → List AV) (idxN : Nat → Int → Nat) (addN : Nat → Nat → Nat) (subN : Nat → Int → Nat) (minN : Nat → Nat → Nat) (lenCut : Int → Int → Nat) (rowA : List AV → Int → Nat → List AV), ∀ (hX : (⟨iLt, iLe, iEq, iNe, iAdd, iSub, iMul, iQuo, iRem, iShr, iNeg, iCvt, iMax, iMin, bNot, bEq, bNe, bAnd, bOr, sEq, sNe, sLen, sCat, sCut, sAt, lenA, lenN, iOf, natOf, atA, atN, cutA, partA, dropA, catA, setA, repA, putA, idxN, addN, subN, minN, lenCut, rowA⟩ : Words) = std) (e_iLt : iLt = Wd.iLt) (e_iLe : iLe = Wd.iLe) (e_iEq : iEq = Wd.iEq) (e_iNe : iNe = Wd.iNe) (e_iAdd : iAdd = Wd.iAdd) (e_iSub : iSub = Wd.iSub) (e_iMul : iMul = Wd.iMul) (e_iQuo : iQuo = Wd.iQuo) (e_iRem : iRem = Wd.iRem) (e_iShr : iShr = Wd.iShr) (e_iNeg : iNeg = Wd.iNeg) (e_iCvt : iCvt = Wd.iCvt) (e_iMax : iMax = Wd.iMax) (e_iMin : iMin = Wd.iMin) (e_bNot : bNot = Wd.bNot) (e_bEq : bEq = Wd.bEq) (e_bNe : bNe = Wd.bNe) (e_bAnd : bAnd = Wd.bAnd) (e_bOr : bOr = Wd.bOr) (e_sEq : sEq = Wd.sEq) (e_sNe : sNe = Wd.sNe) (e_sLen : sLen = Wd.sLen) (e_sCat : sCat = Wd.sCat) (e_sCut : sCut = Wd.sCut) (e_sAt : sAt = Wd.sAt) (e_lenA : lenA = Wd.lenA) (e_lenN : lenN = Wd.lenN) (e_iOf : iOf = Wd.iOf) (e_natOf : natOf = Wd.natOf) (e_atA : atA = Wd.atA) (e_atN : atN = Wd.atN) (e_cutA : cutA = Wd.cutA) (e_partA : partA = Wd.partA) (e_dropA : dropA = Wd.dropA) (e_catA : catA = Wd.catA) (e_setA : setA = Wd.setA) (e_repA : repA = Wd.repA) (e_putA : putA = Wd.putA) (e_idxN : idxN = Wd.idxN) (e_addN : addN = Wd.addN) (e_subN : subN = Wd.subN) (e_minN : minN = Wd.minN) (e_lenCut : lenCut = Wd.lenCut) (e_rowA : rowA = Wd.rowA) (ee : ((∀ a b, iLt a b = (decide (a < b))) ∧ (∀ a b, iLe a b = (decide (a ≤ b))) ∧ (∀ a b, iEq a b = (a == b)) ∧ (∀ a b, iNe a b = (a != b)) ∧ (∀ k a b, iAdd k a b = (k.wrap (a + b))) ∧ (∀ k a b, iSub k a b = (k.wrap (a - b))) ∧ (∀ k a b, iMul k a b = (k.wrap (a * b))) ∧ (∀ k a b, iQuo k a b = (k.wrap (a.tdiv b))) ∧ (∀ a b, iRem a b = (a.tmod b)) ∧ (∀ k a b, iShr k a b = (a.fdiv (2 ^ min b.toNat k.bits))) ∧ (∀ k a, iNeg k a = (k.wrap (0 - a))) ∧ (∀ k a, iCvt k a = (k.wrap a)) ∧ (∀ a b, iMax a b = (if b > a then b else a)) ∧ (∀ a b, iMin a b = (if b < a then b else a)) ∧ (∀ a, bNot a = (!a)) ∧ (∀ a b, bEq a b = (a == b)) ∧ (∀ a b, bNe a b = (!(a == b))) ∧ (∀ a b, bAnd a b = (a && b)) ∧ (∀ a b, bOr a b = (a || b)) ∧ (∀ a b, sEq a b = (a.toList == b.toList)) ∧ (∀ a b, sNe a b = (!(a.toList == b.toList))) ∧ (∀ a, sLen a = (a.size)) ∧ (∀ a b, sCat a b = (a ++ b)) ∧ (∀ a lo hi, sCut a lo hi = (a.extract lo.toNat hi.toNat)) ∧ (∀ a n, sAt a n = ((a.data.getD n.toNat 0).toNat)) ∧ (∀ es, lenA es = (es.length)) ∧ (∀ es, lenN es = (es.length)) ∧ (∀ n, iOf n = (n)) ∧ (∀ n, natOf n = (n.toNat)) ∧ (∀ es n, atA es n = (es.getD n.toNat .undef)) ∧ (∀ es n, atN es n = (es.getD n .undef)) ∧ (∀ es lo hi, cutA es lo hi = ((es.take hi.toNat).drop lo.toNat)) ∧ (∀ es lo len, partA es lo len = ((es.drop lo).take len)) ∧ (∀ es lo, dropA es lo = (es.drop lo)) ∧ (∀ a b, catA a b = (a ++ b)) ∧ (∀ es n v, setA es n v = (es.set n v)) ∧ (∀ n v, repA n v = (List.replicate n.toNat v)) ∧ (∀ es lo m new, putA es lo m new = (putE es lo m new)) ∧ (∀ lo n, idxN lo n = (lo + n.toNat)) ∧ (∀ a b, addN a b = (a + b)) ∧ (∀ a b, subN a b = (a - b.toNat)) ∧ (∀ a b, minN a b = (min a b)) ∧ (∀ lo hi, lenCut lo hi = (hi.toNat - lo.toNat)) ∧ (∀ cs n k, rowA cs n k = ((cs.drop (n.toNat * k)).take k)))), p) : p :=
 words h
theorem cl_cons {v : AV} {l : List AV} (h : v.closed = true) (h2 : AV.closedL l = true) : AV.closedL (v :: l) = true := by simp only [AV.closedL, h, h2, Bool.and_self]
theorem cl_agg {l : List AV} (h : AV.closedL l = true) : (AV.agg l).closed = true := h
theorem cl_isl {k : Nat} {l : List AV} (h : AV.closedL l = true) : (AV.isl k l).closed = true := h
theorem cl_iptr {l : List AV} (h : AV.closedL l = true) : (AV.iptr l).closed = true := h
theorem cl_fn {f : FuncId} {l : List AV} (h : AV.closedL l = true) : (AV.fn f l).closed = true := h
section
variable {E : Env} {n N : Nat} {Q : AExit → AFr → AHeap → Prop} {k : List KI} {F : AFr} {H : AHeap}
theorem pcA {o : AOper} {l : List AOper} {f : FuncId} {xs : List Opd} {args : List AV} {v : AV} (hc : PCall E f args v) (h : Holds E n N Q (.ops l) k (F.set o.dst v) H) (hg : o.guard = none := by exact rfl) (ho : o.op = .call f xs := by exact rfl) (ha : xs.map (·.ev E.G F) = args := by exact rfl)
 (hcl : AV.closedL args = true := by repeat' (first | rfl | assumption | apply cl_cons | apply cl_agg | apply cl_isl | apply cl_iptr | apply cl_fn)) : Holds E n N Q (.ops (o :: l)) k F H := on_pcall hg ho ha hc hcl h
theorem pcG {o : AOper} {l : List AOper} {f : FuncId} {xs : List Opd} {args : List AV} {v : AV} {d : Nat} {b : Bool} (hc : PCall E f args v) (h : Holds E n N Q (.ops l) k (F.set o.dst v) H) (hg : o.guard = some (d, b) := by exact rfl) (hd : F.get d = .val (.bool b) := by exact rfl) (ho : o.op = .call f xs := by exact rfl) (ha : xs.map (·.ev E.G F) = args := by exact rfl)
 (hcl : AV.closedL args = true := by repeat' (first | rfl | assumption | apply cl_cons | apply cl_agg | apply cl_isl | apply cl_iptr | apply cl_fn)) : Holds E n N Q (.ops (o :: l)) k F H := on_gpcall hg hd ho ha hc hcl h
theorem pcT {K : List Kd → List AHeap → AFr → AHeap → Prop} {o : AOper} {l : List AOper} {f : FuncId} {xs : List Opd} {args : List AV} {v : AV} (hc : PCall E f args v) (h : TR E l (F.set o.dst v) H (fun ks => K (.free :: ks))) (hg : wantA F o.guard = some true := by exact rfl) (ho : o.op = .call f xs := by exact rfl) (ha : xs.map (·.ev E.G F) = args := by exact rfl)
 (hcl : AV.closedL args = true := by repeat' (first | rfl | assumption | apply cl_cons | apply cl_agg | apply cl_isl | apply cl_iptr | apply cl_fn)) : TR E (o :: l) F H K := tr_pcall hg ho ha hc hcl h
end
end Go.Am
end
