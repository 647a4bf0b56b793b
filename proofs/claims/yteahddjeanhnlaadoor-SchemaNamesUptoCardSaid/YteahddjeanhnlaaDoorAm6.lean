/- The abstract machine that the walks of this claim are carried out on: no condition. -/
import Derived.Test.YteahddjeanhnlaaDoorAm3
import Derived.Test.YteahddjeanhnlaaDoorAm4
import Derived.Test.YteahddjeanhnlaaDoorAm5
import Derived.ProofKit
import Derived.ReadAgain
import Derived.SizedLaws
import Derived.OpenShut
import Derived.LaidLaws
section
namespace Go.Am
open Go.ChangeShapes Go.WideShapes Go.ChangeAt Go.RowKit
mutual
def dBulk {H : Type} : DataW H → Nat
 | .lit (.string bytes) => bytes.length + 1
 | .lit _ => 1
 | .nil => 1
 | .ptr d => dBulk d + 1
 | .slice elems spare => dBulkAll elems + dBulkAll spare + 1
 | .agg parts => dBulkAll parts + 1
 | .iface _ d => dBulk d + 1
 | .map entries => dBulkEntries entries + 1
 | .held _ => 1
def dBulkAll {H : Type} : List (DataW H) → Nat
 | [] => 0
 | d :: r => dBulk d + dBulkAll r
def dBulkEntries {H : Type} : List (Lit × DataW H) → Nat
 | [] => 0
 | x :: r => dBulkEntry x + dBulkEntries r
def dBulkEntry {H : Type} : Lit × DataW H → Nat
 | (.string bytes, d) => bytes.length + dBulk d + 1
 | (_, d) => dBulk d + 1
end
mutual
def AV.bulk : AV → Nat
 | .isl _ es => AV.bulkL es + 1
 | .agg cs => AV.bulkL cs + 1
 | .val (.string s) => s.size + 1
 | _ => 1
def AV.bulkL : List AV → Nat
 | [] => 0
 | c :: cs => AV.bulk c + AV.bulkL cs
end
theorem bulkL_append (a b : List AV) : AV.bulkL (a ++ b) = AV.bulkL a + AV.bulkL b := by
 induction a with
 | nil => simp [AV.bulkL]
 | cons x a ih => simp only [List.cons_append, AV.bulkL, ih]; omega
theorem dBulk_pos {H : Type} (d : DataW H) : 1 ≤ dBulk d := by
 cases d with
 | lit l => cases l <;> simp [dBulk]
 | _ => simp [dBulk]
theorem dBulkAll_append {H : Type} (a b : List (DataW H)) : dBulkAll (a ++ b) = dBulkAll a + dBulkAll b := by
 induction a with
 | nil => simp [dBulkAll]
 | cons x a ih => simp only [List.cons_append, dBulkAll, ih]; omega
section
variable (P : Program)
def aggT (t : TypeId) : Bool :=
 match P.underlying t with
 | some d => isAggD d
 | none => false
def El (c : TypeId → List AV → Prop) (e : TypeId) (x : AV) : Prop :=
 if aggT P e then ∃ cs, x = .agg cs ∧ c e cs else x.cells = [x] ∧ c e [x]
def Cl : Nat → TypeId → List AV → Prop
 | 0, _, _ => False
 | n + 1, t, cs => match P.underlying t with
  | some .bool => ∃ b, cs = [.val (.bool b)]
  | some (.int k) => ∃ i, cs = [.val (.int k i)] ∧ (Lit.int k i).wf = true
  | some .string => ∃ s : ByteArray, cs = [.val (.string s)] ∧ s.size ≤ reachBytes
  | some (.slice e) => ∃ es, cs = [.isl (P.cellsOf e) es] ∧ es.length * P.bytesOf e ≤ reachBytes ∧ ∀ x ∈ es, El P (Cl n) e x
  | some (.struct fs) => ∃ css : List (List AV), cs = css.flatten ∧ css.length = fs.size ∧ ∀ (i : Nat) f c, fs[i]? = some f → css[i]? = some c → Cl n f.type c
  | some (.array m e) => ∃ css : List (List AV), cs = css.flatten ∧ css.length = m ∧ ∀ c ∈ css, Cl n e c
  | _ => cs = [.undef]
end
theorem Cl.single {P : Program} {n : Nat} {t : TypeId} {cs : List AV} (h : Cl P n t cs) (ha : aggT P t = false) : ∃ x : AV, cs = [x] ∧ x.cells = [x] := by
 cases n with
 | zero => exact h.elim
 | succ n =>
  unfold aggT at ha
  unfold Cl at h
  cases hu : P.underlying t with
  | none => rw [hu] at h; exact ⟨_, h, rfl⟩
  | some d =>
   rw [hu] at h ha
   cases d with
   | bool => obtain ⟨b, rfl⟩ := h; exact ⟨_, rfl, rfl⟩
   | int k => obtain ⟨b, rfl, _⟩ := h; exact ⟨_, rfl, rfl⟩
   | string => obtain ⟨b, rfl, _⟩ := h; exact ⟨_, rfl, rfl⟩
   | slice e => obtain ⟨b, rfl, _⟩ := h; exact ⟨_, rfl, rfl⟩
   | struct fs => simp [isAggD] at ha
   | array m e => simp [isAggD] at ha
   | _ => exact ⟨_, h, rfl⟩
structure Rd {H : Type} (P : Program) (C : Ctx) (w : World) (n : Nat) (t : TypeId) (vs : List Value) (d : DataW H) (cs : List AV) : Prop where
 cl : Cl P n t cs
 len : cs.length = vs.length
 rep : ∀ (j : Nat) c y, cs[j]? = some c → vs[j]? = some y → VRep C 0 w c y
 bulk : AV.bulkL cs + (if aggT P t then 1 else 0) ≤ dBulk d
theorem cells?_get {w : World} {base n : Nat} {a : Addr} {vs : List Value} (h : w.cells? base a n = some vs) : vs.length = n ∧ ∀ j, j < n → w.cell? (a.add j) = vs[j]? := by
 unfold World.cells? at h
 split at h
 · exact ⟨by simpa using mapM_some_length h, fun j hj => mapM_some_get h j j (by simp [hj])⟩
 · cases h
theorem spot_none {w : World} {a : Addr} {v : Value} (h : w.cell? a = some v) : a.spot = none ∧ a.block < w.heap.size := by
 unfold World.cell? at h
 split at h
 · rename_i c _ _ hh
   refine ⟨?_, (Array.getElem?_eq_some_iff.1 hh).1⟩
   cases hs : a.spot with
   | none => rfl
   | some s => rw [hs] at h; simp at h
 · cases h
theorem add_none {a : Addr} (h : a.spot = none) (i j : Nat) : (a.add i).add j = ⟨a.block, a.off + (i + j), none⟩ := by
 obtain ⟨b, o, s⟩ := a
 simp only at h; subst h
 unfold Addr.add
 by_cases h1 : i = 0 <;> by_cases h2 : j = 0 <;> simp [h1, h2, Nat.add_assoc]
theorem piece_flatten {vs : List Value} : ∀ (css : List (List AV)) (offs : List Nat) (R : AV → Value → Prop) (o : Nat), offs.length = css.length → (∀ (i : Nat) c f, css[i]? = some c → offs[i]? = some f → f = o + ((css.take i).map List.length).sum) →
 (∀ (i : Nat) c f, css[i]? = some c → offs[i]? = some f → ∀ (j : Nat) x y, c[j]? = some x → ((vs.drop f).take c.length)[j]? = some y → R x y) → ∀ (j : Nat) x y, css.flatten[j]? = some x → (vs.drop o)[j]? = some y → R x y
 | [], _, _, _, _, _, _, j, x, y, hx, _ => by simp at hx
 | c :: css, [], _, _, hl, _, _, _, _, _, _, _ => by simp at hl
 | c :: css, f :: offs, R, o, hl, ho, hR, j, x, y, hx, hy => by
  have hf : f = o := by simpa using ho 0 c f rfl rfl
  rw [List.flatten_cons] at hx
  by_cases hj : j < c.length
  · rw [List.getElem?_append_left hj] at hx
    refine hR 0 c f rfl rfl j x y hx ?_
    rw [hf, List.getElem?_take_of_lt hj]
    exact hy
  · rw [List.getElem?_append_right (by omega)] at hx
    refine piece_flatten css offs R (o + c.length) (by simpa using hl) (fun i c' f' hc hf' => ?_) (fun i c' f' hc hf' => hR (i + 1) c' f' (by simpa using hc) (by simpa using hf')) (j - c.length) x y hx ?_
    · have := ho (i + 1) c' f' (by simpa using hc) (by simpa using hf')
      rw [List.take_succ_cons, List.map_cons, List.sum_cons] at this; omega
    · rw [List.getElem?_drop] at hy ⊢
      rw [← hy]; congr 1; omega
theorem sum_take_le (ks : List Nat) (i : Nat) (k : Nat) (h : ks[i]? = some k) : (ks.take i).sum + k ≤ ks.sum := by
 induction ks generalizing i with
 | nil => simp at h
 | cons x ks ih =>
  cases i with
  | zero => simp at h; subst h; simp
  | succ i => have := ih i (by simpa using h); simp only [List.take_succ_cons, List.sum_cons]; omega
theorem pieces {H : Type} {P : Program} {C : Ctx} {w : World} {vs : List Value} {n : Nat} (ks : List Nat) (ts : List TypeId) (ds : List (DataW H)) (css : List (List AV)) (hl : css.length = ks.length) (hd : ds.length = ks.length) (ht : ts.length = ks.length) (hs : vs.length = ks.sum)
 (h : ∀ (i : Nat) k t d c, ks[i]? = some k → ts[i]? = some t → ds[i]? = some d → css[i]? = some c → Rd P C w n t ((vs.drop (ks.take i).sum).take k) d c) :
 css.flatten.length = vs.length ∧ (∀ (j : Nat) c y, css.flatten[j]? = some c → vs[j]? = some y → VRep C 0 w c y) ∧ AV.bulkL css.flatten ≤ dBulkAll ds := by
 have hlen : ∀ (i : Nat) k c, ks[i]? = some k → css[i]? = some c → c.length = k := by
  intro i k c hk hc
  obtain ⟨t, ht'⟩ : ∃ t, ts[i]? = some t := ⟨_, List.getElem?_eq_getElem (by have := (List.getElem?_eq_some_iff.1 hk).1; omega)⟩
  obtain ⟨d, hd'⟩ : ∃ d, ds[i]? = some d := ⟨_, List.getElem?_eq_getElem (by have := (List.getElem?_eq_some_iff.1 hk).1; omega)⟩
  have := (h i k t d c hk ht' hd' hc).len
  have h2 := sum_take_le ks i k hk
  simp at this; omega
 have hmap : css.map List.length = ks := by
  apply List.ext_getElem?
  intro i
  rw [List.getElem?_map]
  cases hc : css[i]? with
  | none => simp at hc; simp; omega
  | some c =>
   obtain ⟨k, hk⟩ : ∃ k, ks[i]? = some k := ⟨_, List.getElem?_eq_getElem (by have := (List.getElem?_eq_some_iff.1 hc).1; omega)⟩
   rw [hk]; simp [hlen i k c hk hc]
 refine ⟨by rw [List.length_flatten, hmap, hs], fun j c y hc hy => ?_, ?_⟩
 · refine piece_flatten css ((List.range css.length).map fun i => (ks.take i).sum) (VRep C 0 w) 0 (by simp) (fun i c f hc hf => ?_) (fun i c f hc hf j x y hx hy => ?_) j c y hc (by simpa using hy)
   · have hi : i < css.length := (List.getElem?_eq_some_iff.1 hc).1
     simp [hi] at hf; subst hf
     rw [← hmap, List.map_take]; simp
   · have hi : i < css.length := (List.getElem?_eq_some_iff.1 hc).1
     simp [hi] at hf; subst hf
     obtain ⟨k, hk⟩ : ∃ k, ks[i]? = some k := ⟨_, List.getElem?_eq_getElem (by omega)⟩
     obtain ⟨t, ht'⟩ : ∃ t, ts[i]? = some t := ⟨_, List.getElem?_eq_getElem (by omega)⟩
     obtain ⟨d, hd'⟩ : ∃ d, ds[i]? = some d := ⟨_, List.getElem?_eq_getElem (by omega)⟩
     rw [hlen i k c hk hc] at hy
     exact (h i k t d c hk ht' hd' hc).rep j x y hx hy
 · clear hmap hlen
   have hb : ∀ (i : Nat) c d, css[i]? = some c → ds[i]? = some d → AV.bulkL c ≤ dBulk d := by
    intro i c d hc hd'
    have hi : i < css.length := (List.getElem?_eq_some_iff.1 hc).1
    obtain ⟨k, hk⟩ : ∃ k, ks[i]? = some k := ⟨_, List.getElem?_eq_getElem (by omega)⟩
    obtain ⟨t, ht'⟩ : ∃ t, ts[i]? = some t := ⟨_, List.getElem?_eq_getElem (by omega)⟩
    have := (h i k t d c hk ht' hd' hc).bulk
    omega
   have hl' : css.length = ds.length := by omega
   clear h hl hd ht hs
   induction css generalizing ds with
   | nil => simp [AV.bulkL]
   | cons c css ih =>
    cases ds with
    | nil => simp at hl'
    | cons d ds =>
     rw [List.flatten_cons, bulkL_append]
     have := hb 0 c d rfl rfl
     have := ih ds (fun i c d hc hd' => hb (i + 1) c d (by simpa using hc) (by simpa using hd')) (by simpa using hl')
     simp only [dBulkAll]; omega
theorem Rd.elem {H : Type} {P : Program} {C : Ctx} {w : World} {n : Nat} {t : TypeId} {vs : List Value} {d : DataW H} {cs : List AV} (h : Rd P C w n t vs d cs) : ∃ x : AV, x.cells = cs ∧ El P (Cl P n) t x ∧ x.bulk ≤ dBulk d := by
 unfold El
 have hb := h.bulk
 by_cases ha : aggT P t = true
 · refine ⟨.agg cs, rfl, by rw [if_pos ha]; exact ⟨cs, rfl, h.cl⟩, ?_⟩
   rw [if_pos ha] at hb
   simpa [AV.bulk] using hb
 · obtain ⟨x, rfl, hx⟩ := h.cl.single (by simpa using ha)
   refine ⟨x, hx, by rw [if_neg ha]; exact ⟨hx, h.cl⟩, ?_⟩
   rw [if_neg ha] at hb
   simpa [AV.bulkL] using hb
theorem list_of {α : Type} [Inhabited α] {n : Nat} {p : Nat → α → Prop} (h : ∀ i, i < n → ∃ x, p i x) : ∃ l : List α, l.length = n ∧ ∀ (i : Nat) x, l[i]? = some x → p i x := by
 induction n with
 | zero => exact ⟨[], rfl, fun i x hx => by simp at hx⟩
 | succ n ih =>
  obtain ⟨l, hl, hp⟩ := ih fun i hi => h i (by omega)
  obtain ⟨x, hx⟩ := h n (by omega)
  refine ⟨l ++ [x], by simp [hl], fun i y hy => ?_⟩
  by_cases hi : i < n
  · rw [List.getElem?_append_left (by omega)] at hy; exact hp i y hy
  · rw [List.getElem?_append_right (by omega)] at hy
    have : i = n := by
     have := (List.getElem?_eq_some_iff.1 hy).1
     simp at this; omega
    subst this
    simp [hl] at hy; subst hy; exact hx
theorem weightsAll_mem {H : Type} {P : Program} {e : TypeId} {d : DataW H} {m : Nat} : ∀ {l : List (DataW H)}, d ∈ l → m ∈ d.weights P e → m ∈ DataW.weightsAll P e l
 | x :: l, h, hm => by
  simp only [DataW.weightsAll, List.mem_append]
  rcases List.mem_cons.1 h with rfl | h
  · exact .inl hm
  · exact .inr (weightsAll_mem h hm)
theorem weightsEach_mem {H : Type} {P : Program} {t : TypeId} {d : DataW H} {m : Nat} : ∀ {ts : List TypeId} {l : List (DataW H)} {i : Nat}, ts[i]? = some t → l[i]? = some d → m ∈ d.weights P t → m ∈ DataW.weightsEach P ts l
 | [], _, _, h, _, _ => by simp at h
 | _ :: _, [], _, _, h, _ => by simp at h
 | t' :: ts, x :: l, 0, h1, h2, hm => by
  simp at h1 h2; subst h1; subst h2
  simp only [DataW.weightsEach, List.mem_append]; exact .inl hm
 | t' :: ts, x :: l, i + 1, h1, h2, hm => by
  simp only [DataW.weightsEach, List.mem_append]; exact .inr (weightsEach_mem (by simpa using h1) (by simpa using h2) hm)
theorem read_cells {H : Type} {enc : TypeId × Value → H} {P : Program} {T : TypeId → Prop} (K : Kids P T) (hz : ∀ t e, T t → P.underlying t = some (.slice e) → 0 < P.cellsOf e) {C : Ctx} {w : World} (hI : ∀ b, b < w.heap.size → C.I b) {sp : Nat → Bool} {hd : Bool} :
 ∀ (n : Nat) (t : TypeId) (vs : List Value) (x : DataW H × List MemPlace), T t → DataW.trod enc P w 0 sp hd n t vs = some x → (∀ m ∈ x.1.weights P t, m ≤ reachBytes) → ∃ cs, Rd P C w n t vs x.1 cs := by
 intro n
 induction n with
 | zero => intro t vs x _ h; simp [DataW.trod] at h
 | succ n ih =>
  intro t vs x hT h hwt
  have one : ∀ (c : AV) (v : Value) (d : DataW H), Cl P (n + 1) t [c] → VRep C 0 w c v → c.bulk ≤ dBulk d → aggT P t = false → Rd P C w (n + 1) t [v] d [c] := by
   intro c v d h1 h2 h3 h4
   refine ⟨h1, rfl, fun j c' y hc hy => ?_, by rw [h4]; simpa [AV.bulkL] using h3⟩
   cases j with
   | zero => simp at hc hy; subst hc; subst hy; exact h2
   | succ j => simp at hc
  cases hu : P.underlying t with
  | none => exfalso; unfold DataW.trod at h; rw [hu] at h; simp at h
  | some d =>
   have other : Cl P (n + 1) t [.undef] → isAggD d = false → (∃ v, vs = [v]) → ∃ cs, Rd P C w (n + 1) t vs x.1 cs := by
    rintro h1 h2 ⟨v, rfl⟩
    exact ⟨_, one .undef v x.1 h1 (.undef _) (dBulk_pos _) (by simp [aggT, hu, h2])⟩
   cases d with
   | bool =>
    obtain ⟨b, rfl, rfl⟩ := DataW.trod_bool hu h
    exact ⟨_, one (.val (.bool b)) _ _ (by simp [Cl, hu]) (.val _ (by intro cs; simp)) (dBulk_pos _) (by simp [aggT, hu, isAggD])⟩
   | int k =>
    obtain ⟨b, rfl, rfl, hw⟩ := DataW.trod_int hu h
    exact ⟨_, one (.val (.int k b)) _ _ (by simp [Cl, hu, hw]) (.val _ (by intro cs; simp)) (dBulk_pos _) (by simp [aggT, hu, isAggD])⟩
   | string =>
    obtain ⟨b, rfl, rfl, hw⟩ := DataW.trod_string hu h
    exact ⟨_, one (.val (.string b)) _ _ (by simp only [Cl, hu]; exact ⟨b, rfl, by have := hwt b.data.toList.length (by simp [DataW.weights]); rwa [Array.length_toList] at this⟩) (.val _ (by intro cs; simp)) (by rw [AV.bulk]; simp only [dBulk, Array.length_toList]; exact Nat.le_refl _) (by simp [aggT, hu, isAggD])⟩
   | slice e =>
    have hk := hz t e hT hu
    rcases DataW.trod_slice hu h with ⟨rfl, rfl⟩ | ⟨a, len, cap, elems, rest, m, hm, rfl, rfl, hb, hl, hc, hlen, hel, _, _⟩
    · exact ⟨_, one (.isl (P.cellsOf e) []) _ _ (by simp [Cl, hu]) (.islnil _) (by simp [AV.bulk, AV.bulkL, dBulk]) (by simp [aggT, hu, isAggD])⟩
    · obtain rfl : n = m := by omega
      have hex : ∀ i, i < len → ∃ e' : AV, ∃ (vs' : List Value) (y : DataW H × List MemPlace) (cs : List AV), w.cells? 0 (a.add (i * P.cellsOf e)) (P.cellsOf e) = some vs' ∧ elems[i]? = some y ∧ Rd P C w n e vs' y.1 cs ∧ e'.cells = cs ∧ El P (Cl P n) e e' ∧ e'.bulk ≤ dBulk y.1 := by
       intro i hi
       have h1 := hel i hi
       obtain ⟨y, hy⟩ : ∃ y, elems[i]? = some y := ⟨_, List.getElem?_eq_getElem (by omega)⟩
       rw [hy] at h1
       obtain ⟨vs', h2, h3⟩ := Option.bind_eq_some_iff.1 h1
       obtain ⟨cs, hr⟩ := ih e vs' y (K.slice hT hu) h3 (fun m hm => hwt m (by
        simp only [DataW.weights, hu]
        exact List.mem_cons_of_mem _ (List.mem_append_left _ (weightsAll_mem (List.mem_map.2 ⟨y, List.mem_of_getElem? hy, rfl⟩) hm))))
       obtain ⟨e', g1, g2, g3⟩ := hr.elem
       exact ⟨e', vs', y, cs, h2, hy, hr, g1, g2, g3⟩
      obtain ⟨es, hes, hp⟩ := list_of hex
      refine ⟨_, one (.isl (P.cellsOf e) es) _ _ ?_ ?_ ?_ (by simp [aggT, hu, isAggD])⟩
      · simp only [Cl, hu]
        refine ⟨es, rfl, ?_, fun x hx => ?_⟩
        · have := hwt (((elems.map (·.1)).length + (rest.map (·.1)).length) * P.bytesOf e) (by simp only [DataW.weights, hu]; exact List.mem_cons_self)
          refine Nat.le_trans (Nat.mul_le_mul_right _ ?_) this
          simp only [List.length_map]; omega
        obtain ⟨i, hi, rfl⟩ := List.getElem_of_mem hx
        obtain ⟨_, _, _, _, _, _, _, h5, _⟩ := hp i _ (List.getElem?_eq_getElem hi)
        exact h5
      · have cell : ∀ (i : Nat) e' (j : Nat) c, es[i]? = some e' → e'.cells[j]? = some c → ∃ v, w.cell? ((a.add (i * P.cellsOf e)).add j) = some v ∧ VRep C 0 w c v ∧ e'.cells.length = P.cellsOf e := by
         intro i e' j c he hc
         obtain ⟨vs', y, cs, h1, h2, h3, h4, h5, h6⟩ := hp i e' he
         obtain ⟨g1, g2⟩ := cells?_get h1
         rw [h4] at hc ⊢
         have hj : j < cs.length := (List.getElem?_eq_some_iff.1 hc).1
         have hjl := h3.len
         obtain ⟨v, hv⟩ : ∃ v, vs'[j]? = some v := ⟨_, List.getElem?_eq_getElem (by omega)⟩
         refine ⟨v, ?_, h3.rep j c v hc hv, by omega⟩
         rw [g2 j (by omega), hv]
        have hlenk : ∀ (i : Nat) e', es[i]? = some e' → e'.cells.length = P.cellsOf e := by
         intro i e' he
         obtain ⟨vs', y, cs, h1, h2, h3, h4, h5, h6⟩ := hp i e' he
         rw [h4, h3.len]; exact (cells?_get h1).1
        have hne : es ≠ [] → C.I a.block ∧ a.spot = none := by
         intro hne
         obtain ⟨e', he⟩ : ∃ e', es[0]? = some e' := ⟨_, List.getElem?_eq_getElem (List.length_pos_iff.2 hne)⟩
         obtain ⟨c, hc⟩ : ∃ c, e'.cells[0]? = some c := ⟨_, List.getElem?_eq_getElem (by rw [hlenk 0 e' he]; exact hk)⟩
         obtain ⟨v, hv, _⟩ := cell 0 e' 0 c he hc
         have e0 : (a.add (0 * P.cellsOf e)).add 0 = a := by simp [Addr.add]
         rw [e0] at hv
         have := spot_none hv
         exact ⟨hI _ this.2, this.1⟩
        rw [← hes]
        rw [← hes] at hl
        refine .isl (P.cellsOf e) es (fun i j => (w.cell? ⟨a.block, a.off + (i * P.cellsOf e + j), none⟩).getD undef) a cap hl hne hlenk (fun i e' j c he hc => ?_) (fun i e' j c he hc => ?_)
        all_goals
         have hne' := (hne (by rintro rfl; simp at he)).2
         obtain ⟨v, hv, hr, _⟩ := cell i e' j c he hc
         rw [add_none hne'] at hv
         rw [hv]
        · rfl
        · exact hr
      · simp only [AV.bulk, dBulk]
        have : AV.bulkL es ≤ dBulkAll (elems.map (·.1)) := by
         have hb : ∀ (i : Nat) e' y, es[i]? = some e' → elems[i]? = some y → e'.bulk ≤ dBulk y.1 := by
          intro i e' y he hy
          obtain ⟨vs', y', cs, h1, h2, h3, h4, h5, h6⟩ := hp i e' he
          rw [hy] at h2; cases h2; exact h6
         have hll : es.length = elems.length := by omega
         clear hp hes hel hex hlen h one other hl hwt
         induction es generalizing elems with
         | nil => simp [AV.bulkL]
         | cons e' es ih' =>
          cases elems with
          | nil => simp at hll
          | cons y elems =>
           have := hb 0 e' y rfl rfl
           have := ih' elems (fun i e' y he hy => hb (i + 1) e' y (by simpa using he) (by simpa using hy)) (by simpa using hll)
           simp only [AV.bulkL, List.map_cons, dBulkAll]; omega
        omega
   | struct fs =>
    obtain ⟨xs, m, hm, rfl, hcl, hxs, hf⟩ := DataW.trod_struct hu h
    obtain rfl : n = m := by omega
    obtain ⟨hk1, hk2, hk3⟩ := K.struct hT hu
    have hex : ∀ i, i < fs.size → ∃ c : List AV, ∃ (f : Field) (y : DataW H × List MemPlace), fs[i]? = some f ∧ xs[i]? = some y ∧ Rd P C w n f.type ((vs.drop f.offset).take (P.cellsOf f.type)) y.1 c := by
     intro i hi
     obtain ⟨f, hfi⟩ : ∃ f, fs[i]? = some f := ⟨_, Array.getElem?_eq_getElem hi⟩
     obtain ⟨y, hy⟩ : ∃ y, xs[i]? = some y := ⟨_, List.getElem?_eq_getElem (by omega)⟩
     have h1 := hf i f hfi
     rw [hy] at h1
     obtain ⟨cs, hr⟩ := ih f.type _ y (hk1 f (by rw [List.mem_iff_getElem?]; exact ⟨i, by simpa using hfi⟩)) h1 (fun m hm => hwt m (by
      simp only [DataW.weights, hu]
      exact weightsEach_mem (i := i) (by rw [List.getElem?_map]; simp [hfi]) (by rw [List.getElem?_map, hy]; rfl) hm))
     exact ⟨cs, f, y, hfi, hy, hr⟩
    obtain ⟨css, hcs, hp⟩ := list_of hex
    have hR : ∀ (i : Nat) k t d c, (fs.toList.map fun f => P.cellsOf f.type)[i]? = some k → (fs.toList.map (·.type))[i]? = some t → (xs.map (·.1))[i]? = some d → css[i]? = some c → Rd P C w n t ((vs.drop ((fs.toList.map fun f => P.cellsOf f.type).take i).sum).take k) d c := by
     intro i k t d c h1 h2 h3 h4
     obtain ⟨f, y, g1, g2, g3⟩ := hp i c h4
     have hfl : fs.toList[i]? = some f := by simpa using g1
     rw [List.getElem?_map, hfl] at h1 h2
     rw [List.getElem?_map, g2] at h3
     simp at h1 h2 h3; subst h1; subst h2; subst h3
     have := hk3 i f hfl
     rw [List.map_take] at this
     rw [← this]; exact g3
    obtain ⟨a1, a2, a3⟩ := pieces (n := n) (fs.toList.map fun f => P.cellsOf f.type) (fs.toList.map (·.type)) (xs.map (·.1)) css (by simp [hcs]) (by simp [hxs]) (by simp) (by rw [hcl, hk2]) hR
    refine ⟨css.flatten, ?_, a1, a2, ?_⟩
    · simp only [Cl, hu]
      refine ⟨css, rfl, hcs, fun i f c hfi hc => ?_⟩
      obtain ⟨f', y, g1, g2, g3⟩ := hp i c hc
      rw [hfi] at g1; cases g1; exact g3.cl
    · simp only [aggT, hu, isAggD, if_true, dBulk]; omega
   | array m e =>
    obtain ⟨xs, m', hm, rfl, hcl, hxs, hf⟩ := DataW.trod_array hu h
    obtain rfl : n = m' := by omega
    obtain ⟨hk1, hk2⟩ := K.array hT hu
    have hex : ∀ i, i < m → ∃ c : List AV, ∃ (y : DataW H × List MemPlace), xs[i]? = some y ∧ Rd P C w n e ((vs.drop (i * P.cellsOf e)).take (P.cellsOf e)) y.1 c := by
     intro i hi
     obtain ⟨y, hy⟩ : ∃ y, xs[i]? = some y := ⟨_, List.getElem?_eq_getElem (by omega)⟩
     have h1 := hf i hi
     rw [hy] at h1
     obtain ⟨cs, hr⟩ := ih e _ y hk1 h1 (fun m hm => hwt m (by
      simp only [DataW.weights, hu]
      exact weightsAll_mem (List.mem_map.2 ⟨y, List.mem_of_getElem? hy, rfl⟩) hm))
     exact ⟨cs, y, hy, hr⟩
    obtain ⟨css, hcs, hp⟩ := list_of hex
    have hsum : ∀ i, i ≤ m → ((List.replicate m (P.cellsOf e)).take i).sum = i * P.cellsOf e := by
     intro i hi
     rw [List.take_replicate]; simp [Nat.min_eq_left hi]
    have hR : ∀ (i : Nat) k t d c, (List.replicate m (P.cellsOf e))[i]? = some k → (List.replicate m e)[i]? = some t → (xs.map (·.1))[i]? = some d → css[i]? = some c → Rd P C w n t ((vs.drop ((List.replicate m (P.cellsOf e)).take i).sum).take k) d c := by
     intro i k t d c h1 h2 h3 h4
     obtain ⟨y, g2, g3⟩ := hp i c h4
     have hi : i < m := by have := (List.getElem?_eq_some_iff.1 h4).1; omega
     rw [List.getElem?_map, g2] at h3
     simp [hi] at h1 h2 h3; subst h1; subst h2; subst h3
     rw [hsum i (by omega)]; exact g3
    obtain ⟨a1, a2, a3⟩ := pieces (n := n) (List.replicate m (P.cellsOf e)) (List.replicate m e) (xs.map (·.1)) css (by simp [hcs]) (by simp [hxs]) (by simp) (by rw [hcl, hk2]; simp) hR
    refine ⟨css.flatten, ?_, a1, a2, ?_⟩
    · simp only [Cl, hu]
      refine ⟨css, rfl, hcs, fun c hc => ?_⟩
      obtain ⟨i, hi, rfl⟩ := List.getElem_of_mem hc
      obtain ⟨y, g2, g3⟩ := hp i _ (List.getElem?_eq_getElem hi)
      exact g3.cl
    · simp only [aggT, hu, isAggD, if_true, dBulk]; omega
   | _ => exact other (by simp [Cl, hu]) rfl (by clear hwt ih one other hz hI K; unfold DataW.trod at h; rw [hu] at h; split at h <;> simp_all)
end Go.Am
end
section
namespace Go.Am
open Go.ChangeShapes Go.WideShapes Go.ChangeAt Go.RowKit
def ElAll (P : Program) : List TypeId → List AV → Prop
 | [], [] => True
 | t :: ts, x :: xs => (∃ n, El P (Cl P n) t x) ∧ ElAll P ts xs
 | _, _ => False
theorem cells_of_ok {P : Program} {w : World} {b : Nat} {t : TypeId} {v : Value} (h : Value.okWide P w .any b t v) : (aggT P t = true ∧ ∃ cs, v = .agg cs) ∨ (aggT P t = false ∧ v.cells.toList = [v] ∧ ∀ cs, v ≠ .agg cs) := by
 unfold Value.okWide at h
 unfold aggT
 cases hu : P.underlying t with
 | none => rw [hu] at h; simp [Cell.okWide, Cell.ok, hu] at h
 | some d =>
  rw [hu] at h
  cases d with
  | struct fs => obtain ⟨cs, rfl, _⟩ := h; exact .inl ⟨rfl, cs, rfl⟩
  | array m e => obtain ⟨cs, rfl, _⟩ := h; exact .inl ⟨rfl, cs, rfl⟩
  | _ =>
   right
   refine ⟨rfl, ?_⟩
   cases v with
   | agg cs => simp [Cell.okWide, Cell.ok, hu] at h
   | tuple cs => simp [Cell.okWide, Cell.ok, hu] at h
   | _ => exact ⟨rfl, by intro cs; simp⟩
theorem Rd.arg {H : Type} {P : Program} {C : Ctx} {w : World} {n : Nat} {t : TypeId} {v : Value} {d : DataW H} {cs : List AV} {b : Nat} (h : Rd P C w n t v.cells.toList d cs) (hok : Value.okWide P w .any b t v) :
 ∃ x, VRep C 0 w x v ∧ El P (Cl P n) t x ∧ x.bulk ≤ dBulk d := by
 have hb := h.bulk
 unfold El
 rcases cells_of_ok hok with ⟨ha, vs, rfl⟩ | ⟨ha, hv, _⟩
 · rw [ha, if_pos rfl] at hb
   refine ⟨.agg cs, ?_, by rw [ha, if_pos rfl]; exact ⟨cs, rfl, h.cl⟩, by simpa [AV.bulk] using hb⟩
   have := VRep.agg cs vs.toList (K := C) (M := 0) (w := w) (by simpa [Value.cells] using h.len) (fun i c y hc hy => h.rep i c y hc (by simpa [Value.cells] using hy))
   simpa using this
 · obtain ⟨x, rfl, hx⟩ := h.cl.single ha
   rw [hv] at h
   rw [ha] at hb
   exact ⟨x, h.rep 0 x v rfl rfl, by rw [ha]; exact ⟨hx, h.cl⟩, by simpa [AV.bulkL] using hb⟩
theorem read_args {H : Type} {enc : TypeId × Value → H} {P : Program} {T : TypeId → Prop} (K : Kids P T) (hz : ∀ t e, T t → P.underlying t = some (.slice e) → 0 < P.cellsOf e) {C : Ctx} {w : World} (hI : ∀ b, b < w.heap.size → C.I b) {b : Nat} :
 ∀ (ts : List TypeId) (vs : List Value) (ds : List (DataW H)) (ps : List MemPlace), (∀ t ∈ ts, T t) → DataW.TrodAll enc P w 0 (fun _ => true) true ts vs ds ps → (∀ (j : Nat) t v, ts[j]? = some t → vs[j]? = some v → Value.okWide P w .any b t v) → (∀ m ∈ DataW.weightsEach P ts ds, m ≤ reachBytes) →
  ∃ xs, VReps C 0 w xs vs ∧ ElAll P ts xs ∧ AV.bulkL xs ≤ dBulkAll ds
 | [], [], [], _, _, _, _, _ => ⟨[], ⟨rfl, fun i x y h => by simp at h⟩, trivial, by simp [AV.bulkL]⟩
 | t :: ts, v :: vs, d :: ds, ps, hT, h, hok, hwt => by
  obtain ⟨p, q, ⟨n, hn⟩, h2, _⟩ := h
  obtain ⟨xs, g1, g2, g3⟩ := read_args K hz hI ts vs ds q (fun t ht => hT t (List.mem_cons_of_mem _ ht)) h2 (fun j t v ht hv => hok (j + 1) t v (by simpa using ht) (by simpa using hv)) (fun m hm => hwt m (by simp only [DataW.weightsEach, List.mem_append]; exact .inr hm))
  obtain ⟨cs, hr⟩ := read_cells K hz hI n t _ _ (hT t List.mem_cons_self) hn (fun m hm => hwt m (by simp only [DataW.weightsEach, List.mem_append]; exact .inl hm))
  obtain ⟨x, k1, k2, k3⟩ := hr.arg (hok 0 t v rfl rfl)
  dsimp only at k3
  refine ⟨x :: xs, ⟨by simp [g1.1], fun i x' y' hx hy => ?_⟩, ⟨⟨n, k2⟩, g2⟩, by simp only [AV.bulkL, dBulkAll]; omega⟩
  cases i with
  | zero => simp at hx hy; subst hx; subst hy; exact k1
  | succ i => exact g1.2 i x' y' (by simpa using hx) (by simpa using hy)
 | [], [], _ :: _, _, _, h, _, _ => by simp [DataW.TrodAll] at h
 | [], _ :: _, [], _, _, h, _, _ => by simp [DataW.TrodAll] at h
 | [], _ :: _, _ :: _, _, _, h, _, _ => by simp [DataW.TrodAll] at h
 | _ :: _, [], [], _, _, h, _, _ => by simp [DataW.TrodAll] at h
 | _ :: _, [], _ :: _, _, _, h, _, _ => by simp [DataW.TrodAll] at h
 | _ :: _, _ :: _, [], _, _, h, _, _ => by simp [DataW.TrodAll] at h
theorem TrodAll_carry {H : Type} {enc : TypeId × Value → H} {P : Program} {w w' : World} {base : Nat} {sp : Nat → Bool} {hd : Bool} : ∀ (ts : List TypeId) (vs : List Value) (ds : List (DataW H)) (ps : List MemPlace),
 DataW.TrodAll enc P w base sp hd ts vs ds ps → (∀ p ∈ ps, w.sameAt w' p) → DataW.TrodAll enc P w' base sp hd ts vs ds ps
 | [], [], [], _, h, _ => h
 | t :: ts, v :: vs, d :: ds, ps, h, hs => by
  obtain ⟨p, q, ⟨n, hn⟩, h2, rfl⟩ := h
  exact ⟨p, q, ⟨n, DataW.trod_carry n _ _ _ hn fun x hx => hs x (List.mem_append_left _ hx)⟩, TrodAll_carry ts vs ds q h2 fun x hx => hs x (List.mem_append_right _ hx), rfl⟩
 | [], [], _ :: _, _, h, _ => by simp [DataW.TrodAll] at h
 | [], _ :: _, [], _, h, _ => by simp [DataW.TrodAll] at h
 | [], _ :: _, _ :: _, _, h, _ => by simp [DataW.TrodAll] at h
 | _ :: _, [], [], _, h, _ => by simp [DataW.TrodAll] at h
 | _ :: _, [], _ :: _, _, h, _ => by simp [DataW.TrodAll] at h
 | _ :: _, _ :: _, [], _, h, _ => by simp [DataW.TrodAll] at h
def Held (w w' : World) : Prop := (∀ b, b < w.heap.size → w'.heap[b]? = w.heap[b]?) ∧ w'.os = w.os ∧ w'.output = w.output
theorem Held.same {w w' : World} (h : Held w w') (p : MemPlace) (hp : p.block < w.heap.size) : w.sameAt w' p := by
 have := h.1 _ hp
 cases p with
 | cell b o => simp only [MemPlace.block] at this; simp only [World.sameAt, World.cell?]; rw [this]
 | map b => simp only [MemPlace.block] at this; simp only [World.sameAt]; rw [this]
theorem Held.kept {w w' : World} (h : Held w w') (may : MemPlace → Prop) : w.keptBut w' may := by
 refine ⟨h.2.1, h.2.2, fun i hi => ?_⟩
 rw [h.1 i hi]
 obtain ⟨o, ho⟩ : ∃ o, w.heap[i]? = some o := ⟨_, Array.getElem?_eq_getElem hi⟩
 rw [ho]
 cases o with
 | cells c t fr => exact ⟨rfl, rfl, rfl, fun j _ => rfl⟩
 | map es clock => exact .inr ⟨rfl, rfl⟩
 | _ => rfl
theorem Held.frozen {w w' : World} (h : Held w w') (a : Addr) (ha : a.block < w.heap.size) : w'.frozen? a = w.frozen? a := by
 unfold World.frozen?; rw [h.1 _ ha]
theorem law_postG {H : Type} {enc : TypeId × Value → H} {E : Env} {f : FuncId} {fn : Func} {s : ChangeSpec} {fresh handsOn again : Bool} (K : Kids E.P (· < E.P.types.size)) (hz : ∀ t e, t < E.P.types.size → E.P.underlying t = some (.slice e) → 0 < E.P.cellsOf e)
 (hvars : s.vars = []) (hts : ∀ t ∈ fn.params.toList, t < E.P.types.size) {tb : TypeId} (hres : fn.resultTypes = #[tb]) (hb : E.P.underlying tb = some .bool) (hspec : ∀ ds : List (DataW H), ds.length = fn.params.size → s.fn H ds = ⟨[.lit (.bool true)], ds, []⟩)
 {W : World} (hglob : ∀ g, VRep ⟨fun _ => none, fun b => b < W.heap.size⟩ 0 W (E.G g) (.pointer (some ⟨g, 0, none⟩))) {base : Nat} {args : Array Value} {ds gs : List (DataW H)} {before : List MemPlace} (hval : ∀ (j : Nat) t v, fn.params[j]? = some t → args[j]? = some v → Value.okWide E.P W .any base t v)
 (hW : DataW.Whole enc E.P fn.params.toList s.vars false W args.toList ds gs before)
 (hwt : (DataW.weightsEach E.P (fn.params.toList ++ s.plain.varTypes E.P) (ds ++ gs)).all (· ≤ reachBytes) = true)
 (hlaw : ∀ xs, ElAll E.P fn.params.toList xs → AV.bulkL xs ≤ dBulkAll ds → PCall E f xs (.val (.bool true))) :
 Calls E.P f args W fun e W' => ∃ v, e = .returned v ∧ s.post enc E.P fn false fresh handsOn again W args v W' := by
 have hW' := hW
 obtain ⟨p, q, hA, hV, rfl, hfz, _⟩ := hW
 rw [hvars] at hV
 obtain ⟨rfl, rfl⟩ := trodVars_none hV
 simp only [List.append_nil] at hW' hfz
 have hlt : ∀ x ∈ p, x.block < W.heap.size := fun x hx => by simpa using hW'.lt x hx
 obtain ⟨xs, h1, h2, h3⟩ := read_args (C := ⟨fun _ => none, fun b => b < W.heap.size⟩) (b := base) K hz (fun b hb => hb) fn.params.toList args.toList ds p hts hA (fun j t v ht hv => hval j t v (by simpa using ht) (by simpa using hv)) (fun m hm => by
  have : s.plain.varTypes E.P = [] := by simp [ChangeSpec.plain, DataSpec.varTypes, hvars]
  rw [this] at hwt
  simp only [List.append_nil] at hwt
  exact of_decide_eq_true (List.all_eq_true.1 hwt m hm))
 have hh : HRep E ⟨fun _ => none, fun b => b < W.heap.size⟩ W [] := by
  refine ⟨fun b o h => by simp at h, fun b b' o o' _ _ _ h => by simp at h, fun b ⟨_, _, _, h, _⟩ => by simp at h, fun b hb => hb, hglob⟩
 have hl := (hlaw xs h2 h3).2 _ W args.toList hh h1
 rw [show args.toList.toArray = args from rfl] at hl
 refine hl.mono fun e W' => ?_
 rintro ⟨v, y, H', K', rfl, ⟨rfl, rfl⟩, hh', hv, ev⟩
 cases hv with
 | val _ _ =>
 have held : Held W W' := ⟨fun b hb => ev.frame b hb (by rintro ⟨_, _, _, h, _⟩; simp at h), ev.os, ev.out⟩
 have hdl : ds.length = fn.params.size := by
  have : ∀ (ts : List TypeId) (vs : List Value) (ds : List (DataW H)) (ps : List MemPlace), DataW.TrodAll enc E.P W 0 (fun _ => true) true ts vs ds ps → ds.length = ts.length := by
   intro ts
   induction ts with
   | nil => intro vs ds ps h; cases vs <;> cases ds <;> simp_all [DataW.TrodAll]
   | cons t ts ih =>
    intro vs ds ps h
    cases vs with
    | nil => simp [DataW.TrodAll] at h
    | cons v vs =>
     cases ds with
     | nil => simp [DataW.TrodAll] at h
     | cons d ds => obtain ⟨_, _, _, h2, _⟩ := h; simp [ih _ _ _ h2]
  simpa using this _ _ _ _ hA
 have hfn := hspec ds hdl
 have hA' : ∀ sp : Nat → Bool, (∀ x ∈ p, sp x.block = true) → DataW.TrodAll enc E.P W' 0 sp true fn.params.toList args.toList ds p := fun sp hsp =>
  TrodAll_carry _ _ _ _ (DataW.TrodAll.respare K hz hts hA hsp) fun x hx => held.same x (hlt x hx)
 have hR : ∀ (b : Nat) (sp : Nat → Bool) (hd : Bool), DataW.TrodAll enc E.P W' b sp hd fn.resultTypes.toList ((Value.bool true).resultList fn.resultTypes.size) [.lit (.bool true)] [] := fun b sp hd => by
  rw [hres]; exact trodAll_mk1 (shut_bool hb true)
 have hVn : ∀ sp : Nat → Bool, DataW.TrodVars enc E.P W' sp s.vars ([] : List (DataW H)) [] := fun sp => by rw [hvars]; rfl
 refine ⟨_, rfl, ds, [], p, [], p, [], hW', ?_, ?_, ?_, held.kept _, fun _ => ⟨?_, ?_⟩⟩
 · rw [List.append_nil, hfn]; exact hR _ _ _
 · rw [List.append_nil, hfn]; exact hA' _ fun x hx => by simpa using hlt x hx
 · rw [List.append_nil, hfn]; exact hVn _
 · exact ok_one (t := tb) hres rfl (okWide_bool_mk hb true)
 · refine ⟨_, [], p, ⟨p, [], trodAll_append (hA' (fun _ => true) fun _ _ => rfl) (hR _ _ _), hVn _, by simp, fun b o hp => ?_, fun h => by cases h⟩, fun x hx _ => hx⟩
   rw [held.frozen _ (hlt _ hp)]
   exact hfz b o hp
def ClF (P : Program) (m : Nat) : List TypeId → List AV → Prop
 | [], cs => cs = []
 | t :: ts, cs => ∃ a b, cs = a ++ b ∧ Cl P m t a ∧ ClF P m ts b
section
variable {P : Program} {n : Nat} {t : TypeId} {cs : List AV}
theorem Cl.int {k : IntKind} (hu : P.underlying t = some (.int k)) (h : Cl P n t cs) : ∃ i, cs = [.val (.int k i)] ∧ (Lit.int k i).wf = true := by
 cases n with
 | zero => exact h.elim
 | succ n => unfold Cl at h; rw [hu] at h; exact h
theorem Cl.bool (hu : P.underlying t = some .bool) (h : Cl P n t cs) : ∃ b, cs = [.val (.bool b)] := by
 cases n with
 | zero => exact h.elim
 | succ n => unfold Cl at h; rw [hu] at h; exact h
theorem Cl.str (hu : P.underlying t = some .string) (h : Cl P n t cs) : ∃ s : ByteArray, cs = [.val (.string s)] ∧ s.size ≤ reachBytes := by
 cases n with
 | zero => exact h.elim
 | succ n => unfold Cl at h; rw [hu] at h; exact h
theorem Cl.slice {e : TypeId} (hu : P.underlying t = some (.slice e)) (h : Cl P n t cs) : ∃ m es, cs = [.isl (P.cellsOf e) es] ∧ es.length * P.bytesOf e ≤ reachBytes ∧ ∀ x ∈ es, El P (Cl P m) e x := by
 cases n with
 | zero => exact h.elim
 | succ n => unfold Cl at h; rw [hu] at h; exact ⟨n, h⟩
theorem Cl.struct {fs : Array Field} (hu : P.underlying t = some (.struct fs)) (h : Cl P n t cs) : ∃ m, ClF P m (fs.toList.map (·.type)) cs := by
 cases n with
 | zero => exact h.elim
 | succ n =>
  unfold Cl at h; rw [hu] at h
  obtain ⟨css, rfl, hl, hc⟩ := h
  refine ⟨n, ?_⟩
  obtain ⟨fs⟩ := fs
  dsimp only at hc ⊢
  have hc' : ∀ (i : Nat) f c, fs[i]? = some f → css[i]? = some c → Cl P n f.type c := fun i f c hf hcc => hc i f c (by simpa using hf) hcc
  have hl' : css.length = fs.length := by simpa using hl
  clear hc hl hu
  induction fs generalizing css with
  | nil => cases css with
   | nil => rfl
   | cons c css => simp at hl'
  | cons f fs ih => cases css with
   | nil => simp at hl'
   | cons c css => exact ⟨c, css.flatten, by simp, hc' 0 f c rfl rfl, ih css (fun i f c hf hcc => hc' (i + 1) f c (by simpa using hf) (by simpa using hcc)) (by simpa using hl')⟩
theorem Cl.array {m : Nat} {e : TypeId} (hu : P.underlying t = some (.array m e)) (h : Cl P n t cs) : ∃ m', ClF P m' (List.replicate m e) cs := by
 cases n with
 | zero => exact h.elim
 | succ n =>
  unfold Cl at h; rw [hu] at h
  obtain ⟨css, rfl, hl, hc⟩ := h
  refine ⟨n, ?_⟩
  clear hu
  induction m generalizing css with
  | zero => cases css with
   | nil => rfl
   | cons c css => simp at hl
  | succ m ih => cases css with
   | nil => simp at hl
   | cons c css => exact ⟨c, css.flatten, by simp, hc c (by simp), ih css (by simpa using hl) (fun c hcc => hc c (by simp [hcc]))⟩
theorem El.agg {c : TypeId → List AV → Prop} {x : AV} (ha : aggT P t = true) (h : El P c t x) : ∃ cs, x = .agg cs ∧ c t cs := by
 unfold El at h; rw [ha] at h; exact h
theorem El.one {c : TypeId → List AV → Prop} {x : AV} (ha : aggT P t = false) (h : El P c t x) : c t [x] := by
 unfold El at h; rw [ha] at h; exact h.2
end
theorem list_enc {α : Type} {enc : α → AV} {ok : α → Prop} : ∀ {es : List AV}, (∀ x ∈ es, ∃ c, x = enc c ∧ ok c) → ∃ l : List α, es = mapE enc l ∧ ∀ c ∈ l, ok c
 | [], _ => ⟨[], by simp [mapE_eq], fun c h => by simp at h⟩
 | x :: es, h => by
  obtain ⟨c, rfl, hc⟩ := h x List.mem_cons_self
  obtain ⟨l, rfl, hl⟩ := list_enc fun x hx => h x (List.mem_cons_of_mem _ hx)
  exact ⟨c :: l, by simp [mapE_eq], fun c' h' => by
   rcases List.mem_cons.1 h' with rfl | h'
   · exact hc
   · exact hl c' h'⟩
end Go.Am
end
section
namespace Go.Am
mutual
def flatD {H : Type} : DataW H → List Value
 | .lit (.bool b) => [.bool b]
 | .lit (.int k n) => [.int k n]
 | .lit (.string s) => [.string ⟨s.toArray⟩]
 | .agg ds => flatDs ds
 | _ => []
def flatDs {H : Type} : List (DataW H) → List Value
 | [] => []
 | d :: r => flatD d ++ flatDs r
end
def offsF (P : Program) : Nat → List Field → Option Nat
 | off, [] => some off
 | off, f :: fs => if Nat.beq f.offset off then offsF P (off + P.cellsOf f.type) fs else none
def flatTy (P : Program) : Nat → TypeId → Bool
 | 0, _ => false
 | n + 1, t => match P.underlying t with
  | some .bool => true
  | some (.int _) => true
  | some .string => true
  | some (.struct fs) => fs.toList.all (fun f => flatTy P n f.type) && (match offsF P 0 fs.toList with | some k => Nat.beq k (P.cellsOf t) | none => false)
  | some (.array m e) => flatTy P n e && Nat.beq (m * P.cellsOf e) (P.cellsOf t)
  | _ => false
theorem mapM_cons_some {α β : Type} {f : α → Option β} {a : α} {l : List α} {r : List β} (h : (a :: l).mapM f = some r) : ∃ b r', f a = some b ∧ l.mapM f = some r' ∧ r = b :: r' := by
 rw [List.mapM_cons] at h
 simp only [Option.bind_eq_bind, Option.pure_def] at h
 obtain ⟨b, hb, h⟩ := Option.bind_eq_some_iff.1 h
 obtain ⟨r', hr, h⟩ := Option.bind_eq_some_iff.1 h
 exact ⟨b, r', hb, hr, by simpa using h.symm⟩
theorem flat_fields {H : Type} {P : Program} {n : Nat} {cs : List Value} {g : TypeId → List Value → Option (DataW H × List MemPlace)} (hg : ∀ t c d p, flatTy P n t = true → g t c = some (d, p) → c = flatD d) : ∀ (fs : List Field) (off tot : Nat) (xs : List (DataW H × List MemPlace)), (∀ f ∈ fs, flatTy P n f.type = true) → offsF P off fs = some tot → (fs.mapM fun f => g f.type ((cs.drop f.offset).take (P.cellsOf f.type))) = some xs → cs.drop off = flatDs (xs.map (·.1)) ++ cs.drop tot
 | [], off, tot, xs, _, ho, hm => by
  simp [offsF] at ho; subst ho
  have : xs = [] := by simpa using hm.symm
  subst this; simp [flatDs]
 | f :: fs, off, tot, xs, hf, ho, hm => by
  simp only [offsF] at ho
  split at ho
  · rename_i hb
    have e := Nat.eq_of_beq_eq_true hb
    obtain ⟨b, r, h1, h2, rfl⟩ := mapM_cons_some hm
    have h3 := hg _ _ _ _ (hf f List.mem_cons_self) h1
    have h4 := flat_fields hg fs _ _ r (fun f hf' => hf f (List.mem_cons_of_mem _ hf')) ho h2
    rw [e] at h3
    simp only [List.map_cons, flatDs]
    rw [← h3, List.append_assoc, ← h4, ← List.drop_drop, List.take_append_drop]
  · cases ho
theorem flat_elems {H : Type} {cs : List Value} {k : Nat} {g : List Value → Option (DataW H × List MemPlace)} (hg : ∀ c d p, g c = some (d, p) → c = flatD d) : ∀ (m s : Nat) (xs : List (DataW H × List MemPlace)), ((List.range' s m).mapM fun i => g ((cs.drop (i * k)).take k)) = some xs → cs.drop (s * k) = flatDs (xs.map (·.1)) ++ cs.drop ((s + m) * k)
 | 0, s, xs, hm => by
  have : xs = [] := by simpa using hm.symm
  subst this; simp [flatDs]
 | m + 1, s, xs, hm => by
  rw [List.range'_succ] at hm
  obtain ⟨b, r, h1, h2, rfl⟩ := mapM_cons_some hm
  have h3 := hg _ _ _ h1
  have h4 := flat_elems hg m (s + 1) r h2
  simp only [List.map_cons, flatDs]
  rw [← h3, List.append_assoc, show s + (m + 1) = s + 1 + m by omega, ← h4, Nat.add_mul, Nat.one_mul, ← List.drop_drop, List.take_append_drop]
theorem trod_flat {H : Type} {enc : TypeId × Value → H} {P : Program} {w : World} {base : Nat} {sp : Nat → Bool} {held : Bool} : ∀ (fuel n : Nat) (t : TypeId) (cs : List Value) (d : DataW H) (p : List MemPlace), flatTy P n t = true → DataW.trod enc P w base sp held fuel t cs = some (d, p) → cs = flatD d
 | 0, _, _, _, _, _, _, h => by simp [DataW.trod] at h
 | fuel + 1, 0, _, _, _, _, hf, _ => by cases hf
 | fuel + 1, n + 1, t, cs, d, p, hf, h => by
  unfold flatTy at hf
  split at hf
  · rename_i hu
    obtain ⟨b, rfl, e⟩ := DataW.trod_bool hu h
    cases e; rfl
  · rename_i k hu
    obtain ⟨z, rfl, e, _⟩ := DataW.trod_int hu h
    cases e; rfl
  · rename_i hu
    obtain ⟨z, rfl, e, _⟩ := DataW.trod_string hu h
    cases e; rfl
  · rename_i fs hu
    simp only [Bool.and_eq_true, List.all_eq_true] at hf
    obtain ⟨h1, h2⟩ := hf
    split at h2
    · rename_i k hk
      have h2 := Nat.eq_of_beq_eq_true h2
      simp only [DataW.trod, hu] at h
      split at h
      · rename_i hl
        obtain ⟨xs, hm, hx⟩ := Option.map_eq_some_iff.1 h
        have := flat_fields (n := n) (fun t c d p a b => trod_flat fuel n t c d p a b) fs.toList 0 k xs h1 hk hm
        rw [List.drop_zero, h2, ← hl, List.drop_length, List.append_nil] at this
        cases hx
        exact this
      · cases h
    · cases h2
  · rename_i m e hu
    simp only [Bool.and_eq_true] at hf
    have h2 := Nat.eq_of_beq_eq_true hf.2
    simp only [DataW.trod, hu] at h
    split at h
    · rename_i hl
      obtain ⟨xs, hm, hx⟩ := Option.map_eq_some_iff.1 h
      rw [List.range_eq_range'] at hm
      have := flat_elems (k := P.cellsOf e) (fun c d p b => trod_flat fuel n e c d p hf.1 b) m 0 xs hm
      rw [Nat.zero_mul, List.drop_zero, Nat.zero_add, h2, ← hl, List.drop_length, List.append_nil] at this
      cases hx
      exact this
    · cases h
  · cases hf
theorem laid_cells {P : Program} {W : World} : ∀ {laid : List (String × DataW Unit)} {ps : List MemPlace}, DataW.LaidVars P W laid ps → ∀ {name : String} {d : DataW Unit}, (name, d) ∈ laid → ∀ {g n : Nat} {t : TypeId}, P.globalNamed name = some g → (P.globals[g]?).map (·.type) = some t → flatTy P n t = true → W.var? P name = some (flatD d).toArray
 | [], _, _, _, _, hm, _, _, _, _, _, _ => by cases hm
 | (n0, d0) :: r, ps, h, name, d, hm, g, n, t, hg, ht, hf => by
  obtain ⟨g', t', cs, fuel, p, q, hg', ht', hvar, hd, hr, _⟩ := h
  rcases List.mem_cons.1 hm with e | hm
  · cases e
    obtain rfl := Option.some.inj (hg.symm.trans hg')
    obtain rfl := Option.some.inj (ht.symm.trans ht')
    rw [hvar, ← trod_flat fuel n t _ _ _ hf hd]
  · exact laid_cells hr hm hg ht hf
theorem glob_rep {P : Program} {W : World} {name : String} {g : Nat} {vs : List Value} {cs : List AV} (hv : W.var? P name = some vs.toArray) (hg : P.globalNamed name = some g) (hcs : cs = vs.map .val) (hna : ∀ v ∈ vs, ∀ c, v ≠ .agg c) :
 VRep ⟨fun _ => none, fun b => b < W.heap.size⟩ 0 W (.iptr cs) (.pointer (some ⟨g, 0, none⟩)) := by
 unfold World.var? at hv
 rw [hg, Option.bind_some] at hv
 split at hv
 · rename_i c ty fz hh
   obtain rfl := Option.some.inj hv
   subst hcs
   refine .iptr _ (fun j => vs.getD j undef) g 0 (Array.getElem?_eq_some_iff.1 hh).1 (fun j c hj => ?_) (fun j c hj => ?_)
   · rw [List.getElem?_map] at hj
     obtain ⟨v, hv, rfl⟩ := Option.map_eq_some_iff.1 hj
     simp [World.cell?, hh, List.getD_eq_getElem?_getD, hv]
   · rw [List.getElem?_map] at hj
     obtain ⟨v, hv, rfl⟩ := Option.map_eq_some_iff.1 hj
     rw [List.getD_eq_getElem?_getD, hv]
     exact .val _ (hna v (List.mem_of_getElem? hv))
 · cases hv
theorem laid_read {P : Program} {W : World} : ∀ {laid : List (String × DataW Unit)} {ps : List MemPlace}, DataW.LaidVars P W laid ps → ∀ {name : String} {d : DataW Unit}, (name, d) ∈ laid → ∃ g t cs fuel p, P.globalNamed name = some g ∧ (P.globals[g]?).map (·.type) = some t ∧ W.var? P name = some cs ∧ DataW.trod (fun _ => ()) P W 0 (fun _ => true) false fuel t cs.toList = some (d, p)
 | [], _, _, _, _, hm => by cases hm
 | (n0, d0) :: r, ps, h, name, d, hm => by
  obtain ⟨g', t', cs, fuel, p, q, hg', ht', hvar, hd, hr, _⟩ := h
  rcases List.mem_cons.1 hm with e | hm
  · cases e
    exact ⟨g', t', cs, fuel, p, hg', ht', hvar, hd⟩
  · exact laid_read hr hm
theorem glob_strs {P : Program} {W : World} {laid : List (String × DataW Unit)} {ps : List MemPlace} (hl : DataW.LaidVars P W laid ps) {name : String} {l : List (List UInt8)} (hm : (name, DataW.slice (l.map fun s => DataW.lit (.string s)) []) ∈ laid) {g : Nat} {t e : TypeId} (hg : P.globalNamed name = some g) (ht : (P.globals[g]?).map (·.type) = some t) (hu : P.underlying t = some (.slice e)) (hue : P.underlying e = some .string) (hce : P.cellsOf e = 1) :
 VRep ⟨fun _ => none, fun b => b < W.heap.size⟩ 0 W (.iptr [.isl 1 (l.map fun s => .val (.string ⟨s.toArray⟩))]) (.pointer (some ⟨g, 0, none⟩)) := by
 obtain ⟨g', t', cs, fuel, p, hg', ht', hvar, hd⟩ := laid_read hl hm
 obtain rfl := Option.some.inj (hg.symm.trans hg')
 obtain rfl := Option.some.inj (ht.symm.trans ht')
 rcases DataW.trod_slice hu hd with ⟨_, h⟩ | ⟨a, len, cap, elems, rest, m, _, hcs, hx, _, hlc, _, hlen, hel, _, _⟩
 · cases h
 · simp only [Prod.mk.injEq, DataW.slice.injEq] at hx
   obtain ⟨⟨hx1, _⟩, _⟩ := hx
   have hll : l.length = len := by have := congrArg List.length hx1; simp at this; omega
   unfold World.var? at hvar
   rw [hg, Option.bind_some] at hvar
   split at hvar
   · rename_i cc ty fz hh
     obtain rfl := Option.some.inj hvar
     have hgs := (Array.getElem?_eq_some_iff.1 hh).1
     have hat : ∀ i s, l[i]? = some s → W.cell? ((a.add (i * 1)).add 0) = some (.string ⟨s.toArray⟩) := by
      intro i s hi
      have hil : i < len := by have := (List.getElem?_eq_some_iff.1 hi).1; omega
      have h1 := hel i hil
      have h2 : (elems.map (·.1))[i]? = some (DataW.lit (.string s)) := by rw [← hx1, List.getElem?_map, hi]; rfl
      rw [List.getElem?_map] at h2
      obtain ⟨y, hy, hy2⟩ := Option.map_eq_some_iff.1 h2
      rw [hy] at h1
      obtain ⟨vs, h3, h4⟩ := Option.bind_eq_some_iff.1 h1
      obtain ⟨z, rfl, rfl, _⟩ := DataW.trod_string hue h4
      rw [hce] at h3
      obtain ⟨_, g2⟩ := cells?_get h3
      rw [g2 0 (by omega)]
      simp only [DataW.lit.injEq, Lit.string.injEq] at hy2
      rw [← hy2]
      rfl
     have hsp : l ≠ [] → a.spot = none ∧ a.block < W.heap.size := by
      intro hne
      obtain ⟨s, hs⟩ : ∃ s, l[0]? = some s := ⟨_, List.getElem?_eq_getElem (List.length_pos_iff.2 hne)⟩
      have := hat 0 s hs
      have e0 : (a.add (0 * 1)).add 0 = a := by simp [Addr.add]
      rw [e0] at this
      exact spot_none this
     refine .iptr _ (fun _ => .slice (some a) len cap) g 0 hgs (fun j c hj => ?_) (fun j c hj => ?_)
     · match j, hj with
       | 0, _ =>
        have : cc[0]? = some (.slice (some a) len cap) := by
         have := congrArg (·[0]?) hcs
         simpa using this
        simp [World.cell?, hh, this]
       | j + 1, hj => simp at hj
     · match j, hj with
       | 0, hj =>
        cases hj
        have e2 : len = (l.map fun s => AV.val (.string ⟨s.toArray⟩)).length := by rw [List.length_map]; exact hll.symm
        rw [e2]
        refine .isl 1 _ (fun i _ => .string ⟨(l.getD i []).toArray⟩) a cap (by rw [← e2]; exact hlc) (fun hne => ?_) (fun i e he => ?_) (fun i e j c he hc => ?_) (fun i e j c he hc => ?_)
        · have := hsp (by rintro rfl; exact hne rfl)
          exact ⟨this.2, this.1⟩
        all_goals
         rw [List.getElem?_map] at he
         obtain ⟨s, hs, rfl⟩ := Option.map_eq_some_iff.1 he
        · rfl
        · match j, hc with
          | 0, hc =>
           have h1 := hat i s hs
           rw [add_none (hsp (by rintro rfl; simp at hs)).1] at h1
           rw [h1, List.getD_eq_getElem?_getD, hs]; rfl
          | j + 1, hc => simp [AV.cells] at hc
        · match j, hc with
          | 0, hc =>
           cases hc
           rw [List.getD_eq_getElem?_getD, hs]
           exact .val _ (by intro cs h; cases h)
          | j + 1, hc => simp [AV.cells] at hc
       | j + 1, hj => simp at hj
   · cases hvar
end Go.Am
end
section
namespace Go.Am
open Go
section
variable {E : Env} {n N : Nat} {F : AFr} {H : AHeap}
theorem simT {tail : List AOper} {ops : List AOper} {B chain effs : List Nat} {V : List AV} {Hs : List AHeap} {Q : AFr → AHeap → Prop} (wf : WfD ops B) (hB : ∀ i k, (B.getD i 0).testBit k = true → Anc ops k i) (hV : V.length = ops.length) (hHs : Hs.length = chain.length + 1) (hnd : chain.Nodup) (hef : ∀ i, effs.contains i = chain.contains i)
 (hD : ∀ (i : Nat) o v, ops[i]? = some o → V[i]? = some v → DOp E B chain (finF F ops V) Hs i o v) (hQ : ∀ F' Hm, Hs[chain.length]? = some Hm → (∀ t, F'.get t = (finF F ops V).get t) → AOps E n N tail F' Hm Q) :
 ∀ (l S : List Nat) (Fc : AFr) (j : Nat) (Hj : AHeap), Runs ops S l → Shut ops S → (∀ i ∈ S, ∀ o v d, ops[i]? = some o → V[i]? = some v → o.dst = some d → Fc.get d = v) → (∀ t, (∀ (i : Nat) o, ops[i]? = some o → o.dst ≠ some t) → Fc.get t = F.get t) →
  Hs[j]? = some Hj → chain.drop j = l.filter (effs.contains ·) → (∀ e ∈ chain.take j, e ∈ S) → AOps E n N ((l.map fun i => ops.getD i default) ++ tail) Fc Hj Q := by
 have hfin : ∀ (i : Nat) o v d, ops[i]? = some o → V[i]? = some v → o.dst = some d → (finF F ops V).get d = v := fun i o v d h1 h2 h3 => finF_some ops V F i o v d h1 h2 h3 fun k o' hk hd => wf.dst i k o o' d h1 hk h3 hd
 have getV : ∀ (i : Nat) o, ops[i]? = some o → ∃ v, V[i]? = some v := fun i o h => ⟨_, List.getElem?_eq_getElem (by have := (List.getElem?_eq_some_iff.1 h).1; omega)⟩
 have look : ∀ (S : List Nat) (Fc : AFr), Shut ops S → (∀ i ∈ S, ∀ o v d, ops[i]? = some o → V[i]? = some v → o.dst = some d → Fc.get d = v) → (∀ t, (∀ (i : Nat) o, ops[i]? = some o → o.dst ≠ some t) → Fc.get t = F.get t) →
  ∀ (i : Nat) (o : AOper), ops[i]? = some o → (∀ k ∈ o.after, k ∈ S) → ∀ t ∈ o.looks, Fc.get t = (finF F ops V).get t := by
  intro S Fc hS ha hb i o hi haft t ht
  rcases Classical.em (∃ (k : Nat) (o' : AOper), ops[k]? = some o' ∧ o'.dst = some t) with ⟨k, o', hk, hd⟩ | hno
  · obtain ⟨v, hv⟩ := getV k o' hk
    have hkS := (hB i k (wf.look i k o o' t hi hk ht hd)).mem hS ⟨o, hi, haft⟩
    rw [hfin k o' v t hk hv hd]; exact ha k hkS o' v t hk hv hd
  · have hno' : ∀ (i : Nat) o, ops[i]? = some o → o.dst ≠ some t := fun k o' hk hd => hno ⟨k, o', hk, hd⟩
    rw [hb t hno', finF_none ops V F t hno']
 intro l
 induction l with
 | nil =>
  intro S Fc j Hj hr hS ha hb hj hch htk
  have hjle : j = chain.length := by
   have h1 : chain.length ≤ j := by simpa using List.drop_eq_nil_iff.1 hch
   have h2 := (List.getElem?_eq_some_iff.1 hj).1
   omega
  subst hjle
  rw [List.map_nil, List.nil_append]
  refine hQ Fc Hj hj fun t => ?_
  rcases Classical.em (∃ (k : Nat) (o' : AOper), ops[k]? = some o' ∧ o'.dst = some t) with ⟨k, o', hk, hd⟩ | hno
  · obtain ⟨v, hv⟩ := getV k o' hk
    rw [hfin k o' v t hk hv hd]; exact ha k (hr k (List.getElem?_eq_some_iff.1 hk).1) o' v t hk hv hd
  · have hno' : ∀ (i : Nat) o, ops[i]? = some o → o.dst ≠ some t := fun k o' hk hd => hno ⟨k, o', hk, hd⟩
    rw [hb t hno', finF_none ops V F t hno']
 | cons i l ih =>
  intro S Fc j Hj hr hS ha hb hj hch htk
  have hnot := hr.notin
  obtain ⟨h1, ⟨o, ho, haft⟩, h3⟩ := hr
  obtain ⟨v, hv⟩ := getV i o ho
  have hget : ops.getD i default = o := by simp [List.getD_eq_getElem?_getD, ho]
  rw [List.map_cons, hget, List.cons_append]
  have hS' : Shut ops (i :: S) := by
   intro x hx o' ho' k hk
   rcases List.mem_cons.1 hx with rfl | hx
   · rw [ho] at ho'; cases ho'; exact List.mem_cons_of_mem _ (haft k hk)
   · exact List.mem_cons_of_mem _ (hS x hx o' ho' k hk)
  have hlk := look S Fc hS ha hb i o ho haft
  have hwant := looks_want hlk
  have hev := looks_ev (G := E.G) hlk
  have hop : ∀ H, evalOp E.G o.op Fc H = evalOp E.G o.op (finF F ops V) H := fun H => evalOp_congr hev
  -- the frame behind the operation
  have ha' : ∀ k ∈ i :: S, ∀ o' v' d, ops[k]? = some o' → V[k]? = some v' → o'.dst = some d → (Fc.set o.dst v).get d = v' := by
   intro k hk o' v' d hk1 hk2 hk3
   rw [AFr.get_set]
   by_cases hd : o.dst = some d
   · have := wf.dst i k o o' d ho hk1 hd hk3
     subst this
     rw [hv] at hk2; cases hk2; rw [if_pos hd]
   · rw [if_neg hd]
     rcases List.mem_cons.1 hk with rfl | hk
     · rw [ho] at hk1; cases hk1; exact absurd hk3 hd
     · exact ha k hk o' v' d hk1 hk2 hk3
  have hb' : ∀ t, (∀ (i : Nat) o, ops[i]? = some o → o.dst ≠ some t) → (Fc.set o.dst v).get t = F.get t := by
   intro t ht; rw [AFr.get_set, if_neg (ht i o ho)]; exact hb t ht
  have hpos : chain.contains i = false → okpos B chain i j = true := by
   intro hc
   simp only [okpos, Bool.and_eq_true, List.all_eq_true, Bool.not_eq_true']
   refine ⟨fun e he => ?_, fun e he => ?_⟩
   · cases hb2 : (B.getD e 0).testBit i with
     | false => rfl
     | true =>
      have heS := htk e he
      have hanc := hB e i hb2
      obtain ⟨oe, hoe⟩ : ∃ oe, ops[e]? = some oe := by
       cases hanc with
       | one h2 _ => exact ⟨_, h2⟩
       | more h2 _ _ => exact ⟨_, h2⟩
      exact absurd (hanc.mem hS ⟨oe, hoe, hS e heS oe hoe⟩) h1
   · cases hb2 : (B.getD i 0).testBit e with
     | false => rfl
     | true =>
      have heS := (hB i e hb2).mem hS ⟨o, ho, haft⟩
      rw [hch] at he
      exact absurd heS (hnot e (List.mem_filter.1 he).1)
  have quiet : chain.contains i = false → AOps E n N ((l.map fun i => ops.getD i default) ++ tail) (Fc.set o.dst v) Hj Q := by
   intro hc
   refine ih (i :: S) _ j Hj h3 hS' ha' hb' hj ?_ (fun e he => List.mem_cons_of_mem _ (htk e he))
   rw [hch, List.filter_cons_of_neg (by rw [hef, hc]; simp)]
  have loud : ∀ j' H', chain[j']? = some i → Hs[j' + 1]? = some H' → j' = j ∧ AOps E n N ((l.map fun i => ops.getD i default) ++ tail) (Fc.set o.dst v) H' Q := by
   intro j' H' hj' hH'
   have hc : chain.contains i = true := by simpa using List.mem_of_getElem? hj'
   have hd : chain.drop j = i :: l.filter (effs.contains ·) := by rw [hch, List.filter_cons_of_pos (by rw [hef, hc])]
   have hij : chain[j]? = some i := by
    have : (chain.drop j)[0]? = some i := by rw [hd]; rfl
    simpa using this
   have hjj : j' = j := by
    obtain ⟨a1, a2⟩ := List.getElem?_eq_some_iff.1 hj'
    obtain ⟨b1, b2⟩ := List.getElem?_eq_some_iff.1 hij
    exact (List.getElem_inj hnd).1 (a2.trans b2.symm)
   subst hjj
   refine ⟨rfl, ih (i :: S) _ (j' + 1) H' h3 hS' ha' hb' hH' ?_ fun e he => ?_⟩
   · have := congrArg (List.drop 1) hd
     rw [List.drop_drop] at this
     simpa using this
   · rw [List.take_add_one, hij] at he
     rcases List.mem_append.1 he with he | he
     · exact List.mem_cons_of_mem _ (htk e he)
     · simp at he; subst he; exact List.mem_cons_self
  cases hD i o v ho hv with
  | skip hg hv0 hc => exact aops_skipG (looks_skip hlk hg) hv0 (quiet hc)
  | free hg h hc => obtain ⟨c, e1, e2⟩ := h Hj; exact aops_op (by rw [hwant]; exact hg) (by rw [hop]; exact e1) e2 (quiet hc)
  | look hg h hc => obtain ⟨c, e1, e2⟩ := h j Hj hj (hpos hc); exact aops_op (by rw [hwant]; exact hg) (by rw [hop]; exact e1) e2 (quiet hc)
  | call f xs args hg ho2 harg hen h hc =>
   refine aops_call (by rw [hwant]; exact hg) ho2 ?_ hen (h j Hj hj (hpos hc)) (by rintro v' H1 ⟨rfl, rfl⟩; exact quiet hc)
   rw [← harg]; exact List.map_congr_left fun x hx => hev x (by rw [ho2]; exact hx)
  | bslf kk xs es hg ho2 harg hf hv0 hc =>
   refine aops_bslf (es := es) (by rw [hwant]; exact hg) ho2 ?_ hf (by rw [← hv0]; exact quiet hc)
   rw [← harg]; exact List.map_congr_left fun x hx => hev x (by rw [ho2]; exact hx)
  | eff j' H1 H2 c hg hj' e1 e2 h hc =>
   obtain ⟨rfl, hk⟩ := loud j' H2 hj' e2
   rw [hj] at e1; cases e1
   exact aops_op (by rw [hwant]; exact hg) (by rw [hop]; exact h) hc hk
  | ecall j' H1 H2 f xs args hg hj' e1 e2 ho2 harg hen h =>
   obtain ⟨rfl, hk⟩ := loud j' H2 hj' e2
   rw [hj] at e1; cases e1
   refine aops_call (by rw [hwant]; exact hg) ho2 ?_ hen h (by rintro v' H1 ⟨rfl, rfl⟩; exact hk)
   rw [← harg]; exact List.map_congr_left fun x hx => hev x (by rw [ho2]; exact hx)
theorem awp_runs {ops : List AOper} {Q : AExit → AFr → AHeap → Prop} (hm : E.P.follows .mixedOrders = true) (haft : ∀ (i : Nat) (o : AOper), ops[i]? = some o → ∀ k ∈ o.after, k < i)
 (h : ∀ l, Runs ops [] l → AOps E n N (l.map fun i => ops.getD i default) F H (fun F' H' => Q .normal F' H')) : AWP E n N (.draw ops) F H Q := by
 refine awp_reduce fun c hc hns K w tmps T rs k cs h1 h2 h3 h4 => ?_
 cases c with
 | region id os d =>
  simp only [prep] at hc
  split at hc
  · rename_i hd
    subst hd
    simp only [ACode.draw.injEq] at hc
    let t := w.tape w.drawn (.order T.fn id)
    have hlen : ops.length = os.size := by rw [← hc]; simp
    have hruns : Runs ops [] (Region.schedule (E.P.follows .mixedOrders) os t) := by
     rw [hm]
     simp only [Region.schedule, Bool.true_or, if_true, Region.linearise]
     refine go_runs hc.symm haft os.size t _ [] (by simp) (fun i hi => by simp [hi]) (by have := List.length_filter_le (fun i => !([] : List Nat).contains i) (List.range os.size); simpa using this)
    generalize hsch : Region.schedule (E.P.follows .mixedOrders) os t = l at hruns
    have key := h l hruns
    have hlm : l.map (fun i => (os[i]?).map (prepOper E.P n os)) = (l.map fun i => ops.getD i default).map some := by
     rw [List.map_map]
     refine List.map_congr_left fun i hi => ?_
     have hi' : i < ops.length := by
      have : ∀ (l S : List Nat), Runs ops S l → ∀ e ∈ l, e < ops.length := by
       intro l
       induction l with
       | nil => intro S _ e he; cases he
       | cons x l ih =>
        intro S hr e he
        rcases List.mem_cons.1 he with rfl | he
        · obtain ⟨o, ho, _⟩ := hr.2.1; exact (List.getElem?_eq_some_iff.1 ho).1
        · exact ih _ hr.2.2 e he
      exact this l [] hruns i hi
     have : ops[i]? = (os[i]?).map (prepOper E.P n os) := by rw [← hc]; simp
     rw [← this]
     simp [List.getD_eq_getElem?_getD, hi']
    obtain ⟨g1, g2⟩ := h1.drew
    obtain ⟨F1, H1, K1, w1, t1, q, a1, a2, a3, a4⟩ := key os l hlm K w.drew tmps T (rs.map mark) k cs g1 ((Ev.mv h1 g2).frep h2) h3
    have evA := (g2.mono h3).trans a3
    refine ⟨.normal, F1, H1, K1, w1, t1, [], k, q, a1, a2, evA, h4.ev evA, (fun r hr => by cases hr), .normal, .head st_region_draw ?_⟩
    rw [hsch]
    exact a4.trans (.one st_region_end)
  · cases hc
 | rangeFunc f ps a b => simp only [prep] at hc; split at hc <;> cases hc
 | scope a => exact absurd rfl (hns a)
 | _ => cases hc
theorem runs_last {ops1 : List AOper} {o : AOper} (ha : ∀ k, k < ops1.length → k ∈ o.after) : ∀ (l S : List Nat), Runs (ops1 ++ [o]) S l → ops1.length ∉ S → ∃ l1, l = l1 ++ [ops1.length] ∧ Runs ops1 S l1 ∧ ∀ x ∈ l1, x < ops1.length
 | [], S, h, hm => absurd (h ops1.length (by simp)) hm
 | i :: l, S, h, hm => by
  obtain ⟨h1, ⟨oi, h2, h3⟩, h4⟩ := h
  have hi : i < ops1.length + 1 := by have := (List.getElem?_eq_some_iff.1 h2).1; simpa using this
  by_cases he : i = ops1.length
  · subst he
    have hoi : oi = o := by simp at h2; exact h2.symm
    subst hoi
    refine ⟨[], ?_, fun k hk => h3 k (ha k hk), by simp⟩
    cases l with
    | nil => rfl
    | cons x l =>
     obtain ⟨g1, ⟨ox, g2, _⟩, _⟩ := h4
     have hx : x < ops1.length + 1 := by have := (List.getElem?_eq_some_iff.1 g2).1; simpa using this
     exfalso
     apply g1
     by_cases hxe : x = ops1.length
     · simp [hxe]
     · exact List.mem_cons_of_mem _ (h3 x (ha x (by omega)))
  · obtain ⟨l1, rfl, g2, g3⟩ := runs_last ha l (i :: S) h4 (by simp only [List.mem_cons, not_or]; exact ⟨fun h => he h.symm, hm⟩)
    refine ⟨i :: l1, rfl, ⟨h1, ⟨oi, ?_, h3⟩, g2⟩, fun x hx => ?_⟩
    · rwa [List.getElem?_append_left (by omega)] at h2
    · rcases List.mem_cons.1 hx with rfl | hx
      · omega
      · exact g3 x hx
theorem tr_drawL {Q : AExit → AFr → AHeap → Prop} {k : List KI} {ops ops1 : List AOper} {o : AOper} {B : List Nat} (hm : E.P.follows .mixedOrders = true) (hops : ops = ops1 ++ [o]) (hl : (List.range ops1.length).all (fun i => o.after.contains i) = true) (hal : o.after.all (Nat.blt · ops1.length) = true) (hB0 : befs ops1 [] = B) (hwf : wfDraw ops1 B = true)
 (h : TR E ops1 F H (fun ks Hs F' H' => chainsFrom B (effIdx 0 ks).length (effIdx 0 ks) = [effIdx 0 ks] ∧ LooksL B (effIdx 0 ks) (H :: Hs) 0 ks ∧ Holds E n N Q (.ops [o]) k F' H')) : Holds E n N Q (.code (.draw ops)) k F H := by
 subst hops hB0
 obtain ⟨V, ks, Hs, F', H', ht, h1, h2, h3⟩ := h
 have wf := wfDraw_spec hwf
 have hB : ∀ i k, ((befs ops1 []).getD i 0).testBit k = true → Anc ops1 k i := by
  have := befs_spec ops1 [] [] rfl (fun i k hk => by simp at hk)
  simpa using this
 obtain ⟨m1, m2, m3⟩ := ht.kinds3
 have ha : ∀ k, k < ops1.length → k ∈ o.after := fun k hk => by
  have := List.all_eq_true.1 hl k (List.mem_range.2 hk)
  simpa using this
 have hltP : ∀ e ∈ effIdx 0 ks, e < ops1.length := fun x hx => by have := effIdx_lt hx; omega
 refine awp_runs hm (fun i oi hi k hk => ?_) fun l hr => ?_
 · by_cases he : i < ops1.length
   · rw [List.getElem?_append_left he] at hi
     exact wf.aft i oi hi k hk
   · have hi2 : i < ops1.length + 1 := by have := (List.getElem?_eq_some_iff.1 hi).1; simpa using this
     have : i = ops1.length := by omega
     subst this
     have hoi : oi = o := by simp at hi; exact hi.symm
     subst hoi
     exact Nat.le_of_ble_eq_true (List.all_eq_true.1 hal k hk)
 obtain ⟨l1, rfl, hr1, hlt⟩ := runs_last ha l [] hr (by simp)
 have hmap : ((l1 ++ [ops1.length]).map fun i => (ops1 ++ [o]).getD i default) = (l1.map fun i => ops1.getD i default) ++ [o] := by
  rw [List.map_append]
  congr 1
  · refine List.map_congr_left fun x hx => ?_
    have := hlt x hx
    simp [List.getD_eq_getElem?_getD, List.getElem?_append_left this]
  · simp [List.getD_eq_getElem?_getD]
 rw [hmap]
 have hch := chains_mem (B := befs ops1 []) hB (effIdx 0 ks) hltP _ [] (effIdx 0 ks).length (fun i hi => by cases hi) hr1 (List.length_filter_le _ _)
 have hself : ((effIdx 0 ks).filter fun e => !([] : List Nat).contains e) = effIdx 0 ks := by simp
 rw [hself, h1, List.mem_singleton] at hch
 have hall : ∀ e, e < ops1.length → e ∈ l1 := fun e he => by
  rcases Runs.mem_all hr1 e he with h | h
  · cases h
  · exact h
 have hef : ∀ i, (effIdx 0 ks).contains i = (effIdx 0 ks).contains i := fun _ => rfl
 refine simT (E := E) (n := n) (N := N) (F := F) (tail := [o]) (V := V) (Hs := H :: Hs) (effs := effIdx 0 ks) (chain := effIdx 0 ks) wf hB ht.len.1 (by simp [m2 0]) (effIdx_nodup _ _) hef (fun i oi v ho hv => ?_) (fun Fx Hm hHm hg => ?_) l1 [] F 0 H hr1 (fun i hi => by cases hi) (fun i hi => by cases hi) (fun t _ => rfl) rfl (by simpa using hch.symm) (fun e he => by simp at he)
 · rw [← ht.len.2]
   have := ht.dop (B := befs ops1 []) 0 [] [] rfl (fun x hx => by cases hx) h2 (fun i oi ho t ht k o' hik hk hd => by
    have := (hB i k (wf.look i k oi o' t ho hk ht hd)).lt wf
    omega) i oi v ho hv
   simpa using this
 · have e : Hm = H' := by
    rw [← m2 0] at hHm
    rw [hHm] at m3
    exact Option.some.inj m3
   subst e
   rw [← ht.len.2] at hg
   exact AOps.weak (fun t => .inl (hg t).symm) h3
theorem tr_drawX {Q : AExit → AFr → AHeap → Prop} {k : List KI} {ops ops1 : List AOper} {o : AOper} {B : List Nat} (hm : E.P.follows .mixedOrders = true) (h1 : ops.dropLast = ops1) (h2 : ops.getLast? = some o) (hl : (List.range ops1.length).all (fun i => o.after.contains i) = true) (hal : o.after.all (Nat.blt · ops1.length) = true) (hB0 : befs ops1 [] = B) (hwf : wfDraw ops1 B = true)
 (h : TR E ops1 F H (fun ks Hs F' H' => chainsFrom B (effIdx 0 ks).length (effIdx 0 ks) = [effIdx 0 ks] ∧ LooksL B (effIdx 0 ks) (H :: Hs) 0 ks ∧ Holds E n N Q (.ops [o]) k F' H')) : Holds E n N Q (.code (.draw ops)) k F H := by
 refine tr_drawL hm ?_ hl hal hB0 hwf h
 obtain ⟨l, rfl⟩ := List.getLast?_eq_some_iff.1 h2
 rw [← h1, List.dropLast_concat]
end
end Go.Am
end
section
namespace Go.Proofs
open Go.Shelf
section
variable {P : Program} {ρ : Ren}
set_option maxHeartbeats 2000000 in
set_option maxRecDepth 100000 in
theorem Any.Builder_String0 (L : Lays.n169 P ρ) (X : Builder.Extra P ρ) (b : Nat) (p : Value) (fz : Nat × Nat) (w : World) (hbk : w.heap[b]? = some (.cells #[p, .slice none 0 0] (ρ.t 72) fz)) :
 Calls P (ρ.f 169) #[.pointer (some ⟨b, 0, none⟩)] w fun e w' => e = .returned (.string ⟨#[]⟩) ∧ w' = w.drew := by
 have hUS := Any.unsafeString_none L X
 have c1 : w.drew.cell? ⟨b, 1, none⟩ = some (.slice none 0 0) := by
  have : w.drew.heap[b]? = some (.cells #[p, .slice none 0 0] (ρ.t 72) fz) := hbk
  rw [Lib.cell_of_heap this]; rfl
 have hSD : (Builtin.unsafeSliceData_ #[(ρ.t 37)] (ρ.t 127) #[.slice none 0 0]).run P w.drew = .ok (.pointer none) w.drew := rfl
 have mixed := L.mixed
 have t72 := L.t72; have a72 := L.a72; have z72 := L.z72; have v72 := L.v72; have u72 := run_underlying L.t72
 have t70 := L.t70; have a70 := L.a70; have z70 := L.z70; have v70 := L.v70; have u70 := run_underlying L.t70
 have t37 := L.t37; have a37 := L.a37; have z37 := L.z37; have v37 := L.v37; have u37 := run_underlying L.t37
 have t127 := L.t127; have a127 := L.a127; have z127 := L.z127; have v127 := L.v127; have u127 := run_underlying L.t127
 have t3 := L.t3; have a3 := L.a3; have z3 := L.z3; have v3 := L.v3; have u3 := run_underlying L.t3
 have t9 := L.t9; have a9 := L.a9; have z9 := L.z9; have v9 := L.v9; have u9 := run_underlying L.t9
 have t5 := X.t5; have a5 := X.a5; have z5 := X.z5; have v5 := X.v5; have u5 := run_underlying X.t5
 go_enter L.f169, Body.n169_ntmps ρ
 go_wp2
 go_region_o
 all_goals (go_wp2; go_ret; exact ⟨rfl, rfl⟩)
end
end Go.Proofs
namespace Go.Am
open Go.Proofs Go.Shelf
theorem bstring0_acall {E : Env} {ρ : Ren} (L : Lays.n169 E.P ρ) (X : Builder.Extra E.P ρ) :
 ACall E (ρ.f 169) [.ptr 0 0] [.cells [.bsh (ρ.t 72) 0 false, .val (.slice none 0 0)]] fun v H' => v = .val (.string ⟨#[]⟩) ∧ H' = [.cells [.bsh (ρ.t 72) 0 false, .val (.slice none 0 0)]] := by
 intro K w ys hh hv
 obtain ⟨y, rfl⟩ : ∃ y, ys = [y] := by
  match ys, hv.1 with
  | [y], _ => exact ⟨y, rfl⟩
 have v0 := hv.2 0 _ y rfl rfl
 cases v0 with
 | ptr _ _ blk base hM hγ =>
  obtain ⟨c, ty, hheap, hl⟩ := hh.cells (b := 0) rfl hγ
  obtain ⟨y0, e0, r0⟩ := hl 0 _ rfl
  obtain ⟨y1, e1, r1⟩ := hl 1 _ rfl
  rw [Nat.add_zero] at e0
  have hb : base = 0 ∧ ty = ρ.t 72 ∧ c.size = 2 := by
   cases r0 with
   | bsh _ _ blk' c' fz hM' hγ' hc hn =>
    rw [hγ] at hγ'; cases hγ'
    rw [hheap] at hc; cases hc
    exact ⟨rfl, rfl, hn⟩
  obtain ⟨rfl, rfl, hn2⟩ := hb
  cases r1 with
  | val _ _ =>
   have hcarr : c = #[y0, .slice none 0 0] := by
    apply Array.ext (by simp [hn2])
    intro i h1 h2
    match i, h1, h2 with
    | 0, h1, h2 => rw [Array.getElem?_eq_getElem h1] at e0; exact Option.some.inj e0
    | 1, h1, h2 => rw [Nat.zero_add, Array.getElem?_eq_getElem h1] at e1; exact Option.some.inj e1
    | i + 2, h1, h2 => simp at h2; omega
   have hbk : w.heap[blk]? = some (.cells #[y0, .slice none 0 0] (ρ.t 72) (0, 0)) := by rw [← hcarr]; exact hheap
   refine (Any.Builder_String0 L X blk y0 (0, 0) w hbk).mono ?_
   rintro e w' ⟨rfl, rfl⟩
   obtain ⟨h2, ev⟩ := hh.drew
   exact ⟨_, _, _, K, rfl, ⟨rfl, rfl⟩, h2, .val _ (fun _ h => by cases h), ev⟩
end Go.Am
end
section
namespace Go.Am
section
variable {E : Env} {n N : Nat} {Q : AExit → AFr → AHeap → Prop}
theorem goA (g : Nat) {X : Words} {cur : Cur} {k : List KI} {F : AFr} {H : AHeap} {c : Cd} {cur' : Cur} {k' : List KI} {F' : AFr} {H' : AHeap} (h : Holds E n N Q cur' k' F' H') (hXs : X = std := by exact hX) (hm : E.P.follows .mixedOrders = true := by exact rfl)
 (he : exec X E.G 1000 g cur k F H = (c, cur', k', F', H') := by conv => lhs; cbv) (hc : c.ok := by first | exact trivial | (simp only [Cd.ok, ee]; and_intros <;> first | omega | rfl | (simp <;> omega))) : Holds E n N Q cur k F H :=
 go hm hXs g he hc h
theorem goB {X : Words} (hXs : X = std) (g : Nat) {cur : Cur} {k : List KI} {F : AFr} {H : AHeap} {c : Cd} {cur' : Cur} {k' : List KI} {F' : AFr} {H' : AHeap} (he : exec X E.G 1000 g cur k F H = (c, cur', k', F', H')) (h : Holds E n N Q cur' k' F' H') (hm : E.P.follows .mixedOrders = true := by exact rfl)
 (hc : c.ok := by first | exact trivial | (simp only [Cd.ok, ee]; and_intros <;> first | omega | rfl | (simp <;> omega))) : Holds E n N Q cur k F H :=
 go hm hXs g he hc h
end
theorem tgA {E : Env} {X : Words} {l : List AOper} {F : AFr} {H : AHeap} {K : List Kd → List AHeap → AFr → AHeap → Prop} {c : Cd} {rest : List AOper} {F' : AFr} {H' : AHeap} {ks : List Kd} {Hs : List AHeap}
 (h : TR E rest F' H' (fun k2 H2 => K (ks ++ k2) (Hs ++ H2))) (hXs : X = std := by exact hX) (he : runT X E.G 1000 l F H = (c, rest, F', H', ks, Hs) := by conv => lhs; cbv) (hc : c.ok := by first | exact trivial | (simp only [Cd.ok, ee]; and_intros <;> first | omega | rfl | (simp <;> omega))) : TR E l F H K := tr_go hXs he hc h
theorem tgB {E : Env} {X : Words} (hXs : X = std) {l : List AOper} {F : AFr} {H : AHeap} {K : List Kd → List AHeap → AFr → AHeap → Prop} {c : Cd} {rest : List AOper} {F' : AFr} {H' : AHeap} {ks : List Kd} {Hs : List AHeap}
 (he : runT X E.G 1000 l F H = (c, rest, F', H', ks, Hs)) (h : TR E rest F' H' (fun k2 H2 => K (ks ++ k2) (Hs ++ H2))) (hc : c.ok := by first | exact trivial | (simp only [Cd.ok, ee]; and_intros <;> first | omega | rfl | (simp <;> omega))) : TR E l F H K := tr_go hXs he hc h
section
variable {E : Env} {n N : Nat} {Q : AExit → AFr → AHeap → Prop} {k : List KI} {F : AFr} {H : AHeap}
theorem nsB {X : Words} (hXs : X = std) {l rest : List AOper} {c : Cd} {F' : AFr} (he : runT2 X E.G l F H = some (c, rest, F')) (h : Holds E n N Q (.ops rest) k F' H) (hc : c.ok := by first | exact trivial | (simp only [Cd.ok, ee]; and_intros <;> first | omega | rfl | (simp <;> omega))) : Holds E n N Q (.ops l) k F H := ns_go hXs he hc h
end
theorem wordsN {p : Prop} (h : ∀ (iLt : Int → Int → Bool) (iLe : Int → Int → Bool) (iEq : Int → Int → Bool) (iNe : Int → Int → Bool) (iAdd : IntKind → Int → Int → Int) (iSub : IntKind → Int → Int → Int) (iMul : IntKind → Int → Int → Int) (iQuo : IntKind → Int → Int → Int) (iRem : Int → Int → Int) (iShr : IntKind → Int → Int → Int) (iNeg : IntKind → Int → Int) (iCvt : IntKind → Int → Int) (iMax : Int → Int → Int) (iMin : Int → Int → Int) (bNot : Bool → Bool) (bEq : Bool → Bool → Bool) (bNe : Bool → Bool → Bool) (bAnd : Bool → Bool → Bool) (bOr : Bool → Bool → Bool) (sEq : ByteArray → ByteArray → Bool) (sNe : ByteArray → ByteArray → Bool) (sLen : ByteArray → Int) (sCat : ByteArray → ByteArray → ByteArray) (sCut : ByteArray → Int → Int → ByteArray) (sAt : ByteArray → Int → Int) (lenA : List AV → Int) (lenN : List AV → Nat) (iOf : Nat → Int) (natOf : Int → Nat) (atA : List AV → Int → AV) (atN : List AV → Nat → AV) (cutA : List AV → Int → Int → List AV) (partA : List AV → Nat → Nat → List AV) (dropA : List AV → Nat → List AV) (catA : List AV → List AV → List AV) (setA : List AV → Nat → AV → List AV) (repA : Int → AV → List AV) (putA : List AV → Nat → Nat → List AV → List AV) (idxN : Nat → Int → Nat) (addN : Nat → Nat → Nat) (subN : Nat → Int → Nat) (minN : Nat → Nat → Nat) (lenCut : Int → Int → Nat) (rowA : List AV → Int → Nat → List AV) (mOk : Bool → List (AV × AV) → AV → Bool) (mHas : Bool → List (AV × AV) → AV → Bool) (mGet : Bool → List (AV × AV) → AV → AV → AV) (mPut : Bool → List (AV × AV) → AV → AV → List (AV × AV)) (bytA : ByteArray → List AV), ∀ (hX : (⟨iLt, iLe, iEq, iNe, iAdd, iSub, iMul, iQuo, iRem, iShr, iNeg, iCvt, iMax, iMin, bNot, bEq, bNe, bAnd, bOr, sEq, sNe, sLen, sCat, sCut, sAt, lenA, lenN, iOf, natOf, atA, atN, cutA, partA, dropA, catA, setA, repA, putA, idxN, addN, subN, minN, lenCut, rowA, mOk, mHas, mGet, mPut, bytA⟩ : Words) = std) (e_iLt : iLt = Wd.iLt) (e_iLe : iLe = Wd.iLe) (e_iEq : iEq = Wd.iEq) (e_iNe : iNe = Wd.iNe) (e_iAdd : iAdd = Wd.iAdd) (e_iSub : iSub = Wd.iSub) (e_iMul : iMul = Wd.iMul) (e_iQuo : iQuo = Wd.iQuo) (e_iRem : iRem = Wd.iRem) (e_iShr : iShr = Wd.iShr) (e_iNeg : iNeg = Wd.iNeg) (e_iCvt : iCvt = Wd.iCvt) (e_iMax : iMax = Wd.iMax) (e_iMin : iMin = Wd.iMin) (e_bNot : bNot = Wd.bNot) (e_bEq : bEq = Wd.bEq) (e_bNe : bNe = Wd.bNe) (e_bAnd : bAnd = Wd.bAnd) (e_bOr : bOr = Wd.bOr) (e_sEq : sEq = Wd.sEq) (e_sNe : sNe = Wd.sNe) (e_sLen : sLen = Wd.sLen) (e_sCat : sCat = Wd.sCat) (e_sCut : sCut = Wd.sCut) (e_sAt : sAt = Wd.sAt) (e_lenA : lenA = Wd.lenA) (e_lenN : lenN = Wd.lenN) (e_iOf : iOf = Wd.iOf) (e_natOf : natOf = Wd.natOf) (e_atA : atA = Wd.atA) (e_atN : atN = Wd.atN) (e_cutA : cutA = Wd.cutA) (e_partA : partA = Wd.partA) (e_dropA : dropA = Wd.dropA) (e_catA : catA = Wd.catA) (e_setA : setA = Wd.setA) (e_repA : repA = Wd.repA) (e_putA : putA = Wd.putA) (e_idxN : idxN = Wd.idxN) (e_addN : addN = Wd.addN) (e_subN : subN = Wd.subN) (e_minN : minN = Wd.minN) (e_lenCut : lenCut = Wd.lenCut) (e_rowA : rowA = Wd.rowA) (e_mOk : mOk = Wd.mOk) (e_mHas : mHas = Wd.mHas) (e_mGet : mGet = Wd.mGet) (e_mPut : mPut = Wd.mPut) (e_bytA : bytA = Wd.bytA) (ee : ((∀ a b, iLt a b = (decide (a < b))) ∧ (∀ a b, iLe a b = (decide (a ≤ b))) ∧ (∀ a b, iEq a b = (a == b)) ∧ (∀ a b, iNe a b = (a != b)) ∧ (∀ k a b, iAdd k a b = (k.wrap (a + b))) ∧ (∀ k a b, iSub k a b = (k.wrap (a - b))) ∧ (∀ k a b, iMul k a b = (k.wrap (a * b))) ∧ (∀ k a b, iQuo k a b = (k.wrap (a.tdiv b))) ∧ (∀ a b, iRem a b = (a.tmod b)) ∧ (∀ k a b, iShr k a b = (a.fdiv (2 ^ min b.toNat k.bits))) ∧ (∀ k a, iNeg k a = (k.wrap (0 - a))) ∧ (∀ k a, iCvt k a = (k.wrap a)) ∧ (∀ a b, iMax a b = (if b > a then b else a)) ∧ (∀ a b, iMin a b = (if b < a then b else a)) ∧ (∀ a, bNot a = (!a)) ∧ (∀ a b, bEq a b = (a == b)) ∧ (∀ a b, bNe a b = (!(a == b))) ∧ (∀ a b, bAnd a b = (a && b)) ∧ (∀ a b, bOr a b = (a || b)) ∧ (∀ a b, sEq a b = (a.toList == b.toList)) ∧ (∀ a b, sNe a b = (!(a.toList == b.toList))) ∧ (∀ a, sLen a = (a.size)) ∧ (∀ a b, sCat a b = (a ++ b)) ∧ (∀ a lo hi, sCut a lo hi = (a.extract lo.toNat hi.toNat)) ∧ (∀ a n, sAt a n = ((a.data.getD n.toNat 0).toNat)) ∧ (∀ es, lenA es = (es.length)) ∧ (∀ es, lenN es = (es.length)) ∧ (∀ n, iOf n = (n)) ∧ (∀ n, natOf n = (n.toNat)) ∧ (∀ es n, atA es n = (es.getD n.toNat .undef)) ∧ (∀ es n, atN es n = (es.getD n .undef)) ∧ (∀ es lo hi, cutA es lo hi = ((es.take hi.toNat).drop lo.toNat)) ∧ (∀ es lo len, partA es lo len = ((es.drop lo).take len)) ∧ (∀ es lo, dropA es lo = (es.drop lo)) ∧ (∀ a b, catA a b = (a ++ b)) ∧ (∀ es n v, setA es n v = (es.set n v)) ∧ (∀ n v, repA n v = (List.replicate n.toNat v)) ∧ (∀ es lo m new, putA es lo m new = (putE es lo m new)) ∧ (∀ lo n, idxN lo n = (lo + n.toNat)) ∧ (∀ a b, addN a b = (a + b)) ∧ (∀ a b, subN a b = (a - b.toNat)) ∧ (∀ a b, minN a b = (min a b)) ∧ (∀ lo hi, lenCut lo hi = (hi.toNat - lo.toNat)) ∧ (∀ cs n k, rowA cs n k = ((cs.drop (n.toNat * k)).take k)) ∧ (∀ st es x, mOk st es x = (mOkL st es x)) ∧ (∀ st es x, mHas st es x = (mHasL st es x)) ∧ (∀ st es x z, mGet st es x z = (mGetL st es x z)) ∧ (∀ st es x v, mPut st es x v = (mPutL st es x v)) ∧ (∀ s, bytA s = (byteA s)))), p) : p :=
 words h
theorem cl_cons {v : AV} {l : List AV} (h : v.closed = true) (h2 : AV.closedL l = true) : AV.closedL (v :: l) = true := by simp only [AV.closedL, h, h2, Bool.and_self]
theorem cl_agg {l : List AV} (h : AV.closedL l = true) : (AV.agg l).closed = true := h
theorem cl_isl {k : Nat} {l : List AV} (h : AV.closedL l = true) : (AV.isl k l).closed = true := h
theorem cl_iptr {l : List AV} (h : AV.closedL l = true) : (AV.iptr l).closed = true := h
theorem cl_fn {f : FuncId} {l : List AV} (h : AV.closedL l = true) : (AV.fn f l).closed = true := h
section
variable {E : Env} {n N : Nat} {Q : AExit → AFr → AHeap → Prop} {k : List KI} {F : AFr} {H : AHeap}
theorem oPA {o : AOper} {l : List AOper} {f : FuncId} {xs : List Opd} {args : List AV} {v : AV} (hc : PCall E f args v) (h : Holds E n N Q (.ops l) k (F.set o.dst v) H) (hg : o.guard = none := by exact rfl) (ho : o.op = .call f xs := by exact rfl) (ha : xs.map (·.ev E.G F) = args := by exact rfl)
 (hcl : AV.closedL args = true := by repeat' (first | rfl | assumption | apply cl_cons | apply cl_agg | apply cl_isl | apply cl_iptr | apply cl_fn)) : Holds E n N Q (.ops (o :: l)) k F H := on_pcall hg ho ha hc hcl h
theorem oPG {o : AOper} {l : List AOper} {f : FuncId} {xs : List Opd} {args : List AV} {v : AV} {d : Nat} {b : Bool} (hc : PCall E f args v) (h : Holds E n N Q (.ops l) k (F.set o.dst v) H) (hg : o.guard = some (d, b) := by exact rfl) (hd : F.get d = .val (.bool b) := by exact rfl) (ho : o.op = .call f xs := by exact rfl) (ha : xs.map (·.ev E.G F) = args := by exact rfl)
 (hcl : AV.closedL args = true := by repeat' (first | rfl | assumption | apply cl_cons | apply cl_agg | apply cl_isl | apply cl_iptr | apply cl_fn)) : Holds E n N Q (.ops (o :: l)) k F H := on_gpcall hg hd ho ha hc hcl h
theorem oPT {K : List Kd → List AHeap → AFr → AHeap → Prop} {o : AOper} {l : List AOper} {f : FuncId} {xs : List Opd} {args : List AV} {v : AV} (hc : PCall E f args v) (h : TR E l (F.set o.dst v) H (fun ks => K (.free :: ks))) (hg : wantA F o.guard = some true := by exact rfl) (ho : o.op = .call f xs := by exact rfl) (ha : xs.map (·.ev E.G F) = args := by exact rfl)
 (hcl : AV.closedL args = true := by repeat' (first | rfl | assumption | apply cl_cons | apply cl_agg | apply cl_isl | apply cl_iptr | apply cl_fn)) : TR E (o :: l) F H K := tr_pcall hg ho ha hc hcl h
end
end Go.Am
end
