/- The abstract machine that the walks of this claim are carried out on: no condition. -/
import Derived.Test.YtdbikeconboifaaGreatDoorAm5
import Derived.LaidLaws
import Derived.Shelf.Sort.Plain
import Derived.Shelf.Slices.In.SortNone
import Derived.Sort.OwnSortedInts
import Derived.Shelf.Slices.CompactI
section
namespace Go.Am
mutual
def flatD {H : Type} : DataW H → List Value
 | .lit (.bool b) => [.bool b]
 | .lit (.int k n) => [.int k n]
 | .agg ds => flatDs ds
 | _ => []
def flatDs {H : Type} : List (DataW H) → List Value
 | [] => []
 | d :: r => flatD d ++ flatDs r
end
def offsF (P : Program) : Nat → List Field → Option Nat
 | off, [] => some off
 | off, f :: fs => if Nat.beq f.offset off then offsF P (off + P.cellsOf f.type) fs else none
def flatTy (P : Program) : Nat → TypeId → Bool
 | 0, _ => false
 | n + 1, t => match P.underlying t with
  | some .bool => true
  | some (.int _) => true
  | some (.struct fs) => fs.toList.all (fun f => flatTy P n f.type) && (match offsF P 0 fs.toList with | some k => Nat.beq k (P.cellsOf t) | none => false)
  | some (.array m e) => flatTy P n e && Nat.beq (m * P.cellsOf e) (P.cellsOf t)
  | _ => false
theorem mapM_cons_some {α β : Type} {f : α → Option β} {a : α} {l : List α} {r : List β} (h : (a :: l).mapM f = some r) : ∃ b r', f a = some b ∧ l.mapM f = some r' ∧ r = b :: r' := by
 rw [List.mapM_cons] at h
 simp only [Option.bind_eq_bind, Option.pure_def] at h
 obtain ⟨b, hb, h⟩ := Option.bind_eq_some_iff.1 h
 obtain ⟨r', hr, h⟩ := Option.bind_eq_some_iff.1 h
 exact ⟨b, r', hb, hr, by simpa using h.symm⟩
theorem flat_fields {H : Type} {P : Program} {n : Nat} {cs : List Value} {g : TypeId → List Value → Option (DataW H × List MemPlace)} (hg : ∀ t c d p, flatTy P n t = true → g t c = some (d, p) → c = flatD d) : ∀ (fs : List Field) (off tot : Nat) (xs : List (DataW H × List MemPlace)), (∀ f ∈ fs, flatTy P n f.type = true) → offsF P off fs = some tot → (fs.mapM fun f => g f.type ((cs.drop f.offset).take (P.cellsOf f.type))) = some xs → cs.drop off = flatDs (xs.map (·.1)) ++ cs.drop tot
 | [], off, tot, xs, _, ho, hm => by
  simp [offsF] at ho; subst ho
  have : xs = [] := by simpa using hm.symm
  subst this; simp [flatDs]
 | f :: fs, off, tot, xs, hf, ho, hm => by
  simp only [offsF] at ho
  split at ho
  · rename_i hb
    have e := Nat.eq_of_beq_eq_true hb
    obtain ⟨b, r, h1, h2, rfl⟩ := mapM_cons_some hm
    have h3 := hg _ _ _ _ (hf f List.mem_cons_self) h1
    have h4 := flat_fields hg fs _ _ r (fun f hf' => hf f (List.mem_cons_of_mem _ hf')) ho h2
    rw [e] at h3
    simp only [List.map_cons, flatDs]
    rw [← h3, List.append_assoc, ← h4, ← List.drop_drop, List.take_append_drop]
  · cases ho
theorem flat_elems {H : Type} {cs : List Value} {k : Nat} {g : List Value → Option (DataW H × List MemPlace)} (hg : ∀ c d p, g c = some (d, p) → c = flatD d) : ∀ (m s : Nat) (xs : List (DataW H × List MemPlace)), ((List.range' s m).mapM fun i => g ((cs.drop (i * k)).take k)) = some xs → cs.drop (s * k) = flatDs (xs.map (·.1)) ++ cs.drop ((s + m) * k)
 | 0, s, xs, hm => by
  have : xs = [] := by simpa using hm.symm
  subst this; simp [flatDs]
 | m + 1, s, xs, hm => by
  rw [List.range'_succ] at hm
  obtain ⟨b, r, h1, h2, rfl⟩ := mapM_cons_some hm
  have h3 := hg _ _ _ h1
  have h4 := flat_elems hg m (s + 1) r h2
  simp only [List.map_cons, flatDs]
  rw [← h3, List.append_assoc, show s + (m + 1) = s + 1 + m by omega, ← h4, Nat.add_mul, Nat.one_mul, ← List.drop_drop, List.take_append_drop]
theorem trod_flat {H : Type} {enc : TypeId × Value → H} {P : Program} {w : World} {base : Nat} {sp : Nat → Bool} {held : Bool} : ∀ (fuel n : Nat) (t : TypeId) (cs : List Value) (d : DataW H) (p : List MemPlace), flatTy P n t = true → DataW.trod enc P w base sp held fuel t cs = some (d, p) → cs = flatD d
 | 0, _, _, _, _, _, _, h => by simp [DataW.trod] at h
 | fuel + 1, 0, _, _, _, _, hf, _ => by cases hf
 | fuel + 1, n + 1, t, cs, d, p, hf, h => by
  unfold flatTy at hf
  split at hf
  · rename_i hu
    obtain ⟨b, rfl, e⟩ := DataW.trod_bool hu h
    cases e; rfl
  · rename_i k hu
    obtain ⟨z, rfl, e, _⟩ := DataW.trod_int hu h
    cases e; rfl
  · rename_i fs hu
    simp only [Bool.and_eq_true, List.all_eq_true] at hf
    obtain ⟨h1, h2⟩ := hf
    split at h2
    · rename_i k hk
      have h2 := Nat.eq_of_beq_eq_true h2
      simp only [DataW.trod, hu] at h
      split at h
      · rename_i hl
        obtain ⟨xs, hm, hx⟩ := Option.map_eq_some_iff.1 h
        have := flat_fields (n := n) (fun t c d p a b => trod_flat fuel n t c d p a b) fs.toList 0 k xs h1 hk hm
        rw [List.drop_zero, h2, ← hl, List.drop_length, List.append_nil] at this
        cases hx
        exact this
      · cases h
    · cases h2
  · rename_i m e hu
    simp only [Bool.and_eq_true] at hf
    have h2 := Nat.eq_of_beq_eq_true hf.2
    simp only [DataW.trod, hu] at h
    split at h
    · rename_i hl
      obtain ⟨xs, hm, hx⟩ := Option.map_eq_some_iff.1 h
      rw [List.range_eq_range'] at hm
      have := flat_elems (k := P.cellsOf e) (fun c d p b => trod_flat fuel n e c d p hf.1 b) m 0 xs hm
      rw [Nat.zero_mul, List.drop_zero, Nat.zero_add, h2, ← hl, List.drop_length, List.append_nil] at this
      cases hx
      exact this
    · cases h
  · cases hf
theorem laid_cells {P : Program} {W : World} : ∀ {laid : List (String × DataW Unit)} {ps : List MemPlace}, DataW.LaidVars P W laid ps → ∀ {name : String} {d : DataW Unit}, (name, d) ∈ laid → ∀ {g n : Nat} {t : TypeId}, P.globalNamed name = some g → (P.globals[g]?).map (·.type) = some t → flatTy P n t = true → W.var? P name = some (flatD d).toArray
 | [], _, _, _, _, hm, _, _, _, _, _, _ => by cases hm
 | (n0, d0) :: r, ps, h, name, d, hm, g, n, t, hg, ht, hf => by
  obtain ⟨g', t', cs, fuel, p, q, hg', ht', hvar, hd, hr, _⟩ := h
  rcases List.mem_cons.1 hm with e | hm
  · cases e
    obtain rfl := Option.some.inj (hg.symm.trans hg')
    obtain rfl := Option.some.inj (ht.symm.trans ht')
    rw [hvar, ← trod_flat fuel n t _ _ _ hf hd]
  · exact laid_cells hr hm hg ht hf
theorem glob_rep {P : Program} {W : World} {name : String} {g : Nat} {vs : List Value} {cs : List AV} (hv : W.var? P name = some vs.toArray) (hg : P.globalNamed name = some g) (hcs : cs = vs.map .val) (hna : ∀ v ∈ vs, ∀ c, v ≠ .agg c) :
 VRep ⟨fun _ => none, fun b => b < W.heap.size⟩ 0 W (.iptr cs) (.pointer (some ⟨g, 0, none⟩)) := by
 unfold World.var? at hv
 rw [hg, Option.bind_some] at hv
 split at hv
 · rename_i c ty fz hh
   obtain rfl := Option.some.inj hv
   subst hcs
   refine .iptr _ (fun j => vs.getD j undef) g 0 (Array.getElem?_eq_some_iff.1 hh).1 (fun j c hj => ?_) (fun j c hj => ?_)
   · rw [List.getElem?_map] at hj
     obtain ⟨v, hv, rfl⟩ := Option.map_eq_some_iff.1 hj
     simp [World.cell?, hh, List.getD_eq_getElem?_getD, hv]
   · rw [List.getElem?_map] at hj
     obtain ⟨v, hv, rfl⟩ := Option.map_eq_some_iff.1 hj
     rw [List.getD_eq_getElem?_getD, hv]
     exact .val _ (hna v (List.mem_of_getElem? hv))
 · cases hv
end Go.Am
end
section
namespace Go.Am
open Go
section
variable {E : Env} {n N : Nat} {F : AFr} {H : AHeap}
theorem simT {tail : List AOper} {ops : List AOper} {B chain effs : List Nat} {V : List AV} {Hs : List AHeap} {Q : AFr → AHeap → Prop} (wf : WfD ops B) (hB : ∀ i k, (B.getD i 0).testBit k = true → Anc ops k i) (hV : V.length = ops.length) (hHs : Hs.length = chain.length + 1) (hnd : chain.Nodup) (hef : ∀ i, effs.contains i = chain.contains i)
 (hD : ∀ (i : Nat) o v, ops[i]? = some o → V[i]? = some v → DOp E B chain (finF F ops V) Hs i o v) (hQ : ∀ F' Hm, Hs[chain.length]? = some Hm → (∀ t, F'.get t = (finF F ops V).get t) → AOps E n N tail F' Hm Q) :
 ∀ (l S : List Nat) (Fc : AFr) (j : Nat) (Hj : AHeap), Runs ops S l → Shut ops S → (∀ i ∈ S, ∀ o v d, ops[i]? = some o → V[i]? = some v → o.dst = some d → Fc.get d = v) → (∀ t, (∀ (i : Nat) o, ops[i]? = some o → o.dst ≠ some t) → Fc.get t = F.get t) →
  Hs[j]? = some Hj → chain.drop j = l.filter (effs.contains ·) → (∀ e ∈ chain.take j, e ∈ S) → AOps E n N ((l.map fun i => ops.getD i default) ++ tail) Fc Hj Q := by
 have hfin : ∀ (i : Nat) o v d, ops[i]? = some o → V[i]? = some v → o.dst = some d → (finF F ops V).get d = v := fun i o v d h1 h2 h3 => finF_some ops V F i o v d h1 h2 h3 fun k o' hk hd => wf.dst i k o o' d h1 hk h3 hd
 have getV : ∀ (i : Nat) o, ops[i]? = some o → ∃ v, V[i]? = some v := fun i o h => ⟨_, List.getElem?_eq_getElem (by have := (List.getElem?_eq_some_iff.1 h).1; omega)⟩
 have look : ∀ (S : List Nat) (Fc : AFr), Shut ops S → (∀ i ∈ S, ∀ o v d, ops[i]? = some o → V[i]? = some v → o.dst = some d → Fc.get d = v) → (∀ t, (∀ (i : Nat) o, ops[i]? = some o → o.dst ≠ some t) → Fc.get t = F.get t) →
  ∀ (i : Nat) (o : AOper), ops[i]? = some o → (∀ k ∈ o.after, k ∈ S) → ∀ t ∈ o.looks, Fc.get t = (finF F ops V).get t := by
  intro S Fc hS ha hb i o hi haft t ht
  rcases Classical.em (∃ (k : Nat) (o' : AOper), ops[k]? = some o' ∧ o'.dst = some t) with ⟨k, o', hk, hd⟩ | hno
  · obtain ⟨v, hv⟩ := getV k o' hk
    have hkS := (hB i k (wf.look i k o o' t hi hk ht hd)).mem hS ⟨o, hi, haft⟩
    rw [hfin k o' v t hk hv hd]; exact ha k hkS o' v t hk hv hd
  · have hno' : ∀ (i : Nat) o, ops[i]? = some o → o.dst ≠ some t := fun k o' hk hd => hno ⟨k, o', hk, hd⟩
    rw [hb t hno', finF_none ops V F t hno']
 intro l
 induction l with
 | nil =>
  intro S Fc j Hj hr hS ha hb hj hch htk
  have hjle : j = chain.length := by
   have h1 : chain.length ≤ j := by simpa using List.drop_eq_nil_iff.1 hch
   have h2 := (List.getElem?_eq_some_iff.1 hj).1
   omega
  subst hjle
  rw [List.map_nil, List.nil_append]
  refine hQ Fc Hj hj fun t => ?_
  rcases Classical.em (∃ (k : Nat) (o' : AOper), ops[k]? = some o' ∧ o'.dst = some t) with ⟨k, o', hk, hd⟩ | hno
  · obtain ⟨v, hv⟩ := getV k o' hk
    rw [hfin k o' v t hk hv hd]; exact ha k (hr k (List.getElem?_eq_some_iff.1 hk).1) o' v t hk hv hd
  · have hno' : ∀ (i : Nat) o, ops[i]? = some o → o.dst ≠ some t := fun k o' hk hd => hno ⟨k, o', hk, hd⟩
    rw [hb t hno', finF_none ops V F t hno']
 | cons i l ih =>
  intro S Fc j Hj hr hS ha hb hj hch htk
  have hnot := hr.notin
  obtain ⟨h1, ⟨o, ho, haft⟩, h3⟩ := hr
  obtain ⟨v, hv⟩ := getV i o ho
  have hget : ops.getD i default = o := by simp [List.getD_eq_getElem?_getD, ho]
  rw [List.map_cons, hget, List.cons_append]
  have hS' : Shut ops (i :: S) := by
   intro x hx o' ho' k hk
   rcases List.mem_cons.1 hx with rfl | hx
   · rw [ho] at ho'; cases ho'; exact List.mem_cons_of_mem _ (haft k hk)
   · exact List.mem_cons_of_mem _ (hS x hx o' ho' k hk)
  have hlk := look S Fc hS ha hb i o ho haft
  have hwant := looks_want hlk
  have hev := looks_ev (G := E.G) hlk
  have hop : ∀ H, evalOp E.G o.op Fc H = evalOp E.G o.op (finF F ops V) H := fun H => evalOp_congr hev
  -- the frame behind the operation
  have ha' : ∀ k ∈ i :: S, ∀ o' v' d, ops[k]? = some o' → V[k]? = some v' → o'.dst = some d → (Fc.set o.dst v).get d = v' := by
   intro k hk o' v' d hk1 hk2 hk3
   rw [AFr.get_set]
   by_cases hd : o.dst = some d
   · have := wf.dst i k o o' d ho hk1 hd hk3
     subst this
     rw [hv] at hk2; cases hk2; rw [if_pos hd]
   · rw [if_neg hd]
     rcases List.mem_cons.1 hk with rfl | hk
     · rw [ho] at hk1; cases hk1; exact absurd hk3 hd
     · exact ha k hk o' v' d hk1 hk2 hk3
  have hb' : ∀ t, (∀ (i : Nat) o, ops[i]? = some o → o.dst ≠ some t) → (Fc.set o.dst v).get t = F.get t := by
   intro t ht; rw [AFr.get_set, if_neg (ht i o ho)]; exact hb t ht
  have hpos : chain.contains i = false → okpos B chain i j = true := by
   intro hc
   simp only [okpos, Bool.and_eq_true, List.all_eq_true, Bool.not_eq_true']
   refine ⟨fun e he => ?_, fun e he => ?_⟩
   · cases hb2 : (B.getD e 0).testBit i with
     | false => rfl
     | true =>
      have heS := htk e he
      have hanc := hB e i hb2
      obtain ⟨oe, hoe⟩ : ∃ oe, ops[e]? = some oe := by
       cases hanc with
       | one h2 _ => exact ⟨_, h2⟩
       | more h2 _ _ => exact ⟨_, h2⟩
      exact absurd (hanc.mem hS ⟨oe, hoe, hS e heS oe hoe⟩) h1
   · cases hb2 : (B.getD i 0).testBit e with
     | false => rfl
     | true =>
      have heS := (hB i e hb2).mem hS ⟨o, ho, haft⟩
      rw [hch] at he
      exact absurd heS (hnot e (List.mem_filter.1 he).1)
  have quiet : chain.contains i = false → AOps E n N ((l.map fun i => ops.getD i default) ++ tail) (Fc.set o.dst v) Hj Q := by
   intro hc
   refine ih (i :: S) _ j Hj h3 hS' ha' hb' hj ?_ (fun e he => List.mem_cons_of_mem _ (htk e he))
   rw [hch, List.filter_cons_of_neg (by rw [hef, hc]; simp)]
  have loud : ∀ j' H', chain[j']? = some i → Hs[j' + 1]? = some H' → j' = j ∧ AOps E n N ((l.map fun i => ops.getD i default) ++ tail) (Fc.set o.dst v) H' Q := by
   intro j' H' hj' hH'
   have hc : chain.contains i = true := by simpa using List.mem_of_getElem? hj'
   have hd : chain.drop j = i :: l.filter (effs.contains ·) := by rw [hch, List.filter_cons_of_pos (by rw [hef, hc])]
   have hij : chain[j]? = some i := by
    have : (chain.drop j)[0]? = some i := by rw [hd]; rfl
    simpa using this
   have hjj : j' = j := by
    obtain ⟨a1, a2⟩ := List.getElem?_eq_some_iff.1 hj'
    obtain ⟨b1, b2⟩ := List.getElem?_eq_some_iff.1 hij
    exact (List.getElem_inj hnd).1 (a2.trans b2.symm)
   subst hjj
   refine ⟨rfl, ih (i :: S) _ (j' + 1) H' h3 hS' ha' hb' hH' ?_ fun e he => ?_⟩
   · have := congrArg (List.drop 1) hd
     rw [List.drop_drop] at this
     simpa using this
   · rw [List.take_add_one, hij] at he
     rcases List.mem_append.1 he with he | he
     · exact List.mem_cons_of_mem _ (htk e he)
     · simp at he; subst he; exact List.mem_cons_self
  cases hD i o v ho hv with
  | skip hg hv0 hc => exact aops_skipG (looks_skip hlk hg) hv0 (quiet hc)
  | free hg h hc => obtain ⟨c, e1, e2⟩ := h Hj; exact aops_op (by rw [hwant]; exact hg) (by rw [hop]; exact e1) e2 (quiet hc)
  | look hg h hc => obtain ⟨c, e1, e2⟩ := h j Hj hj (hpos hc); exact aops_op (by rw [hwant]; exact hg) (by rw [hop]; exact e1) e2 (quiet hc)
  | call f xs args hg ho2 harg hen h hc =>
   refine aops_call (by rw [hwant]; exact hg) ho2 ?_ hen (h j Hj hj (hpos hc)) (by rintro v' H1 ⟨rfl, rfl⟩; exact quiet hc)
   rw [← harg]; exact List.map_congr_left fun x hx => hev x (by rw [ho2]; exact hx)
  | bslf kk xs es hg ho2 harg hf hv0 hc =>
   refine aops_bslf (es := es) (by rw [hwant]; exact hg) ho2 ?_ hf (by rw [← hv0]; exact quiet hc)
   rw [← harg]; exact List.map_congr_left fun x hx => hev x (by rw [ho2]; exact hx)
  | eff j' H1 H2 c hg hj' e1 e2 h hc =>
   obtain ⟨rfl, hk⟩ := loud j' H2 hj' e2
   rw [hj] at e1; cases e1
   exact aops_op (by rw [hwant]; exact hg) (by rw [hop]; exact h) hc hk
  | ecall j' H1 H2 f xs args hg hj' e1 e2 ho2 harg hen h =>
   obtain ⟨rfl, hk⟩ := loud j' H2 hj' e2
   rw [hj] at e1; cases e1
   refine aops_call (by rw [hwant]; exact hg) ho2 ?_ hen h (by rintro v' H1 ⟨rfl, rfl⟩; exact hk)
   rw [← harg]; exact List.map_congr_left fun x hx => hev x (by rw [ho2]; exact hx)
theorem awp_runs {ops : List AOper} {Q : AExit → AFr → AHeap → Prop} (hm : E.P.follows .mixedOrders = true) (haft : ∀ (i : Nat) (o : AOper), ops[i]? = some o → ∀ k ∈ o.after, k < i)
 (h : ∀ l, Runs ops [] l → AOps E n N (l.map fun i => ops.getD i default) F H (fun F' H' => Q .normal F' H')) : AWP E n N (.draw ops) F H Q := by
 refine awp_reduce fun c hc hns K w tmps T rs k cs h1 h2 h3 h4 => ?_
 cases c with
 | region id os d =>
  simp only [prep] at hc
  split at hc
  · rename_i hd
    subst hd
    simp only [ACode.draw.injEq] at hc
    let t := w.tape w.drawn (.order T.fn id)
    have hlen : ops.length = os.size := by rw [← hc]; simp
    have hruns : Runs ops [] (Region.schedule (E.P.follows .mixedOrders) os t) := by
     rw [hm]
     simp only [Region.schedule, Bool.true_or, if_true, Region.linearise]
     refine go_runs hc.symm haft os.size t _ [] (by simp) (fun i hi => by simp [hi]) (by have := List.length_filter_le (fun i => !([] : List Nat).contains i) (List.range os.size); simpa using this)
    generalize hsch : Region.schedule (E.P.follows .mixedOrders) os t = l at hruns
    have key := h l hruns
    have hlm : l.map (fun i => (os[i]?).map (prepOper E.P n os)) = (l.map fun i => ops.getD i default).map some := by
     rw [List.map_map]
     refine List.map_congr_left fun i hi => ?_
     have hi' : i < ops.length := by
      have : ∀ (l S : List Nat), Runs ops S l → ∀ e ∈ l, e < ops.length := by
       intro l
       induction l with
       | nil => intro S _ e he; cases he
       | cons x l ih =>
        intro S hr e he
        rcases List.mem_cons.1 he with rfl | he
        · obtain ⟨o, ho, _⟩ := hr.2.1; exact (List.getElem?_eq_some_iff.1 ho).1
        · exact ih _ hr.2.2 e he
      exact this l [] hruns i hi
     have : ops[i]? = (os[i]?).map (prepOper E.P n os) := by rw [← hc]; simp
     rw [← this]
     simp [List.getD_eq_getElem?_getD, hi']
    obtain ⟨g1, g2⟩ := h1.drew
    obtain ⟨F1, H1, K1, w1, t1, q, a1, a2, a3, a4⟩ := key os l hlm K w.drew tmps T (rs.map mark) k cs g1 ((Ev.mv h1 g2).frep h2) h3
    have evA := (g2.mono h3).trans a3
    refine ⟨.normal, F1, H1, K1, w1, t1, [], k, q, a1, a2, evA, h4.ev evA, (fun r hr => by cases hr), .normal, .head st_region_draw ?_⟩
    rw [hsch]
    exact a4.trans (.one st_region_end)
  · cases hc
 | rangeFunc f ps a b => simp only [prep] at hc; split at hc <;> cases hc
 | scope a => exact absurd rfl (hns a)
 | _ => cases hc
theorem runs_last {ops1 : List AOper} {o : AOper} (ha : ∀ k, k < ops1.length → k ∈ o.after) : ∀ (l S : List Nat), Runs (ops1 ++ [o]) S l → ops1.length ∉ S → ∃ l1, l = l1 ++ [ops1.length] ∧ Runs ops1 S l1 ∧ ∀ x ∈ l1, x < ops1.length
 | [], S, h, hm => absurd (h ops1.length (by simp)) hm
 | i :: l, S, h, hm => by
  obtain ⟨h1, ⟨oi, h2, h3⟩, h4⟩ := h
  have hi : i < ops1.length + 1 := by have := (List.getElem?_eq_some_iff.1 h2).1; simpa using this
  by_cases he : i = ops1.length
  · subst he
    have hoi : oi = o := by simp at h2; exact h2.symm
    subst hoi
    refine ⟨[], ?_, fun k hk => h3 k (ha k hk), by simp⟩
    cases l with
    | nil => rfl
    | cons x l =>
     obtain ⟨g1, ⟨ox, g2, _⟩, _⟩ := h4
     have hx : x < ops1.length + 1 := by have := (List.getElem?_eq_some_iff.1 g2).1; simpa using this
     exfalso
     apply g1
     by_cases hxe : x = ops1.length
     · simp [hxe]
     · exact List.mem_cons_of_mem _ (h3 x (ha x (by omega)))
  · obtain ⟨l1, rfl, g2, g3⟩ := runs_last ha l (i :: S) h4 (by simp only [List.mem_cons, not_or]; exact ⟨fun h => he h.symm, hm⟩)
    refine ⟨i :: l1, rfl, ⟨h1, ⟨oi, ?_, h3⟩, g2⟩, fun x hx => ?_⟩
    · rwa [List.getElem?_append_left (by omega)] at h2
    · rcases List.mem_cons.1 hx with rfl | hx
      · omega
      · exact g3 x hx
theorem tr_drawL {Q : AExit → AFr → AHeap → Prop} {k : List KI} {ops ops1 : List AOper} {o : AOper} {B : List Nat} (hm : E.P.follows .mixedOrders = true) (hops : ops = ops1 ++ [o]) (hl : (List.range ops1.length).all (fun i => o.after.contains i) = true) (hal : o.after.all (Nat.blt · ops1.length) = true) (hB0 : befs ops1 [] = B) (hwf : wfDraw ops1 B = true)
 (h : TR E ops1 F H (fun ks Hs F' H' => chainsFrom B (effIdx 0 ks).length (effIdx 0 ks) = [effIdx 0 ks] ∧ LooksL B (effIdx 0 ks) (H :: Hs) 0 ks ∧ Holds E n N Q (.ops [o]) k F' H')) : Holds E n N Q (.code (.draw ops)) k F H := by
 subst hops hB0
 obtain ⟨V, ks, Hs, F', H', ht, h1, h2, h3⟩ := h
 have wf := wfDraw_spec hwf
 have hB : ∀ i k, ((befs ops1 []).getD i 0).testBit k = true → Anc ops1 k i := by
  have := befs_spec ops1 [] [] rfl (fun i k hk => by simp at hk)
  simpa using this
 obtain ⟨m1, m2, m3⟩ := ht.kinds3
 have ha : ∀ k, k < ops1.length → k ∈ o.after := fun k hk => by
  have := List.all_eq_true.1 hl k (List.mem_range.2 hk)
  simpa using this
 have hltP : ∀ e ∈ effIdx 0 ks, e < ops1.length := fun x hx => by have := effIdx_lt hx; omega
 refine awp_runs hm (fun i oi hi k hk => ?_) fun l hr => ?_
 · by_cases he : i < ops1.length
   · rw [List.getElem?_append_left he] at hi
     exact wf.aft i oi hi k hk
   · have hi2 : i < ops1.length + 1 := by have := (List.getElem?_eq_some_iff.1 hi).1; simpa using this
     have : i = ops1.length := by omega
     subst this
     have hoi : oi = o := by simp at hi; exact hi.symm
     subst hoi
     exact Nat.le_of_ble_eq_true (List.all_eq_true.1 hal k hk)
 obtain ⟨l1, rfl, hr1, hlt⟩ := runs_last ha l [] hr (by simp)
 have hmap : ((l1 ++ [ops1.length]).map fun i => (ops1 ++ [o]).getD i default) = (l1.map fun i => ops1.getD i default) ++ [o] := by
  rw [List.map_append]
  congr 1
  · refine List.map_congr_left fun x hx => ?_
    have := hlt x hx
    simp [List.getD_eq_getElem?_getD, List.getElem?_append_left this]
  · simp [List.getD_eq_getElem?_getD]
 rw [hmap]
 have hch := chains_mem (B := befs ops1 []) hB (effIdx 0 ks) hltP _ [] (effIdx 0 ks).length (fun i hi => by cases hi) hr1 (List.length_filter_le _ _)
 have hself : ((effIdx 0 ks).filter fun e => !([] : List Nat).contains e) = effIdx 0 ks := by simp
 rw [hself, h1, List.mem_singleton] at hch
 have hall : ∀ e, e < ops1.length → e ∈ l1 := fun e he => by
  rcases Runs.mem_all hr1 e he with h | h
  · cases h
  · exact h
 have hef : ∀ i, (effIdx 0 ks).contains i = (effIdx 0 ks).contains i := fun _ => rfl
 refine simT (E := E) (n := n) (N := N) (F := F) (tail := [o]) (V := V) (Hs := H :: Hs) (effs := effIdx 0 ks) (chain := effIdx 0 ks) wf hB ht.len.1 (by simp [m2 0]) (effIdx_nodup _ _) hef (fun i oi v ho hv => ?_) (fun Fx Hm hHm hg => ?_) l1 [] F 0 H hr1 (fun i hi => by cases hi) (fun i hi => by cases hi) (fun t _ => rfl) rfl (by simpa using hch.symm) (fun e he => by simp at he)
 · rw [← ht.len.2]
   have := ht.dop (B := befs ops1 []) 0 [] [] rfl (fun x hx => by cases hx) h2 (fun i oi ho t ht k o' hik hk hd => by
    have := (hB i k (wf.look i k oi o' t ho hk ht hd)).lt wf
    omega) i oi v ho hv
   simpa using this
 · have e : Hm = H' := by
    rw [← m2 0] at hHm
    rw [hHm] at m3
    exact Option.some.inj m3
   subst e
   rw [← ht.len.2] at hg
   exact AOps.weak (fun t => .inl (hg t).symm) h3
theorem tr_drawX {Q : AExit → AFr → AHeap → Prop} {k : List KI} {ops ops1 : List AOper} {o : AOper} {B : List Nat} (hm : E.P.follows .mixedOrders = true) (h1 : ops.dropLast = ops1) (h2 : ops.getLast? = some o) (hl : (List.range ops1.length).all (fun i => o.after.contains i) = true) (hal : o.after.all (Nat.blt · ops1.length) = true) (hB0 : befs ops1 [] = B) (hwf : wfDraw ops1 B = true)
 (h : TR E ops1 F H (fun ks Hs F' H' => chainsFrom B (effIdx 0 ks).length (effIdx 0 ks) = [effIdx 0 ks] ∧ LooksL B (effIdx 0 ks) (H :: Hs) 0 ks ∧ Holds E n N Q (.ops [o]) k F' H')) : Holds E n N Q (.code (.draw ops)) k F H := by
 refine tr_drawL hm ?_ hl hal hB0 hwf h
 obtain ⟨l, rfl⟩ := List.getLast?_eq_some_iff.1 h2
 rw [← h1, List.dropLast_concat]
theorem on_condJ {Q : AExit → AFr → AHeap → Prop} {k : List KI} {x : Opd} {a b : ACode} {t : Bool} (F0 : AFr) (H0 : AHeap) (hx : x.ev E.G F = .val (.bool t)) (h1 : t = true → Holds E n N (fun e F' H' => e = .normal ∧ Ent E n N F' H' F0 H0) (.code a) [] F H) (h2 : t = false → Holds E n N (fun e F' H' => e = .normal ∧ Ent E n N F' H' F0 H0) (.code b) [] F H)
 (tail : Holds E n N Q (.out .normal) k F0 H0) : Holds E n N Q (.code (.cond x a b)) k F H := by
 refine on_cond hx (fun ht => ?_) (fun ht => ?_)
 · refine AWP.entEnd (AWP.mono (h1 ht) ?_)
   rintro e F' H' ⟨rfl, he⟩
   exact ⟨F0, H0, he, tail⟩
 · refine AWP.entEnd (AWP.mono (h2 ht) ?_)
   rintro e F' H' ⟨rfl, he⟩
   exact ⟨F0, H0, he, tail⟩
end
end Go.Am
end
section
namespace Go.Am
open Go.Shelf Go.Sort Go.Proofs
def sortI (zs : List Int) : List Int := zs.mergeSort fun x y => decide (x ≤ y)
theorem putCells_len (d : Array Int) (off : Nat) (c : Array Value) : (putCells (Value.int .i64) off d c).size = c.size := by simp [putCells]
theorem putCells_at {ts : List Int} {off : Nat} {c : Array Value} {j : Nat} (hj : j < ts.length) (hc : off + j < c.size) : (putCells (Value.int .i64) off ts.toArray c)[off + j]? = some (.int .i64 ts[j]) := by
 simp [putCells, hj, hc]
theorem sort_nil : sortI [] = [] := by simp [sortI]
theorem sort_acall {E : Env} {ρ : Ren} (Ly : Lays.n189 E.P ρ) (zs : List Int) (hsz : zs.length < 4611686018427387904) :
 ACall E (ρ.f 189) [.sl 0 1 0 zs.length] [.arr 1 (zs.map fun z => .val (.int .i64 z))] fun v H' => v = .tup [] ∧ H' = [.arr 1 ((sortI zs).map fun z => .val (.int .i64 z))] := by
 intro K w ys hh hv
 have hlen : (sortI zs).length = zs.length := by simp [sortI, List.length_mergeSort]
 obtain ⟨y, rfl⟩ : ∃ y, ys = [y] := by
  match ys, hv.1 with
  | [y], _ => exact ⟨y, rfl⟩
 have v0 := hv.2 0 _ y rfl rfl
 have tupr : ∀ (K : Ctx) (M : Nat) (w : World), VRep K M w (.tup []) (.tuple #[]) := fun K M w => .tup [] [] rfl fun i c y h => by simp at h
 have nil : zs = [] → ∀ (p : Option Addr), y = .slice p 0 0 → Calls E.P (ρ.f 189) [y].toArray w fun e w' => ∃ v y H' K', e = .returned y ∧ (v = .tup [] ∧ H' = [.arr 1 ((sortI zs).map fun z => .val (.int .i64 z))]) ∧ HRep E K' w' H' ∧ VRep K' H'.length w' v y ∧ Ev 1 K [.arr 1 (zs.map fun z => .val (.int .i64 z))] w K' H' w' := by
  rintro rfl p rfl
  refine (Any.slices_Sort_int_none Ly p 0 w).mono ?_
  rintro e w' ⟨rfl, rfl⟩
  exact ⟨_, _, _, K, rfl, ⟨rfl, rfl⟩, by rw [sort_nil]; exact hh, tupr _ _ _, by rw [sort_nil]; exact Ev.refl _ _ _ _ (Nat.le_refl _)⟩
 generalize hz : zs.length = m at v0
 cases v0 with
 | slnil _ _ _ hM => exact nil (List.length_eq_zero_iff.1 hz) none rfl
 | sl0 _ _ _ a hM => exact nil (List.length_eq_zero_iff.1 hz) (some a) rfl
 | sl _ _ _ _ cap blk base hM hγ hle hs =>
  subst hz
  by_cases h0 : zs = []
  · subst h0
    refine (Any.slices_Sort_int_none Ly _ cap w).mono ?_
    rintro e w' ⟨rfl, rfl⟩
    exact ⟨_, _, _, K, rfl, ⟨rfl, rfl⟩, by rw [sort_nil]; exact hh, tupr _ _ _, by rw [sort_nil]; exact Ev.refl _ _ _ _ (Nat.le_refl _)⟩
  have ho := hh.obj 0 _ rfl
  rw [hγ] at ho
  generalize hes : (zs.map fun z => AV.val (.int .i64 z)) = es at ho
  cases ho with
  | arr _ _ _ _ c ty hb hk hl =>
   have hel : es.length = zs.length := by rw [← hes]; simp
   have hat : ∀ j (hj : j < zs.length), c[base + j]? = some (.int .i64 zs[j]) := by
    intro j hj
    have he : es[j]? = some (.val (.int .i64 zs[j])) := by rw [← hes]; simp [hj]
    obtain ⟨y, h1, h2⟩ := hl j _ he 0 _ rfl
    cases h2
    simpa using h1
   have hH : Go.Sort.Holds (Value.int .i64) w blk base zs.toArray := by
    intro j hj
    have hj' : j < zs.length := by simpa using hj
    refine ⟨?_, by simp [World.frozen?, hb]⟩
    simp only [World.cell?, hb, Option.isSome_none, Bool.false_eq_true, if_false]
    rw [hat j hj']; simp [hj']
   have hblk : blk < w.heap.size := (Array.getElem?_eq_some_iff.1 hb).1
   have hc := Any.slices_Sort_int Ly blk base cap zs w hH hblk hsz
   have e0 : base + 0 * 1 = base := by omega
   rw [e0]
   refine hc.mono ?_
   rintro e w' ⟨rfl, n, os, rfl⟩
   have hnew : ∀ k, k < w.heap.size → k ≠ blk → (grow (putRow (Value.int .i64) (Sort.ahead w n) blk base (zs.mergeSort fun x y => decide (x ≤ y)).toArray) os).heap[k]? = w.heap[k]? := by
    intro k hk hne
    rw [heap_grow_old _ _ (by simpa using hk)]
    simp [putRow, mapBlock, Sort.ahead, Array.getElem?_modify, Ne.symm hne]
   have hblk' : (grow (putRow (Value.int .i64) (Sort.ahead w n) blk base (zs.mergeSort fun x y => decide (x ≤ y)).toArray) os).heap[blk]? = some (.cells (putCells (Value.int .i64) base (sortI zs).toArray c) ty (0, 0)) := by
    rw [heap_grow_old _ _ (by simpa using hblk)]
    simp [putRow, mapBlock, Sort.ahead, Array.getElem?_modify, hb, onCells, sortI]
   generalize hw : (grow (putRow (Value.int .i64) (Sort.ahead w n) blk base (zs.mergeSort fun x y => decide (x ≤ y)).toArray) os) = w' at hnew hblk'
   have hsize : w.heap.size ≤ w'.heap.size := by rw [← hw]; simp [grow, putRow, mapBlock, Sort.ahead]
   have hos : w'.os = w.os := by rw [← hw]; rfl
   have hout : w'.output = w.output := by rw [← hw]; rfl
   have own : ∀ b, owned K [.arr 1 es] b ↔ b = blk := by
    intro b
    constructor
    · rintro ⟨i, o, base', h1, h2, h3⟩
      cases i with
      | zero => rw [hγ] at h3; cases h3; rfl
      | succ i => simp at h1
    · rintro rfl; exact ⟨0, _, base, rfl, trivial, hγ⟩
   have hnI : ¬ K.I blk := hh.disj blk ⟨0, _, base, rfl, trivial, hγ⟩
   have cells : ∀ (b : Nat) c1 ty fz, w.heap[b]? = some (.cells c1 ty fz) → ∃ c', w'.heap[b]? = some (.cells c' ty fz) ∧ c'.size = c1.size := by
    intro b c1 ty1 fz h1
    by_cases hbb : b = blk
    · subst hbb; rw [hb] at h1; cases h1; exact ⟨_, hblk', putCells_len _ _ _⟩
    · exact ⟨c1, by rw [hnew b (Array.getElem?_eq_some_iff.1 h1).1 hbb]; exact h1, rfl⟩
   refine ⟨_, _, _, K, rfl, ⟨rfl, rfl⟩, ⟨?_, ?_, ?_, ?_, ?_⟩, tupr _ _ _, ⟨fun _ _ => rfl, by simp, fun _ h => h, fun _ h => .inl h, ?_, ?_, hsize, cells, ?_, hos, hout⟩⟩
   · intro b o hbo
     cases b with
     | succ b => simp at hbo
     | zero =>
      simp at hbo; subst hbo
      rw [hγ]
      refine .arr blk base 1 _ _ ty hblk' (fun i e he => ?_) (fun i e he => ?_)
      · rw [List.getElem?_map] at he
        obtain ⟨z, _, rfl⟩ := Option.map_eq_some_iff.1 he
        rfl
      · rw [List.getElem?_map] at he
        obtain ⟨z, hz, rfl⟩ := Option.map_eq_some_iff.1 he
        intro j x hx
        cases j with
        | succ j => simp [AV.cells] at hx
        | zero =>
         simp [AV.cells] at hx; subst hx
         have hi : i < (sortI zs).length := (List.getElem?_eq_some_iff.1 hz).1
         refine ⟨.int .i64 z, ?_, .val _ (by intro cs; simp)⟩
         have hcs : base + i < c.size := by
          have := hat i (by omega)
          exact (Array.getElem?_eq_some_iff.1 this).1
         have := putCells_at (off := base) (c := c) (ts := sortI zs) hi hcs
         have hz' : (sortI zs)[i] = z := (List.getElem?_eq_some_iff.1 hz).2
         rw [hz'] at this
         simpa using this
   · intro b b' o o' blk base base' h1 h2
     cases b with
     | succ b => simp at h1
     | zero => cases b' with
      | succ b => simp at h2
      | zero => intros; rfl
   · rintro b ⟨i, o, base', h1, h2, h3⟩ hi
     cases i with
     | zero => rw [hγ] at h3; cases h3; exact hnI hi
     | succ i => simp at h1
   · intro b hi; exact Nat.lt_of_lt_of_le (hh.low b hi) hsize
   · intro g
     refine VRep.mono (K := K) (K' := K) (fun _ _ => rfl) (Nat.le_refl _) (fun _ h => h) (fun b hi o => ?_) cells (hh.glob g)
     have hne : b ≠ blk := by rintro rfl; exact hnI hi
     unfold World.cell?
     rw [hnew b (hh.low b hi) hne]
   · rintro b ⟨i, o, base', h1, h2, h3⟩
     cases i with
     | zero => left; rw [← hes]; exact ⟨0, _, base', rfl, trivial, h3⟩
     | succ i => simp at h1
   · intro b hb1 hno
     refine hnew b hb1 ?_
     rintro rfl
     exact hno (by rw [← hes]; exact ⟨0, _, base, rfl, trivial, hγ⟩)
   · intro b r hr
     by_cases hbb : b = blk
     · subst hbb; rw [hb] at hr; cases hr
     · exact ⟨r, by rw [hnew b (Array.getElem?_eq_some_iff.1 hr).1 hbb]; exact hr⟩
end Go.Am
end
section
namespace Go.Am
open Go.Shelf Go.Sort Go.Proofs
theorem compact_le (zs : List Int) : (Lib.compact zs).length ≤ zs.length := by
 unfold Lib.compact Lib.compactUpTo
 rw [List.length_map]
 refine Nat.le_trans (List.length_filter_le _ _) ?_
 simp
def compI (zs : List Int) : List Int := Lib.compact zs ++ List.replicate (zs.length - (Lib.compact zs).length) 0
theorem compI_len (zs : List Int) : (compI zs).length = zs.length := by
 have := compact_le zs
 simp [compI]; omega
theorem comp_acall {E : Env} {ρ : Ren} (Ly : Lays2.n20 E.P ρ) (zs : List Int) (hsz : zs.length ≤ 9223372036854775807) :
 ACall E (ρ.f 20) [.sl 0 1 0 zs.length] [.arr 1 (zs.map fun z => .val (.int .i64 z))] fun v H' => v = .sl 0 1 0 (Lib.compact zs).length ∧ H' = [.arr 1 ((compI zs).map fun z => .val (.int .i64 z))] := by
 intro K w ys hh hv
 have hlen : (compI zs).length = zs.length := compI_len zs
 obtain ⟨y, rfl⟩ : ∃ y, ys = [y] := by
  match ys, hv.1 with
  | [y], _ => exact ⟨y, rfl⟩
 have v0 := hv.2 0 _ y rfl rfl
 have tupr : ∀ (K : Ctx) (M : Nat) (w : World), VRep K M w (.tup []) (.tuple #[]) := fun K M w => .tup [] [] rfl fun i c y h => by simp at h
 have nil : zs = [] → ∀ (p : Option Addr), y = .slice p 0 0 → Calls E.P (ρ.f 20) [y].toArray w fun e w' => ∃ v y H' K', e = .returned y ∧ (v = .sl 0 1 0 (Lib.compact zs).length ∧ H' = [.arr 1 ((compI zs).map fun z => .val (.int .i64 z))]) ∧ HRep E K' w' H' ∧ VRep K' H'.length w' v y ∧ Ev 1 K [.arr 1 (zs.map fun z => .val (.int .i64 z))] w K' H' w' := by
  rintro rfl p rfl
  refine (Any.slices_Compact_int_empty Ly p 0 w).mono ?_
  rintro e w' ⟨rfl, rfl⟩
  refine ⟨_, _, _, K, rfl, ⟨rfl, rfl⟩, hh, ?_, Ev.refl _ _ _ _ (Nat.le_refl _)⟩
  cases p with
  | none => exact .slnil 0 1 0 (by simp)
  | some a => exact .sl0 0 1 0 a (by simp)
 generalize hz : zs.length = m at v0
 cases v0 with
 | slnil _ _ _ hM => exact nil (List.length_eq_zero_iff.1 hz) none rfl
 | sl0 _ _ _ a hM => exact nil (List.length_eq_zero_iff.1 hz) (some a) rfl
 | sl _ _ _ _ cap blk base hM hγ hle hs =>
  subst hz
  by_cases h0 : zs = []
  · subst h0
    refine (Any.slices_Compact_int_empty Ly _ cap w).mono ?_
    rintro e w' ⟨rfl, rfl⟩
    exact ⟨_, _, _, K, rfl, ⟨rfl, rfl⟩, hh, VRep.sl 0 1 0 0 cap blk base hM hγ hle hs, Ev.refl _ _ _ _ (Nat.le_refl _)⟩
  have ho := hh.obj 0 _ rfl
  rw [hγ] at ho
  generalize hes : (zs.map fun z => AV.val (.int .i64 z)) = es at ho
  cases ho with
  | arr _ _ _ _ c ty hb hk hl =>
   have hel : es.length = zs.length := by rw [← hes]; simp
   have hat : ∀ j (hj : j < zs.length), c[base + j]? = some (.int .i64 zs[j]) := by
    intro j hj
    have he : es[j]? = some (.val (.int .i64 zs[j])) := by rw [← hes]; simp [hj]
    obtain ⟨y, h1, h2⟩ := hl j _ he 0 _ rfl
    cases h2
    simpa using h1
   have hH : Go.Sort.Holds (Value.int .i64) w blk base zs.toArray := by
    intro j hj
    have hj' : j < zs.length := by simpa using hj
    refine ⟨?_, by simp [World.frozen?, hb]⟩
    simp only [World.cell?, hb, Option.isSome_none, Bool.false_eq_true, if_false]
    rw [hat j hj']; simp [hj']
   have hblk : blk < w.heap.size := (Array.getElem?_eq_some_iff.1 hb).1
   have hc := Any.slices_Compact_int Ly blk base cap zs w hH hsz hle
   have e0 : base + 0 * 1 = base := by omega
   rw [e0]
   refine hc.mono ?_
   rintro e w' ⟨rfl, n, rfl⟩
   have hnew : ∀ k, k < w.heap.size → k ≠ blk → (putRow (Value.int .i64) (Sort.ahead w n) blk base (Lib.compact zs ++ List.replicate (zs.length - (Lib.compact zs).length) 0).toArray).heap[k]? = w.heap[k]? := by
    intro k hk hne
    simp [putRow, mapBlock, Sort.ahead, Array.getElem?_modify, Ne.symm hne]
   have hblk' : (putRow (Value.int .i64) (Sort.ahead w n) blk base (Lib.compact zs ++ List.replicate (zs.length - (Lib.compact zs).length) 0).toArray).heap[blk]? = some (.cells (putCells (Value.int .i64) base (compI zs).toArray c) ty (0, 0)) := by
    simp [putRow, mapBlock, Sort.ahead, Array.getElem?_modify, hb, onCells, compI]
   generalize hw : (putRow (Value.int .i64) (Sort.ahead w n) blk base (Lib.compact zs ++ List.replicate (zs.length - (Lib.compact zs).length) 0).toArray) = w' at hnew hblk'
   have hsize : w.heap.size ≤ w'.heap.size := by rw [← hw]; simp [putRow, mapBlock, Sort.ahead]
   have hos : w'.os = w.os := by rw [← hw]; rfl
   have hout : w'.output = w.output := by rw [← hw]; rfl
   have own : ∀ b, owned K [.arr 1 es] b ↔ b = blk := by
    intro b
    constructor
    · rintro ⟨i, o, base', h1, h2, h3⟩
      cases i with
      | zero => rw [hγ] at h3; cases h3; rfl
      | succ i => simp at h1
    · rintro rfl; exact ⟨0, _, base, rfl, trivial, hγ⟩
   have hnI : ¬ K.I blk := hh.disj blk ⟨0, _, base, rfl, trivial, hγ⟩
   have cells : ∀ (b : Nat) c1 ty fz, w.heap[b]? = some (.cells c1 ty fz) → ∃ c', w'.heap[b]? = some (.cells c' ty fz) ∧ c'.size = c1.size := by
    intro b c1 ty1 fz h1
    by_cases hbb : b = blk
    · subst hbb; rw [hb] at h1; cases h1; exact ⟨_, hblk', putCells_len _ _ _⟩
    · exact ⟨c1, by rw [hnew b (Array.getElem?_eq_some_iff.1 h1).1 hbb]; exact h1, rfl⟩
   have hres : VRep K 1 w' (.sl 0 1 0 (Lib.compact zs).length) (.slice (some ⟨blk, base, none⟩) (Lib.compact zs).length cap) := by
    have h1 : VRep K 1 w (.sl 0 1 0 (Lib.compact zs).length) (.slice (some ⟨blk, base + 0 * 1, none⟩) (Lib.compact zs).length cap) := VRep.sl 0 1 0 _ cap blk base hM hγ (Nat.le_trans (compact_le zs) hle) hs
    rw [e0] at h1
    refine VRep.mono (K := K) (K' := K) (fun _ _ => rfl) (Nat.le_refl _) (fun _ h => h) (fun b hi o => ?_) cells h1
    have hne : b ≠ blk := by rintro rfl; exact hnI hi
    unfold World.cell?
    rw [hnew b (hh.low b hi) hne]
   refine ⟨_, _, _, K, rfl, ⟨rfl, rfl⟩, ⟨?_, ?_, ?_, ?_, ?_⟩, hres, ⟨fun _ _ => rfl, by simp, fun _ h => h, fun _ h => .inl h, ?_, ?_, hsize, cells, ?_, hos, hout⟩⟩
   · intro b o hbo
     cases b with
     | succ b => simp at hbo
     | zero =>
      simp at hbo; subst hbo
      rw [hγ]
      refine .arr blk base 1 _ _ ty hblk' (fun i e he => ?_) (fun i e he => ?_)
      · rw [List.getElem?_map] at he
        obtain ⟨z, _, rfl⟩ := Option.map_eq_some_iff.1 he
        rfl
      · rw [List.getElem?_map] at he
        obtain ⟨z, hz, rfl⟩ := Option.map_eq_some_iff.1 he
        intro j x hx
        cases j with
        | succ j => simp [AV.cells] at hx
        | zero =>
         simp [AV.cells] at hx; subst hx
         have hi : i < (compI zs).length := (List.getElem?_eq_some_iff.1 hz).1
         refine ⟨.int .i64 z, ?_, .val _ (by intro cs; simp)⟩
         have hcs : base + i < c.size := by
          have := hat i (by omega)
          exact (Array.getElem?_eq_some_iff.1 this).1
         have := putCells_at (off := base) (c := c) (ts := compI zs) hi hcs
         have hz' : (compI zs)[i] = z := (List.getElem?_eq_some_iff.1 hz).2
         rw [hz'] at this
         simpa using this
   · intro b b' o o' blk base base' h1 h2
     cases b with
     | succ b => simp at h1
     | zero => cases b' with
      | succ b => simp at h2
      | zero => intros; rfl
   · rintro b ⟨i, o, base', h1, h2, h3⟩ hi
     cases i with
     | zero => rw [hγ] at h3; cases h3; exact hnI hi
     | succ i => simp at h1
   · intro b hi; exact Nat.lt_of_lt_of_le (hh.low b hi) hsize
   · intro g
     refine VRep.mono (K := K) (K' := K) (fun _ _ => rfl) (Nat.le_refl _) (fun _ h => h) (fun b hi o => ?_) cells (hh.glob g)
     have hne : b ≠ blk := by rintro rfl; exact hnI hi
     unfold World.cell?
     rw [hnew b (hh.low b hi) hne]
   · rintro b ⟨i, o, base', h1, h2, h3⟩
     cases i with
     | zero => left; rw [← hes]; exact ⟨0, _, base', rfl, trivial, h3⟩
     | succ i => simp at h1
   · intro b hb1 hno
     refine hnew b hb1 ?_
     rintro rfl
     exact hno (by rw [← hes]; exact ⟨0, _, base, rfl, trivial, hγ⟩)
   · intro b r hr
     by_cases hbb : b = blk
     · subst hbb; rw [hb] at hr; cases hr
     · exact ⟨r, by rw [hnew b (Array.getElem?_eq_some_iff.1 hr).1 hbb]; exact hr⟩
end Go.Am
end
section
namespace Go.Am
inductive Wk2 (M : Nat) : AV → AV → Prop
 | wk (v v' : AV) (h : Wk M v v') : Wk2 M v v'
 | agg (cs cs' : List AV) (hl : cs.length = cs'.length) (h : ∀ (i : Nat) c c', cs[i]? = some c → cs'[i]? = some c' → Wk2 M c c') : Wk2 M (.agg cs) (.agg cs')
 | tup (cs cs' : List AV) (hl : cs.length = cs'.length) (h : ∀ (i : Nat) c c', cs[i]? = some c → cs'[i]? = some c' → Wk2 M c c') : Wk2 M (.tup cs) (.tup cs')
 | isl (k : Nat) (es es' : List AV) (hl : es.length = es'.length) (hc : ∀ (i : Nat) e e', es[i]? = some e → es'[i]? = some e' → e.cells.length = e'.cells.length)
  (h : ∀ (i : Nat) e e' (j : Nat) c c', es[i]? = some e → es'[i]? = some e' → e.cells[j]? = some c → e'.cells[j]? = some c' → Wk2 M c c') : Wk2 M (.isl k es) (.isl k es')
theorem Wk2.rep {K : Ctx} {M : Nat} {w : World} {v v' : AV} (h : Wk2 M v v') : ∀ {y : Value}, VRep K M w v y → VRep K M w v' y := by
 induction h with
 | wk v v' h => exact fun hy => h.rep hy
 | agg cs cs' hl _ ih =>
  intro y h
  cases h with
  | agg _ ys hl2 h =>
   refine .agg cs' ys (hl ▸ hl2) fun i c' y hc hy => ?_
   obtain ⟨c, hc1⟩ : ∃ c, cs[i]? = some c := ⟨_, List.getElem?_eq_getElem (by have := (List.getElem?_eq_some_iff.1 hc).1; omega)⟩
   exact ih i c c' hc1 hc (h i c y hc1 hy)
 | tup cs cs' hl _ ih =>
  intro y h
  cases h with
  | tup _ ys hl2 h =>
   refine .tup cs' ys (hl ▸ hl2) fun i c' y hc hy => ?_
   obtain ⟨c, hc1⟩ : ∃ c, cs[i]? = some c := ⟨_, List.getElem?_eq_getElem (by have := (List.getElem?_eq_some_iff.1 hc).1; omega)⟩
   exact ih i c c' hc1 hc (h i c y hc1 hy)
 | isl k es es' hl hcl _ ih =>
  intro y h
  cases h with
  | islnil _ =>
   have : es' = [] := List.length_eq_zero_iff.1 hl.symm
   subst this
   exact .islnil k
  | isl _ _ f a cap hle hI hk hc h =>
   have el : ∀ (i : Nat) e', es'[i]? = some e' → ∃ e, es[i]? = some e := fun i e' he => ⟨_, List.getElem?_eq_getElem (by have := (List.getElem?_eq_some_iff.1 he).1; omega)⟩
   have cl : ∀ (i : Nat) e e' (j : Nat) c', es[i]? = some e → es'[i]? = some e' → e'.cells[j]? = some c' → ∃ c, e.cells[j]? = some c := fun i e e' j c' h1 h2 h3 => ⟨_, List.getElem?_eq_getElem (by have := (List.getElem?_eq_some_iff.1 h3).1; have := hcl i e e' h1 h2; omega)⟩
   have := VRep.isl (K := K) (M := M) (w := w) k es' f a cap (hl ▸ hle) (fun hne => hI fun h0 => hne (by subst h0; exact List.length_eq_zero_iff.1 hl.symm))
    (fun i e' he' => by obtain ⟨e, he⟩ := el i e' he'; rw [← hcl i e e' he he']; exact hk i e he)
    (fun i e' j c' he' hc' => by
     obtain ⟨e, he⟩ := el i e' he'
     obtain ⟨c, hc1⟩ := cl i e e' j c' he he' hc'
     exact hc i e j c he hc1)
    (fun i e' j c' he' hc' => by
     obtain ⟨e, he⟩ := el i e' he'
     obtain ⟨c, hc1⟩ := cl i e e' j c' he he' hc'
     exact ih i e e' j c c' he he' hc1 hc' (h i e j c he hc1))
   rw [← hl] at this
   exact this
def Wk2L (M : Nat) : List AV → List AV → Prop
 | [], [] => True
 | c :: cs, d :: ds => Wk2 M c d ∧ Wk2L M cs ds
 | _, _ => False
theorem Wk2L.spec {M : Nat} : ∀ {cs ds : List AV}, Wk2L M cs ds → cs.length = ds.length ∧ ∀ (i : Nat) c c', cs[i]? = some c → ds[i]? = some c' → Wk2 M c c'
 | [], [], _ => ⟨rfl, fun i c c' h => by simp at h⟩
 | c :: cs, d :: ds, h => by
  obtain ⟨h1, h2⟩ := h.2.spec
  refine ⟨by simp [h1], fun i x y hx hy => ?_⟩
  cases i with
  | zero => cases hx; cases hy; exact h.1
  | succ i => exact h2 i x y (by simpa using hx) (by simpa using hy)
 | [], _ :: _, h => h.elim
 | _ :: _, [], h => h.elim
theorem Wk2.agg' {M : Nat} {cs ds : List AV} (h : Wk2L M cs ds) : Wk2 M (.agg cs) (.agg ds) := .agg _ _ h.spec.1 h.spec.2
theorem Wk2.tup' {M : Nat} {cs ds : List AV} (h : Wk2L M cs ds) : Wk2 M (.tup cs) (.tup ds) := .tup _ _ h.spec.1 h.spec.2
theorem Wk2.refl {M : Nat} (v : AV) : Wk2 M v v := .wk _ _ (.refl _)
theorem Wk2.nilI {M : Nat} (k : Nat) : Wk2 M (.val (.slice none 0 0)) (.isl k []) := .wk _ _ (.nilI k)
theorem Wk2.of {M : Nat} {v v' : AV} (h : v = v') : Wk2 M v v' := h ▸ .refl _
def Wk2E (M : Nat) : List AV → List AV → Prop
 | [], [] => True
 | c :: cs, d :: ds => Wk2L M c.cells d.cells ∧ Wk2E M cs ds
 | _, _ => False
theorem Wk2E.spec {M : Nat} : ∀ {cs ds : List AV}, Wk2E M cs ds → cs.length = ds.length ∧ ∀ (i : Nat) c c', cs[i]? = some c → ds[i]? = some c' → Wk2L M c.cells c'.cells
 | [], [], _ => ⟨rfl, fun i c c' h => by simp at h⟩
 | c :: cs, d :: ds, h => by
  obtain ⟨h1, h2⟩ := h.2.spec
  refine ⟨by simp [h1], fun i x y hx hy => ?_⟩
  cases i with
  | zero => cases hx; cases hy; exact h.1
  | succ i => exact h2 i x y (by simpa using hx) (by simpa using hy)
 | [], _ :: _, h => h.elim
 | _ :: _, [], h => h.elim
theorem Wk2.isl' {M k : Nat} {es es' : List AV} (h : Wk2E M es es') : Wk2 M (.isl k es) (.isl k es') :=
 .isl k es es' h.spec.1 (fun i e e' h1 h2 => (h.spec.2 i e e' h1 h2).spec.1) (fun i e e' j c c' h1 h2 h3 h4 => (h.spec.2 i e e' h1 h2).spec.2 j c c' h3 h4)
theorem Wk2L.refl {M : Nat} : ∀ cs : List AV, Wk2L M cs cs
 | [] => trivial
 | c :: cs => ⟨.refl c, .refl cs⟩
theorem PCall.weak2 {E : Env} {f : FuncId} {args : List AV} {v v' : AV} (h : PCall E f args v) (hw : Wk2 0 v v') : PCall E f args v' :=
 ⟨h.1, fun K w ys a b => (h.2 K w ys a b).mono fun e w' ⟨u, y, H', K', h1, ⟨h2, h2'⟩, h3, h4, h5⟩ => ⟨v', y, H', K', h1, ⟨rfl, h2'⟩, h3, by subst h2; subst h2'; exact hw.rep h4, h5⟩⟩
def SWkL (σ : Nat → Sub) : List AV → List AV → Prop
 | [], [] => True
 | c :: cs, d :: ds => Wk 0 (c.sub σ) d ∧ SWkL σ cs ds
 | _, _ => False
theorem SWkL.wkL {σ : Nat → Sub} : ∀ {cs ds : List AV}, SWkL σ cs ds → WkL 0 (AV.subL σ cs) ds
 | [], [], _ => trivial
 | c :: cs, d :: ds, h => ⟨h.1, h.2.wkL⟩
 | [], _ :: _, h => h.elim
 | _ :: _, [], h => h.elim
def LendOk (H : AHeap) (args args' : List AV) : Prop := ∃ L, SubL H 0 [] (ofL L) 0 L ∧ SWkL (ofL L) args args'
theorem on_lend {E : Env} {n N : Nat} {Q : AExit → AFr → AHeap → Prop} {k : List KI} {F : AFr} {H : AHeap} {o : AOper} {l : List AOper} {f : FuncId} {xs : List Opd} {args' : List AV} {v : AV} (hg : wantA F o.guard = some true) (ho : o.op = .call f xs)
 (hc : PCall E f args' v) (hfl : v.flat = true) (hl : LendOk H (xs.map (·.ev E.G F)) args') (h : Holds E n N Q (.ops l) k (F.set o.dst v) H) : Holds E n N Q (.ops (o :: l)) k F H := by
 obtain ⟨L, h1, h2⟩ := hl
 exact aops_lcall L hg ho rfl h1 rfl (hc.weak h2.wkL) hfl h
end Go.Am
end
section
namespace Go.Am
section
variable {E : Env} {n N : Nat} {Q : AExit → AFr → AHeap → Prop}
theorem goA (g : Nat) {X : Words} {cur : Cur} {k : List KI} {F : AFr} {H : AHeap} {c : Cd} {cur' : Cur} {k' : List KI} {F' : AFr} {H' : AHeap} (h : Holds E n N Q cur' k' F' H') (hXs : X = std := by exact hX) (hm : E.P.follows .mixedOrders = true := by exact rfl)
 (he : exec X E.G 1000 g cur k F H = (c, cur', k', F', H') := by conv => lhs; cbv) (hc : c.ok := by first | exact trivial | (simp only [Cd.ok, ee]; and_intros <;> first | omega | rfl | (simp <;> omega))) : Holds E n N Q cur k F H :=
 go hm hXs g he hc h
theorem goB {X : Words} (hXs : X = std) (g : Nat) {cur : Cur} {k : List KI} {F : AFr} {H : AHeap} {c : Cd} {cur' : Cur} {k' : List KI} {F' : AFr} {H' : AHeap} (he : exec X E.G 1000 g cur k F H = (c, cur', k', F', H')) (h : Holds E n N Q cur' k' F' H') (hm : E.P.follows .mixedOrders = true := by exact rfl)
 (hc : c.ok := by first | exact trivial | (simp only [Cd.ok, ee]; and_intros <;> first | omega | rfl | (simp <;> omega))) : Holds E n N Q cur k F H :=
 go hm hXs g he hc h
end
theorem tgA {E : Env} {X : Words} {l : List AOper} {F : AFr} {H : AHeap} {K : List Kd → List AHeap → AFr → AHeap → Prop} {c : Cd} {rest : List AOper} {F' : AFr} {H' : AHeap} {ks : List Kd} {Hs : List AHeap}
 (h : TR E rest F' H' (fun k2 H2 => K (ks ++ k2) (Hs ++ H2))) (hXs : X = std := by exact hX) (he : runT X E.G 1000 l F H = (c, rest, F', H', ks, Hs) := by conv => lhs; cbv) (hc : c.ok := by first | exact trivial | (simp only [Cd.ok, ee]; and_intros <;> first | omega | rfl | (simp <;> omega))) : TR E l F H K := tr_go hXs he hc h
theorem tgB {E : Env} {X : Words} (hXs : X = std) {l : List AOper} {F : AFr} {H : AHeap} {K : List Kd → List AHeap → AFr → AHeap → Prop} {c : Cd} {rest : List AOper} {F' : AFr} {H' : AHeap} {ks : List Kd} {Hs : List AHeap}
 (he : runT X E.G 1000 l F H = (c, rest, F', H', ks, Hs)) (h : TR E rest F' H' (fun k2 H2 => K (ks ++ k2) (Hs ++ H2))) (hc : c.ok := by first | exact trivial | (simp only [Cd.ok, ee]; and_intros <;> first | omega | rfl | (simp <;> omega))) : TR E l F H K := tr_go hXs he hc h
section
variable {E : Env} {n N : Nat} {Q : AExit → AFr → AHeap → Prop} {k : List KI} {F : AFr} {H : AHeap}
theorem nsB {X : Words} (hXs : X = std) {l rest : List AOper} {c : Cd} {F' : AFr} (he : runT2 X E.G l F H = some (c, rest, F')) (h : Holds E n N Q (.ops rest) k F' H) (hc : c.ok := by first | exact trivial | (simp only [Cd.ok, ee]; and_intros <;> first | omega | rfl | (simp <;> omega))) : Holds E n N Q (.ops l) k F H := ns_go hXs he hc h
end
theorem wordsN {p : Prop} (h : ∀ (iLt : Int → Int → Bool) (iLe : Int → Int → Bool) (iEq : Int → Int → Bool) (iNe : Int → Int → Bool) (iAdd : IntKind → Int → Int → Int) (iSub : IntKind → Int → Int → Int) (iMul : IntKind → Int → Int → Int) (iQuo : IntKind → Int → Int → Int) (iRem : Int → Int → Int) (iShr : IntKind → Int → Int → Int) (iNeg : IntKind → Int → Int) (iCvt : IntKind → Int → Int) (iMax : Int → Int → Int) (iMin : Int → Int → Int) (bNot : Bool → Bool) (bEq : Bool → Bool → Bool) (bNe : Bool → Bool → Bool) (bAnd : Bool → Bool → Bool) (bOr : Bool → Bool → Bool) (sEq : ByteArray → ByteArray → Bool) (sNe : ByteArray → ByteArray → Bool) (sLen : ByteArray → Int) (sCat : ByteArray → ByteArray → ByteArray) (sCut : ByteArray → Int → Int → ByteArray) (sAt : ByteArray → Int → Int) (lenA : List AV → Int) (lenN : List AV → Nat) (iOf : Nat → Int) (natOf : Int → Nat) (atA : List AV → Int → AV) (atN : List AV → Nat → AV) (cutA : List AV → Int → Int → List AV) (partA : List AV → Nat → Nat → List AV) (dropA : List AV → Nat → List AV) (catA : List AV → List AV → List AV) (setA : List AV → Nat → AV → List AV) (repA : Int → AV → List AV) (putA : List AV → Nat → Nat → List AV → List AV) (idxN : Nat → Int → Nat) (addN : Nat → Nat → Nat) (subN : Nat → Int → Nat) (minN : Nat → Nat → Nat) (lenCut : Int → Int → Nat) (rowA : List AV → Int → Nat → List AV), ∀ (hX : (⟨iLt, iLe, iEq, iNe, iAdd, iSub, iMul, iQuo, iRem, iShr, iNeg, iCvt, iMax, iMin, bNot, bEq, bNe, bAnd, bOr, sEq, sNe, sLen, sCat, sCut, sAt, lenA, lenN, iOf, natOf, atA, atN, cutA, partA, dropA, catA, setA, repA, putA, idxN, addN, subN, minN, lenCut, rowA⟩ : Words) = std) (e_iLt : iLt = Wd.iLt) (e_iLe : iLe = Wd.iLe) (e_iEq : iEq = Wd.iEq) (e_iNe : iNe = Wd.iNe) (e_iAdd : iAdd = Wd.iAdd) (e_iSub : iSub = Wd.iSub) (e_iMul : iMul = Wd.iMul) (e_iQuo : iQuo = Wd.iQuo) (e_iRem : iRem = Wd.iRem) (e_iShr : iShr = Wd.iShr) (e_iNeg : iNeg = Wd.iNeg) (e_iCvt : iCvt = Wd.iCvt) (e_iMax : iMax = Wd.iMax) (e_iMin : iMin = Wd.iMin) (e_bNot : bNot = Wd.bNot) (e_bEq : bEq = Wd.bEq) (e_bNe : bNe = Wd.bNe) (e_bAnd : bAnd = Wd.bAnd) (e_bOr : bOr = Wd.bOr) (e_sEq : sEq = Wd.sEq) (e_sNe : sNe = Wd.sNe) (e_sLen : sLen = Wd.sLen) (e_sCat : sCat = Wd.sCat) (e_sCut : sCut = Wd.sCut) (e_sAt : sAt = Wd.sAt) (e_lenA : lenA = Wd.lenA) (e_lenN : lenN = Wd.lenN) (e_iOf : iOf = Wd.iOf) (e_natOf : natOf = Wd.natOf) (e_atA : atA = Wd.atA) (e_atN : atN = Wd.atN) (e_cutA : cutA = Wd.cutA) (e_partA : partA = Wd.partA) (e_dropA : dropA = Wd.dropA) (e_catA : catA = Wd.catA) (e_setA : setA = Wd.setA) (e_repA : repA = Wd.repA) (e_putA : putA = Wd.putA) (e_idxN : idxN = Wd.idxN) (e_addN : addN = Wd.addN) (e_subN : subN = Wd.subN) (e_minN : minN = Wd.minN) (e_lenCut : lenCut = Wd.lenCut) (e_rowA : rowA = Wd.rowA) (ee : ((∀ a b, iLt a b = (decide (a < b))) ∧ (∀ a b, iLe a b = (decide (a ≤ b))) ∧ (∀ a b, iEq a b = (a == b)) ∧ (∀ a b, iNe a b = (a != b)) ∧ (∀ k a b, iAdd k a b = (k.wrap (a + b))) ∧ (∀ k a b, iSub k a b = (k.wrap (a - b))) ∧ (∀ k a b, iMul k a b = (k.wrap (a * b))) ∧ (∀ k a b, iQuo k a b = (k.wrap (a.tdiv b))) ∧ (∀ a b, iRem a b = (a.tmod b)) ∧ (∀ k a b, iShr k a b = (a.fdiv (2 ^ min b.toNat k.bits))) ∧ (∀ k a, iNeg k a = (k.wrap (0 - a))) ∧ (∀ k a, iCvt k a = (k.wrap a)) ∧ (∀ a b, iMax a b = (if b > a then b else a)) ∧ (∀ a b, iMin a b = (if b < a then b else a)) ∧ (∀ a, bNot a = (!a)) ∧ (∀ a b, bEq a b = (a == b)) ∧ (∀ a b, bNe a b = (!(a == b))) ∧ (∀ a b, bAnd a b = (a && b)) ∧ (∀ a b, bOr a b = (a || b)) ∧ (∀ a b, sEq a b = (a.toList == b.toList)) ∧ (∀ a b, sNe a b = (!(a.toList == b.toList))) ∧ (∀ a, sLen a = (a.size)) ∧ (∀ a b, sCat a b = (a ++ b)) ∧ (∀ a lo hi, sCut a lo hi = (a.extract lo.toNat hi.toNat)) ∧ (∀ a n, sAt a n = ((a.data.getD n.toNat 0).toNat)) ∧ (∀ es, lenA es = (es.length)) ∧ (∀ es, lenN es = (es.length)) ∧ (∀ n, iOf n = (n)) ∧ (∀ n, natOf n = (n.toNat)) ∧ (∀ es n, atA es n = (es.getD n.toNat .undef)) ∧ (∀ es n, atN es n = (es.getD n .undef)) ∧ (∀ es lo hi, cutA es lo hi = ((es.take hi.toNat).drop lo.toNat)) ∧ (∀ es lo len, partA es lo len = ((es.drop lo).take len)) ∧ (∀ es lo, dropA es lo = (es.drop lo)) ∧ (∀ a b, catA a b = (a ++ b)) ∧ (∀ es n v, setA es n v = (es.set n v)) ∧ (∀ n v, repA n v = (List.replicate n.toNat v)) ∧ (∀ es lo m new, putA es lo m new = (putE es lo m new)) ∧ (∀ lo n, idxN lo n = (lo + n.toNat)) ∧ (∀ a b, addN a b = (a + b)) ∧ (∀ a b, subN a b = (a - b.toNat)) ∧ (∀ a b, minN a b = (min a b)) ∧ (∀ lo hi, lenCut lo hi = (hi.toNat - lo.toNat)) ∧ (∀ cs n k, rowA cs n k = ((cs.drop (n.toNat * k)).take k)))), p) : p :=
 words h
theorem cl_cons {v : AV} {l : List AV} (h : v.closed = true) (h2 : AV.closedL l = true) : AV.closedL (v :: l) = true := by simp only [AV.closedL, h, h2, Bool.and_self]
theorem cl_agg {l : List AV} (h : AV.closedL l = true) : (AV.agg l).closed = true := h
theorem cl_isl {k : Nat} {l : List AV} (h : AV.closedL l = true) : (AV.isl k l).closed = true := h
theorem cl_iptr {l : List AV} (h : AV.closedL l = true) : (AV.iptr l).closed = true := h
theorem cl_fn {f : FuncId} {l : List AV} (h : AV.closedL l = true) : (AV.fn f l).closed = true := h
section
variable {E : Env} {n N : Nat} {Q : AExit → AFr → AHeap → Prop} {k : List KI} {F : AFr} {H : AHeap}
theorem oPA {o : AOper} {l : List AOper} {f : FuncId} {xs : List Opd} {args : List AV} {v : AV} (hc : PCall E f args v) (h : Holds E n N Q (.ops l) k (F.set o.dst v) H) (hg : o.guard = none := by exact rfl) (ho : o.op = .call f xs := by exact rfl) (ha : xs.map (·.ev E.G F) = args := by exact rfl)
 (hcl : AV.closedL args = true := by repeat' (first | rfl | assumption | apply cl_cons | apply cl_agg | apply cl_isl | apply cl_iptr | apply cl_fn)) : Holds E n N Q (.ops (o :: l)) k F H := on_pcall hg ho ha hc hcl h
theorem oPG {o : AOper} {l : List AOper} {f : FuncId} {xs : List Opd} {args : List AV} {v : AV} {d : Nat} {b : Bool} (hc : PCall E f args v) (h : Holds E n N Q (.ops l) k (F.set o.dst v) H) (hg : o.guard = some (d, b) := by exact rfl) (hd : F.get d = .val (.bool b) := by exact rfl) (ho : o.op = .call f xs := by exact rfl) (ha : xs.map (·.ev E.G F) = args := by exact rfl)
 (hcl : AV.closedL args = true := by repeat' (first | rfl | assumption | apply cl_cons | apply cl_agg | apply cl_isl | apply cl_iptr | apply cl_fn)) : Holds E n N Q (.ops (o :: l)) k F H := on_gpcall hg hd ho ha hc hcl h
theorem oPT {K : List Kd → List AHeap → AFr → AHeap → Prop} {o : AOper} {l : List AOper} {f : FuncId} {xs : List Opd} {args : List AV} {v : AV} (hc : PCall E f args v) (h : TR E l (F.set o.dst v) H (fun ks => K (.free :: ks))) (hg : wantA F o.guard = some true := by exact rfl) (ho : o.op = .call f xs := by exact rfl) (ha : xs.map (·.ev E.G F) = args := by exact rfl)
 (hcl : AV.closedL args = true := by repeat' (first | rfl | assumption | apply cl_cons | apply cl_agg | apply cl_isl | apply cl_iptr | apply cl_fn)) : TR E (o :: l) F H K := tr_pcall hg ho ha hc hcl h
end
end Go.Am
end
