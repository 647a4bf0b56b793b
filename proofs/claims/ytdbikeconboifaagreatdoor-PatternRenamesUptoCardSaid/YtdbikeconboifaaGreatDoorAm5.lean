/- The abstract machine that the walks of this claim are carried out on: no condition. -/
import Derived.Test.YtdbikeconboifaaGreatDoorAm4
import Derived.Test.YtdbikeconboifaaGreatDoorAm3
import Derived.Lib.Overlaps
import Derived.ChangeKeysEq
import Derived.ProofKit
import Derived.ReadAgain
import Derived.SizedLaws
import Derived.OpenShut
import Derived.LaidLaws
import Derived.Shelf.Sort.Plain
import Derived.Shelf.Slices.In.SortNone
import Derived.Sort.OwnSortedInts
section
set_option linter.unusedVariables false
set_option linter.unusedSimpArgs false
namespace Go.Am
inductive Kd where
 | free
 | look (b : Nat) (ob : Option AObj)
 | eff
def readOf (G : Nat → AV) (o : AOp) (F : AFr) : Option Nat :=
 match o with
 | .ld _ _ x => match x.ev G F with
  | .ptr b _ => some b
  | .eptr b _ _ _ => some b
  | _ => none
 | _ => none
theorem evalBin_free {op : BinOp} {x y : AV} {H H' H1 : AHeap} {c : Bool} {v : AV} (h : evalBin op x y H = some (c, v, H1)) : evalBin op x y H' = some (c, v, H') := by
 unfold evalBin at h ⊢
 split at h
 · split at h
  · rename_i hk
   rw [if_pos hk]
   cases op <;> simp [ans, cmpI] at h ⊢ <;> first | exact h.1 | exact ⟨h.1, h.2.1⟩
  · cases h
 · cases op <;> simp [ans] at h ⊢ <;> first | exact h.1 | exact ⟨h.1, h.2.1⟩
 · cases h
theorem free1 {G : Nat → AV} {o : AOp} {F : AFr} {H H' H1 : AHeap} {c : Bool} {v : AV} (hq : quietOp o = true) (hr : readOf G o F = none) (h : evalOp1 G o F H = some (c, v, H1)) : evalOp1 G o F H' = some (c, v, H') := by
 cases o with
 | bin op x y => exact evalBin_free h
 | ld k agg x =>
  simp only [evalOp1, readOf] at h hr ⊢
  split at h
  · rename_i cs hx
   split at h
   · rename_i u hu
    simp only [ans, Option.some.injEq, Prod.mk.injEq] at h ⊢
    exact ⟨h.1, h.2.1, trivial⟩
   · cases h
  · rename_i hx; rw [hx] at hr; cases hr
  · rename_i hx; rw [hx] at hr; cases hr
  · cases h
 | _ => first | (cases hq; done) | (simp only [evalOp1, ans] at h ⊢; (repeat' split at h) <;> first | (simp only [Option.some.injEq, Prod.mk.injEq] at h; simp_all; done) | (simp_all; done) | cases h)
theorem free2 {G : Nat → AV} {o : AOp} {F : AFr} {H H' H1 : AHeap} {c : Bool} {v : AV} (hq : quietOp o = true) (h : evalOp2 G o F H = some (c, v, H1)) : evalOp2 G o F H' = some (c, v, H') := by
 cases o with
 | bin op x y =>
  cases op with
  | shr =>
   simp only [evalOp2, shrOf] at h ⊢
   split at h
   · simp only [Option.some.injEq, Prod.mk.injEq, and_true] at h ⊢; exact ⟨h.1, h.2.1⟩
   · cases h
  | _ => simp [evalOp2] at h
 | _ => first | (cases hq; done) | (simp only [evalOp2, ans] at h ⊢; (repeat' split at h) <;> first | (simp only [Option.some.injEq, Prod.mk.injEq] at h; simp_all; done) | (simp_all; done) | cases h)
theorem none1 {G : Nat → AV} {o : AOp} {F : AFr} {H H' : AHeap} (hq : quietOp o = true) (hr : readOf G o F = none) (h : evalOp1 G o F H = none) : evalOp1 G o F H' = none := by
 cases h' : evalOp1 G o F H' with
 | none => rfl
 | some r => obtain ⟨c, v, H1⟩ := r; rw [free1 hq hr h'] at h; cases h
theorem free_any {G : Nat → AV} {o : AOp} {F : AFr} {H H1 : AHeap} {c : Bool} {v : AV} (hq : quietOp o = true) (hr : readOf G o F = none) (h : evalOp G o F H = some (c, v, H1)) (H' : AHeap) : evalOp G o F H' = some (c, v, H') := by
 unfold evalOp at h ⊢
 cases h1 : evalOp1 G o F H with
 | some r =>
  rw [h1] at h
  dsimp only at h
  cases h
  rw [free1 (H' := H') hq hr h1]
 | none =>
  rw [h1] at h
  rw [none1 (H' := H') hq hr h1]
  exact free2 hq h
theorem look_any {G : Nat → AV} {o : AOp} {F : AFr} {H H1 H' : AHeap} {c : Bool} {v : AV} {b : Nat} (hr : readOf G o F = some b) (h : evalOp G o F H = some (c, v, H1)) (hb : H'[b]? = H[b]?) : evalOp G o F H' = some (c, v, H') := by
 cases o with
 | ld k agg x =>
  have h2 : ∀ H, evalOp2 G (.ld k agg x) F H = none := fun _ => rfl
  simp only [readOf] at hr
  split at hr
  · rename_i b' off hx
   cases hr
   simp only [evalOp, h2, evalOp1, hx, cellsOf, hb] at h ⊢
   generalize H[b]? = ob at h ⊢
   cases ob with
   | none => simp at h
   | some o =>
    cases o with
    | cells cs =>
     dsimp only at h ⊢
     cases ht : takeC cs off k agg with
     | none => rw [ht] at h; simp at h
     | some u => rw [ht] at h; simp [ans] at h ⊢; exact ⟨h.1, h.2.1⟩
    | _ => simp at h
  · rename_i b' k' i j hx
   cases hr
   simp only [evalOp, h2, evalOp1, hx, arrOf, hb] at h ⊢
   generalize H[b]? = ob at h ⊢
   cases ob with
   | none => simp at h
   | some o =>
    cases o with
    | arr k2 es =>
     dsimp only at h ⊢
     cases hk : Nat.beq k' k2 with
     | false => rw [hk] at h; simp at h
     | true =>
      rw [hk] at h
      simp only [if_true] at h ⊢
      cases ht : takeC (es.getD i AV.undef).cells j k agg with
      | none => rw [ht] at h; simp at h
      | some u => rw [ht] at h; simp at h ⊢; exact ⟨h.1, h.2.1⟩
    | _ => simp at h
  · cases hr
 | _ => cases hr
inductive TRn (E : Env) : List AOper → AFr → AHeap → List AV → List Kd → List AHeap → AFr → AHeap → Prop
 | nil (F H) : TRn E [] F H [] [] [] F H
 | free {o l F H v V ks Hs F' H'} (hg : wantA F o.guard = some true) (hq : quietOp o.op = true) (hr : readOf E.G o.op F = none) (he : evalOp E.G o.op F H = some (true, v, H)) (r : TRn E l (F.set o.dst v) H V ks Hs F' H') : TRn E (o :: l) F H (v :: V) (.free :: ks) Hs F' H'
 | look {o l F H v V ks Hs F' H' b} (hg : wantA F o.guard = some true) (hr : readOf E.G o.op F = some b) (he : evalOp E.G o.op F H = some (true, v, H)) (r : TRn E l (F.set o.dst v) H V ks Hs F' H') : TRn E (o :: l) F H (v :: V) (.look b H[b]? :: ks) Hs F' H'
 | skip {o l F H V ks Hs F' H'} (hg : wantA F o.guard = some false) (r : TRn E l (F.set o.dst .undef) H V ks Hs F' H') : TRn E (o :: l) F H (.undef :: V) (.free :: ks) Hs F' H'
 | skipq {o l F H V ks Hs F' H'} (hg : SkipG F o.guard) (r : TRn E l (F.set o.dst (skV o)) H V ks Hs F' H') : TRn E (o :: l) F H (skV o :: V) (.free :: ks) Hs F' H'
 | pcall {o l F H v V ks Hs F' H'} (f : FuncId) (xs : List Opd) (args : List AV) (hg : wantA F o.guard = some true) (ho : o.op = .call f xs) (ha : xs.map (·.ev E.G F) = args) (hc : PCall E f args v) (hcl : AV.closedL args = true) (r : TRn E l (F.set o.dst v) H V ks Hs F' H') : TRn E (o :: l) F H (v :: V) (.free :: ks) Hs F' H'
 | eff {o l F H v H1 V ks Hs F' H'} (hg : wantA F o.guard = some true) (he : evalOp E.G o.op F H = some (true, v, H1)) (r : TRn E l (F.set o.dst v) H1 V ks Hs F' H') : TRn E (o :: l) F H (v :: V) (.eff :: ks) (H1 :: Hs) F' H'
 | ecall {o l F H v H1 V ks Hs F' H'} (f : FuncId) (xs : List Opd) (args : List AV) (hg : wantA F o.guard = some true) (ho : o.op = .call f xs) (ha : xs.map (·.ev E.G F) = args) (hen : Enters E.P f) (hc : ACall E f args H fun v' H'' => v' = v ∧ H'' = H1) (r : TRn E l (F.set o.dst v) H1 V ks Hs F' H') : TRn E (o :: l) F H (v :: V) (.eff :: ks) (H1 :: Hs) F' H'
theorem TRn.len {E : Env} {l : List AOper} {F F' : AFr} {H H' : AHeap} {V : List AV} {ks : List Kd} {Hs : List AHeap} (h : TRn E l F H V ks Hs F' H') : V.length = l.length ∧ F' = finF F l V := by
 induction h with
 | nil => exact ⟨rfl, rfl⟩
 | _ => rename_i ih; exact ⟨by simp [ih.1], by simp only [finF]; exact ih.2⟩
theorem TRn.get {E : Env} {l : List AOper} {F F' : AFr} {H H' : AHeap} {V : List AV} {ks : List Kd} {Hs : List AHeap} (h : TRn E l F H V ks Hs F' H') (t : Nat) (hd : ∀ o ∈ l, o.dst ≠ some t) : F'.get t = F.get t := by
 rw [h.len.2, finF_none l V F t (fun i o ho => hd o (List.mem_of_getElem? ho))]
def effIdx : Nat → List Kd → List Nat
 | _, [] => []
 | i, .eff :: r => i :: effIdx (i + 1) r
 | i, _ :: r => effIdx (i + 1) r
theorem effIdx_ge : ∀ {ks : List Kd} {i x : Nat}, x ∈ effIdx i ks → i ≤ x
 | [], i, x, h => by cases h
 | .eff :: r, i, x, h => by
  rcases List.mem_cons.1 h with rfl | h
  · exact Nat.le_refl _
  · have := effIdx_ge h; omega
 | .free :: r, i, x, h => by have := effIdx_ge (ks := r) h; omega
 | .look b ob :: r, i, x, h => by have := effIdx_ge (ks := r) h; omega
theorem effIdx_lt : ∀ {ks : List Kd} {i x : Nat}, x ∈ effIdx i ks → x < i + ks.length
 | [], i, x, h => by cases h
 | .eff :: r, i, x, h => by
  rcases List.mem_cons.1 h with rfl | h
  · simp
  · have := effIdx_lt h; simp; omega
 | .free :: r, i, x, h => by have := effIdx_lt (ks := r) h; simp; omega
 | .look b ob :: r, i, x, h => by have := effIdx_lt (ks := r) h; simp; omega
theorem effIdx_nodup : ∀ (ks : List Kd) (i : Nat), (effIdx i ks).Nodup
 | [], i => List.nodup_nil
 | .eff :: r, i => List.nodup_cons.2 ⟨fun h => by have := effIdx_ge h; omega, effIdx_nodup r _⟩
 | .free :: r, i => effIdx_nodup r _
 | .look b ob :: r, i => effIdx_nodup r _
def lookAll (B chain : List Nat) (i b : Nat) (ob : Option AObj) : List AHeap → Nat → Prop
 | [], _ => True
 | H :: r, j => (okpos B chain i j = true → H[b]? = ob) ∧ lookAll B chain i b ob r (j + 1)
theorem lookAll_spec {B chain : List Nat} {i b : Nat} {ob : Option AObj} : ∀ {Hs : List AHeap} {j : Nat}, lookAll B chain i b ob Hs j → ∀ (m : Nat) H, Hs[m]? = some H → okpos B chain i (j + m) = true → H[b]? = ob
 | [], j, h, m, H, hm, _ => by simp at hm
 | H0 :: r, j, h, m, H, hm, hp => by
  cases m with
  | zero => simp at hm; subst hm; exact h.1 hp
  | succ m => exact lookAll_spec h.2 m H (by simpa using hm) (by rwa [show j + 1 + m = j + (m + 1) by omega])
def LooksL (B chain : List Nat) (Hs : List AHeap) : Nat → List Kd → Prop
 | _, [] => True
 | i, .look b ob :: r => lookAll B chain i b ob Hs 0 ∧ LooksL B chain Hs (i + 1) r
 | i, _ :: r => LooksL B chain Hs (i + 1) r
theorem TRn.dop {E : Env} {B : List Nat} {l : List AOper} {F F' : AFr} {H H' : AHeap} {V : List AV} {ks : List Kd} {Hs : List AHeap} (h : TRn E l F H V ks Hs F' H') :
  ∀ (base : Nat) (pre : List Nat) (preH : List AHeap), preH.length = pre.length → (∀ x ∈ pre, x < base) → LooksL B (pre ++ effIdx base ks) (preH ++ H :: Hs) base ks →
  (∀ (i : Nat) o, l[i]? = some o → ∀ t ∈ o.looks, ∀ (k : Nat) o', i ≤ k → l[k]? = some o' → o'.dst ≠ some t) →
  ∀ (i : Nat) o v, l[i]? = some o → V[i]? = some v → DOp E B (pre ++ effIdx base ks) F' (preH ++ H :: Hs) (base + i) o v := by
 induction h with
 | nil => intro base pre preH _ _ _ _ i o v ho; simp at ho
 | @free o l F H v V ks Hs F' H' hg hq hr he r ih =>
  intro base pre preH hlen hpre hlk hl i o' v' ho' hv'
  have hlks : ∀ t ∈ o.looks, F.get t = F'.get t := fun t ht => by
   rw [TRn.get r t (fun o' ho' => by obtain ⟨k, hk⟩ := List.getElem?_of_mem ho'; exact hl 0 o rfl t ht (k + 1) o' (by omega) (by simpa using hk)), AFr.get_set, if_neg (hl 0 o rfl t ht 0 o (Nat.le_refl _) rfl)]
  cases i with
  | zero =>
   simp at ho' hv'; subst ho' hv'
   refine .free (by rw [← looks_want hlks]; exact hg) (fun H2 => ⟨true, ?_, rfl⟩) ?_
   · rw [← evalOp_congr (looks_ev hlks)]; exact free_any hq hr he H2
   · rw [Bool.eq_false_iff]; intro hc
    rw [List.contains_iff_mem] at hc
    rcases List.mem_append.1 hc with hc | hc
    · have := hpre _ hc; omega
    · have := effIdx_ge (ks := ks) (show base + 0 ∈ effIdx (base + 1) ks from hc); omega
  | succ i =>
   have := ih (base + 1) pre preH hlen (fun x hx => Nat.lt_succ_of_lt (hpre x hx)) hlk (fun i o'' ho t ht k o3 hk ho3 => hl (i + 1) o'' (by simpa using ho) t ht (k + 1) o3 (by omega) (by simpa using ho3)) i o' v' (by simpa using ho') (by simpa using hv')
   rwa [show base + 1 + i = base + (i + 1) by omega] at this
 | @look o l F H v V ks Hs F' H' b hg hr he r ih =>
  intro base pre preH hlen hpre hlk hl i o' v' ho' hv'
  have hlks : ∀ t ∈ o.looks, F.get t = F'.get t := fun t ht => by
   rw [TRn.get r t (fun o' ho' => by obtain ⟨k, hk⟩ := List.getElem?_of_mem ho'; exact hl 0 o rfl t ht (k + 1) o' (by omega) (by simpa using hk)), AFr.get_set, if_neg (hl 0 o rfl t ht 0 o (Nat.le_refl _) rfl)]
  cases i with
  | zero =>
   simp at ho' hv'; subst ho' hv'
   refine .look (by rw [← looks_want hlks]; exact hg) (fun j H2 hj hp => ⟨true, ?_, rfl⟩) ?_
   · rw [← evalOp_congr (looks_ev hlks)]
    exact look_any hr he (lookAll_spec hlk.1 j H2 hj (by simpa using hp))
   · rw [Bool.eq_false_iff]; intro hc
    rw [List.contains_iff_mem] at hc
    rcases List.mem_append.1 hc with hc | hc
    · have := hpre _ hc; omega
    · have := effIdx_ge (ks := ks) (show base + 0 ∈ effIdx (base + 1) ks from hc); omega
  | succ i =>
   have := ih (base + 1) pre preH hlen (fun x hx => Nat.lt_succ_of_lt (hpre x hx)) hlk.2 (fun i o'' ho t ht k o3 hk ho3 => hl (i + 1) o'' (by simpa using ho) t ht (k + 1) o3 (by omega) (by simpa using ho3)) i o' v' (by simpa using ho') (by simpa using hv')
   rwa [show base + 1 + i = base + (i + 1) by omega] at this
 | @skip o l F H V ks Hs F' H' hg r ih =>
  intro base pre preH hlen hpre hlk hl i o' v' ho' hv'
  have hlks : ∀ t ∈ o.looks, F.get t = F'.get t := fun t ht => by
   rw [TRn.get r t (fun o' ho' => by obtain ⟨k, hk⟩ := List.getElem?_of_mem ho'; exact hl 0 o rfl t ht (k + 1) o' (by omega) (by simpa using hk)), AFr.get_set, if_neg (hl 0 o rfl t ht 0 o (Nat.le_refl _) rfl)]
  cases i with
  | zero =>
   simp at ho' hv'; subst ho' hv'
   refine .skip (.inl (by rw [← looks_want hlks]; exact hg)) (.inl rfl) ?_
   rw [Bool.eq_false_iff]; intro hc
   rw [List.contains_iff_mem] at hc
   rcases List.mem_append.1 hc with hc | hc
   · have := hpre _ hc; omega
   · have := effIdx_ge (ks := ks) (show base + 0 ∈ effIdx (base + 1) ks from hc); omega
  | succ i =>
   have := ih (base + 1) pre preH hlen (fun x hx => Nat.lt_succ_of_lt (hpre x hx)) hlk (fun i o'' ho t ht k o3 hk ho3 => hl (i + 1) o'' (by simpa using ho) t ht (k + 1) o3 (by omega) (by simpa using ho3)) i o' v' (by simpa using ho') (by simpa using hv')
   rwa [show base + 1 + i = base + (i + 1) by omega] at this
 | @skipq o l F H V ks Hs F' H' hg r ih =>
  intro base pre preH hlen hpre hlk hl i o' v' ho' hv'
  have hlks : ∀ t ∈ o.looks, F.get t = F'.get t := fun t ht => by
   rw [TRn.get r t (fun o' ho' => by obtain ⟨k, hk⟩ := List.getElem?_of_mem ho'; exact hl 0 o rfl t ht (k + 1) o' (by omega) (by simpa using hk)), AFr.get_set, if_neg (hl 0 o rfl t ht 0 o (Nat.le_refl _) rfl)]
  cases i with
  | zero =>
   simp at ho' hv'; subst ho' hv'
   refine .skip (looks_skip (fun t ht => (hlks t ht).symm) hg) (.inr rfl) ?_
   rw [Bool.eq_false_iff]; intro hc
   rw [List.contains_iff_mem] at hc
   rcases List.mem_append.1 hc with hc | hc
   · have := hpre _ hc; omega
   · have := effIdx_ge (ks := ks) (show base + 0 ∈ effIdx (base + 1) ks from hc); omega
  | succ i =>
   have := ih (base + 1) pre preH hlen (fun x hx => Nat.lt_succ_of_lt (hpre x hx)) hlk (fun i o'' ho t ht k o3 hk ho3 => hl (i + 1) o'' (by simpa using ho) t ht (k + 1) o3 (by omega) (by simpa using ho3)) i o' v' (by simpa using ho') (by simpa using hv')
   rwa [show base + 1 + i = base + (i + 1) by omega] at this
 | @pcall o l F H v V ks Hs F' H' f xs args hg ho ha hc hcl r ih =>
  intro base pre preH hlen hpre hlk hl i o' v' ho' hv'
  have hlks : ∀ t ∈ o.looks, F.get t = F'.get t := fun t ht => by
   rw [TRn.get r t (fun o' ho' => by obtain ⟨k, hk⟩ := List.getElem?_of_mem ho'; exact hl 0 o rfl t ht (k + 1) o' (by omega) (by simpa using hk)), AFr.get_set, if_neg (hl 0 o rfl t ht 0 o (Nat.le_refl _) rfl)]
  cases i with
  | zero =>
   simp at ho' hv'; subst ho' hv'
   refine .call f xs args (by rw [← looks_want hlks]; exact hg) ho ?_ hc.1 (fun j H2 hj hp => hc.lift hcl) ?_
   · rw [← ha]; exact (List.map_congr_left fun x hx => looks_ev hlks x (by rw [ho]; exact hx)).symm
   · rw [Bool.eq_false_iff]; intro hc
    rw [List.contains_iff_mem] at hc
    rcases List.mem_append.1 hc with hc | hc
    · have := hpre _ hc; omega
    · have := effIdx_ge (ks := ks) (show base + 0 ∈ effIdx (base + 1) ks from hc); omega
  | succ i =>
   have := ih (base + 1) pre preH hlen (fun x hx => Nat.lt_succ_of_lt (hpre x hx)) hlk (fun i o'' ho t ht k o3 hk ho3 => hl (i + 1) o'' (by simpa using ho) t ht (k + 1) o3 (by omega) (by simpa using ho3)) i o' v' (by simpa using ho') (by simpa using hv')
   rwa [show base + 1 + i = base + (i + 1) by omega] at this
 | @eff o l F H v H1 V ks Hs F' H' hg he r ih =>
  intro base pre preH hlen hpre hlk hl i o' v' ho' hv'
  have hlks : ∀ t ∈ o.looks, F.get t = F'.get t := fun t ht => by
   rw [TRn.get r t (fun o' ho' => by obtain ⟨k, hk⟩ := List.getElem?_of_mem ho'; exact hl 0 o rfl t ht (k + 1) o' (by omega) (by simpa using hk)), AFr.get_set, if_neg (hl 0 o rfl t ht 0 o (Nat.le_refl _) rfl)]
  have e1 : pre ++ effIdx base (.eff :: ks) = (pre ++ [base]) ++ effIdx (base + 1) ks := by simp [effIdx]
  have e2 : preH ++ H :: H1 :: Hs = (preH ++ [H]) ++ H1 :: Hs := by simp
  cases i with
  | zero =>
   simp at ho' hv'; subst ho' hv'
   refine .eff pre.length H H1 true (by rw [← looks_want hlks]; exact hg) (by simp [effIdx]) (by rw [← hlen]; simp) (by rw [← hlen]; simp) (by rw [← evalOp_congr (looks_ev hlks)]; exact he) rfl
  | succ i =>
   have := ih (base + 1) (pre ++ [base]) (preH ++ [H]) (by simp [hlen]) (fun x hx => by
    rcases List.mem_append.1 hx with hx | hx
    · exact Nat.lt_succ_of_lt (hpre x hx)
    · simp at hx; omega) (by rw [← e1, ← e2]; exact hlk) (fun i o'' ho t ht k o3 hk ho3 => hl (i + 1) o'' (by simpa using ho) t ht (k + 1) o3 (by omega) (by simpa using ho3)) i o' v' (by simpa using ho') (by simpa using hv')
   rw [← e1, ← e2] at this
   rwa [show base + 1 + i = base + (i + 1) by omega] at this
 | @ecall o l F H v H1 V ks Hs F' H' f xs args hg ho ha hen hc r ih =>
  intro base pre preH hlen hpre hlk hl i o' v' ho' hv'
  have hlks : ∀ t ∈ o.looks, F.get t = F'.get t := fun t ht => by
   rw [TRn.get r t (fun o' ho' => by obtain ⟨k, hk⟩ := List.getElem?_of_mem ho'; exact hl 0 o rfl t ht (k + 1) o' (by omega) (by simpa using hk)), AFr.get_set, if_neg (hl 0 o rfl t ht 0 o (Nat.le_refl _) rfl)]
  have e1 : pre ++ effIdx base (.eff :: ks) = (pre ++ [base]) ++ effIdx (base + 1) ks := by simp [effIdx]
  have e2 : preH ++ H :: H1 :: Hs = (preH ++ [H]) ++ H1 :: Hs := by simp
  cases i with
  | zero =>
   simp at ho' hv'; subst ho' hv'
   refine .ecall pre.length H H1 f xs args (by rw [← looks_want hlks]; exact hg) (by simp [effIdx]) (by rw [← hlen]; simp) (by rw [← hlen]; simp) ho ?_ hen hc
   rw [← ha]; exact (List.map_congr_left fun x hx => looks_ev hlks x (by rw [ho]; exact hx)).symm
  | succ i =>
   have := ih (base + 1) (pre ++ [base]) (preH ++ [H]) (by simp [hlen]) (fun x hx => by
    rcases List.mem_append.1 hx with hx | hx
    · exact Nat.lt_succ_of_lt (hpre x hx)
    · simp at hx; omega) (by rw [← e1, ← e2]; exact hlk) (fun i o'' ho t ht k o3 hk ho3 => hl (i + 1) o'' (by simpa using ho) t ht (k + 1) o3 (by omega) (by simpa using ho3)) i o' v' (by simpa using ho') (by simpa using hv')
   rw [← e1, ← e2] at this
   rwa [show base + 1 + i = base + (i + 1) by omega] at this
theorem TRn.kinds3 {E : Env} {l : List AOper} {F F' : AFr} {H H' : AHeap} {V : List AV} {ks : List Kd} {Hs : List AHeap} (h : TRn E l F H V ks Hs F' H') : ks.length = l.length ∧ (∀ i, Hs.length = (effIdx i ks).length) ∧ (H :: Hs)[Hs.length]? = some H' := by
 induction h with
 | nil => exact ⟨rfl, fun _ => rfl, rfl⟩
 | eff hg he r ih => exact ⟨by simp [ih.1], fun i => by simp only [effIdx, List.length_cons]; rw [ih.2.1 (i + 1)], by simpa using ih.2.2⟩
 | ecall f xs args hg ho ha hen hc r ih => exact ⟨by simp [ih.1], fun i => by simp only [effIdx, List.length_cons]; rw [ih.2.1 (i + 1)], by simpa using ih.2.2⟩
 | _ => rename_i ih; exact ⟨by simp [ih.1], fun i => by simp only [effIdx]; exact ih.2.1 (i + 1), ih.2.2⟩
def TR (E : Env) (l : List AOper) (F : AFr) (H : AHeap) (K : List Kd → List AHeap → AFr → AHeap → Prop) : Prop := ∃ V ks Hs F' H', TRn E l F H V ks Hs F' H' ∧ K ks Hs F' H'
section
variable {E : Env} {n N : Nat} {Q : AExit → AFr → AHeap → Prop} {k : List KI} {F : AFr} {H : AHeap} {K : List Kd → List AHeap → AFr → AHeap → Prop}
theorem tr_draw {ops : List AOper} (hm : E.P.follows .mixedOrders = true) (hwf : wfDraw ops (befs ops []) = true) (h : TR E ops F H (fun ks Hs F' H' => chainsFrom (befs ops []) (effIdx 0 ks).length (effIdx 0 ks) = [effIdx 0 ks] ∧ LooksL (befs ops []) (effIdx 0 ks) (H :: Hs) 0 ks ∧ Holds E n N Q (.out .normal) k F' H')) : Holds E n N Q (.code (.draw ops)) k F H := by
 obtain ⟨V, ks, Hs, F', H', ht, h1, h2, h3⟩ := h
 have wf := wfDraw_spec hwf
 have hB : ∀ i k, ((befs ops []).getD i 0).testBit k = true → Anc ops k i := by
  have := befs_spec ops [] [] rfl (fun i k hk => by simp at hk)
  simpa using this
 obtain ⟨m1, m2, m3⟩ := ht.kinds3
 refine awp_draw hm (effIdx 0 ks) hwf ?_ (effIdx_nodup _ _) fun chain hch => ?_
 · rw [List.all_eq_true]; intro x hx
  have := effIdx_lt hx
  exact Nat.ble_eq_true_of_le (by omega)
 · rw [h1, List.mem_singleton] at hch
  subst hch
  refine ⟨V, H :: Hs, H', ht.len.1, by simp [m2 0], rfl, fun i o v ho hv => ?_, ?_, ?_⟩
  · rw [← ht.len.2]
   have := ht.dop (B := befs ops []) 0 [] [] rfl (fun x hx => by cases hx) h2 (fun i o ho t ht k o' hik hk hd => by
    have := (hB i k (wf.look i k o o' t ho hk ht hd)).lt wf
    omega) i o v ho hv
   simpa using this
  · rw [← m2 0]; exact m3
  · rw [← ht.len.2]; exact h3
theorem tr_nil (h : K [] [] F H) : TR E [] F H K := ⟨[], [], [], F, H, .nil _ _, h⟩
theorem tr_free {o : AOper} {l : List AOper} {v : AV} (hg : wantA F o.guard = some true) (hq : quietOp o.op = true) (hr : readOf E.G o.op F = none) (he : evalOp E.G o.op F H = some (true, v, H)) (h : TR E l (F.set o.dst v) H (fun ks => K (.free :: ks))) : TR E (o :: l) F H K := by
 obtain ⟨V, ks, Hs, F', H', a, b⟩ := h; exact ⟨_, _, _, _, _, .free hg hq hr he a, b⟩
theorem tr_look {o : AOper} {l : List AOper} {v : AV} {b : Nat} (hg : wantA F o.guard = some true) (hr : readOf E.G o.op F = some b) (he : evalOp E.G o.op F H = some (true, v, H)) (h : TR E l (F.set o.dst v) H (fun ks => K (.look b H[b]? :: ks))) : TR E (o :: l) F H K := by
 obtain ⟨V, ks, Hs, F', H', a, b⟩ := h; exact ⟨_, _, _, _, _, .look hg hr he a, b⟩
theorem tr_skipq {o : AOper} {l : List AOper} (hg : SkipG F o.guard) (h : TR E l (F.set o.dst (skV o)) H (fun ks => K (.free :: ks))) : TR E (o :: l) F H K := by
 obtain ⟨V, ks, Hs, F', H', a, b⟩ := h; exact ⟨_, _, _, _, _, .skipq hg a, b⟩
theorem tr_pcall {o : AOper} {l : List AOper} {f : FuncId} {xs : List Opd} {args : List AV} {v : AV} (hg : wantA F o.guard = some true) (ho : o.op = .call f xs) (ha : xs.map (·.ev E.G F) = args) (hc : PCall E f args v) (hcl : AV.closedL args = true) (h : TR E l (F.set o.dst v) H (fun ks => K (.free :: ks))) : TR E (o :: l) F H K := by
 obtain ⟨V, ks, Hs, F', H', a, b⟩ := h; exact ⟨_, _, _, _, _, .pcall f xs args hg ho ha hc hcl a, b⟩
theorem tr_eff {o : AOper} {l : List AOper} {v : AV} {H1 : AHeap} (hg : wantA F o.guard = some true) (he : evalOp E.G o.op F H = some (true, v, H1)) (h : TR E l (F.set o.dst v) H1 (fun ks Hs => K (.eff :: ks) (H1 :: Hs))) : TR E (o :: l) F H K := by
 obtain ⟨V, ks, Hs, F', H', a, b⟩ := h; exact ⟨_, _, _, _, _, .eff hg he a, b⟩
end
def runT (X : Words) (G : Nat → AV) : Nat → List AOper → AFr → AHeap → Cd × List AOper × AFr × AHeap × List Kd × List AHeap
 | 0, l, F, H => (.tt, l, F, H, [], [])
 | _ + 1, [], F, H => (.tt, [], F, H, [], [])
 | f + 1, o :: l, F, H =>
  match o.guard with
  | none => match opX X G o.op F H with
   | some (c, v, H1) => cond (quietOp o.op)
    (match readOf G o.op F with
    | none => match runT X G f l (F.set o.dst v) H with
     | (c', r, F', H', ks, Hs) => (andD c c', r, F', H', .free :: ks, Hs)
    | some b => match runT X G f l (F.set o.dst v) H with
     | (c', r, F', H', ks, Hs) => (andD c c', r, F', H', .look b H[b]? :: ks, Hs))
    (match runT X G f l (F.set o.dst v) H1 with
    | (c', r, F', H', ks, Hs) => (andD c c', r, F', H', .eff :: ks, H1 :: Hs))
   | none => (.tt, o :: l, F, H, [], [])
  | some _ => (.tt, o :: l, F, H, [], [])
theorem runT_sound {E : Env} {X : Words} (hXs : X = std) : ∀ (f : Nat) (l : List AOper) (F : AFr) (H : AHeap) (K : List Kd → List AHeap → AFr → AHeap → Prop) {c : Cd} {rest : List AOper} {F' : AFr} {H' : AHeap} {ks : List Kd} {Hs : List AHeap}, runT X E.G f l F H = (c, rest, F', H', ks, Hs) → c.ok →
  TR E rest F' H' (fun k2 H2 => K (ks ++ k2) (Hs ++ H2)) → TR E l F H K
 | 0, l, F, H, K, c, rest, F', H', ks, Hs, hr, hc, h => by simp only [runT] at hr; cases hr; exact h
 | f + 1, [], F, H, K, c, rest, F', H', ks, Hs, hr, hc, h => by simp only [runT] at hr; cases hr; exact h
 | f + 1, o :: l, F, H, K, c, rest, F', H', ks, Hs, hr, hc, h => by
  simp only [runT] at hr
  split at hr
  · rename_i hg
   have hw : wantA F o.guard = some true := by rw [hg]; rfl
   split at hr
   · rename_i c0 v H1 hop
    cases hq : quietOp o.op with
    | true =>
     rw [hq, cond_true] at hr
     cases hrd : readOf E.G o.op F with
     | none =>
      rw [hrd] at hr
      dsimp only at hr
      cases hx : runT X E.G f l (F.set o.dst v) H with
      | mk c' r =>
       obtain ⟨r1, r2, r3, r4, r5⟩ := r
       rw [hx] at hr
       simp only [Prod.mk.injEq] at hr
       obtain ⟨rfl, rfl, rfl, rfl, rfl, rfl⟩ := hr
       have hc := andD_ok hc
       have hop := opX_spec hXs hop hc.1
       have hH := quiet_heap hq hop
       rw [hH] at hop
       exact tr_free hw hq hrd hop (runT_sound hXs f l _ _ _ hx hc.2 h)
     | some b =>
      rw [hrd] at hr
      dsimp only at hr
      cases hx : runT X E.G f l (F.set o.dst v) H with
      | mk c' r =>
       obtain ⟨r1, r2, r3, r4, r5⟩ := r
       rw [hx] at hr
       simp only [Prod.mk.injEq] at hr
       obtain ⟨rfl, rfl, rfl, rfl, rfl, rfl⟩ := hr
       have hc := andD_ok hc
       have hop := opX_spec hXs hop hc.1
       have hH := quiet_heap hq hop
       rw [hH] at hop
       exact tr_look hw hrd hop (runT_sound hXs f l _ _ _ hx hc.2 h)
    | false =>
     rw [hq, cond_false] at hr
     cases hx : runT X E.G f l (F.set o.dst v) H1 with
     | mk c' r =>
      obtain ⟨r1, r2, r3, r4, r5⟩ := r
      rw [hx] at hr
      simp only [Prod.mk.injEq] at hr
      obtain ⟨rfl, rfl, rfl, rfl, rfl, rfl⟩ := hr
      have hc := andD_ok hc
      exact tr_eff hw (opX_spec hXs hop hc.1) (runT_sound hXs f l _ _ _ hx hc.2 h)
   · cases hr; exact h
  · cases hr; exact h
theorem tr_go {E : Env} {X : Words} (hXs : X = std) {l : List AOper} {F : AFr} {H : AHeap} {K : List Kd → List AHeap → AFr → AHeap → Prop} {c : Cd} {rest : List AOper} {F' : AFr} {H' : AHeap} {ks : List Kd} {Hs : List AHeap} (he : runT X E.G 1000 l F H = (c, rest, F', H', ks, Hs)) (hc : c.ok)
  (h : TR E rest F' H' (fun k2 H2 => K (ks ++ k2) (Hs ++ H2))) : TR E l F H K := runT_sound hXs 1000 l F H K he hc h
end Go.Am
end
section
set_option linter.unusedVariables false
set_option linter.unusedSimpArgs false
namespace Go.Am
section
variable {E : Env} {n N : Nat} {Q : AExit → AFr → AHeap → Prop} {k : List KI} {F F' : AFr} {H H' X : AHeap}
theorem on_entO {l : List AOper} (he : Ent E n N F H F' H') (h : Holds E n N Q (.ops l) k F' H') : Holds E n N Q (.ops l) k F H := AOps.ent he h
theorem on_rfun {f : Opd} {ps : List Nat} {a b : ACode} {g : FuncId} {cs : List AV} (hf : f.ev E.G F = .fn g cs) (hen : Enters E.P g)
  (h : ACall E g (.yld H.length :: cs) (H ++ [.loop F n ps a b .ready none]) (fun _ H1 => ∃ st pd, H1[H.length]? = some (.loop F n ps a b st pd) ∧ st ≠ .busy ∧ Cont E n N Q k (pd.getD .normal) F (H1.set H.length .dead))) : Holds E n N Q (.code (.rfun f ps a b)) k F H := by
 refine awp_rfun ?_
 rw [hf]
 exact ⟨hen, h⟩
def RoundQ (E : Env) (l : Nat) (F : AFr) (n : Nat) (ps : List Nat) (a b : ACode) (R : AV → AHeap → Prop) (e : AExit) (F2 : AFr) (H2 : AHeap) : Prop :=
 ∃ pd2, H2[l]? = some (.loop F n ps a b .busy pd2) ∧ match e with
    | .normal => R (.val (.bool true)) (H2.set l (.loop F n ps a b .ready none))
    | e => R (.val (.bool false)) (H2.set l (.loop F n ps a b .done (some e)))
def AssignQ (E : Env) (l N : Nat) (F : AFr) (n : Nat) (ps : List Nat) (a b : ACode) (R : AV → AHeap → Prop) (e : AExit) (F1 : AFr) (H1 : AHeap) : Prop :=
 e = .normal ∧ ∃ pd1, H1[l]? = some (.loop F n ps a b .ready pd1) ∧ Holds E n N (RoundQ E l F n ps a b R) (.code b) [] F1 (H1.set l (.loop F n ps a b .busy pd1))
theorem yield_round {l : Nat} {args : List AV} {R : AV → AHeap → Prop} {ps : List Nat} {a b : ACode} {pd : Option AExit} (hl : H[l]? = some (.loop F n ps a b .ready pd)) (hlen : ps.length = args.length)
  (h : Holds E n H.length (AssignQ E l H.length F n ps a b R) (.code a) [] (bindF F ps args) H) : AYield E l args H R :=
 ayield_round hl hlen (AWP.mono h fun e F1 H1 ⟨h1, pd1, h2, h3⟩ => ⟨h1, pd1, h2, AWP.mono h3 fun e F2 H2 h => h⟩)
end
end Go.Am
end
section
set_option linter.unusedVariables false
set_option linter.unusedSimpArgs false
namespace Go.Am
section
variable {E : Env} {n N : Nat} {Q : AExit → AFr → AHeap → Prop} {k : List KI} {F : AFr} {H : AHeap}
theorem Runs.mem_all {ops : List AOper} : ∀ {l S : List Nat}, Runs ops S l → ∀ i, i < ops.length → i ∈ S ∨ i ∈ l
 | [], S, h, i, hi => .inl (h i hi)
 | j :: l, S, h, i, hi => by
  rcases Runs.mem_all h.2.2 i hi with h | h
  · rcases List.mem_cons.1 h with rfl | h
   · exact .inr List.mem_cons_self
   · exact .inl h
  · exact .inr (List.mem_cons_of_mem _ h)
theorem Runs.lt {ops : List AOper} : ∀ {l S : List Nat}, Runs ops S l → ∀ i ∈ l, i < ops.length
 | [], S, h, i, hi => by cases hi
 | j :: l, S, h, i, hi => by
  rcases List.mem_cons.1 hi with rfl | hi
  · obtain ⟨o, ho, _⟩ := h.2.1; exact (List.getElem?_eq_some_iff.1 ho).1
  · exact Runs.lt h.2.2 i hi
end
end Go.Am
end
section
set_option linter.unusedVariables false
set_option linter.unusedSimpArgs false
namespace Go.Am
def AllC (P : List Nat → Prop) : List (List Nat) → Prop
 | [] => True
 | c :: r => P c ∧ AllC P r
theorem AllC.mem {P : List Nat → Prop} : ∀ {l : List (List Nat)}, AllC P l → ∀ c ∈ l, P c
 | [], _, c, h => by cases h
 | x :: r, h, c, hc => by
  rcases List.mem_cons.1 hc with rfl | hc
  · exact h.1
  · exact h.2.mem c hc
section
variable {E : Env} {n N : Nat} {Q : AExit → AFr → AHeap → Prop} {k : List KI} {F : AFr} {H : AHeap}
theorem tr_drawB {ops : List AOper} {B : List Nat} (hm : E.P.follows .mixedOrders = true) (hB : befs ops [] = B) (hwf : wfDraw ops B = true) (h : TR E ops F H (fun ks Hs F' H' => chainsFrom B (effIdx 0 ks).length (effIdx 0 ks) = [effIdx 0 ks] ∧ LooksL B (effIdx 0 ks) (H :: Hs) 0 ks ∧ Holds E n N Q (.out .normal) k F' H')) : Holds E n N Q (.code (.draw ops)) k F H := by
 subst hB; exact tr_draw hm hwf h
end
end Go.Am
end
section
set_option linter.unusedVariables false
namespace Go.Am
open Go Go.Lib
section
variable {E : Env} {F : AFr} {H : AHeap} {K : List Kd → List AHeap → AFr → AHeap → Prop}
theorem tr_ung {dst : Option Nat} {op : AOp} {after : List Nat} {guard : Option (Nat × Bool)} {l : List AOper} (hg : wantA F guard = some true) (h : TR E (⟨dst, op, after, none⟩ :: l) F H K) : TR E (⟨dst, op, after, guard⟩ :: l) F H K := by
 obtain ⟨V, ks, Hs, F', H', ht, hk⟩ := h
 refine ⟨V, ks, Hs, F', H', ?_, hk⟩
 cases ht with
 | free h1 hq hr he r => exact .free (o := ⟨dst, op, after, guard⟩) hg hq hr he r
 | look h1 hr he r => exact .look (o := ⟨dst, op, after, guard⟩) hg hr he r
 | skip h1 r => cases h1
 | skipq h1 r => rcases h1 with h1 | ⟨d, b, h1, _⟩ <;> cases h1
 | pcall f xs args h1 ho ha hc hcl r => exact .pcall (o := ⟨dst, op, after, guard⟩) f xs args hg ho ha hc hcl r
 | eff h1 he r => exact .eff (o := ⟨dst, op, after, guard⟩) hg he r
 | ecall f xs args h1 ho ha hen hc r => exact .ecall (o := ⟨dst, op, after, guard⟩) f xs args hg ho ha hen hc r
end
end Go.Am
end
section
namespace Go.Am
theorem closed_agg (cs : List AV) : (AV.agg cs).closed = AV.closedL cs := rfl
theorem closed_v (v : Value) : (AV.val v).closed = true := rfl
theorem PCall.weak {E : Env} {f : FuncId} {args args' : List AV} {v : AV} (h : PCall E f args' v) (hw : WkL 0 args args') : PCall E f args v := by
 refine ⟨h.1, fun K w ys hh hv => h.2 K w ys hh ?_⟩
 obtain ⟨hl, hc⟩ := hw.spec
 refine ⟨hl ▸ hv.1, fun i x' y hx hy => ?_⟩
 obtain ⟨x, hx0⟩ : ∃ x, args[i]? = some x := ⟨_, List.getElem?_eq_getElem (by have := (List.getElem?_eq_some_iff.1 hx).1; omega)⟩
 exact (hc i x x' hx0 hx).rep (hv.2 i x y hx0 hy)
end Go.Am
end
section
set_option linter.unusedVariables false
namespace Go.Am
theorem ACall.at {E : Env} {f : FuncId} {args args' : List AV} {Hl H1l H H1 : AHeap} {v1 v : AV} (L : List Nat) (hc : ACall E f args Hl fun v' H' => v' = v1 ∧ H' = H1l) (hnd : L.Nodup) (hlt : ∀ x ∈ L, x < H.length)
  (hHl : Hl = L.map fun x => (H.getD x .dead).sub (subOut L)) (hargs : args = args'.map (AV.sub (subOut L))) (hv : v1.sub (subIn L H.length) = v) (hH : mergeH H L H1l = H1) :
  ACall E f args' H fun v' H' => v' = v ∧ H' = H1 := by
 refine ACall.mono (ACall.frame hc (H := H) (args' := args') L hnd hlt hHl hargs) ?_
 rintro _ _ ⟨v0, H', ⟨rfl, rfl⟩, h2, rfl, rfl⟩
 exact ⟨hv, hH⟩
section
variable {E : Env} {n N : Nat} {Q : AExit → AFr → AHeap → Prop} {F0 : AFr} {H0 : AHeap}
end
end Go.Am
end
section
set_option linter.unusedVariables false
namespace Go.Am
section
variable {E : Env} {n N : Nat} {Q : AExit → AFr → AHeap → Prop} {k : List KI} {F : AFr} {H : AHeap}
theorem on_pcallv {o : AOper} {l : List AOper} {x : Opd} {xs : List Opd} {f : FuncId} {cs args : List AV} {v : AV} (hg : o.guard = none) (ho : o.op = .callv x xs) (hf : x.ev E.G F = .fn f cs) (ha : xs.map (·.ev E.G F) ++ cs = args) (hc : PCall E f args v) (hcl : AV.closedL args = true)
  (h : Holds E n N Q (.ops l) k (F.set o.dst v) H) : Holds E n N Q (.ops (o :: l)) k F H :=
 on_callv (R := fun v' H' => v' = v ∧ H' = H) hg ho hf rfl ⟨hc.1, by rw [ha]; exact hc.lift hcl⟩ (by rintro _ _ ⟨rfl, rfl⟩; exact h)
end
def Keeps (o : AObj) : Prop := ∀ σ : Nat → Sub, (∀ i, i < 10 → σ i = .to i) → o.sub σ = o
theorem Keeps.dead : Keeps .dead := fun _ _ => rfl
theorem on_fz10 {E : Env} {n : Nat} {Q : AExit → AFr → AHeap → Prop} {k : List KI} {F F' : AFr} {l : List AOper} {o0 o1 o2 o3 o4 o5 o6 o7 o8 o9 : AObj} {cs : List AV} (hb : ∀ o ∈ [o0, o1, o2, o3, o4, o5, o6, o7, o8, o9], Keeps o) (hcl : AV.closedL cs = true)
  (hF : FWk 10 (ofL [.to 0, .to 1, .to 2, .to 3, .to 4, .to 5, .to 6, .to 7, .to 8, .to 9, .icells cs]) F F') (h : Holds E n 8 Q (.ops l) k F' [o0, o1, o2, o3, o4, o5, o6, o7, o8, o9]) : Holds E n 8 Q (.ops l) k F [o0, o1, o2, o3, o4, o5, o6, o7, o8, o9, .cells cs] := by
 have hs : ∀ i, i < 10 → ofL [.to 0, .to 1, .to 2, .to 3, .to 4, .to 5, .to 6, .to 7, .to 8, .to 9, .icells cs] i = .to i := by
  intro i hi
  match i, hi with
  | 0, _ | 1, _ | 2, _ | 3, _ | 4, _ | 5, _ | 6, _ | 7, _ | 8, _ | 9, _ => rfl
 refine on_entO (F' := F') (H' := [o0, o1, o2, o3, o4, o5, o6, o7, o8, o9]) (ent_subN [.to 0, .to 1, .to 2, .to 3, .to 4, .to 5, .to 6, .to 7, .to 8, .to 9, .icells cs] [some 0, some 1, some 2, some 3, some 4, some 5, some 6, some 7, some 8, some 9] ⟨rfl, rfl, rfl, rfl, rfl, rfl, rfl, rfl, trivial⟩ (by simp) (by simp)
  ⟨⟨by simp, rfl⟩, ⟨by simp, rfl⟩, ⟨by simp, rfl⟩, ⟨by simp, rfl⟩, ⟨by simp, rfl⟩, ⟨by simp, rfl⟩, ⟨by simp, rfl⟩, ⟨by simp, rfl⟩, ⟨by simp, rfl⟩, ⟨by simp, rfl⟩, ⟨cs, rfl, (subL_closed _ hcl).symm⟩, trivial⟩
  ⟨.same 0 _ _ rfl rfl rfl (hb _ (by simp) _ hs), .same 1 _ _ rfl rfl rfl (hb _ (by simp) _ hs), .same 2 _ _ rfl rfl rfl (hb _ (by simp) _ hs), .same 3 _ _ rfl rfl rfl (hb _ (by simp) _ hs), .same 4 _ _ rfl rfl rfl (hb _ (by simp) _ hs),
   .same 5 _ _ rfl rfl rfl (hb _ (by simp) _ hs), .same 6 _ _ rfl rfl rfl (hb _ (by simp) _ hs), .same 7 _ _ rfl rfl rfl (hb _ (by simp) _ hs), .same 8 _ _ rfl rfl rfl (hb _ (by simp) _ hs), .same 9 _ _ rfl rfl rfl (hb _ (by simp) _ hs), trivial⟩ hF) h
theorem keeps_drop {H : AHeap} (h8 : H.length = 10) (hb : ∀ o ∈ H, Keeps o) : ∀ o ∈ H, o.sub (keepS H.length) = o := by
 intro o ho
 refine hb o ho _ fun i hi => ?_
 rw [h8]; unfold keepS
 have : Nat.blt i 10 = true := Nat.ble_eq_true_of_le hi
 rw [this]; rfl
theorem sub_part {σ : Nat → Sub} {b k lo n : Nat} {es es' : List AV} (hs : σ b = .isl k es) (hn : lo + n ≤ es.length) (he : (es.drop lo).take n = es') : (AV.sl b k lo n).sub σ = .isl k es' := by
 simp only [AV.sub, hs, Nat.beq_refl, Bool.true_and]
 rw [Nat.ble_eq_true_of_le hn, cond_true, he]
theorem closed_fn (f : FuncId) (cs : List AV) : (AV.fn f cs).closed = AV.closedL cs := rfl
theorem closed_iptr (cs : List AV) : (AV.iptr cs).closed = AV.closedL cs := rfl
theorem closed1 {v : AV} (h : v.closed = true) : AV.closedL [v] = true := by simp [AV.closedL, h]
end Go.Am
end
section
set_option linter.unusedVariables false
set_option linter.unusedSimpArgs false
namespace Go.Am
def ACallN (E : Env) (N : Nat) (f : FuncId) (args : List AV) (H : AHeap) (R : AV → AHeap → Prop) : Prop :=
 ∀ K w ys, N ≤ H.length → HRep E K w H → VReps K H.length w args ys →
  Calls E.P f ys.toArray w fun e w' => ∃ v y H' K', e = .returned y ∧ R v H' ∧ HRep E K' w' H' ∧ VRep K' H'.length w' v y ∧ Ev N K H w K' H' w'
theorem ACallN.all {E : Env} {f : FuncId} {args : List AV} {H : AHeap} {R : AV → AHeap → Prop} (h : ACallN E H.length f args H R) : ACall E f args H R := fun K w ys h1 h2 => h K w ys (Nat.le_refl _) h1 h2
theorem ACallN.mono {E : Env} {N : Nat} {f : FuncId} {args : List AV} {H : AHeap} {R R' : AV → AHeap → Prop} (h : ACallN E N f args H R) (hr : ∀ v H', R v H' → R' v H') : ACallN E N f args H R' :=
 fun K w ys hN hh hv => (h K w ys hN hh hv).mono fun e w' ⟨v, y, H', K', h1, h2, h3⟩ => ⟨v, y, H', K', h1, hr v H' h2, h3⟩
theorem acallN_body {E : Env} {N : Nat} {f : FuncId} {fn : Func} {ac : ACode} {args : List AV} {H : AHeap} {R : AV → AHeap → Prop} {rvs : List RV} (hf : E.P.funcs[f]? = some fn) (hb : fn.body.map (prep E.P fn.ntmps) = some ac) (hrv : fn.results.toList.map (prepRV E.P) = rvs.map some) (hn : args.length ≤ fn.ntmps)
  (h : AWP E fn.ntmps N ac (startF 0 args) H (fun e F' H' => match e with | .exit _ => False | _ => ∃ vs, evRVs F' H' rvs = some vs ∧ R (packRV vs) H')) : ACallN E N f args H R := by
 intro K w ys hNH h1 h2 cs
 obtain ⟨code, hcode, hprep⟩ := Option.map_eq_some_iff.1 hb
 let T : Fc := ⟨f, .normal, none⟩
 have henter : Frame.enter E.P f ys.toArray .normal = T.fr (ys.toArray ++ Array.replicate (fn.ntmps - ys.toArray.size) undef) [] [.code code] := by
  simp [Frame.enter, Fc.fr, T, hf, hcode]
 have hF := startF_rep (n := fn.ntmps) h2 hn
 obtain ⟨e, F', H', K', w', t', nw, todo, q, a1, a2, a3, a4, a5, a6, a7⟩ := h code hprep K w _ T [] [] cs h1 hF hNH ⟨(fun l hl => by cases hl), List.nodup_nil, (fun r hr => by cases hr)⟩
 have fin : ∀ (fr : Frame), fr = { T.fr t' ((nw ++ []).map mark) todo with mode := .returning } → Steps E.P (lone (T.fr t' ((nw ++ []).map mark) todo) cs w') (lone fr cs w') → (∃ vs, evRVs F' H' rvs = some vs ∧ R (packRV vs) H') →
   ∃ e' w2 fr2, (fun e w' => ∃ v y H' K', e = .returned y ∧ R v H' ∧ HRep E K' w' H' ∧ VRep K' H'.length w' v y ∧ Ev N K H w K' H' w') e' w2 ∧ Comes E.P (lone (Frame.enter E.P f ys.toArray .normal) cs w) (lone fr2 cs w2) e' ∧ fr2.fn = f ∧ fr2.leaving E.P w2 e' := by
  rintro fr rfl hs ⟨vs, hvs, hR⟩
  obtain ⟨w2, b1, b2, b3, b4⟩ := unmark_all nw { T.fr t' ((nw ++ []).map mark) todo with mode := .returning } cs w' N K H w rfl (by simp [Fc.fr]) (by simpa using a4.nodup) (fun r hr => a4.marks r (by simpa using hr)) a5 a1 a3
  obtain ⟨y, c1, c2⟩ := results_run b1 (b4.frep a2) hrv hvs
  refine ⟨.returned y, w2, { T.fr t' ((nw ++ []).map mark) todo with mode := .returning, defers := [] }, ⟨_, y, H', K', rfl, hR, b1, c2, b2⟩, ?_, rfl, rfl, rfl, rfl, fn, hf, c1⟩
  rw [henter]
  exact a7.trans (hs.trans b3)
 cases e with
 | exit id => exact q.elim
 | normal => cases a6; exact fin _ rfl (.one (st_end rfl)) q
 | ret => cases a6 with | ret k' => exact fin _ rfl (.one (st_ret rfl)) q
theorem rcallN_body {E : Env} {N : Nat} {f : FuncId} {fn : Func} {ac : ACode} {args : List AV} {H : AHeap} {R : AV → AHeap → Prop} {n : Nat} {rvs : List RV} (hf : E.P.funcs[f]? = some fn) (hb : fn.body.map (prep E.P n) = some ac) (hnt : fn.ntmps = n) (hrv : fn.results.toList.map (prepRV E.P) = rvs.map some) (hn : Nat.ble args.length n = true)
  (h : Holds E n N (OQ E n N rvs R) (.code ac) [] (startF 0 args) H) : ACallN E N f args H R := by
 subst hnt
 refine acallN_body hf hb hrv (Nat.le_of_ble_eq_true hn) (AWP.entEnd (AWP.mono h fun e F' H' h => ?_))
 cases e with
 | exit i => exact h.elim
 | normal => obtain ⟨F2, H2, vs, a, b, c⟩ := h; exact ⟨F2, H2, a, vs, b, c⟩
 | ret => obtain ⟨F2, H2, vs, a, b, c⟩ := h; exact ⟨F2, H2, a, vs, b, c⟩
section
variable {E : Env} {n N : Nat} {F : AFr} {H : AHeap} {Q : AFr → AHeap → Prop}
theorem aops_callN {F2 : AFr} {a : AOper} {rest : List AOper} {f : FuncId} {xs : List Opd} {args : List AV} {R : AV → AHeap → Prop} (hg : wantA F a.guard = some true) (ho' : a.op = .call f xs) (hargs : xs.map (·.ev E.G F) = args) (hen : Enters E.P f) (hc : ACallN E N f args H R) (hF2 : FWk N (keepS N) F F2)
  (h : ∀ v H1, R v H1 → AOps E n N rest (F2.set a.dst v) H1 Q) : AOps E n N (a :: rest) F H Q := by
 intro ops l hl K w tmps T ds k cs h1 h2 h3
 obtain ⟨i, l', o, rfl, ho, rfl, hl'⟩ := ops_cons hl
 have hnb : (prepOper E.P n ops o).op ≠ .bad := by rw [ho']; intro e; cases e
 obtain ⟨e1, e2, e3⟩ := prepOper_op hnb
 rw [e1] at ho' hnb
 have hw := wanted_of h2 e3 hg
 have hops := ops_of h1 h2 (ρ := (T.fr tmps ds (.inRegion ops (i :: l') :: k)).eval) (fun x => Fc.eval_fr _ _ _ _ x)
 obtain ⟨c, hop, hcal, rfl⟩ := prepOp_call ho'
 have hvs : VReps K H.length w args (c.args.toList.map (T.fr tmps ds (.inRegion ops (i :: l') :: k)).eval) := by
  rw [← hargs]
  refine ⟨by simp, ?_⟩
  have := rep_list hops (xs := c.args.toList)
  intro j x y hx hy
  exact this j x y (by simpa using hx) hy
 have hrun : (execOp (T.fr tmps ds (.inRegion ops (i :: l') :: k)).eval o).run E.P w = .ok (.enter f (c.args.toList.map (T.fr tmps ds (.inRegion ops (i :: l') :: k)).eval).toArray) w := by
  have ha : (c.args.toList.map (T.fr tmps ds (.inRegion ops (i :: l') :: k)).eval).toArray = c.args.map (T.fr tmps ds (.inRegion ops (i :: l') :: k)).eval := Array.ext' (by simp)
  obtain ⟨callee, args', ts⟩ := c
  dsimp only at hcal ha
  subst hcal
  rw [ha]
  have hef : (T.fr tmps ds (.inRegion ops (i :: l') :: k)).eval (.func f) = .func (.func f) #[] #[] := rfl
  simp [execOp, hop, resolve, hef, Deferred.ofValue, invoke]
  exact hen _ _
 have hst := st_op_enter (cs := cs) ho hw (not_defer hnb) hrun
 have hcalls := (hc K w _ h3 h1 hvs).mono (R' := fun e w' => ∃ y, e = .returned y ∧ ∃ v H' K', R v H' ∧ HRep E K' w' H' ∧ VRep K' H'.length w' v y ∧ Ev N K H w K' H' w') (by
  rintro e w' ⟨v, y, H', K', rfl, h⟩; exact ⟨y, rfl, v, H', K', h⟩)
 obtain ⟨y, w1, ⟨v, H1, K1, hR, hh, hv, ev⟩, hs⟩ := calls_steps hcalls (T.fr tmps ds (.inRegion ops (i :: l') :: k)) cs
 have hfin := finish_fr (T := T) (tmps := tmps) (ds := ds) (k := k) (ops := ops) (i := i) (rest := l') y
 rw [ho] at hfin; simp only [Option.bind_some] at hfin
 rw [hfin] at hs
 have sok : SubOk E K w H (keepS N) K N := by
  refine ⟨fun b b' hb hs => ?_, fun b k es hb hs => ?_, fun b cs hb hs => ?_, fun b h => h, fun b blk base hb h1 h2 => ?_⟩
  all_goals rcases keepS_or N b with ⟨hc, hl⟩ | hc
  · rw [hc] at hs; cases hs; exact ⟨hl, rfl⟩
  · rw [hc] at hs; cases hs
  · rw [hc] at hs; cases hs
  · rw [hc] at hs; cases hs
  · rw [hc] at hs; cases hs
  · rw [hc] at hs; cases hs
  · exact absurd hc (h1 b)
  · exact absurd hc h2
 have h2' : FRep n K N w F2 tmps := ⟨h2.1, fun t => (hF2.spec t).rep (sub_rep h1 sok _ _ _ (Nat.le_refl _) (h2.2 t))⟩
 have hF := frep_set (Ev.mv h1 ev) h2' hv o.dst (.inl e2)
 have h := h v H1 hR
 rw [prepOper_dst] at h
 obtain ⟨F', H', K', w', t', q, a1, a2, a3, a4⟩ := h ops l' hl' K1 w1 _ T ds k cs hh hF ev.len
 exact ⟨F', H', K', w', t', q, a1, a2, ev.trans a3, .head hst (hs.trans a4)⟩
end
section
variable {E : Env} {n N : Nat} {Q : AExit → AFr → AHeap → Prop} {k : List KI} {F F2 : AFr} {H : AHeap}
theorem on_callN {o : AOper} {l : List AOper} {f : FuncId} {xs : List Opd} {args : List AV} {R : AV → AHeap → Prop} (hg : o.guard = none) (ho : o.op = .call f xs) (ha : xs.map (·.ev E.G F) = args) (hen : Enters E.P f) (hc : ACallN E N f args H R) (hF2 : FWk N (keepS N) F F2)
  (h : ∀ v H1, R v H1 → Holds E n N Q (.ops l) k (F2.set o.dst v) H1) : Holds E n N Q (.ops (o :: l)) k F H :=
 aops_callN (by rw [hg]; rfl) ho ha hen hc hF2 h
end
def KeepsV (v : AV) : Prop := ∀ σ : Nat → Sub, (∀ i, i < 10 → σ i = .to i) → v.sub σ = v
theorem KeepsV.cl {v : AV} (h : v.closed = true) : KeepsV v := fun σ _ => sub_closed σ _ v (Nat.le_refl _) h
theorem KeepsV.ptr {b off : Nat} (h : b < 10) : KeepsV (.ptr b off) := fun σ hs => by simp only [AV.sub, hs b h]
theorem KeepsV.sl {b k lo n : Nat} (h : b < 10) : KeepsV (.sl b k lo n) := fun σ hs => by simp only [AV.sub, hs b h]
def FK : AFr → Prop
 | [] => True
 | (_, v) :: r => KeepsV v ∧ FK r
theorem FK.sub : ∀ {F : AFr}, FK F → ∀ σ : Nat → Sub, (∀ i, i < 10 → σ i = .to i) → F.sub σ = F
 | [], _, _, _ => rfl
 | (d, v) :: r, h, σ, hs => by
  have := FK.sub h.2 σ hs
  unfold AFr.sub at this ⊢
  rw [List.map_cons, this, h.1 σ hs]
def CK : List AV → Prop
 | [] => True
 | v :: r => KeepsV v ∧ CK r
theorem CK.sub : ∀ {cs : List AV}, CK cs → ∀ σ : Nat → Sub, (∀ i, i < 10 → σ i = .to i) → AV.subL σ cs = cs
 | [], _, _, _ => rfl
 | v :: r, h, σ, hs => by rw [AV.subL, CK.sub h.2 σ hs, h.1 σ hs]
theorem Keeps.cells {cs : List AV} (h : CK cs) : Keeps (.cells cs) := fun σ hs => by simp only [AObj.sub, h.sub σ hs]
theorem Keeps.arr {k : Nat} {es : List AV} (h : AV.closedL es = true) : Keeps (.arr k es) := fun σ _ => by simp only [AObj.sub, subL_closed _ h]
theorem Keeps.loop {F : AFr} {n : Nat} {ps : List Nat} {a b : ACode} {st : LoopState} {pd : Option AExit} (h : FK F) : Keeps (.loop F n ps a b st pd) := fun σ hs => by simp only [AObj.sub, h.sub σ hs]
def WkR (g : Prop) (A : List AObj) (S : AHeap → Prop) (v : AV) (H' : AHeap) : Prop := (v = .val (.bool true) ∧ g ∧ H' = A) ∨ (v = .val (.bool false) ∧ S H')
def YdR (E : Env) (g : Prop) (A : List AObj) (S : AHeap → Prop) (v : AV) (H' : AHeap) : Prop := (v = .val (.bool true) ∧ g ∧ HEnt E 8 7 H' A) ∨ (v = .val (.bool false) ∧ S H')
section
variable {E : Env} {n N N2 : Nat} {Q : AExit → AFr → AHeap → Prop} {k : List KI} {F F1 F2 : AFr} {H1 H2 : AHeap} {ps : List Nat} {a b : ACode} {pd : Option AExit}
def StopS (E : Env) (n N : Nat) (Q : AExit → AFr → AHeap → Prop) (k : List KI) (F : AFr) (ps : List Nat) (a b : ACode) (H' : AHeap) : Prop :=
 ∃ e, H'[7]? = some (.loop F n ps a b .done (some e)) ∧ Holds E n N Q (.out e) k F (H'.set 7 .dead)
theorem rnd_assign {R : AV → AHeap → Prop} {l : Nat} (h1 : H1[l]? = some (.loop F n ps a b .ready pd)) (h : Holds E n N (RoundQ E l F n ps a b R) (.code b) [] F1 (H1.set l (.loop F n ps a b .busy pd))) :
  Holds E n N (AssignQ E l N F n ps a b R) (.out .normal) [] F1 H1 := ⟨rfl, pd, h1, h⟩
theorem rnd_next {g : Prop} {A : List AObj} {S : AHeap → Prop} (h1 : H2[7]? = some (.loop F n ps a b .busy pd)) (hg : g) (h : HEnt E 8 7 (H2.set 7 (.loop F n ps a b .ready none)) A) :
  Holds E n N (RoundQ E 7 F n ps a b (YdR E g A S)) (.out .normal) [] F2 H2 := ⟨pd, h1, .inl ⟨rfl, hg, h⟩⟩
theorem rnd_stop {g : Prop} {A : List AObj} {e : AExit} (hne : e ≠ .normal) (h1 : H2[7]? = some (.loop F n ps a b .busy pd)) (h : Holds E n N2 Q (.out e) k F (H2.set 7 .dead)) :
  Holds E n N (RoundQ E 7 F n ps a b (YdR E g A (StopS E n N2 Q k F ps a b))) (.out e) [] F2 H2 := by
 have h7 : 7 < H2.length := (List.getElem?_eq_some_iff.1 h1).1
 refine ⟨pd, h1, ?_⟩
 cases e with
 | normal => exact absurd rfl hne
 | _ => exact .inr ⟨rfl, _, by rw [List.getElem?_set_self h7], by rw [List.set_set]; exact h⟩
end
end Go.Am
end
section
set_option linter.unusedVariables false
set_option linter.unusedSimpArgs false
namespace Go.Am
def nodst (d : Nat) (o : AOper) : Bool := match o.dst with
 | some x => !Nat.beq x d
 | none => true
def isPick (d : Nat) (o : AOp) : Bool := match o with
 | .pick (.t d') _ _ => Nat.beq d' d
 | _ => false
def sameG (d : Nat) (b : Bool) (g : Option (Nat × Bool)) : Bool := match g with
 | some (d', b') => Nat.beq d' d && (b' == b)
 | none => false
def addD (U : List Nat) (o : AOper) : List Nat := match o.dst with
 | some x => x :: U
 | none => U
def hasN (U : List Nat) (d : Nat) : Bool := U.any (Nat.beq · d)
def runN (X : Words) (G : Nat → AV) : Nat → Nat → Bool → List Nat → List AOper → AFr → AHeap → Option (Cd × AFr × AOper × List AOper × List AOper)
 | 0, _, _, _, _, _, _ => none
 | _ + 1, _, _, _, [], _, _ => none
 | f + 1, d, b, U, o :: l, F, H =>
  match isPick d o.op with
  | true => some (.tt, F, o, l, [])
  | false => match o.guard with
   | none => none
   | some (d', b') => match Nat.beq d' d && (b' == b) with
    | true => match quietOp o.op && nodst d o with
     | false => none
     | true => match opX X G o.op F H with
      | some (c, v, _) => match runN X G f d b (addD U o) l (F.set o.dst v) H with
       | some (c', F', p, rest, S) => some (andD c c', F', p, rest, o :: S)
       | none => none
      | none => none
    | false => match F.get d' with
     | .val (.bool t') => match hasN U d' with
      | false => none
      | true => match runN X G f d' b' [] (o :: l) F H with
       | some (c, F1, p, rest, S) => match sameG d b p.guard && nodst d p && S.all (nodst d) && quietOp p.op with
        | false => none
        | true => match chosen X G b' t' p F1 F with
         | some v => match runN X G f d b (addD U p) rest ((skipSeg S F).set p.dst v) H with
          | some (c', F', p', rest', S') => some (andD (impD (cond b' t' (X.bNot t')) c) c', F', p', rest', S ++ p :: S')
          | none => none
         | none => none
       | none => none
     | _ => none
theorem nodst_spec {d : Nat} {o : AOper} (h : nodst d o = true) : o.dst ≠ some d := by
 intro e; unfold nodst at h; rw [e] at h; simp [Nat.beq_refl] at h
theorem isPick_spec {d : Nat} {o : AOp} (h : isPick d o = true) : ∃ x y, o = .pick (.t d) x y := by
 unfold isPick at h
 split at h
 · rename_i d' x y
  exact ⟨x, y, by rw [Nat.eq_of_beq_eq_true h]⟩
 · cases h
theorem sameG_spec {d : Nat} {b : Bool} {g : Option (Nat × Bool)} (h : sameG d b g = true) : g = some (d, b) := by
 unfold sameG at h
 split at h
 · simp only [Bool.and_eq_true, beq_iff_eq] at h
  rw [Nat.eq_of_beq_eq_true h.1, h.2]
 · cases h
theorem hasN_spec {U : List Nat} {d : Nat} (h : hasN U d = true) : d ∈ U := by
 unfold hasN at h
 obtain ⟨x, hx, hb⟩ := List.any_eq_true.1 h
 rw [← Nat.eq_of_beq_eq_true hb]; exact hx
theorem quiet_bad {o : AOp} (h : quietOp o = true) : o ≠ .bad := by rintro rfl; cases h
def SkL (d : Nat) (b : Bool) : List Nat → List AOper → Prop
 | _, [] => True
 | U, o :: S => (o.guard = some (d, b) ∨ ∃ u b', u ∈ U ∧ o.guard = some (u, b')) ∧ o.op ≠ .bad ∧ o.dst ≠ some d ∧ SkL d b (addD U o) S
theorem addD_mem {U : List Nat} {o : AOper} {u : Nat} : u ∈ addD U o ↔ u ∈ U ∨ o.dst = some u := by
 unfold addD
 cases h : o.dst with
 | none => simp
 | some x => simp [eq_comm, or_comm]
theorem SkL.mono {d : Nat} {b : Bool} : ∀ {S : List AOper} {U U' : List Nat}, (∀ u ∈ U, u ∈ U') → SkL d b U S → SkL d b U' S
 | [], _, _, _, _ => trivial
 | o :: S, U, U', hU, ⟨h1, h2, h3, h4⟩ => by
  refine ⟨?_, h2, h3, h4.mono fun u hu => ?_⟩
  · rcases h1 with h | ⟨u, b', hu, hg⟩
   · exact .inl h
   · exact .inr ⟨u, b', hU u hu, hg⟩
  · rw [addD_mem] at hu ⊢
   exact hu.imp (hU u) id
theorem SkL.lift {d d' : Nat} {b b' : Bool} : ∀ {S : List AOper} {U U' : List Nat}, d' ∈ U' → (∀ u ∈ U, u ∈ U') → (∀ o ∈ S, o.dst ≠ some d) → SkL d' b' U S → SkL d b U' S
 | [], _, _, _, _, _, _ => trivial
 | o :: S, U, U', hd, hU, hn, ⟨h1, h2, h3, h4⟩ => by
  refine ⟨.inr ?_, h2, hn o List.mem_cons_self, SkL.lift (addD_mem.2 (.inl hd)) (fun u hu => ?_) (fun o' ho' => hn o' (List.mem_cons_of_mem _ ho')) h4⟩
  · rcases h1 with h | ⟨u, b2, hu, hg⟩
   · exact ⟨d', b', hd, h⟩
   · exact ⟨u, b2, hU u hu, hg⟩
  · rw [addD_mem] at hu ⊢
   exact hu.imp (hU u) id
theorem SkL.app {d : Nat} {b : Bool} : ∀ {S S' : List AOper} {U U' : List Nat}, SkL d b U S → (∀ u ∈ U', u ∈ U ∨ ∃ o ∈ S, o.dst = some u) → SkL d b U' S' → SkL d b U (S ++ S')
 | [], S', U, U', _, hU, h' => h'.mono fun u hu => by
   rcases hU u hu with h | ⟨o, ho, _⟩
   · exact h
   · cases ho
 | o :: S, S', U, U', ⟨h1, h2, h3, h4⟩, hU, h' => by
  refine ⟨h1, h2, h3, h4.app (U' := U') (fun u hu => ?_) h'⟩
  rcases hU u hu with h | ⟨o', ho', e⟩
  · exact .inl (addD_mem.2 (.inl h))
  · rcases List.mem_cons.1 ho' with rfl | ho'
   · exact .inl (addD_mem.2 (.inr e))
   · exact .inr ⟨o', ho', e⟩
theorem skip_get : ∀ (S : List AOper) (F : AFr) (t : Nat), (∀ o ∈ S, o.dst ≠ some t) → (skipSeg S F).get t = F.get t
 | [], _, _, _ => rfl
 | o :: S, F, t, h => by
  rw [skipSeg, skip_get S _ t fun o' ho' => h o' (List.mem_cons_of_mem _ ho'), AFr.get_set, if_neg (h o List.mem_cons_self)]
theorem skip_or : ∀ (S : List AOper) (F : AFr) (t : Nat), (skipSeg S F).get t = .undef ∨ ((skipSeg S F).get t = F.get t ∧ ∀ o ∈ S, o.dst ≠ some t)
 | [], _, _ => .inr ⟨rfl, fun o h => by cases h⟩
 | o :: S, F, t => by
  rw [skipSeg]
  rcases skip_or S (F.set o.dst .undef) t with h | ⟨h, h2⟩
  · exact .inl h
  · rw [h, AFr.get_set]
   by_cases hd : o.dst = some t
   · rw [if_pos hd]; exact .inl rfl
   · rw [if_neg hd]
    refine .inr ⟨rfl, fun o' ho' => ?_⟩
    rcases List.mem_cons.1 ho' with rfl | ho'
    · exact hd
    · exact h2 o' ho'
section
variable {E : Env} {n N : Nat} {H : AHeap} {Q : AFr → AHeap → Prop}
theorem skl_skip {d : Nat} {b t : Bool} (htb : (t == b) = false) {rest : List AOper} : ∀ (S : List AOper) (U : List Nat) (F : AFr), SkL d b U S → (∀ u ∈ U, F.get u = .val undef) → F.get d = .val (.bool t) → d ∉ U → (∀ F', (∀ t, (skipSeg S F).get t = F'.get t ∨ (skipSeg S F).get t = .undef) → AOps E n N rest F' H Q) → AOps E n N (S ++ rest) F H Q
 | [], U, F, _, hU, hd, _, h => h F fun t => .inl rfl
 | o :: S, U, F, ⟨h1, h2, h3, h4⟩, hU, hd, hdU, h => by
  rw [List.cons_append]
  refine aops_skipv2 h2 fun hx => ?_
  have next : AOps E n N (S ++ rest) (F.set o.dst (.val undef)) H Q := by
   refine skl_skip htb S (addD U o) _ h4 (fun u hu => ?_) (by rw [AFr.get_set, if_neg h3]; exact hd) (fun hm => ?_) fun F' hF' => h F' fun t => ?_
   · rw [AFr.get_set]
    by_cases e : o.dst = some u
    · rw [if_pos e]
    · rw [if_neg e]
     rcases addD_mem.1 hu with hu | hu
     · exact hU u hu
     · exact absurd hu e
   · rcases addD_mem.1 hm with hm | hm
    · exact hdU hm
    · exact h3 hm
   · rw [skipSeg]
    rcases hF' t with e | e
    · rcases skip_or S (F.set o.dst .undef) t with e2 | ⟨e2, e3⟩
     · exact .inr e2
     · rw [skip_get S _ t e3] at e ⊢
      rw [AFr.get_set] at e ⊢
      by_cases hdt : o.dst = some t
      · rw [if_pos hdt]; exact .inr rfl
      · rw [if_neg hdt] at e ⊢; exact .inl e
    · rcases skip_or S (F.set o.dst .undef) t with e2 | ⟨e2, e3⟩
     · exact .inr e2
     · rw [skip_get S _ t e3] at e ⊢
      rw [AFr.get_set] at e ⊢
      by_cases hdt : o.dst = some t
      · rw [if_pos hdt]; exact .inr rfl
      · rw [if_neg hdt] at e ⊢; exact .inr e
  rcases h1 with hg | ⟨u, b', hu, hg⟩
  · exact aops_skipv (by rw [hg]; simp only [wantA, hd, htb]) next hx
  · exact aops_skipuv hg (hU u hu) next hx
theorem runN_sound {X : Words} (hXs : X = std) : ∀ (f d : Nat) (b : Bool) (U : List Nat) (ops : List AOper) (F : AFr) {c : Cd} {F1 : AFr} {p : AOper} {rest S : List AOper}, runN X E.G f d b U ops F H = some (c, F1, p, rest, S) →
  ops = S ++ p :: rest ∧ (∃ x y, p.op = .pick (.t d) x y) ∧ SkL d b U S ∧ (∀ t, (∀ o ∈ S, o.dst ≠ some t) → F1.get t = F.get t) ∧ (∀ o ∈ S, o.dst ≠ some d) ∧
  (c.ok → F.get d = .val (.bool b) → AOps E n N (p :: rest) F1 H Q → AOps E n N ops F H Q)
 | 0, _, _, _, _, _, _, _, _, _, _, h => by simp [runN] at h
 | f + 1, d, b, U, [], F, c, F1, p, rest, S, h => by simp [runN] at h
 | f + 1, d, b, U, o :: l, F, c, F1, p, rest, S, h => by
  simp only [runN] at h
  cases hp : isPick d o.op with
  | true =>
   rw [hp] at h; dsimp only at h
   simp only [Option.some.injEq, Prod.mk.injEq] at h
   obtain ⟨rfl, rfl, rfl, rfl, rfl⟩ := h
   exact ⟨rfl, isPick_spec hp, trivial, fun t _ => rfl, fun o h => (by cases h), fun _ _ h => h⟩
  | false =>
   rw [hp] at h; dsimp only at h
   cases hg : o.guard with
   | none => rw [hg] at h; simp at h
   | some g =>
    obtain ⟨d', b'⟩ := g
    rw [hg] at h
    dsimp only at h
    cases hs : (Nat.beq d' d && (b' == b)) with
    | true =>
     rw [hs] at h; dsimp only at h
     simp only [Bool.and_eq_true, beq_iff_eq] at hs
     have e1 := Nat.eq_of_beq_eq_true hs.1
     have e2 := hs.2
     subst e1 e2
     cases hq : (quietOp o.op && nodst d' o) with
     | false => rw [hq] at h; cases h
     | true =>
      rw [hq] at h; dsimp only at h
      simp only [Bool.and_eq_true] at hq
      have hnd := nodst_spec hq.2
      cases hop : opX X E.G o.op F H with
      | none => rw [hop] at h; simp at h
      | some r =>
       obtain ⟨c0, v, H1⟩ := r
       rw [hop] at h
       dsimp only at h
       cases hr : runN X E.G f d' b' (addD U o) l (F.set o.dst v) H with
       | none => rw [hr] at h; simp at h
       | some r =>
        obtain ⟨c', F', p', rest', S'⟩ := r
        rw [hr] at h
        simp only [Option.some.injEq, Prod.mk.injEq] at h
        obtain ⟨rfl, rfl, rfl, rfl, rfl⟩ := h
        obtain ⟨i1, i2, i3, i4, i5, i6⟩ := runN_sound hXs f d' b' (addD U o) l (F.set o.dst v) hr
        refine ⟨by rw [i1]; rfl, i2, ⟨.inl hg, quiet_bad hq.1, hnd, i3⟩, fun t ht => ?_, fun o' ho' => ?_, fun hc hd hA => ?_⟩
        · rw [i4 t fun o' ho' => ht o' (List.mem_cons_of_mem _ ho'), AFr.get_set, if_neg (ht o List.mem_cons_self)]
        · rcases List.mem_cons.1 ho' with rfl | ho'
         · exact hnd
         · exact i5 o' ho'
        · have hc := andD_ok hc
         have hop := opX_spec hXs hop hc.1
         have hH := quiet_heap hq.1 hop
         subst hH
         exact aops_op (by rw [hg]; simp only [wantA, hd]; cases b' <;> rfl) hop rfl (i6 hc.2 (by rw [AFr.get_set, if_neg hnd]; exact hd) hA)
    | false =>
     rw [hs] at h; dsimp only at h
     cases hv : F.get d' with
     | val vv =>
      rw [hv] at h
      cases vv with
      | bool t' =>
       dsimp only at h
       cases hU : hasN U d' with
       | false => rw [hU] at h; cases h
       | true =>
        rw [hU] at h; dsimp only at h
        have hUm := hasN_spec hU
        cases hr : runN X E.G f d' b' [] (o :: l) F H with
        | none => rw [hr] at h; simp at h
        | some r =>
         obtain ⟨c1, F2, p2, rest2, S2⟩ := r
         rw [hr] at h
         dsimp only at h
         cases hck : (sameG d b p2.guard && nodst d p2 && S2.all (nodst d) && quietOp p2.op) with
         | false => rw [hck] at h; cases h
         | true =>
          rw [hck] at h; dsimp only at h
          simp only [Bool.and_eq_true, List.all_eq_true] at hck
          obtain ⟨⟨⟨q1, q2⟩, q3⟩, q4⟩ := hck
          have q1 := sameG_spec q1
          have q2 := nodst_spec q2
          have q3 : ∀ o ∈ S2, o.dst ≠ some d := fun o ho => nodst_spec (q3 o ho)
          cases hch : chosen X E.G b' t' p2 F2 F with
          | none => rw [hch] at h; simp at h
          | some v =>
           rw [hch] at h
           dsimp only at h
           cases hr2 : runN X E.G f d b (addD U p2) rest2 ((skipSeg S2 F).set p2.dst v) H with
           | none => rw [hr2] at h; simp at h
           | some r =>
            obtain ⟨c3, F3, p3, rest3, S3⟩ := r
            rw [hr2] at h
            simp only [Option.some.injEq, Prod.mk.injEq] at h
            obtain ⟨rfl, rfl, rfl, rfl, rfl⟩ := h
            obtain ⟨i1, ⟨x, y, hpop⟩, i3, i4, i5, i6⟩ := runN_sound hXs f d' b' [] (o :: l) F hr
            obtain ⟨j1, j2, j3, j4, j5, j6⟩ := runN_sound hXs f d b (addD U p2) rest2 _ hr2
            refine ⟨by rw [i1, j1]; simp, j2, ?_, fun t ht => ?_, fun o' ho' => ?_, fun hc hd hA => ?_⟩
            · exact (i3.lift (U' := U) hUm (fun u hu => by cases hu) q3).app (U' := U) (fun u hu => .inl hu) ⟨.inl q1, quiet_bad q4, q2, j3⟩
            · rw [j4 t fun o' ho' => ht o' (by simp [ho']), AFr.get_set, if_neg (ht p2 (by simp)), skip_get S2 F t fun o' ho' => ht o' (by simp [ho'])]
            · rcases List.mem_append.1 ho' with ho' | ho'
             · exact q3 o' ho'
             · rcases List.mem_cons.1 ho' with rfl | ho'
              · exact q2
              · exact j5 o' ho'
            · have hc := andD_ok hc
             have hgo := j6 hc.2 (by rw [AFr.get_set, if_neg q2, skip_get S2 F d q3]; exact hd) hA
             have weak : ∀ F' : AFr, (∀ t, (skipSeg S2 F).get t = F'.get t ∨ (skipSeg S2 F).get t = .undef) → AOps E n N rest2 (F'.set p2.dst v) H Q := by
              intro F' hF'
              refine AOps.weak (fun t => ?_) hgo
              rw [AFr.get_set, AFr.get_set]
              split
              · exact .inl rfl
              · exact hF' t
             have hwant : ∀ F' : AFr, F'.get d = .val (.bool b) → wantA F' p2.guard = some true := by
              intro F' hF'; rw [q1]; simp only [wantA, hF']; cases b <;> rfl
             cases htb : (t' == b') with
             | true =>
              have e : t' = b' := by simpa using htb
              subst e
              have hc1 : c1.ok := impD_ok hc.1 (by subst hXs; cases t' <;> rfl)
              refine i6 hc1 hv (aops_op (hwant _ (by rw [i4 d q3]; exact hd)) (c := true) (v := v) (H1 := H) (chosen_run hXs (F1' := F2) htb hpop hch (fun t => .inl rfl) (by rw [i4 d' i5]; exact hv)) rfl (weak F2 fun t => ?_))
              rcases skip_or S2 F t with e | ⟨e, e2⟩
              · exact .inr e
              · exact .inl (by rw [e, i4 t e2])
             | false =>
              rw [i1]
              refine skl_skip htb S2 [] F i3 (fun u hu => by cases hu) hv (by simp) fun F' hF' => ?_
              have hFd : ∀ u, (∀ o ∈ S2, o.dst ≠ some u) → ∀ w, F.get u = .val w → F'.get u = .val w := fun u hu w hw => by
               rcases hF' u with e | e
               · rw [← e, skip_get S2 F u hu]; exact hw
               · rw [skip_get S2 F u hu, hw] at e; cases e
              exact aops_op (hwant _ (hFd d q3 _ hd)) (c := true) (v := v) (H1 := H) (chosen_skip hXs htb hpop hch (hFd d' i5 _ hv)) rfl (weak F' hF')
      | _ => simp at h
     | _ => rw [hv] at h; simp at h
end
section
variable {E : Env} {n N : Nat} {H : AHeap} {Q : AExit → AFr → AHeap → Prop} {k : List KI} {F : AFr}
def litG (S : List AOper) (F : AFr) (g : Option (Nat × Bool)) : Bool := match g with
 | none => true
 | some (d, b) => match F.get d with
  | .val (.bool t) => (t == b) && S.all (nodst d)
  | _ => false
theorem litG_spec {S : List AOper} {F F' : AFr} {g : Option (Nat × Bool)} (h : litG S F g = true) (hF : ∀ d, (∀ o ∈ S, o.dst ≠ some d) → ∀ w, F.get d = .val w → F'.get d = .val w) : wantA F' g = some true := by
 unfold litG at h
 split at h
 · rfl
 · rename_i d b
  split at h
  · rename_i t ht
   simp only [Bool.and_eq_true, beq_iff_eq, List.all_eq_true] at h
   have := hF d (fun o ho => nodst_spec (h.2 o ho)) _ ht
   simp only [wantA, this, h.1]; cases b <;> rfl
  · cases h
def runT2 (X : Words) (G : Nat → AV) (l : List AOper) (F : AFr) (H : AHeap) : Option (Cd × List AOper × AFr) :=
 match l with
 | [] => none
 | o :: l => match o.guard with
  | none => none
  | some (d, b) => match F.get d with
   | .val (.bool t) => match runN X G 1000 d b [] (o :: l) F H with
    | some (c, F1, p, rest, S) => match litG S F p.guard with
     | false => none
     | true => match chosen X G b t p F1 F with
      | some v => some (impD (cond b t (X.bNot t)) c, rest, (skipSeg S F).set p.dst v)
      | none => none
    | none => none
   | _ => none
theorem ns_go {X : Words} (hXs : X = std) {l rest : List AOper} {c : Cd} {F' : AFr} (he : runT2 X E.G l F H = some (c, rest, F')) (hc : c.ok) (h : Holds E n N Q (.ops rest) k F' H) : Holds E n N Q (.ops l) k F H := by
 unfold runT2 at he
 split at he
 · cases he
 · rename_i o l
  split at he
  · cases he
  · rename_i d b hg
   split at he
   · rename_i t hd
    split at he
    · rename_i c1 F1 p rest1 S hr
     cases hpg : litG S F p.guard with
     | false => rw [hpg] at he; cases he
     | true =>
      rw [hpg] at he
      dsimp only at he
      split at he
      · rename_i v hch
       simp only [Option.some.injEq, Prod.mk.injEq] at he
       obtain ⟨rfl, rfl, rfl⟩ := he
       obtain ⟨i1, ⟨x, y, hpop⟩, i3, i4, i5, i6⟩ := runN_sound (E := E) (n := n) (N := N) (Q := Cont E n N Q k .normal) hXs 1000 d b [] (o :: l) F hr
       have weak : ∀ F' : AFr, (∀ t, (skipSeg S F).get t = F'.get t ∨ (skipSeg S F).get t = .undef) → AOps E n N rest1 (F'.set p.dst v) H (Cont E n N Q k .normal) := by
        intro F' hF'
        refine AOps.weak (fun t => ?_) h
        rw [AFr.get_set, AFr.get_set]
        split
        · exact .inl rfl
        · exact hF' t
       cases htb : (t == b) with
       | true =>
        have e : t = b := by simpa using htb
        subst e
        have hc1 : c1.ok := impD_ok hc (by subst hXs; cases t <;> rfl)
        refine i6 hc1 hd (aops_op (litG_spec hpg fun u hu w hw => by rw [i4 u hu]; exact hw) (c := true) (v := v) (H1 := H) (chosen_run hXs (F1' := F1) htb hpop hch (fun t => .inl rfl) (by rw [i4 d i5]; exact hd)) rfl (weak F1 fun t => ?_))
        rcases skip_or S F t with e | ⟨e, e2⟩
        · exact .inr e
        · exact .inl (by rw [e, i4 t e2])
       | false =>
        show AOps E n N (o :: l) F H _
        rw [i1]
        refine skl_skip htb S [] F i3 (fun u hu => by cases hu) hd (by simp) fun F' hF' => ?_
        have hFu : ∀ u, (∀ o ∈ S, o.dst ≠ some u) → ∀ w, F.get u = .val w → F'.get u = .val w := fun u hu w hw => by
         rcases hF' u with e | e
         · rw [← e, skip_get S F u hu]; exact hw
         · rw [skip_get S F u hu, hw] at e; cases e
        exact aops_op (litG_spec hpg hFu) (c := true) (v := v) (H1 := H) (chosen_skip hXs htb hpop hch (hFu d i5 _ hd)) rfl (weak F' hF')
      · cases he
    · cases he
   · cases he
end
end Go.Am
end
section
set_option linter.unusedVariables false
set_option linter.unusedSimpArgs false
namespace Go.Am
open Go.ChangeShapes Go.WideShapes Go.ChangeAt Go.RowKit
mutual
def dBulk {H : Type} : DataW H → Nat
 | .lit (.string bytes) => bytes.length + 1
 | .lit _ => 1
 | .nil => 1
 | .ptr d => dBulk d + 1
 | .slice elems spare => dBulkAll elems + dBulkAll spare + 1
 | .agg parts => dBulkAll parts + 1
 | .iface _ d => dBulk d + 1
 | .map entries => dBulkEntries entries + 1
 | .held _ => 1
def dBulkAll {H : Type} : List (DataW H) → Nat
 | [] => 0
 | d :: r => dBulk d + dBulkAll r
def dBulkEntries {H : Type} : List (Lit × DataW H) → Nat
 | [] => 0
 | x :: r => dBulkEntry x + dBulkEntries r
def dBulkEntry {H : Type} : Lit × DataW H → Nat
 | (.string bytes, d) => bytes.length + dBulk d + 1
 | (_, d) => dBulk d + 1
end
mutual
def AV.bulk : AV → Nat
 | .isl _ es => AV.bulkL es + 1
 | .agg cs => AV.bulkL cs + 1
 | .val (.string s) => s.size + 1
 | _ => 1
def AV.bulkL : List AV → Nat
 | [] => 0
 | c :: cs => AV.bulk c + AV.bulkL cs
end
theorem bulkL_append (a b : List AV) : AV.bulkL (a ++ b) = AV.bulkL a + AV.bulkL b := by
 induction a with
 | nil => simp [AV.bulkL]
 | cons x a ih => simp only [List.cons_append, AV.bulkL, ih]; omega
theorem dBulk_pos {H : Type} (d : DataW H) : 1 ≤ dBulk d := by
 cases d with
 | lit l => cases l <;> simp [dBulk]
 | _ => simp [dBulk]
theorem dBulkAll_append {H : Type} (a b : List (DataW H)) : dBulkAll (a ++ b) = dBulkAll a + dBulkAll b := by
 induction a with
 | nil => simp [dBulkAll]
 | cons x a ih => simp only [List.cons_append, dBulkAll, ih]; omega
section
variable (P : Program)
def aggT (t : TypeId) : Bool :=
 match P.underlying t with
 | some d => isAggD d
 | none => false
def El (c : TypeId → List AV → Prop) (e : TypeId) (x : AV) : Prop :=
 if aggT P e then ∃ cs, x = .agg cs ∧ c e cs else x.cells = [x] ∧ c e [x]
def Cl : Nat → TypeId → List AV → Prop
 | 0, _, _ => False
 | n + 1, t, cs => match P.underlying t with
  | some .bool => ∃ b, cs = [.val (.bool b)]
  | some (.int k) => ∃ i, cs = [.val (.int k i)] ∧ (Lit.int k i).wf = true
  | some .string => ∃ s : ByteArray, cs = [.val (.string s)] ∧ s.size ≤ reachBytes
  | some (.slice e) => ∃ es, cs = [.isl (P.cellsOf e) es] ∧ es.length * P.bytesOf e ≤ reachBytes ∧ ∀ x ∈ es, El P (Cl n) e x
  | some (.struct fs) => ∃ css : List (List AV), cs = css.flatten ∧ css.length = fs.size ∧ ∀ (i : Nat) f c, fs[i]? = some f → css[i]? = some c → Cl n f.type c
  | some (.array m e) => ∃ css : List (List AV), cs = css.flatten ∧ css.length = m ∧ ∀ c ∈ css, Cl n e c
  | _ => cs = [.undef]
end
theorem Cl.single {P : Program} {n : Nat} {t : TypeId} {cs : List AV} (h : Cl P n t cs) (ha : aggT P t = false) : ∃ x : AV, cs = [x] ∧ x.cells = [x] := by
 cases n with
 | zero => exact h.elim
 | succ n =>
  unfold aggT at ha
  unfold Cl at h
  cases hu : P.underlying t with
  | none => rw [hu] at h; exact ⟨_, h, rfl⟩
  | some d =>
   rw [hu] at h ha
   cases d with
   | bool => obtain ⟨b, rfl⟩ := h; exact ⟨_, rfl, rfl⟩
   | int k => obtain ⟨b, rfl, _⟩ := h; exact ⟨_, rfl, rfl⟩
   | string => obtain ⟨b, rfl, _⟩ := h; exact ⟨_, rfl, rfl⟩
   | slice e => obtain ⟨b, rfl, _⟩ := h; exact ⟨_, rfl, rfl⟩
   | struct fs => simp [isAggD] at ha
   | array m e => simp [isAggD] at ha
   | _ => exact ⟨_, h, rfl⟩
structure Rd {H : Type} (P : Program) (C : Ctx) (w : World) (n : Nat) (t : TypeId) (vs : List Value) (d : DataW H) (cs : List AV) : Prop where
 cl : Cl P n t cs
 len : cs.length = vs.length
 rep : ∀ (j : Nat) c y, cs[j]? = some c → vs[j]? = some y → VRep C 0 w c y
 bulk : AV.bulkL cs + (if aggT P t then 1 else 0) ≤ dBulk d
theorem cells?_get {w : World} {base n : Nat} {a : Addr} {vs : List Value} (h : w.cells? base a n = some vs) : vs.length = n ∧ ∀ j, j < n → w.cell? (a.add j) = vs[j]? := by
 unfold World.cells? at h
 split at h
 · exact ⟨by simpa using mapM_some_length h, fun j hj => mapM_some_get h j j (by simp [hj])⟩
 · cases h
theorem spot_none {w : World} {a : Addr} {v : Value} (h : w.cell? a = some v) : a.spot = none ∧ a.block < w.heap.size := by
 unfold World.cell? at h
 split at h
 · rename_i c _ _ hh
  refine ⟨?_, (Array.getElem?_eq_some_iff.1 hh).1⟩
  cases hs : a.spot with
  | none => rfl
  | some s => rw [hs] at h; simp at h
 · cases h
theorem add_none {a : Addr} (h : a.spot = none) (i j : Nat) : (a.add i).add j = ⟨a.block, a.off + (i + j), none⟩ := by
 obtain ⟨b, o, s⟩ := a
 simp only at h; subst h
 unfold Addr.add
 by_cases h1 : i = 0 <;> by_cases h2 : j = 0 <;> simp [h1, h2, Nat.add_assoc]
theorem piece_flatten {vs : List Value} : ∀ (css : List (List AV)) (offs : List Nat) (R : AV → Value → Prop) (o : Nat), offs.length = css.length → (∀ (i : Nat) c f, css[i]? = some c → offs[i]? = some f → f = o + ((css.take i).map List.length).sum) →
  (∀ (i : Nat) c f, css[i]? = some c → offs[i]? = some f → ∀ (j : Nat) x y, c[j]? = some x → ((vs.drop f).take c.length)[j]? = some y → R x y) → ∀ (j : Nat) x y, css.flatten[j]? = some x → (vs.drop o)[j]? = some y → R x y
 | [], _, _, _, _, _, _, j, x, y, hx, _ => by simp at hx
 | c :: css, [], _, _, hl, _, _, _, _, _, _, _ => by simp at hl
 | c :: css, f :: offs, R, o, hl, ho, hR, j, x, y, hx, hy => by
  have hf : f = o := by simpa using ho 0 c f rfl rfl
  rw [List.flatten_cons] at hx
  by_cases hj : j < c.length
  · rw [List.getElem?_append_left hj] at hx
   refine hR 0 c f rfl rfl j x y hx ?_
   rw [hf, List.getElem?_take_of_lt hj]
   exact hy
  · rw [List.getElem?_append_right (by omega)] at hx
   refine piece_flatten css offs R (o + c.length) (by simpa using hl) (fun i c' f' hc hf' => ?_) (fun i c' f' hc hf' => hR (i + 1) c' f' (by simpa using hc) (by simpa using hf')) (j - c.length) x y hx ?_
   · have := ho (i + 1) c' f' (by simpa using hc) (by simpa using hf')
    rw [List.take_succ_cons, List.map_cons, List.sum_cons] at this; omega
   · rw [List.getElem?_drop] at hy ⊢
    rw [← hy]; congr 1; omega
theorem sum_take_le (ks : List Nat) (i : Nat) (k : Nat) (h : ks[i]? = some k) : (ks.take i).sum + k ≤ ks.sum := by
 induction ks generalizing i with
 | nil => simp at h
 | cons x ks ih =>
  cases i with
  | zero => simp at h; subst h; simp
  | succ i => have := ih i (by simpa using h); simp only [List.take_succ_cons, List.sum_cons]; omega
theorem pieces {H : Type} {P : Program} {C : Ctx} {w : World} {vs : List Value} {n : Nat} (ks : List Nat) (ts : List TypeId) (ds : List (DataW H)) (css : List (List AV)) (hl : css.length = ks.length) (hd : ds.length = ks.length) (ht : ts.length = ks.length) (hs : vs.length = ks.sum)
  (h : ∀ (i : Nat) k t d c, ks[i]? = some k → ts[i]? = some t → ds[i]? = some d → css[i]? = some c → Rd P C w n t ((vs.drop (ks.take i).sum).take k) d c) :
  css.flatten.length = vs.length ∧ (∀ (j : Nat) c y, css.flatten[j]? = some c → vs[j]? = some y → VRep C 0 w c y) ∧ AV.bulkL css.flatten ≤ dBulkAll ds := by
 have hlen : ∀ (i : Nat) k c, ks[i]? = some k → css[i]? = some c → c.length = k := by
  intro i k c hk hc
  obtain ⟨t, ht'⟩ : ∃ t, ts[i]? = some t := ⟨_, List.getElem?_eq_getElem (by have := (List.getElem?_eq_some_iff.1 hk).1; omega)⟩
  obtain ⟨d, hd'⟩ : ∃ d, ds[i]? = some d := ⟨_, List.getElem?_eq_getElem (by have := (List.getElem?_eq_some_iff.1 hk).1; omega)⟩
  have := (h i k t d c hk ht' hd' hc).len
  have h2 := sum_take_le ks i k hk
  simp at this; omega
 have hmap : css.map List.length = ks := by
  apply List.ext_getElem?
  intro i
  rw [List.getElem?_map]
  cases hc : css[i]? with
  | none => simp at hc; simp; omega
  | some c =>
   obtain ⟨k, hk⟩ : ∃ k, ks[i]? = some k := ⟨_, List.getElem?_eq_getElem (by have := (List.getElem?_eq_some_iff.1 hc).1; omega)⟩
   rw [hk]; simp [hlen i k c hk hc]
 refine ⟨by rw [List.length_flatten, hmap, hs], fun j c y hc hy => ?_, ?_⟩
 · refine piece_flatten css ((List.range css.length).map fun i => (ks.take i).sum) (VRep C 0 w) 0 (by simp) (fun i c f hc hf => ?_) (fun i c f hc hf j x y hx hy => ?_) j c y hc (by simpa using hy)
  · have hi : i < css.length := (List.getElem?_eq_some_iff.1 hc).1
   simp [hi] at hf; subst hf
   rw [← hmap, List.map_take]; simp
  · have hi : i < css.length := (List.getElem?_eq_some_iff.1 hc).1
   simp [hi] at hf; subst hf
   obtain ⟨k, hk⟩ : ∃ k, ks[i]? = some k := ⟨_, List.getElem?_eq_getElem (by omega)⟩
   obtain ⟨t, ht'⟩ : ∃ t, ts[i]? = some t := ⟨_, List.getElem?_eq_getElem (by omega)⟩
   obtain ⟨d, hd'⟩ : ∃ d, ds[i]? = some d := ⟨_, List.getElem?_eq_getElem (by omega)⟩
   rw [hlen i k c hk hc] at hy
   exact (h i k t d c hk ht' hd' hc).rep j x y hx hy
 · clear hmap hlen
  have hb : ∀ (i : Nat) c d, css[i]? = some c → ds[i]? = some d → AV.bulkL c ≤ dBulk d := by
   intro i c d hc hd'
   have hi : i < css.length := (List.getElem?_eq_some_iff.1 hc).1
   obtain ⟨k, hk⟩ : ∃ k, ks[i]? = some k := ⟨_, List.getElem?_eq_getElem (by omega)⟩
   obtain ⟨t, ht'⟩ : ∃ t, ts[i]? = some t := ⟨_, List.getElem?_eq_getElem (by omega)⟩
   have := (h i k t d c hk ht' hd' hc).bulk
   omega
  have hl' : css.length = ds.length := by omega
  clear h hl hd ht hs
  induction css generalizing ds with
  | nil => simp [AV.bulkL]
  | cons c css ih =>
   cases ds with
   | nil => simp at hl'
   | cons d ds =>
    rw [List.flatten_cons, bulkL_append]
    have := hb 0 c d rfl rfl
    have := ih ds (fun i c d hc hd' => hb (i + 1) c d (by simpa using hc) (by simpa using hd')) (by simpa using hl')
    simp only [dBulkAll]; omega
theorem Rd.elem {H : Type} {P : Program} {C : Ctx} {w : World} {n : Nat} {t : TypeId} {vs : List Value} {d : DataW H} {cs : List AV} (h : Rd P C w n t vs d cs) : ∃ x : AV, x.cells = cs ∧ El P (Cl P n) t x ∧ x.bulk ≤ dBulk d := by
 unfold El
 have hb := h.bulk
 by_cases ha : aggT P t = true
 · refine ⟨.agg cs, rfl, by rw [if_pos ha]; exact ⟨cs, rfl, h.cl⟩, ?_⟩
  rw [if_pos ha] at hb
  simpa [AV.bulk] using hb
 · obtain ⟨x, rfl, hx⟩ := h.cl.single (by simpa using ha)
  refine ⟨x, hx, by rw [if_neg ha]; exact ⟨hx, h.cl⟩, ?_⟩
  rw [if_neg ha] at hb
  simpa [AV.bulkL] using hb
theorem list_of {α : Type} [Inhabited α] {n : Nat} {p : Nat → α → Prop} (h : ∀ i, i < n → ∃ x, p i x) : ∃ l : List α, l.length = n ∧ ∀ (i : Nat) x, l[i]? = some x → p i x := by
 induction n with
 | zero => exact ⟨[], rfl, fun i x hx => by simp at hx⟩
 | succ n ih =>
  obtain ⟨l, hl, hp⟩ := ih fun i hi => h i (by omega)
  obtain ⟨x, hx⟩ := h n (by omega)
  refine ⟨l ++ [x], by simp [hl], fun i y hy => ?_⟩
  by_cases hi : i < n
  · rw [List.getElem?_append_left (by omega)] at hy; exact hp i y hy
  · rw [List.getElem?_append_right (by omega)] at hy
   have : i = n := by
    have := (List.getElem?_eq_some_iff.1 hy).1
    simp at this; omega
   subst this
   simp [hl] at hy; subst hy; exact hx
theorem weightsAll_mem {H : Type} {P : Program} {e : TypeId} {d : DataW H} {m : Nat} : ∀ {l : List (DataW H)}, d ∈ l → m ∈ d.weights P e → m ∈ DataW.weightsAll P e l
 | x :: l, h, hm => by
  simp only [DataW.weightsAll, List.mem_append]
  rcases List.mem_cons.1 h with rfl | h
  · exact .inl hm
  · exact .inr (weightsAll_mem h hm)
theorem weightsEach_mem {H : Type} {P : Program} {t : TypeId} {d : DataW H} {m : Nat} : ∀ {ts : List TypeId} {l : List (DataW H)} {i : Nat}, ts[i]? = some t → l[i]? = some d → m ∈ d.weights P t → m ∈ DataW.weightsEach P ts l
 | [], _, _, h, _, _ => by simp at h
 | _ :: _, [], _, _, h, _ => by simp at h
 | t' :: ts, x :: l, 0, h1, h2, hm => by
  simp at h1 h2; subst h1; subst h2
  simp only [DataW.weightsEach, List.mem_append]; exact .inl hm
 | t' :: ts, x :: l, i + 1, h1, h2, hm => by
  simp only [DataW.weightsEach, List.mem_append]; exact .inr (weightsEach_mem (by simpa using h1) (by simpa using h2) hm)
theorem read_cells {H : Type} {enc : TypeId × Value → H} {P : Program} {T : TypeId → Prop} (K : Kids P T) (hz : ∀ t e, T t → P.underlying t = some (.slice e) → 0 < P.cellsOf e) {C : Ctx} {w : World} (hI : ∀ b, b < w.heap.size → C.I b) {sp : Nat → Bool} {hd : Bool} :
  ∀ (n : Nat) (t : TypeId) (vs : List Value) (x : DataW H × List MemPlace), T t → DataW.trod enc P w 0 sp hd n t vs = some x → (∀ m ∈ x.1.weights P t, m ≤ reachBytes) → ∃ cs, Rd P C w n t vs x.1 cs := by
 intro n
 induction n with
 | zero => intro t vs x _ h; simp [DataW.trod] at h
 | succ n ih =>
  intro t vs x hT h hwt
  have one : ∀ (c : AV) (v : Value) (d : DataW H), Cl P (n + 1) t [c] → VRep C 0 w c v → c.bulk ≤ dBulk d → aggT P t = false → Rd P C w (n + 1) t [v] d [c] := by
   intro c v d h1 h2 h3 h4
   refine ⟨h1, rfl, fun j c' y hc hy => ?_, by rw [h4]; simpa [AV.bulkL] using h3⟩
   cases j with
   | zero => simp at hc hy; subst hc; subst hy; exact h2
   | succ j => simp at hc
  cases hu : P.underlying t with
  | none => exfalso; unfold DataW.trod at h; rw [hu] at h; simp at h
  | some d =>
   have other : Cl P (n + 1) t [.undef] → isAggD d = false → (∃ v, vs = [v]) → ∃ cs, Rd P C w (n + 1) t vs x.1 cs := by
    rintro h1 h2 ⟨v, rfl⟩
    exact ⟨_, one .undef v x.1 h1 (.undef _) (dBulk_pos _) (by simp [aggT, hu, h2])⟩
   cases d with
   | bool =>
    obtain ⟨b, rfl, rfl⟩ := DataW.trod_bool hu h
    exact ⟨_, one (.val (.bool b)) _ _ (by simp [Cl, hu]) (.val _ (by intro cs; simp)) (dBulk_pos _) (by simp [aggT, hu, isAggD])⟩
   | int k =>
    obtain ⟨b, rfl, rfl, hw⟩ := DataW.trod_int hu h
    exact ⟨_, one (.val (.int k b)) _ _ (by simp [Cl, hu, hw]) (.val _ (by intro cs; simp)) (dBulk_pos _) (by simp [aggT, hu, isAggD])⟩
   | string =>
    obtain ⟨b, rfl, rfl, hw⟩ := DataW.trod_string hu h
    exact ⟨_, one (.val (.string b)) _ _ (by simp only [Cl, hu]; exact ⟨b, rfl, by have := hwt b.data.toList.length (by simp [DataW.weights]); rwa [Array.length_toList] at this⟩) (.val _ (by intro cs; simp)) (by rw [AV.bulk]; simp only [dBulk, Array.length_toList]; exact Nat.le_refl _) (by simp [aggT, hu, isAggD])⟩
   | slice e =>
    have hk := hz t e hT hu
    rcases DataW.trod_slice hu h with ⟨rfl, rfl⟩ | ⟨a, len, cap, elems, rest, m, hm, rfl, rfl, hb, hl, hc, hlen, hel, _, _⟩
    · exact ⟨_, one (.isl (P.cellsOf e) []) _ _ (by simp [Cl, hu]) (.islnil _) (by simp [AV.bulk, AV.bulkL, dBulk]) (by simp [aggT, hu, isAggD])⟩
    · obtain rfl : n = m := by omega
     have hex : ∀ i, i < len → ∃ e' : AV, ∃ (vs' : List Value) (y : DataW H × List MemPlace) (cs : List AV), w.cells? 0 (a.add (i * P.cellsOf e)) (P.cellsOf e) = some vs' ∧ elems[i]? = some y ∧ Rd P C w n e vs' y.1 cs ∧ e'.cells = cs ∧ El P (Cl P n) e e' ∧ e'.bulk ≤ dBulk y.1 := by
      intro i hi
      have h1 := hel i hi
      obtain ⟨y, hy⟩ : ∃ y, elems[i]? = some y := ⟨_, List.getElem?_eq_getElem (by omega)⟩
      rw [hy] at h1
      obtain ⟨vs', h2, h3⟩ := Option.bind_eq_some_iff.1 h1
      obtain ⟨cs, hr⟩ := ih e vs' y (K.slice hT hu) h3 (fun m hm => hwt m (by
       simp only [DataW.weights, hu]
       exact List.mem_cons_of_mem _ (List.mem_append_left _ (weightsAll_mem (List.mem_map.2 ⟨y, List.mem_of_getElem? hy, rfl⟩) hm))))
      obtain ⟨e', g1, g2, g3⟩ := hr.elem
      exact ⟨e', vs', y, cs, h2, hy, hr, g1, g2, g3⟩
     obtain ⟨es, hes, hp⟩ := list_of hex
     refine ⟨_, one (.isl (P.cellsOf e) es) _ _ ?_ ?_ ?_ (by simp [aggT, hu, isAggD])⟩
     · simp only [Cl, hu]
      refine ⟨es, rfl, ?_, fun x hx => ?_⟩
      · have := hwt (((elems.map (·.1)).length + (rest.map (·.1)).length) * P.bytesOf e) (by simp only [DataW.weights, hu]; exact List.mem_cons_self)
       refine Nat.le_trans (Nat.mul_le_mul_right _ ?_) this
       simp only [List.length_map]; omega
      obtain ⟨i, hi, rfl⟩ := List.getElem_of_mem hx
      obtain ⟨_, _, _, _, _, _, _, h5, _⟩ := hp i _ (List.getElem?_eq_getElem hi)
      exact h5
     · have cell : ∀ (i : Nat) e' (j : Nat) c, es[i]? = some e' → e'.cells[j]? = some c → ∃ v, w.cell? ((a.add (i * P.cellsOf e)).add j) = some v ∧ VRep C 0 w c v ∧ e'.cells.length = P.cellsOf e := by
       intro i e' j c he hc
       obtain ⟨vs', y, cs, h1, h2, h3, h4, h5, h6⟩ := hp i e' he
       obtain ⟨g1, g2⟩ := cells?_get h1
       rw [h4] at hc ⊢
       have hj : j < cs.length := (List.getElem?_eq_some_iff.1 hc).1
       have hjl := h3.len
       obtain ⟨v, hv⟩ : ∃ v, vs'[j]? = some v := ⟨_, List.getElem?_eq_getElem (by omega)⟩
       refine ⟨v, ?_, h3.rep j c v hc hv, by omega⟩
       rw [g2 j (by omega), hv]
      have hlenk : ∀ (i : Nat) e', es[i]? = some e' → e'.cells.length = P.cellsOf e := by
       intro i e' he
       obtain ⟨vs', y, cs, h1, h2, h3, h4, h5, h6⟩ := hp i e' he
       rw [h4, h3.len]; exact (cells?_get h1).1
      have hne : es ≠ [] → C.I a.block ∧ a.spot = none := by
       intro hne
       obtain ⟨e', he⟩ : ∃ e', es[0]? = some e' := ⟨_, List.getElem?_eq_getElem (List.length_pos_iff.2 hne)⟩
       obtain ⟨c, hc⟩ : ∃ c, e'.cells[0]? = some c := ⟨_, List.getElem?_eq_getElem (by rw [hlenk 0 e' he]; exact hk)⟩
       obtain ⟨v, hv, _⟩ := cell 0 e' 0 c he hc
       have e0 : (a.add (0 * P.cellsOf e)).add 0 = a := by simp [Addr.add]
       rw [e0] at hv
       have := spot_none hv
       exact ⟨hI _ this.2, this.1⟩
      rw [← hes]
      rw [← hes] at hl
      refine .isl (P.cellsOf e) es (fun i j => (w.cell? ⟨a.block, a.off + (i * P.cellsOf e + j), none⟩).getD undef) a cap hl hne hlenk (fun i e' j c he hc => ?_) (fun i e' j c he hc => ?_)
      all_goals
       have hne' := (hne (by rintro rfl; simp at he)).2
       obtain ⟨v, hv, hr, _⟩ := cell i e' j c he hc
       rw [add_none hne'] at hv
       rw [hv]
      · rfl
      · exact hr
     · simp only [AV.bulk, dBulk]
      have : AV.bulkL es ≤ dBulkAll (elems.map (·.1)) := by
       have hb : ∀ (i : Nat) e' y, es[i]? = some e' → elems[i]? = some y → e'.bulk ≤ dBulk y.1 := by
        intro i e' y he hy
        obtain ⟨vs', y', cs, h1, h2, h3, h4, h5, h6⟩ := hp i e' he
        rw [hy] at h2; cases h2; exact h6
       have hll : es.length = elems.length := by omega
       clear hp hes hel hex hlen h one other hl hwt
       induction es generalizing elems with
       | nil => simp [AV.bulkL]
       | cons e' es ih' =>
        cases elems with
        | nil => simp at hll
        | cons y elems =>
         have := hb 0 e' y rfl rfl
         have := ih' elems (fun i e' y he hy => hb (i + 1) e' y (by simpa using he) (by simpa using hy)) (by simpa using hll)
         simp only [AV.bulkL, List.map_cons, dBulkAll]; omega
      omega
   | struct fs =>
    obtain ⟨xs, m, hm, rfl, hcl, hxs, hf⟩ := DataW.trod_struct hu h
    obtain rfl : n = m := by omega
    obtain ⟨hk1, hk2, hk3⟩ := K.struct hT hu
    have hex : ∀ i, i < fs.size → ∃ c : List AV, ∃ (f : Field) (y : DataW H × List MemPlace), fs[i]? = some f ∧ xs[i]? = some y ∧ Rd P C w n f.type ((vs.drop f.offset).take (P.cellsOf f.type)) y.1 c := by
     intro i hi
     obtain ⟨f, hfi⟩ : ∃ f, fs[i]? = some f := ⟨_, Array.getElem?_eq_getElem hi⟩
     obtain ⟨y, hy⟩ : ∃ y, xs[i]? = some y := ⟨_, List.getElem?_eq_getElem (by omega)⟩
     have h1 := hf i f hfi
     rw [hy] at h1
     obtain ⟨cs, hr⟩ := ih f.type _ y (hk1 f (by rw [List.mem_iff_getElem?]; exact ⟨i, by simpa using hfi⟩)) h1 (fun m hm => hwt m (by
      simp only [DataW.weights, hu]
      exact weightsEach_mem (i := i) (by rw [List.getElem?_map]; simp [hfi]) (by rw [List.getElem?_map, hy]; rfl) hm))
     exact ⟨cs, f, y, hfi, hy, hr⟩
    obtain ⟨css, hcs, hp⟩ := list_of hex
    have hR : ∀ (i : Nat) k t d c, (fs.toList.map fun f => P.cellsOf f.type)[i]? = some k → (fs.toList.map (·.type))[i]? = some t → (xs.map (·.1))[i]? = some d → css[i]? = some c → Rd P C w n t ((vs.drop ((fs.toList.map fun f => P.cellsOf f.type).take i).sum).take k) d c := by
     intro i k t d c h1 h2 h3 h4
     obtain ⟨f, y, g1, g2, g3⟩ := hp i c h4
     have hfl : fs.toList[i]? = some f := by simpa using g1
     rw [List.getElem?_map, hfl] at h1 h2
     rw [List.getElem?_map, g2] at h3
     simp at h1 h2 h3; subst h1; subst h2; subst h3
     have := hk3 i f hfl
     rw [List.map_take] at this
     rw [← this]; exact g3
    obtain ⟨a1, a2, a3⟩ := pieces (n := n) (fs.toList.map fun f => P.cellsOf f.type) (fs.toList.map (·.type)) (xs.map (·.1)) css (by simp [hcs]) (by simp [hxs]) (by simp) (by rw [hcl, hk2]) hR
    refine ⟨css.flatten, ?_, a1, a2, ?_⟩
    · simp only [Cl, hu]
     refine ⟨css, rfl, hcs, fun i f c hfi hc => ?_⟩
     obtain ⟨f', y, g1, g2, g3⟩ := hp i c hc
     rw [hfi] at g1; cases g1; exact g3.cl
    · simp only [aggT, hu, isAggD, if_true, dBulk]; omega
   | array m e =>
    obtain ⟨xs, m', hm, rfl, hcl, hxs, hf⟩ := DataW.trod_array hu h
    obtain rfl : n = m' := by omega
    obtain ⟨hk1, hk2⟩ := K.array hT hu
    have hex : ∀ i, i < m → ∃ c : List AV, ∃ (y : DataW H × List MemPlace), xs[i]? = some y ∧ Rd P C w n e ((vs.drop (i * P.cellsOf e)).take (P.cellsOf e)) y.1 c := by
     intro i hi
     obtain ⟨y, hy⟩ : ∃ y, xs[i]? = some y := ⟨_, List.getElem?_eq_getElem (by omega)⟩
     have h1 := hf i hi
     rw [hy] at h1
     obtain ⟨cs, hr⟩ := ih e _ y hk1 h1 (fun m hm => hwt m (by
      simp only [DataW.weights, hu]
      exact weightsAll_mem (List.mem_map.2 ⟨y, List.mem_of_getElem? hy, rfl⟩) hm))
     exact ⟨cs, y, hy, hr⟩
    obtain ⟨css, hcs, hp⟩ := list_of hex
    have hsum : ∀ i, i ≤ m → ((List.replicate m (P.cellsOf e)).take i).sum = i * P.cellsOf e := by
     intro i hi
     rw [List.take_replicate]; simp [Nat.min_eq_left hi]
    have hR : ∀ (i : Nat) k t d c, (List.replicate m (P.cellsOf e))[i]? = some k → (List.replicate m e)[i]? = some t → (xs.map (·.1))[i]? = some d → css[i]? = some c → Rd P C w n t ((vs.drop ((List.replicate m (P.cellsOf e)).take i).sum).take k) d c := by
     intro i k t d c h1 h2 h3 h4
     obtain ⟨y, g2, g3⟩ := hp i c h4
     have hi : i < m := by have := (List.getElem?_eq_some_iff.1 h4).1; omega
     rw [List.getElem?_map, g2] at h3
     simp [List.getElem?_replicate, hi] at h1 h2 h3; subst h1; subst h2; subst h3
     rw [hsum i (by omega)]; exact g3
    obtain ⟨a1, a2, a3⟩ := pieces (n := n) (List.replicate m (P.cellsOf e)) (List.replicate m e) (xs.map (·.1)) css (by simp [hcs]) (by simp [hxs]) (by simp) (by rw [hcl, hk2]; simp) hR
    refine ⟨css.flatten, ?_, a1, a2, ?_⟩
    · simp only [Cl, hu]
     refine ⟨css, rfl, hcs, fun c hc => ?_⟩
     obtain ⟨i, hi, rfl⟩ := List.getElem_of_mem hc
     obtain ⟨y, g2, g3⟩ := hp i _ (List.getElem?_eq_getElem hi)
     exact g3.cl
    · simp only [aggT, hu, isAggD, if_true, dBulk]; omega
   | _ => exact other (by simp [Cl, hu]) rfl (by clear hwt ih one other hz hI K; unfold DataW.trod at h; rw [hu] at h; split at h <;> simp_all)
end Go.Am
end
section
namespace Go.Am
open Go.ChangeShapes Go.WideShapes Go.ChangeAt Go.RowKit
def ElAll (P : Program) : List TypeId → List AV → Prop
 | [], [] => True
 | t :: ts, x :: xs => (∃ n, El P (Cl P n) t x) ∧ ElAll P ts xs
 | _, _ => False
theorem cells_of_ok {P : Program} {w : World} {b : Nat} {t : TypeId} {v : Value} (h : Value.okWide P w .any b t v) : (aggT P t = true ∧ ∃ cs, v = .agg cs) ∨ (aggT P t = false ∧ v.cells.toList = [v] ∧ ∀ cs, v ≠ .agg cs) := by
 unfold Value.okWide at h
 unfold aggT
 cases hu : P.underlying t with
 | none => rw [hu] at h; simp [Cell.okWide, Cell.ok, hu] at h
 | some d =>
  rw [hu] at h
  cases d with
  | struct fs => obtain ⟨cs, rfl, _⟩ := h; exact .inl ⟨rfl, cs, rfl⟩
  | array m e => obtain ⟨cs, rfl, _⟩ := h; exact .inl ⟨rfl, cs, rfl⟩
  | _ =>
   right
   refine ⟨rfl, ?_⟩
   cases v with
   | agg cs => simp [Cell.okWide, Cell.ok, hu] at h
   | tuple cs => simp [Cell.okWide, Cell.ok, hu] at h
   | _ => exact ⟨rfl, by intro cs; simp⟩
theorem Rd.arg {H : Type} {P : Program} {C : Ctx} {w : World} {n : Nat} {t : TypeId} {v : Value} {d : DataW H} {cs : List AV} {b : Nat} (h : Rd P C w n t v.cells.toList d cs) (hok : Value.okWide P w .any b t v) :
  ∃ x, VRep C 0 w x v ∧ El P (Cl P n) t x ∧ x.bulk ≤ dBulk d := by
 have hb := h.bulk
 unfold El
 rcases cells_of_ok hok with ⟨ha, vs, rfl⟩ | ⟨ha, hv, _⟩
 · rw [ha, if_pos rfl] at hb
  refine ⟨.agg cs, ?_, by rw [ha, if_pos rfl]; exact ⟨cs, rfl, h.cl⟩, by simpa [AV.bulk] using hb⟩
  have := VRep.agg cs vs.toList (K := C) (M := 0) (w := w) (by simpa [Value.cells] using h.len) (fun i c y hc hy => h.rep i c y hc (by simpa [Value.cells] using hy))
  simpa using this
 · obtain ⟨x, rfl, hx⟩ := h.cl.single ha
  rw [hv] at h
  rw [ha] at hb
  exact ⟨x, h.rep 0 x v rfl rfl, by rw [ha]; exact ⟨hx, h.cl⟩, by simpa [AV.bulkL] using hb⟩
theorem read_args {H : Type} {enc : TypeId × Value → H} {P : Program} {T : TypeId → Prop} (K : Kids P T) (hz : ∀ t e, T t → P.underlying t = some (.slice e) → 0 < P.cellsOf e) {C : Ctx} {w : World} (hI : ∀ b, b < w.heap.size → C.I b) {b : Nat} :
  ∀ (ts : List TypeId) (vs : List Value) (ds : List (DataW H)) (ps : List MemPlace), (∀ t ∈ ts, T t) → DataW.TrodAll enc P w 0 (fun _ => true) true ts vs ds ps → (∀ (j : Nat) t v, ts[j]? = some t → vs[j]? = some v → Value.okWide P w .any b t v) → (∀ m ∈ DataW.weightsEach P ts ds, m ≤ reachBytes) →
   ∃ xs, VReps C 0 w xs vs ∧ ElAll P ts xs ∧ AV.bulkL xs ≤ dBulkAll ds
 | [], [], [], _, _, _, _, _ => ⟨[], ⟨rfl, fun i x y h => by simp at h⟩, trivial, by simp [AV.bulkL]⟩
 | t :: ts, v :: vs, d :: ds, ps, hT, h, hok, hwt => by
  obtain ⟨p, q, ⟨n, hn⟩, h2, _⟩ := h
  obtain ⟨xs, g1, g2, g3⟩ := read_args K hz hI ts vs ds q (fun t ht => hT t (List.mem_cons_of_mem _ ht)) h2 (fun j t v ht hv => hok (j + 1) t v (by simpa using ht) (by simpa using hv)) (fun m hm => hwt m (by simp only [DataW.weightsEach, List.mem_append]; exact .inr hm))
  obtain ⟨cs, hr⟩ := read_cells K hz hI n t _ _ (hT t List.mem_cons_self) hn (fun m hm => hwt m (by simp only [DataW.weightsEach, List.mem_append]; exact .inl hm))
  obtain ⟨x, k1, k2, k3⟩ := hr.arg (hok 0 t v rfl rfl)
  dsimp only at k3
  refine ⟨x :: xs, ⟨by simp [g1.1], fun i x' y' hx hy => ?_⟩, ⟨⟨n, k2⟩, g2⟩, by simp only [AV.bulkL, dBulkAll]; omega⟩
  cases i with
  | zero => simp at hx hy; subst hx; subst hy; exact k1
  | succ i => exact g1.2 i x' y' (by simpa using hx) (by simpa using hy)
 | [], [], _ :: _, _, _, h, _, _ => by simp [DataW.TrodAll] at h
 | [], _ :: _, [], _, _, h, _, _ => by simp [DataW.TrodAll] at h
 | [], _ :: _, _ :: _, _, _, h, _, _ => by simp [DataW.TrodAll] at h
 | _ :: _, [], [], _, _, h, _, _ => by simp [DataW.TrodAll] at h
 | _ :: _, [], _ :: _, _, _, h, _, _ => by simp [DataW.TrodAll] at h
 | _ :: _, _ :: _, [], _, _, h, _, _ => by simp [DataW.TrodAll] at h
theorem TrodAll_carry {H : Type} {enc : TypeId × Value → H} {P : Program} {w w' : World} {base : Nat} {sp : Nat → Bool} {hd : Bool} : ∀ (ts : List TypeId) (vs : List Value) (ds : List (DataW H)) (ps : List MemPlace),
  DataW.TrodAll enc P w base sp hd ts vs ds ps → (∀ p ∈ ps, w.sameAt w' p) → DataW.TrodAll enc P w' base sp hd ts vs ds ps
 | [], [], [], _, h, _ => h
 | t :: ts, v :: vs, d :: ds, ps, h, hs => by
  obtain ⟨p, q, ⟨n, hn⟩, h2, rfl⟩ := h
  exact ⟨p, q, ⟨n, DataW.trod_carry n _ _ _ hn fun x hx => hs x (List.mem_append_left _ hx)⟩, TrodAll_carry ts vs ds q h2 fun x hx => hs x (List.mem_append_right _ hx), rfl⟩
 | [], [], _ :: _, _, h, _ => by simp [DataW.TrodAll] at h
 | [], _ :: _, [], _, h, _ => by simp [DataW.TrodAll] at h
 | [], _ :: _, _ :: _, _, h, _ => by simp [DataW.TrodAll] at h
 | _ :: _, [], [], _, h, _ => by simp [DataW.TrodAll] at h
 | _ :: _, [], _ :: _, _, h, _ => by simp [DataW.TrodAll] at h
 | _ :: _, _ :: _, [], _, h, _ => by simp [DataW.TrodAll] at h
def Held (w w' : World) : Prop := (∀ b, b < w.heap.size → w'.heap[b]? = w.heap[b]?) ∧ w'.os = w.os ∧ w'.output = w.output
theorem Held.same {w w' : World} (h : Held w w') (p : MemPlace) (hp : p.block < w.heap.size) : w.sameAt w' p := by
 have := h.1 _ hp
 cases p with
 | cell b o => simp only [MemPlace.block] at this; simp only [World.sameAt, World.cell?]; rw [this]
 | map b => simp only [MemPlace.block] at this; simp only [World.sameAt]; rw [this]
theorem Held.kept {w w' : World} (h : Held w w') (may : MemPlace → Prop) : w.keptBut w' may := by
 refine ⟨h.2.1, h.2.2, fun i hi => ?_⟩
 rw [h.1 i hi]
 obtain ⟨o, ho⟩ : ∃ o, w.heap[i]? = some o := ⟨_, Array.getElem?_eq_getElem hi⟩
 rw [ho]
 cases o with
 | cells c t fr => exact ⟨rfl, rfl, rfl, fun j _ => rfl⟩
 | map es clock => exact .inr ⟨rfl, rfl⟩
 | _ => rfl
theorem Held.frozen {w w' : World} (h : Held w w') (a : Addr) (ha : a.block < w.heap.size) : w'.frozen? a = w.frozen? a := by
 unfold World.frozen?; rw [h.1 _ ha]
theorem law_postG {H : Type} {enc : TypeId × Value → H} {E : Env} {f : FuncId} {fn : Func} {s : ChangeSpec} {fresh handsOn again : Bool} (K : Kids E.P (· < E.P.types.size)) (hz : ∀ t e, t < E.P.types.size → E.P.underlying t = some (.slice e) → 0 < E.P.cellsOf e)
  (hvars : s.vars = []) (hts : ∀ t ∈ fn.params.toList, t < E.P.types.size) {tb : TypeId} (hres : fn.resultTypes = #[tb]) (hb : E.P.underlying tb = some .bool) (hspec : ∀ ds : List (DataW H), ds.length = fn.params.size → s.fn H ds = ⟨[.lit (.bool true)], ds, []⟩)
  {W : World} (hglob : ∀ g, VRep ⟨fun _ => none, fun b => b < W.heap.size⟩ 0 W (E.G g) (.pointer (some ⟨g, 0, none⟩))) {base : Nat} {args : Array Value} {ds gs : List (DataW H)} {before : List MemPlace} (hval : ∀ (j : Nat) t v, fn.params[j]? = some t → args[j]? = some v → Value.okWide E.P W .any base t v)
  (hW : DataW.Whole enc E.P fn.params.toList s.vars false W args.toList ds gs before)
  (hwt : (DataW.weightsEach E.P (fn.params.toList ++ s.plain.varTypes E.P) (ds ++ gs)).all (· ≤ reachBytes) = true)
  (hlaw : ∀ xs, ElAll E.P fn.params.toList xs → AV.bulkL xs ≤ dBulkAll ds → PCall E f xs (.val (.bool true))) :
  Calls E.P f args W fun e W' => ∃ v, e = .returned v ∧ s.post enc E.P fn false fresh handsOn again W args v W' := by
 have hW' := hW
 obtain ⟨p, q, hA, hV, rfl, hfz, _⟩ := hW
 rw [hvars] at hV
 obtain ⟨rfl, rfl⟩ := trodVars_none hV
 simp only [List.append_nil] at hW' hfz
 have hlt : ∀ x ∈ p, x.block < W.heap.size := fun x hx => by simpa using hW'.lt x hx
 obtain ⟨xs, h1, h2, h3⟩ := read_args (C := ⟨fun _ => none, fun b => b < W.heap.size⟩) (b := base) K hz (fun b hb => hb) fn.params.toList args.toList ds p hts hA (fun j t v ht hv => hval j t v (by simpa using ht) (by simpa using hv)) (fun m hm => by
  have : s.plain.varTypes E.P = [] := by simp [ChangeSpec.plain, DataSpec.varTypes, hvars]
  rw [this] at hwt
  simp only [List.append_nil] at hwt
  exact of_decide_eq_true (List.all_eq_true.1 hwt m hm))
 have hh : HRep E ⟨fun _ => none, fun b => b < W.heap.size⟩ W [] := by
  refine ⟨fun b o h => by simp at h, fun b b' o o' _ _ _ h => by simp at h, fun b ⟨_, _, _, h, _⟩ => by simp at h, fun b hb => hb, hglob⟩
 have hl := (hlaw xs h2 h3).2 _ W args.toList hh h1
 rw [show args.toList.toArray = args from rfl] at hl
 refine hl.mono fun e W' => ?_
 rintro ⟨v, y, H', K', rfl, ⟨rfl, rfl⟩, hh', hv, ev⟩
 cases hv with
 | val _ _ =>
 have held : Held W W' := ⟨fun b hb => ev.frame b hb (by rintro ⟨_, _, _, h, _⟩; simp at h), ev.os, ev.out⟩
 have hdl : ds.length = fn.params.size := by
  have : ∀ (ts : List TypeId) (vs : List Value) (ds : List (DataW H)) (ps : List MemPlace), DataW.TrodAll enc E.P W 0 (fun _ => true) true ts vs ds ps → ds.length = ts.length := by
   intro ts
   induction ts with
   | nil => intro vs ds ps h; cases vs <;> cases ds <;> simp_all [DataW.TrodAll]
   | cons t ts ih =>
    intro vs ds ps h
    cases vs with
    | nil => simp [DataW.TrodAll] at h
    | cons v vs =>
     cases ds with
     | nil => simp [DataW.TrodAll] at h
     | cons d ds => obtain ⟨_, _, _, h2, _⟩ := h; simp [ih _ _ _ h2]
  simpa using this _ _ _ _ hA
 have hfn := hspec ds hdl
 have hA' : ∀ sp : Nat → Bool, (∀ x ∈ p, sp x.block = true) → DataW.TrodAll enc E.P W' 0 sp true fn.params.toList args.toList ds p := fun sp hsp =>
  TrodAll_carry _ _ _ _ (DataW.TrodAll.respare K hz hts hA hsp) fun x hx => held.same x (hlt x hx)
 have hR : ∀ (b : Nat) (sp : Nat → Bool) (hd : Bool), DataW.TrodAll enc E.P W' b sp hd fn.resultTypes.toList ((Value.bool true).resultList fn.resultTypes.size) [.lit (.bool true)] [] := fun b sp hd => by
  rw [hres]; exact trodAll_mk1 (shut_bool hb true)
 have hVn : ∀ sp : Nat → Bool, DataW.TrodVars enc E.P W' sp s.vars ([] : List (DataW H)) [] := fun sp => by rw [hvars]; rfl
 refine ⟨_, rfl, ds, [], p, [], p, [], hW', ?_, ?_, ?_, held.kept _, fun _ => ⟨?_, ?_⟩⟩
 · rw [List.append_nil, hfn]; exact hR _ _ _
 · rw [List.append_nil, hfn]; exact hA' _ fun x hx => by simpa using hlt x hx
 · rw [List.append_nil, hfn]; exact hVn _
 · exact ok_one (t := tb) hres rfl (okWide_bool_mk hb true)
 · refine ⟨_, [], p, ⟨p, [], trodAll_append (hA' (fun _ => true) fun _ _ => rfl) (hR _ _ _), hVn _, by simp, fun b o hp => ?_, fun h => by cases h⟩, fun x hx _ => hx⟩
  rw [held.frozen _ (hlt _ hp)]
  exact hfz b o hp
def ClF (P : Program) (m : Nat) : List TypeId → List AV → Prop
 | [], cs => cs = []
 | t :: ts, cs => ∃ a b, cs = a ++ b ∧ Cl P m t a ∧ ClF P m ts b
section
variable {P : Program} {n : Nat} {t : TypeId} {cs : List AV}
theorem Cl.int {k : IntKind} (hu : P.underlying t = some (.int k)) (h : Cl P n t cs) : ∃ i, cs = [.val (.int k i)] ∧ (Lit.int k i).wf = true := by
 cases n with
 | zero => exact h.elim
 | succ n => unfold Cl at h; rw [hu] at h; exact h
theorem Cl.bool (hu : P.underlying t = some .bool) (h : Cl P n t cs) : ∃ b, cs = [.val (.bool b)] := by
 cases n with
 | zero => exact h.elim
 | succ n => unfold Cl at h; rw [hu] at h; exact h
theorem Cl.str (hu : P.underlying t = some .string) (h : Cl P n t cs) : ∃ s : ByteArray, cs = [.val (.string s)] ∧ s.size ≤ reachBytes := by
 cases n with
 | zero => exact h.elim
 | succ n => unfold Cl at h; rw [hu] at h; exact h
theorem Cl.slice {e : TypeId} (hu : P.underlying t = some (.slice e)) (h : Cl P n t cs) : ∃ m es, cs = [.isl (P.cellsOf e) es] ∧ es.length * P.bytesOf e ≤ reachBytes ∧ ∀ x ∈ es, El P (Cl P m) e x := by
 cases n with
 | zero => exact h.elim
 | succ n => unfold Cl at h; rw [hu] at h; exact ⟨n, h⟩
theorem Cl.struct {fs : Array Field} (hu : P.underlying t = some (.struct fs)) (h : Cl P n t cs) : ∃ m, ClF P m (fs.toList.map (·.type)) cs := by
 cases n with
 | zero => exact h.elim
 | succ n =>
  unfold Cl at h; rw [hu] at h
  obtain ⟨css, rfl, hl, hc⟩ := h
  refine ⟨n, ?_⟩
  obtain ⟨fs⟩ := fs
  dsimp only at hc ⊢
  have hc' : ∀ (i : Nat) f c, fs[i]? = some f → css[i]? = some c → Cl P n f.type c := fun i f c hf hcc => hc i f c (by simpa using hf) hcc
  have hl' : css.length = fs.length := by simpa using hl
  clear hc hl hu
  induction fs generalizing css with
  | nil => cases css with
   | nil => rfl
   | cons c css => simp at hl'
  | cons f fs ih => cases css with
   | nil => simp at hl'
   | cons c css => exact ⟨c, css.flatten, by simp, hc' 0 f c rfl rfl, ih css (fun i f c hf hcc => hc' (i + 1) f c (by simpa using hf) (by simpa using hcc)) (by simpa using hl')⟩
theorem Cl.array {m : Nat} {e : TypeId} (hu : P.underlying t = some (.array m e)) (h : Cl P n t cs) : ∃ m', ClF P m' (List.replicate m e) cs := by
 cases n with
 | zero => exact h.elim
 | succ n =>
  unfold Cl at h; rw [hu] at h
  obtain ⟨css, rfl, hl, hc⟩ := h
  refine ⟨n, ?_⟩
  clear hu
  induction m generalizing css with
  | zero => cases css with
   | nil => rfl
   | cons c css => simp at hl
  | succ m ih => cases css with
   | nil => simp at hl
   | cons c css => exact ⟨c, css.flatten, by simp, hc c (by simp), ih css (by simpa using hl) (fun c hcc => hc c (by simp [hcc]))⟩
theorem El.agg {c : TypeId → List AV → Prop} {x : AV} (ha : aggT P t = true) (h : El P c t x) : ∃ cs, x = .agg cs ∧ c t cs := by
 unfold El at h; rw [ha] at h; exact h
theorem El.one {c : TypeId → List AV → Prop} {x : AV} (ha : aggT P t = false) (h : El P c t x) : c t [x] := by
 unfold El at h; rw [ha] at h; exact h.2
end
theorem list_enc {α : Type} {enc : α → AV} {ok : α → Prop} : ∀ {es : List AV}, (∀ x ∈ es, ∃ c, x = enc c ∧ ok c) → ∃ l : List α, es = mapE enc l ∧ ∀ c ∈ l, ok c
 | [], _ => ⟨[], by simp [mapE_eq], fun c h => by simp at h⟩
 | x :: es, h => by
  obtain ⟨c, rfl, hc⟩ := h x List.mem_cons_self
  obtain ⟨l, rfl, hl⟩ := list_enc fun x hx => h x (List.mem_cons_of_mem _ hx)
  exact ⟨c :: l, by simp [mapE_eq], fun c' h' => by
   rcases List.mem_cons.1 h' with rfl | h'
   · exact hc
   · exact hl c' h'⟩
end Go.Am
end
section
set_option linter.unusedVariables false
set_option linter.unusedSimpArgs false
namespace Go.Am
mutual
def flatD {H : Type} : DataW H → List Value
 | .lit (.bool b) => [.bool b]
 | .lit (.int k n) => [.int k n]
 | .agg ds => flatDs ds
 | _ => []
def flatDs {H : Type} : List (DataW H) → List Value
 | [] => []
 | d :: r => flatD d ++ flatDs r
end
def offsF (P : Program) : Nat → List Field → Option Nat
 | off, [] => some off
 | off, f :: fs => if Nat.beq f.offset off then offsF P (off + P.cellsOf f.type) fs else none
def flatTy (P : Program) : Nat → TypeId → Bool
 | 0, _ => false
 | n + 1, t => match P.underlying t with
  | some .bool => true
  | some (.int _) => true
  | some (.struct fs) => fs.toList.all (fun f => flatTy P n f.type) && (match offsF P 0 fs.toList with | some k => Nat.beq k (P.cellsOf t) | none => false)
  | some (.array m e) => flatTy P n e && Nat.beq (m * P.cellsOf e) (P.cellsOf t)
  | _ => false
theorem mapM_cons_some {α β : Type} {f : α → Option β} {a : α} {l : List α} {r : List β} (h : (a :: l).mapM f = some r) : ∃ b r', f a = some b ∧ l.mapM f = some r' ∧ r = b :: r' := by
 rw [List.mapM_cons] at h
 simp only [Option.bind_eq_bind, Option.pure_def] at h
 obtain ⟨b, hb, h⟩ := Option.bind_eq_some_iff.1 h
 obtain ⟨r', hr, h⟩ := Option.bind_eq_some_iff.1 h
 exact ⟨b, r', hb, hr, by simpa using h.symm⟩
theorem flat_fields {H : Type} {P : Program} {n : Nat} {cs : List Value} {g : TypeId → List Value → Option (DataW H × List MemPlace)} (hg : ∀ t c d p, flatTy P n t = true → g t c = some (d, p) → c = flatD d) : ∀ (fs : List Field) (off tot : Nat) (xs : List (DataW H × List MemPlace)), (∀ f ∈ fs, flatTy P n f.type = true) → offsF P off fs = some tot → (fs.mapM fun f => g f.type ((cs.drop f.offset).take (P.cellsOf f.type))) = some xs → cs.drop off = flatDs (xs.map (·.1)) ++ cs.drop tot
 | [], off, tot, xs, _, ho, hm => by
  simp [offsF] at ho; subst ho
  have : xs = [] := by simpa using hm.symm
  subst this; simp [flatDs]
 | f :: fs, off, tot, xs, hf, ho, hm => by
  simp only [offsF] at ho
  split at ho
  · rename_i hb
   have e := Nat.eq_of_beq_eq_true hb
   obtain ⟨b, r, h1, h2, rfl⟩ := mapM_cons_some hm
   have h3 := hg _ _ _ _ (hf f List.mem_cons_self) h1
   have h4 := flat_fields hg fs _ _ r (fun f hf' => hf f (List.mem_cons_of_mem _ hf')) ho h2
   rw [e] at h3
   simp only [List.map_cons, flatDs]
   rw [← h3, List.append_assoc, ← h4, ← List.drop_drop, List.take_append_drop]
  · cases ho
theorem flat_elems {H : Type} {cs : List Value} {k : Nat} {g : List Value → Option (DataW H × List MemPlace)} (hg : ∀ c d p, g c = some (d, p) → c = flatD d) : ∀ (m s : Nat) (xs : List (DataW H × List MemPlace)), ((List.range' s m).mapM fun i => g ((cs.drop (i * k)).take k)) = some xs → cs.drop (s * k) = flatDs (xs.map (·.1)) ++ cs.drop ((s + m) * k)
 | 0, s, xs, hm => by
  have : xs = [] := by simpa using hm.symm
  subst this; simp [flatDs]
 | m + 1, s, xs, hm => by
  rw [List.range'_succ] at hm
  obtain ⟨b, r, h1, h2, rfl⟩ := mapM_cons_some hm
  have h3 := hg _ _ _ h1
  have h4 := flat_elems hg m (s + 1) r h2
  simp only [List.map_cons, flatDs]
  rw [← h3, List.append_assoc, show s + (m + 1) = s + 1 + m by omega, ← h4, Nat.add_mul, Nat.one_mul, ← List.drop_drop, List.take_append_drop]
theorem trod_flat {H : Type} {enc : TypeId × Value → H} {P : Program} {w : World} {base : Nat} {sp : Nat → Bool} {held : Bool} : ∀ (fuel n : Nat) (t : TypeId) (cs : List Value) (d : DataW H) (p : List MemPlace), flatTy P n t = true → DataW.trod enc P w base sp held fuel t cs = some (d, p) → cs = flatD d
 | 0, _, _, _, _, _, _, h => by simp [DataW.trod] at h
 | fuel + 1, 0, _, _, _, _, hf, _ => by cases hf
 | fuel + 1, n + 1, t, cs, d, p, hf, h => by
  unfold flatTy at hf
  split at hf
  · rename_i hu
   obtain ⟨b, rfl, e⟩ := DataW.trod_bool hu h
   cases e; rfl
  · rename_i k hu
   obtain ⟨z, rfl, e, _⟩ := DataW.trod_int hu h
   cases e; rfl
  · rename_i fs hu
   simp only [Bool.and_eq_true, List.all_eq_true] at hf
   obtain ⟨h1, h2⟩ := hf
   split at h2
   · rename_i k hk
    have h2 := Nat.eq_of_beq_eq_true h2
    simp only [DataW.trod, hu] at h
    split at h
    · rename_i hl
     obtain ⟨xs, hm, hx⟩ := Option.map_eq_some_iff.1 h
     have := flat_fields (n := n) (fun t c d p a b => trod_flat fuel n t c d p a b) fs.toList 0 k xs h1 hk hm
     rw [List.drop_zero, h2, ← hl, List.drop_length, List.append_nil] at this
     cases hx
     exact this
    · cases h
   · cases h2
  · rename_i m e hu
   simp only [Bool.and_eq_true] at hf
   have h2 := Nat.eq_of_beq_eq_true hf.2
   simp only [DataW.trod, hu] at h
   split at h
   · rename_i hl
    obtain ⟨xs, hm, hx⟩ := Option.map_eq_some_iff.1 h
    rw [List.range_eq_range'] at hm
    have := flat_elems (k := P.cellsOf e) (fun c d p b => trod_flat fuel n e c d p hf.1 b) m 0 xs hm
    rw [Nat.zero_mul, List.drop_zero, Nat.zero_add, h2, ← hl, List.drop_length, List.append_nil] at this
    cases hx
    exact this
   · cases h
  · cases hf
theorem laid_cells {P : Program} {W : World} : ∀ {laid : List (String × DataW Unit)} {ps : List MemPlace}, DataW.LaidVars P W laid ps → ∀ {name : String} {d : DataW Unit}, (name, d) ∈ laid → ∀ {g n : Nat} {t : TypeId}, P.globalNamed name = some g → (P.globals[g]?).map (·.type) = some t → flatTy P n t = true → W.var? P name = some (flatD d).toArray
 | [], _, _, _, _, hm, _, _, _, _, _, _ => by cases hm
 | (n0, d0) :: r, ps, h, name, d, hm, g, n, t, hg, ht, hf => by
  obtain ⟨g', t', cs, fuel, p, q, hg', ht', hvar, hd, hr, _⟩ := h
  rcases List.mem_cons.1 hm with e | hm
  · cases e
   obtain rfl := Option.some.inj (hg.symm.trans hg')
   obtain rfl := Option.some.inj (ht.symm.trans ht')
   rw [hvar, ← trod_flat fuel n t _ _ _ hf hd]
  · exact laid_cells hr hm hg ht hf
theorem glob_rep {P : Program} {W : World} {name : String} {g : Nat} {vs : List Value} {cs : List AV} (hv : W.var? P name = some vs.toArray) (hg : P.globalNamed name = some g) (hcs : cs = vs.map .val) (hna : ∀ v ∈ vs, ∀ c, v ≠ .agg c) :
  VRep ⟨fun _ => none, fun b => b < W.heap.size⟩ 0 W (.iptr cs) (.pointer (some ⟨g, 0, none⟩)) := by
 unfold World.var? at hv
 rw [hg, Option.bind_some] at hv
 split at hv
 · rename_i c ty fz hh
  obtain rfl := Option.some.inj hv
  subst hcs
  refine .iptr _ (fun j => vs.getD j undef) g 0 (Array.getElem?_eq_some_iff.1 hh).1 (fun j c hj => ?_) (fun j c hj => ?_)
  · rw [List.getElem?_map] at hj
   obtain ⟨v, hv, rfl⟩ := Option.map_eq_some_iff.1 hj
   simp [World.cell?, hh, List.getD_eq_getElem?_getD, hv]
  · rw [List.getElem?_map] at hj
   obtain ⟨v, hv, rfl⟩ := Option.map_eq_some_iff.1 hj
   rw [List.getD_eq_getElem?_getD, hv]
   exact .val _ (hna v (List.mem_of_getElem? hv))
 · cases hv
end Go.Am
end
section
set_option linter.unusedVariables false
set_option linter.unusedSimpArgs false
namespace Go.Am
open Go
section
variable {E : Env} {n N : Nat} {F : AFr} {H : AHeap}
theorem simT {tail : List AOper} {ops : List AOper} {B chain effs : List Nat} {V : List AV} {Hs : List AHeap} {Q : AFr → AHeap → Prop} (wf : WfD ops B) (hB : ∀ i k, (B.getD i 0).testBit k = true → Anc ops k i) (hV : V.length = ops.length) (hHs : Hs.length = chain.length + 1) (hnd : chain.Nodup) (hef : ∀ i, effs.contains i = chain.contains i)
  (hD : ∀ (i : Nat) o v, ops[i]? = some o → V[i]? = some v → DOp E B chain (finF F ops V) Hs i o v) (hQ : ∀ F' Hm, Hs[chain.length]? = some Hm → (∀ t, F'.get t = (finF F ops V).get t) → AOps E n N tail F' Hm Q) :
  ∀ (l S : List Nat) (Fc : AFr) (j : Nat) (Hj : AHeap), Runs ops S l → Shut ops S → (∀ i ∈ S, ∀ o v d, ops[i]? = some o → V[i]? = some v → o.dst = some d → Fc.get d = v) → (∀ t, (∀ (i : Nat) o, ops[i]? = some o → o.dst ≠ some t) → Fc.get t = F.get t) →
   Hs[j]? = some Hj → chain.drop j = l.filter (effs.contains ·) → (∀ e ∈ chain.take j, e ∈ S) → AOps E n N ((l.map fun i => ops.getD i default) ++ tail) Fc Hj Q := by
 have hfin : ∀ (i : Nat) o v d, ops[i]? = some o → V[i]? = some v → o.dst = some d → (finF F ops V).get d = v := fun i o v d h1 h2 h3 => finF_some ops V F i o v d h1 h2 h3 fun k o' hk hd => wf.dst i k o o' d h1 hk h3 hd
 have getV : ∀ (i : Nat) o, ops[i]? = some o → ∃ v, V[i]? = some v := fun i o h => ⟨_, List.getElem?_eq_getElem (by have := (List.getElem?_eq_some_iff.1 h).1; omega)⟩
 have look : ∀ (S : List Nat) (Fc : AFr), Shut ops S → (∀ i ∈ S, ∀ o v d, ops[i]? = some o → V[i]? = some v → o.dst = some d → Fc.get d = v) → (∀ t, (∀ (i : Nat) o, ops[i]? = some o → o.dst ≠ some t) → Fc.get t = F.get t) →
   ∀ (i : Nat) (o : AOper), ops[i]? = some o → (∀ k ∈ o.after, k ∈ S) → ∀ t ∈ o.looks, Fc.get t = (finF F ops V).get t := by
  intro S Fc hS ha hb i o hi haft t ht
  rcases Classical.em (∃ (k : Nat) (o' : AOper), ops[k]? = some o' ∧ o'.dst = some t) with ⟨k, o', hk, hd⟩ | hno
  · obtain ⟨v, hv⟩ := getV k o' hk
   have hkS := (hB i k (wf.look i k o o' t hi hk ht hd)).mem hS ⟨o, hi, haft⟩
   rw [hfin k o' v t hk hv hd]; exact ha k hkS o' v t hk hv hd
  · have hno' : ∀ (i : Nat) o, ops[i]? = some o → o.dst ≠ some t := fun k o' hk hd => hno ⟨k, o', hk, hd⟩
   rw [hb t hno', finF_none ops V F t hno']
 intro l
 induction l with
 | nil =>
  intro S Fc j Hj hr hS ha hb hj hch htk
  have hjle : j = chain.length := by
   have h1 : chain.length ≤ j := by simpa using List.drop_eq_nil_iff.1 hch
   have h2 := (List.getElem?_eq_some_iff.1 hj).1
   omega
  subst hjle
  rw [List.map_nil, List.nil_append]
  refine hQ Fc Hj hj fun t => ?_
  rcases Classical.em (∃ (k : Nat) (o' : AOper), ops[k]? = some o' ∧ o'.dst = some t) with ⟨k, o', hk, hd⟩ | hno
  · obtain ⟨v, hv⟩ := getV k o' hk
   rw [hfin k o' v t hk hv hd]; exact ha k (hr k (List.getElem?_eq_some_iff.1 hk).1) o' v t hk hv hd
  · have hno' : ∀ (i : Nat) o, ops[i]? = some o → o.dst ≠ some t := fun k o' hk hd => hno ⟨k, o', hk, hd⟩
   rw [hb t hno', finF_none ops V F t hno']
 | cons i l ih =>
  intro S Fc j Hj hr hS ha hb hj hch htk
  have hnot := hr.notin
  obtain ⟨h1, ⟨o, ho, haft⟩, h3⟩ := hr
  obtain ⟨v, hv⟩ := getV i o ho
  have hget : ops.getD i default = o := by simp [List.getD_eq_getElem?_getD, ho]
  rw [List.map_cons, hget, List.cons_append]
  have hS' : Shut ops (i :: S) := by
   intro x hx o' ho' k hk
   rcases List.mem_cons.1 hx with rfl | hx
   · rw [ho] at ho'; cases ho'; exact List.mem_cons_of_mem _ (haft k hk)
   · exact List.mem_cons_of_mem _ (hS x hx o' ho' k hk)
  have hlk := look S Fc hS ha hb i o ho haft
  have hwant := looks_want hlk
  have hev := looks_ev (G := E.G) hlk
  have hop : ∀ H, evalOp E.G o.op Fc H = evalOp E.G o.op (finF F ops V) H := fun H => evalOp_congr hev
  -- the frame behind the operation
  have ha' : ∀ k ∈ i :: S, ∀ o' v' d, ops[k]? = some o' → V[k]? = some v' → o'.dst = some d → (Fc.set o.dst v).get d = v' := by
   intro k hk o' v' d hk1 hk2 hk3
   rw [AFr.get_set]
   by_cases hd : o.dst = some d
   · have := wf.dst i k o o' d ho hk1 hd hk3
    subst this
    rw [hv] at hk2; cases hk2; rw [if_pos hd]
   · rw [if_neg hd]
    rcases List.mem_cons.1 hk with rfl | hk
    · rw [ho] at hk1; cases hk1; exact absurd hk3 hd
    · exact ha k hk o' v' d hk1 hk2 hk3
  have hb' : ∀ t, (∀ (i : Nat) o, ops[i]? = some o → o.dst ≠ some t) → (Fc.set o.dst v).get t = F.get t := by
   intro t ht; rw [AFr.get_set, if_neg (ht i o ho)]; exact hb t ht
  have hpos : chain.contains i = false → okpos B chain i j = true := by
   intro hc
   simp only [okpos, Bool.and_eq_true, List.all_eq_true, Bool.not_eq_true']
   refine ⟨fun e he => ?_, fun e he => ?_⟩
   · cases hb2 : (B.getD e 0).testBit i with
    | false => rfl
    | true =>
     have heS := htk e he
     have hanc := hB e i hb2
     obtain ⟨oe, hoe⟩ : ∃ oe, ops[e]? = some oe := by
      cases hanc with
      | one h2 _ => exact ⟨_, h2⟩
      | more h2 _ _ => exact ⟨_, h2⟩
     exact absurd (hanc.mem hS ⟨oe, hoe, hS e heS oe hoe⟩) h1
   · cases hb2 : (B.getD i 0).testBit e with
    | false => rfl
    | true =>
     have heS := (hB i e hb2).mem hS ⟨o, ho, haft⟩
     rw [hch] at he
     exact absurd heS (hnot e (List.mem_filter.1 he).1)
  have quiet : chain.contains i = false → AOps E n N ((l.map fun i => ops.getD i default) ++ tail) (Fc.set o.dst v) Hj Q := by
   intro hc
   refine ih (i :: S) _ j Hj h3 hS' ha' hb' hj ?_ (fun e he => List.mem_cons_of_mem _ (htk e he))
   rw [hch, List.filter_cons_of_neg (by rw [hef, hc]; simp)]
  have loud : ∀ j' H', chain[j']? = some i → Hs[j' + 1]? = some H' → j' = j ∧ AOps E n N ((l.map fun i => ops.getD i default) ++ tail) (Fc.set o.dst v) H' Q := by
   intro j' H' hj' hH'
   have hc : chain.contains i = true := by simpa using List.mem_of_getElem? hj'
   have hd : chain.drop j = i :: l.filter (effs.contains ·) := by rw [hch, List.filter_cons_of_pos (by rw [hef, hc])]
   have hij : chain[j]? = some i := by
    have : (chain.drop j)[0]? = some i := by rw [hd]; rfl
    simpa using this
   have hjj : j' = j := by
    obtain ⟨a1, a2⟩ := List.getElem?_eq_some_iff.1 hj'
    obtain ⟨b1, b2⟩ := List.getElem?_eq_some_iff.1 hij
    exact (List.getElem_inj hnd).1 (a2.trans b2.symm)
   subst hjj
   refine ⟨rfl, ih (i :: S) _ (j' + 1) H' h3 hS' ha' hb' hH' ?_ fun e he => ?_⟩
   · have := congrArg (List.drop 1) hd
    rw [List.drop_drop] at this
    simpa using this
   · rw [List.take_add_one, hij] at he
    rcases List.mem_append.1 he with he | he
    · exact List.mem_cons_of_mem _ (htk e he)
    · simp at he; subst he; exact List.mem_cons_self
  cases hD i o v ho hv with
  | skip hg hv0 hc => exact aops_skipG (looks_skip hlk hg) hv0 (quiet hc)
  | free hg h hc => obtain ⟨c, e1, e2⟩ := h Hj; exact aops_op (by rw [hwant]; exact hg) (by rw [hop]; exact e1) e2 (quiet hc)
  | look hg h hc => obtain ⟨c, e1, e2⟩ := h j Hj hj (hpos hc); exact aops_op (by rw [hwant]; exact hg) (by rw [hop]; exact e1) e2 (quiet hc)
  | call f xs args hg ho2 harg hen h hc =>
   refine aops_call (by rw [hwant]; exact hg) ho2 ?_ hen (h j Hj hj (hpos hc)) (by rintro v' H1 ⟨rfl, rfl⟩; exact quiet hc)
   rw [← harg]; exact List.map_congr_left fun x hx => hev x (by rw [ho2]; exact hx)
  | eff j' H1 H2 c hg hj' e1 e2 h hc =>
   obtain ⟨rfl, hk⟩ := loud j' H2 hj' e2
   rw [hj] at e1; cases e1
   exact aops_op (by rw [hwant]; exact hg) (by rw [hop]; exact h) hc hk
  | ecall j' H1 H2 f xs args hg hj' e1 e2 ho2 harg hen h =>
   obtain ⟨rfl, hk⟩ := loud j' H2 hj' e2
   rw [hj] at e1; cases e1
   refine aops_call (by rw [hwant]; exact hg) ho2 ?_ hen h (by rintro v' H1 ⟨rfl, rfl⟩; exact hk)
   rw [← harg]; exact List.map_congr_left fun x hx => hev x (by rw [ho2]; exact hx)
theorem awp_runs {ops : List AOper} {Q : AExit → AFr → AHeap → Prop} (hm : E.P.follows .mixedOrders = true) (haft : ∀ (i : Nat) (o : AOper), ops[i]? = some o → ∀ k ∈ o.after, k < i)
  (h : ∀ l, Runs ops [] l → AOps E n N (l.map fun i => ops.getD i default) F H (fun F' H' => Q .normal F' H')) : AWP E n N (.draw ops) F H Q := by
 refine awp_reduce fun c hc hns K w tmps T rs k cs h1 h2 h3 h4 => ?_
 cases c with
 | region id os d =>
  simp only [prep] at hc
  split at hc
  · rename_i hd
   subst hd
   simp only [ACode.draw.injEq] at hc
   let t := w.tape w.drawn (.order T.fn id)
   have hlen : ops.length = os.size := by rw [← hc]; simp
   have hruns : Runs ops [] (Region.schedule (E.P.follows .mixedOrders) os t) := by
    rw [hm]
    simp only [Region.schedule, Bool.true_or, if_true, Region.linearise]
    refine go_runs hc.symm haft os.size t _ [] (by simp) (fun i hi => by simp [hi]) (by have := List.length_filter_le (fun i => !([] : List Nat).contains i) (List.range os.size); simpa using this)
   generalize hsch : Region.schedule (E.P.follows .mixedOrders) os t = l at hruns
   have key := h l hruns
   have hlm : l.map (fun i => (os[i]?).map (prepOper E.P n os)) = (l.map fun i => ops.getD i default).map some := by
    rw [List.map_map]
    refine List.map_congr_left fun i hi => ?_
    have hi' : i < ops.length := by
     have : ∀ (l S : List Nat), Runs ops S l → ∀ e ∈ l, e < ops.length := by
      intro l
      induction l with
      | nil => intro S _ e he; cases he
      | cons x l ih =>
       intro S hr e he
       rcases List.mem_cons.1 he with rfl | he
       · obtain ⟨o, ho, _⟩ := hr.2.1; exact (List.getElem?_eq_some_iff.1 ho).1
       · exact ih _ hr.2.2 e he
     exact this l [] hruns i hi
    have : ops[i]? = (os[i]?).map (prepOper E.P n os) := by rw [← hc]; simp
    rw [← this]
    simp [List.getD_eq_getElem?_getD, hi']
   obtain ⟨g1, g2⟩ := h1.drew
   obtain ⟨F1, H1, K1, w1, t1, q, a1, a2, a3, a4⟩ := key os l hlm K w.drew tmps T (rs.map mark) k cs g1 ((Ev.mv h1 g2).frep h2) h3
   have evA := (g2.mono h3).trans a3
   refine ⟨.normal, F1, H1, K1, w1, t1, [], k, q, a1, a2, evA, h4.ev evA, (fun r hr => by cases hr), .normal, .head st_region_draw ?_⟩
   rw [hsch]
   exact a4.trans (.one st_region_end)
  · cases hc
 | rangeFunc f ps a b => simp only [prep] at hc; split at hc <;> cases hc
 | scope a => exact absurd rfl (hns a)
 | _ => cases hc
theorem runs_last {ops1 : List AOper} {o : AOper} (ha : ∀ k, k < ops1.length → k ∈ o.after) : ∀ (l S : List Nat), Runs (ops1 ++ [o]) S l → ops1.length ∉ S → ∃ l1, l = l1 ++ [ops1.length] ∧ Runs ops1 S l1 ∧ ∀ x ∈ l1, x < ops1.length
 | [], S, h, hm => absurd (h ops1.length (by simp)) hm
 | i :: l, S, h, hm => by
  obtain ⟨h1, ⟨oi, h2, h3⟩, h4⟩ := h
  have hi : i < ops1.length + 1 := by have := (List.getElem?_eq_some_iff.1 h2).1; simpa using this
  by_cases he : i = ops1.length
  · subst he
   have hoi : oi = o := by simp at h2; exact h2.symm
   subst hoi
   refine ⟨[], ?_, fun k hk => h3 k (ha k hk), by simp⟩
   cases l with
   | nil => rfl
   | cons x l =>
    obtain ⟨g1, ⟨ox, g2, _⟩, _⟩ := h4
    have hx : x < ops1.length + 1 := by have := (List.getElem?_eq_some_iff.1 g2).1; simpa using this
    exfalso
    apply g1
    by_cases hxe : x = ops1.length
    · simp [hxe]
    · exact List.mem_cons_of_mem _ (h3 x (ha x (by omega)))
  · obtain ⟨l1, rfl, g2, g3⟩ := runs_last ha l (i :: S) h4 (by simp only [List.mem_cons, not_or]; exact ⟨fun h => he h.symm, hm⟩)
   refine ⟨i :: l1, rfl, ⟨h1, ⟨oi, ?_, h3⟩, g2⟩, fun x hx => ?_⟩
   · rwa [List.getElem?_append_left (by omega)] at h2
   · rcases List.mem_cons.1 hx with rfl | hx
    · omega
    · exact g3 x hx
theorem tr_drawL {Q : AExit → AFr → AHeap → Prop} {k : List KI} {ops ops1 : List AOper} {o : AOper} {B : List Nat} (hm : E.P.follows .mixedOrders = true) (hops : ops = ops1 ++ [o]) (hl : (List.range ops1.length).all (fun i => o.after.contains i) = true) (hal : o.after.all (Nat.blt · ops1.length) = true) (hB0 : befs ops1 [] = B) (hwf : wfDraw ops1 B = true)
  (h : TR E ops1 F H (fun ks Hs F' H' => chainsFrom B (effIdx 0 ks).length (effIdx 0 ks) = [effIdx 0 ks] ∧ LooksL B (effIdx 0 ks) (H :: Hs) 0 ks ∧ Holds E n N Q (.ops [o]) k F' H')) : Holds E n N Q (.code (.draw ops)) k F H := by
 subst hops hB0
 obtain ⟨V, ks, Hs, F', H', ht, h1, h2, h3⟩ := h
 have wf := wfDraw_spec hwf
 have hB : ∀ i k, ((befs ops1 []).getD i 0).testBit k = true → Anc ops1 k i := by
  have := befs_spec ops1 [] [] rfl (fun i k hk => by simp at hk)
  simpa using this
 obtain ⟨m1, m2, m3⟩ := ht.kinds3
 have ha : ∀ k, k < ops1.length → k ∈ o.after := fun k hk => by
  have := List.all_eq_true.1 hl k (List.mem_range.2 hk)
  simpa using this
 have hltP : ∀ e ∈ effIdx 0 ks, e < ops1.length := fun x hx => by have := effIdx_lt hx; omega
 refine awp_runs hm (fun i oi hi k hk => ?_) fun l hr => ?_
 · by_cases he : i < ops1.length
  · rw [List.getElem?_append_left he] at hi
   exact wf.aft i oi hi k hk
  · have hi2 : i < ops1.length + 1 := by have := (List.getElem?_eq_some_iff.1 hi).1; simpa using this
   have : i = ops1.length := by omega
   subst this
   have hoi : oi = o := by simp at hi; exact hi.symm
   subst hoi
   exact Nat.le_of_ble_eq_true (List.all_eq_true.1 hal k hk)
 obtain ⟨l1, rfl, hr1, hlt⟩ := runs_last ha l [] hr (by simp)
 have hmap : ((l1 ++ [ops1.length]).map fun i => (ops1 ++ [o]).getD i default) = (l1.map fun i => ops1.getD i default) ++ [o] := by
  rw [List.map_append]
  congr 1
  · refine List.map_congr_left fun x hx => ?_
   have := hlt x hx
   simp [List.getD_eq_getElem?_getD, List.getElem?_append_left this]
  · simp [List.getD_eq_getElem?_getD]
 rw [hmap]
 have hch := chains_mem (B := befs ops1 []) hB (effIdx 0 ks) hltP _ [] (effIdx 0 ks).length (fun i hi => by cases hi) hr1 (List.length_filter_le _ _)
 have hself : ((effIdx 0 ks).filter fun e => !([] : List Nat).contains e) = effIdx 0 ks := by simp
 rw [hself, h1, List.mem_singleton] at hch
 have hall : ∀ e, e < ops1.length → e ∈ l1 := fun e he => by
  rcases Runs.mem_all hr1 e he with h | h
  · cases h
  · exact h
 have hef : ∀ i, (effIdx 0 ks).contains i = (effIdx 0 ks).contains i := fun _ => rfl
 refine simT (E := E) (n := n) (N := N) (F := F) (tail := [o]) (V := V) (Hs := H :: Hs) (effs := effIdx 0 ks) (chain := effIdx 0 ks) wf hB ht.len.1 (by simp [m2 0]) (effIdx_nodup _ _) hef (fun i oi v ho hv => ?_) (fun Fx Hm hHm hg => ?_) l1 [] F 0 H hr1 (fun i hi => by cases hi) (fun i hi => by cases hi) (fun t _ => rfl) rfl (by simpa using hch.symm) (fun e he => by simp at he)
 · rw [← ht.len.2]
  have := ht.dop (B := befs ops1 []) 0 [] [] rfl (fun x hx => by cases hx) h2 (fun i oi ho t ht k o' hik hk hd => by
   have := (hB i k (wf.look i k oi o' t ho hk ht hd)).lt wf
   omega) i oi v ho hv
  simpa using this
 · have e : Hm = H' := by
   rw [← m2 0] at hHm
   rw [hHm] at m3
   exact Option.some.inj m3
  subst e
  rw [← ht.len.2] at hg
  exact AOps.weak (fun t => .inl (hg t).symm) h3
theorem tr_drawX {Q : AExit → AFr → AHeap → Prop} {k : List KI} {ops ops1 : List AOper} {o : AOper} {B : List Nat} (hm : E.P.follows .mixedOrders = true) (h1 : ops.dropLast = ops1) (h2 : ops.getLast? = some o) (hl : (List.range ops1.length).all (fun i => o.after.contains i) = true) (hal : o.after.all (Nat.blt · ops1.length) = true) (hB0 : befs ops1 [] = B) (hwf : wfDraw ops1 B = true)
  (h : TR E ops1 F H (fun ks Hs F' H' => chainsFrom B (effIdx 0 ks).length (effIdx 0 ks) = [effIdx 0 ks] ∧ LooksL B (effIdx 0 ks) (H :: Hs) 0 ks ∧ Holds E n N Q (.ops [o]) k F' H')) : Holds E n N Q (.code (.draw ops)) k F H := by
 refine tr_drawL hm ?_ hl hal hB0 hwf h
 obtain ⟨l, rfl⟩ := List.getLast?_eq_some_iff.1 h2
 rw [← h1, List.dropLast_concat]
theorem on_condJ {Q : AExit → AFr → AHeap → Prop} {k : List KI} {x : Opd} {a b : ACode} {t : Bool} (F0 : AFr) (H0 : AHeap) (hx : x.ev E.G F = .val (.bool t)) (h1 : t = true → Holds E n N (fun e F' H' => e = .normal ∧ Ent E n N F' H' F0 H0) (.code a) [] F H) (h2 : t = false → Holds E n N (fun e F' H' => e = .normal ∧ Ent E n N F' H' F0 H0) (.code b) [] F H)
  (tail : Holds E n N Q (.out .normal) k F0 H0) : Holds E n N Q (.code (.cond x a b)) k F H := by
 refine on_cond hx (fun ht => ?_) (fun ht => ?_)
 · refine AWP.entEnd (AWP.mono (h1 ht) ?_)
  rintro e F' H' ⟨rfl, he⟩
  exact ⟨F0, H0, he, tail⟩
 · refine AWP.entEnd (AWP.mono (h2 ht) ?_)
  rintro e F' H' ⟨rfl, he⟩
  exact ⟨F0, H0, he, tail⟩
end
end Go.Am
end
section
namespace Go.Am
open Go.Shelf Go.Sort Go.Proofs
def sortI (zs : List Int) : List Int := zs.mergeSort fun x y => decide (x ≤ y)
theorem putCells_len (d : Array Int) (off : Nat) (c : Array Value) : (putCells (Value.int .i64) off d c).size = c.size := by simp [putCells]
theorem putCells_at {ts : List Int} {off : Nat} {c : Array Value} {j : Nat} (hj : j < ts.length) (hc : off + j < c.size) : (putCells (Value.int .i64) off ts.toArray c)[off + j]? = some (.int .i64 ts[j]) := by
 simp [putCells, hj, hc]
theorem sort_nil : sortI [] = [] := by simp [sortI]
theorem sort_acall {E : Env} {ρ : Ren} (Ly : Lays.n189 E.P ρ) (zs : List Int) (hsz : zs.length < 4611686018427387904) :
  ACall E (ρ.f 189) [.sl 0 1 0 zs.length] [.arr 1 (zs.map fun z => .val (.int .i64 z))] fun v H' => v = .tup [] ∧ H' = [.arr 1 ((sortI zs).map fun z => .val (.int .i64 z))] := by
 intro K w ys hh hv
 have hlen : (sortI zs).length = zs.length := by simp [sortI, List.length_mergeSort]
 obtain ⟨y, rfl⟩ : ∃ y, ys = [y] := by
  match ys, hv.1 with
  | [y], _ => exact ⟨y, rfl⟩
 have v0 := hv.2 0 _ y rfl rfl
 have tupr : ∀ (K : Ctx) (M : Nat) (w : World), VRep K M w (.tup []) (.tuple #[]) := fun K M w => .tup [] [] rfl fun i c y h => by simp at h
 have nil : zs = [] → ∀ (p : Option Addr), y = .slice p 0 0 → Calls E.P (ρ.f 189) [y].toArray w fun e w' => ∃ v y H' K', e = .returned y ∧ (v = .tup [] ∧ H' = [.arr 1 ((sortI zs).map fun z => .val (.int .i64 z))]) ∧ HRep E K' w' H' ∧ VRep K' H'.length w' v y ∧ Ev 1 K [.arr 1 (zs.map fun z => .val (.int .i64 z))] w K' H' w' := by
  rintro rfl p rfl
  refine (Any.slices_Sort_int_none Ly p 0 w).mono ?_
  rintro e w' ⟨rfl, rfl⟩
  exact ⟨_, _, _, K, rfl, ⟨rfl, rfl⟩, by rw [sort_nil]; exact hh, tupr _ _ _, by rw [sort_nil]; exact Ev.refl _ _ _ _ (Nat.le_refl _)⟩
 generalize hz : zs.length = m at v0
 cases v0 with
 | slnil _ _ _ hM => exact nil (List.length_eq_zero_iff.1 hz) none rfl
 | sl0 _ _ _ a hM => exact nil (List.length_eq_zero_iff.1 hz) (some a) rfl
 | sl _ _ _ _ cap blk base hM hγ hle hs =>
  subst hz
  by_cases h0 : zs = []
  · subst h0
   refine (Any.slices_Sort_int_none Ly _ cap w).mono ?_
   rintro e w' ⟨rfl, rfl⟩
   exact ⟨_, _, _, K, rfl, ⟨rfl, rfl⟩, by rw [sort_nil]; exact hh, tupr _ _ _, by rw [sort_nil]; exact Ev.refl _ _ _ _ (Nat.le_refl _)⟩
  have ho := hh.obj 0 _ rfl
  rw [hγ] at ho
  generalize hes : (zs.map fun z => AV.val (.int .i64 z)) = es at ho
  cases ho with
  | arr _ _ _ _ c ty hb hk hl =>
   have hel : es.length = zs.length := by rw [← hes]; simp
   have hat : ∀ j (hj : j < zs.length), c[base + j]? = some (.int .i64 zs[j]) := by
    intro j hj
    have he : es[j]? = some (.val (.int .i64 zs[j])) := by rw [← hes]; simp [hj]
    obtain ⟨y, h1, h2⟩ := hl j _ he 0 _ rfl
    cases h2
    simpa using h1
   have hH : Go.Sort.Holds (Value.int .i64) w blk base zs.toArray := by
    intro j hj
    have hj' : j < zs.length := by simpa using hj
    refine ⟨?_, by simp [World.frozen?, hb]⟩
    simp only [World.cell?, hb, Option.isSome_none, Bool.false_eq_true, if_false]
    rw [hat j hj']; simp [hj']
   have hblk : blk < w.heap.size := (Array.getElem?_eq_some_iff.1 hb).1
   have hc := Any.slices_Sort_int Ly blk base cap zs w hH hblk hsz
   have e0 : base + 0 * 1 = base := by omega
   rw [e0]
   refine hc.mono ?_
   rintro e w' ⟨rfl, n, os, rfl⟩
   have hnew : ∀ k, k < w.heap.size → k ≠ blk → (grow (putRow (Value.int .i64) (Sort.ahead w n) blk base (zs.mergeSort fun x y => decide (x ≤ y)).toArray) os).heap[k]? = w.heap[k]? := by
    intro k hk hne
    rw [heap_grow_old _ _ (by simpa using hk)]
    simp [putRow, mapBlock, Sort.ahead, Array.getElem?_modify, Ne.symm hne]
   have hblk' : (grow (putRow (Value.int .i64) (Sort.ahead w n) blk base (zs.mergeSort fun x y => decide (x ≤ y)).toArray) os).heap[blk]? = some (.cells (putCells (Value.int .i64) base (sortI zs).toArray c) ty (0, 0)) := by
    rw [heap_grow_old _ _ (by simpa using hblk)]
    simp [putRow, mapBlock, Sort.ahead, Array.getElem?_modify, hb, onCells, sortI]
   generalize hw : (grow (putRow (Value.int .i64) (Sort.ahead w n) blk base (zs.mergeSort fun x y => decide (x ≤ y)).toArray) os) = w' at hnew hblk'
   have hsize : w.heap.size ≤ w'.heap.size := by rw [← hw]; simp [grow, putRow, mapBlock, Sort.ahead]
   have hos : w'.os = w.os := by rw [← hw]; rfl
   have hout : w'.output = w.output := by rw [← hw]; rfl
   have own : ∀ b, owned K [.arr 1 es] b ↔ b = blk := by
    intro b
    constructor
    · rintro ⟨i, o, base', h1, h2, h3⟩
     cases i with
     | zero => rw [hγ] at h3; cases h3; rfl
     | succ i => simp at h1
    · rintro rfl; exact ⟨0, _, base, rfl, trivial, hγ⟩
   have hnI : ¬ K.I blk := hh.disj blk ⟨0, _, base, rfl, trivial, hγ⟩
   have cells : ∀ (b : Nat) c1 ty fz, w.heap[b]? = some (.cells c1 ty fz) → ∃ c', w'.heap[b]? = some (.cells c' ty fz) ∧ c'.size = c1.size := by
    intro b c1 ty1 fz h1
    by_cases hbb : b = blk
    · subst hbb; rw [hb] at h1; cases h1; exact ⟨_, hblk', putCells_len _ _ _⟩
    · exact ⟨c1, by rw [hnew b (Array.getElem?_eq_some_iff.1 h1).1 hbb]; exact h1, rfl⟩
   refine ⟨_, _, _, K, rfl, ⟨rfl, rfl⟩, ⟨?_, ?_, ?_, ?_, ?_⟩, tupr _ _ _, ⟨fun _ _ => rfl, by simp, fun _ h => h, fun _ h => .inl h, ?_, ?_, hsize, cells, ?_, hos, hout⟩⟩
   · intro b o hbo
    cases b with
    | succ b => simp at hbo
    | zero =>
     simp at hbo; subst hbo
     rw [hγ]
     refine .arr blk base 1 _ _ ty hblk' (fun i e he => ?_) (fun i e he => ?_)
     · rw [List.getElem?_map] at he
      obtain ⟨z, _, rfl⟩ := Option.map_eq_some_iff.1 he
      rfl
     · rw [List.getElem?_map] at he
      obtain ⟨z, hz, rfl⟩ := Option.map_eq_some_iff.1 he
      intro j x hx
      cases j with
      | succ j => simp [AV.cells] at hx
      | zero =>
       simp [AV.cells] at hx; subst hx
       have hi : i < (sortI zs).length := (List.getElem?_eq_some_iff.1 hz).1
       refine ⟨.int .i64 z, ?_, .val _ (by intro cs; simp)⟩
       have hcs : base + i < c.size := by
        have := hat i (by omega)
        exact (Array.getElem?_eq_some_iff.1 this).1
       have := putCells_at (off := base) (c := c) (ts := sortI zs) hi hcs
       have hz' : (sortI zs)[i] = z := (List.getElem?_eq_some_iff.1 hz).2
       rw [hz'] at this
       simpa using this
   · intro b b' o o' blk base base' h1 h2
    cases b with
    | succ b => simp at h1
    | zero => cases b' with
     | succ b => simp at h2
     | zero => intros; rfl
   · rintro b ⟨i, o, base', h1, h2, h3⟩ hi
    cases i with
    | zero => rw [hγ] at h3; cases h3; exact hnI hi
    | succ i => simp at h1
   · intro b hi; exact Nat.lt_of_lt_of_le (hh.low b hi) hsize
   · intro g
    refine VRep.mono (K := K) (K' := K) (fun _ _ => rfl) (Nat.le_refl _) (fun _ h => h) (fun b hi o => ?_) cells (hh.glob g)
    have hne : b ≠ blk := by rintro rfl; exact hnI hi
    unfold World.cell?
    rw [hnew b (hh.low b hi) hne]
   · rintro b ⟨i, o, base', h1, h2, h3⟩
    cases i with
    | zero => left; rw [← hes]; exact ⟨0, _, base', rfl, trivial, h3⟩
    | succ i => simp at h1
   · intro b hb1 hno
    refine hnew b hb1 ?_
    rintro rfl
    exact hno (by rw [← hes]; exact ⟨0, _, base, rfl, trivial, hγ⟩)
   · intro b r hr
    by_cases hbb : b = blk
    · subst hbb; rw [hb] at hr; cases hr
    · exact ⟨r, by rw [hnew b (Array.getElem?_eq_some_iff.1 hr).1 hbb]; exact hr⟩
end Go.Am
end
