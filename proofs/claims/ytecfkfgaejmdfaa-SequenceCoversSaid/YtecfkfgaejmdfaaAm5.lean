/- The abstract machine that the walks of this claim are carried out on: no condition. -/
import Derived.Test.YtecfkfgaejmdfaaAm4
import Derived.Lib.Overlaps
import Derived.ChangeKeysEq
section
/- The abstract machine, part Y: a call that is given a part of the own blocks leaves all others as they are. -/
set_option linter.unusedVariables false
set_option linter.unusedSimpArgs false
namespace Go.Am

def AObj.sub (σ : Nat → Sub) : AObj → AObj
  | .dead => .dead
  | .cells cs => .cells (AV.subL σ cs)
  | .arr k es => .arr k (AV.subL σ es)
  | .loop F n ps a b st pd => .loop (F.sub σ) n ps a b st pd
  | .amap es => .amap (es.map fun p => (p.1.sub σ, p.2.sub σ))
theorem AObj.sub_live {σ : Nat → Sub} {o : AObj} (h : (o.sub σ).live) : o.live := by cases o <;> first | trivial | exact h.elim
theorem AObj.live_sub {σ : Nat → Sub} {o : AObj} (h : o.live) : (o.sub σ).live := by cases o <;> first | trivial | exact h.elim

theorem orep_sub {E : Env} {K K' : Ctx} {M M' : Nat} {w : World} {σ : Nat → Sub} (hrep : ∀ v y, VRep K M w v y → VRep K' M' w (v.sub σ) y) {g : Option (Nat × Nat)} {o : AObj} (h : ORep E K M w g o) : ORep E K' M' w g (o.sub σ) := by
  have hlies : ∀ {c : Array Value} {p : Nat} {cs : List AV}, Lies K M w c p cs → Lies K' M' w c p (AV.subL σ cs) := by
    intro c p cs hl j x hj
    rw [AV.subL_eq, List.getElem?_map] at hj
    obtain ⟨x0, hx0, rfl⟩ := Option.map_eq_some_iff.1 hj
    obtain ⟨y, g1, g2⟩ := hl j x0 hx0
    exact ⟨y, g1, hrep _ _ g2⟩
  cases h with
  | dead => exact .dead _
  | cells blk base cs c ty hc hl => exact .cells blk base _ c ty hc (hlies hl)
  | arr0 k => exact .arr0 k
  | arr blk base k es c ty hc hk hl =>
    refine .arr blk base k _ c ty hc (fun i e hi => ?_) (fun i e hi => ?_)
    · rw [AV.subL_eq, List.getElem?_map] at hi
      obtain ⟨e0, he, rfl⟩ := Option.map_eq_some_iff.1 hi
      rw [AV.cells_sub, List.length_map]; exact hk i e0 he
    · rw [AV.subL_eq, List.getElem?_map] at hi
      obtain ⟨e0, he, rfl⟩ := Option.map_eq_some_iff.1 hi
      have := hlies (hl i e0 he)
      rw [AV.subL_eq, ← AV.cells_sub] at this; exact this
  | loop blk base F n ps a b st pd r h1 h2 h3 h4 h5 h6 h7 h8 =>
    exact .loop blk base _ n ps a b st pd r h1 h2 h3 h4 h5 h6 h7 ⟨h8.1, fun t => by rw [AFr.get_sub]; exact hrep _ _ (h8.2 t)⟩
  | amap blk base es ents clock h1 hl he =>
    refine .amap blk base _ ents clock h1 (by simpa using hl) fun i x y hx hy => ?_
    rw [List.getElem?_map] at hx
    obtain ⟨x0, hx0, rfl⟩ := Option.map_eq_some_iff.1 hx
    exact ⟨hrep _ _ (he i x0 y hx0 hy).1, hrep _ _ (he i x0 y hx0 hy).2⟩

/-- where the local numbers go, n of them into L, the others behind m -/
def inTo (L : List Nat) (m : Nat) (b : Nat) : Nat := if b < L.length then L.getD b 0 else b - L.length + m
def subIn (L : List Nat) (m : Nat) : Nat → Sub := fun b => .to (inTo L m b)
/-- .. and back -/
def posOf (x : Nat) : Nat → List Nat → Option Nat
  | _, [] => none
  | i, y :: r => cond (Nat.beq x y) (some i) (posOf x (i + 1) r)
def subOut (L : List Nat) : Nat → Sub := fun x => match posOf x 0 L with
  | some j => .to j
  | none => .gone
theorem posOf_some {x : Nat} : ∀ {L : List Nat} {i j : Nat}, posOf x i L = some j → i ≤ j ∧ L[j - i]? = some x
  | [], i, j, h => by cases h
  | y :: r, i, j, h => by
    simp only [posOf] at h
    cases hb : Nat.beq x y with
    | true =>
      rw [hb, cond_true] at h; cases h
      exact ⟨Nat.le_refl _, by simp [Nat.eq_of_beq_eq_true hb]⟩
    | false =>
      rw [hb, cond_false] at h
      obtain ⟨h1, h2⟩ := posOf_some h
      refine ⟨by omega, ?_⟩
      rw [show j - i = (j - (i + 1)) + 1 by omega]; simpa using h2
theorem posOf_none {x : Nat} : ∀ {L : List Nat} {i : Nat}, posOf x i L = none → x ∉ L
  | [], i, _ => by simp
  | y :: r, i, h => by
    simp only [posOf] at h
    cases hb : Nat.beq x y with
    | true => rw [hb, cond_true] at h; cases h
    | false =>
      rw [hb, cond_false] at h
      intro hm
      rcases List.mem_cons.1 hm with rfl | hm
      · rw [Nat.beq_refl] at hb; cases hb
      · exact posOf_none h hm

/-- the whole heap behind the call: the lent blocks as the call left them, then what it made -/
def mergeH (H : AHeap) (L : List Nat) (H' : AHeap) : AHeap :=
  (List.range H.length).map (fun x => match posOf x 0 L with
    | some j => (H'.getD j .dead).sub (subIn L H.length)
    | none => H.getD x .dead) ++ (H'.drop L.length).map (AObj.sub (subIn L H.length))

theorem mergeH_len (H : AHeap) (L : List Nat) (H' : AHeap) : (mergeH H L H').length = H.length + (H'.length - L.length) := by simp [mergeH]
theorem mergeH_lt {H : AHeap} {L : List Nat} {H' : AHeap} {x : Nat} (hx : x < H.length) : (mergeH H L H')[x]? = some (match posOf x 0 L with
    | some j => (H'.getD j .dead).sub (subIn L H.length)
    | none => H.getD x .dead) := by
  unfold mergeH
  rw [List.getElem?_append_left (by simpa using hx)]
  simp [hx]
theorem mergeH_ge {H : AHeap} {L : List Nat} {H' : AHeap} {x : Nat} (hx : H.length ≤ x) : (mergeH H L H')[x]? = (H'[x - H.length + L.length]?).map (AObj.sub (subIn L H.length)) := by
  unfold mergeH
  rw [List.getElem?_append_right (by simpa using hx)]
  simp only [List.length_map, List.length_range, List.getElem?_map, List.getElem?_drop]
  rw [Nat.add_comm L.length]

theorem getElem?_getD {α : Type} {l : List α} {i : Nat} {x d : α} (h : l[i]? = some x) : l.getD i d = x := by simp [List.getD_eq_getElem?_getD, h]

/-- What a call does to a part of the heap, it does in the whole. -/
theorem ACall.frame {E : Env} {f : FuncId} {args : List AV} {Hl : AHeap} {R : AV → AHeap → Prop} (h : ACall E f args Hl R) {H : AHeap} {args' : List AV} (L : List Nat) (hnd : L.Nodup) (hlt : ∀ x ∈ L, x < H.length)
    (hHl : Hl = L.map fun x => (H.getD x .dead).sub (subOut L)) (hargs : args = args'.map (AV.sub (subOut L))) :
    ACall E f args' H fun v H2 => ∃ v0 H', R v0 H' ∧ L.length ≤ H'.length ∧ v = v0.sub (subIn L H.length) ∧ H2 = mergeH H L H' := by
  intro K w ys hh hv
  have hn : Hl.length = L.length := by rw [hHl, List.length_map]
  have hLj : ∀ {j x : Nat}, L[j]? = some x → x < H.length := fun h => hlt _ (List.mem_of_getElem? h)
  have hpos : ∀ {j x : Nat}, L[j]? = some x → posOf x 0 L = some j := by
    intro j x hj
    cases hp : posOf x 0 L with
    | none => exact absurd (List.mem_of_getElem? hj) (posOf_none hp)
    | some i =>
      obtain ⟨_, hi⟩ := posOf_some hp
      rw [Nat.sub_zero] at hi
      rw [(List.getElem?_inj (List.getElem?_eq_some_iff.1 hi).1 hnd).1 (hi.trans hj.symm)]
  have hin : ∀ {j x : Nat}, L[j]? = some x → inTo L H.length j = x := by
    intro j x hj
    have := (List.getElem?_eq_some_iff.1 hj).1
    rw [inTo, if_pos this, getElem?_getD hj]
  let Kl : Ctx := ⟨fun j => match L[j]? with | some x => K.γ x | none => none, K.I⟩
  have hKl : ∀ {j x : Nat}, L[j]? = some x → Kl.γ j = K.γ x := fun {j x} hj => by show (match L[j]? with | some x => K.γ x | none => none) = _; rw [hj]
  have sok : SubOk E K w H (subOut L) Kl Hl.length := by
    refine ⟨fun b b' hb hs => ?_, fun b k es hb hs => ?_, fun b cs hb hs => ?_, fun b h => h, fun b blk base hb h1 h2 => ?_⟩
    · unfold subOut at hs
      split at hs
      · rename_i j hp
        cases hs
        obtain ⟨_, hj⟩ := posOf_some hp
        rw [Nat.sub_zero] at hj
        exact ⟨by rw [hn]; exact (List.getElem?_eq_some_iff.1 hj).1, hKl hj⟩
      · cases hs
    · unfold subOut at hs; split at hs <;> cases hs
    · unfold subOut at hs; split at hs <;> cases hs
    · exfalso
      cases hp : posOf b 0 L with
      | some j => exact h1 j (by simp only [subOut, hp])
      | none => exact h2 (by simp only [subOut, hp])
  have out : ∀ v y, VRep K H.length w v y → VRep Kl Hl.length w (v.sub (subOut L)) y := fun v y hv => sub_rep hh sok _ v y (Nat.le_refl _) hv
  have hget : ∀ {j : Nat} {o : AObj}, Hl[j]? = some o → ∃ (x : Nat) (o0 : AObj), L[j]? = some x ∧ H[x]? = some o0 ∧ o = o0.sub (subOut L) := by
    intro j o hj
    rw [hHl, List.getElem?_map] at hj
    obtain ⟨x, hx, rfl⟩ := Option.map_eq_some_iff.1 hj
    have hxl := hLj hx
    exact ⟨x, H.getD x .dead, hx, by simp [List.getD_eq_getElem?_getD, hxl], rfl⟩
  have hownl : ∀ {blk : Nat}, owned Kl Hl blk → ∃ (j x : Nat), L[j]? = some x ∧ ∃ o base, H[x]? = some o ∧ o.live ∧ K.γ x = some (blk, base) := by
    rintro blk ⟨j, o, base, h1, h2, h3⟩
    obtain ⟨x, o0, g1, g2, rfl⟩ := hget h1
    exact ⟨j, x, g1, o0, base, g2, AObj.sub_live h2, by rw [← hKl g1]; exact h3⟩
  have hHRl : HRep E Kl w Hl := by
    refine ⟨fun j o hj => ?_, fun j j' o o' blk b1 b2 h1 h2 l1 l2 e1 e2 => ?_, fun blk hb hi => ?_, hh.low, fun g => ?_⟩
    · obtain ⟨x, o0, g1, g2, rfl⟩ := hget hj
      rw [hKl g1]
      exact orep_sub out (hh.obj x o0 g2)
    · obtain ⟨x, o0, g1, g2, rfl⟩ := hget h1
      obtain ⟨x', o0', g1', g2', rfl⟩ := hget h2
      rw [hKl g1] at e1; rw [hKl g1'] at e2
      have := hh.inj x x' o0 o0' blk b1 b2 g2 g2' (AObj.sub_live l1) (AObj.sub_live l2) e1 e2
      subst this
      exact (List.getElem?_inj (List.getElem?_eq_some_iff.1 g1).1 hnd).1 (g1.trans g1'.symm)
    · obtain ⟨j, x, g1, o, base, g2, g3, g4⟩ := hownl hb
      exact hh.disj blk ⟨x, o, base, g2, g3, g4⟩ hi
    · exact VRep.mono (K := K) (K' := Kl) (fun b hb => absurd hb (Nat.not_lt_zero _)) (Nat.le_refl _) (fun _ h => h) (fun _ _ _ => rfl) (fun b c ty fz h => ⟨c, h, rfl⟩) (hh.glob g)
  have hvl : VReps Kl Hl.length w args ys := by
    refine ⟨by rw [hargs, List.length_map]; exact hv.1, fun i x y hx hy => ?_⟩
    rw [hargs, List.getElem?_map] at hx
    obtain ⟨x0, hx0, rfl⟩ := Option.map_eq_some_iff.1 hx
    exact out _ _ (hv.2 i x0 y hx0 hy)
  refine (h Kl w ys hHRl hvl).mono ?_
  rintro e w' ⟨v0, y, H', K1, rfl, hR, hh1, hv1, ev⟩
  have hlen : L.length ≤ H'.length := by rw [← hn]; exact ev.len
  let K2 : Ctx := ⟨fun x => if x < H.length then K.γ x else K1.γ (x - H.length + L.length), K1.I⟩
  have hK2in : ∀ b, K2.γ (inTo L H.length b) = K1.γ b := by
    intro b
    show (if inTo L H.length b < H.length then K.γ (inTo L H.length b) else K1.γ (inTo L H.length b - H.length + L.length)) = K1.γ b
    by_cases hb : b < L.length
    · have hj := List.getElem?_eq_getElem hb
      rw [hin hj, if_pos (hLj hj), ← hKl hj]
      exact (ev.γ b (by rw [hn]; exact hb)).symm
    · have e1 : inTo L H.length b = b - L.length + H.length := by rw [inTo, if_neg hb]
      rw [e1, if_neg (by omega), show b - L.length + H.length - H.length + L.length = b by omega]
  have hK2lt : ∀ x, x < H.length → K2.γ x = K.γ x := fun x hx => by show (if x < H.length then _ else _) = _; rw [if_pos hx]
  have hinlt : ∀ b, b < H'.length → inTo L H.length b < (mergeH H L H').length := by
    intro b hb
    rw [mergeH_len]
    by_cases hbl : b < L.length
    · have hj := List.getElem?_eq_getElem hbl
      rw [hin hj]; have := hLj hj; omega
    · rw [inTo, if_neg hbl]; omega
  have sok2 : SubOk E K1 w' H' (subIn L H.length) K2 (mergeH H L H').length := by
    refine ⟨fun b b' hb hs => ?_, fun b k es hb hs => ?_, fun b cs hb hs => ?_, fun b h => h, fun b blk base hb h1 h2 => ?_⟩
    · cases hs; exact ⟨hinlt b hb, hK2in b⟩
    · cases hs
    · cases hs
    · exact absurd rfl (h1 _)
  have inn : ∀ v y, VRep K1 H'.length w' v y → VRep K2 (mergeH H L H').length w' (v.sub (subIn L H.length)) y := fun v y hv => sub_rep hh1 sok2 _ v y (Nat.le_refl _) hv
  -- the blocks that the call was not given
  have hnot : ∀ {x : Nat} {o : AObj} {blk base : Nat}, x ∉ L → H[x]? = some o → o.live → K.γ x = some (blk, base) → ¬ owned Kl Hl blk := by
    intro x o blk base hx ho hl hg hb
    obtain ⟨j, x', g1, o', base', g2, g3, g4⟩ := hownl hb
    have := hh.inj x x' o o' blk base base' ho g2 hl g3 hg g4
    subst this
    exact hx (List.mem_of_getElem? g1)
  have hmv : Mv K H.length w K2 (mergeH H L H').length w' := by
    refine ⟨hK2lt, by rw [mergeH_len]; omega, ev.I, fun b hb o => ?_, ev.cells⟩
    have hnb : ¬ owned Kl Hl b := fun hx => hHRl.disj b hx hb
    exact cell_of_heap (ev.frame b (hh.low b hb) hnb) o
  -- a live object of the new heap
  have src : ∀ {x : Nat} {o : AObj} {blk base : Nat}, (mergeH H L H')[x]? = some o → o.live → K2.γ x = some (blk, base) →
      (∃ (b : Nat) (o' : AObj), x = inTo L H.length b ∧ H'[b]? = some o' ∧ o'.live ∧ K1.γ b = some (blk, base)) ∨ (x ∉ L ∧ x < H.length ∧ H[x]? = some o ∧ K.γ x = some (blk, base)) := by
    intro x o blk base hx hl hg
    by_cases hlt' : x < H.length
    · rw [mergeH_lt hlt'] at hx
      cases hp : posOf x 0 L with
      | some j =>
        rw [hp] at hx
        simp only [Option.some.injEq] at hx
        obtain ⟨_, hj⟩ := posOf_some hp
        rw [Nat.sub_zero] at hj
        have hjl : j < H'.length := by have := (List.getElem?_eq_some_iff.1 hj).1; omega
        have hoj : H'[j]? = some (H'.getD j .dead) := by simp [List.getD_eq_getElem?_getD, hjl]
        subst hx
        exact .inl ⟨j, _, (hin hj).symm, hoj, AObj.sub_live hl, by rw [← hK2in, hin hj]; exact hg⟩
      | none =>
        rw [hp] at hx
        simp only [Option.some.injEq] at hx
        have : H[x]? = some (H.getD x .dead) := by simp [List.getD_eq_getElem?_getD, hlt']
        exact .inr ⟨posOf_none hp, hlt', by rw [this, hx], by rw [← hK2lt x hlt']; exact hg⟩
    · rw [mergeH_ge (by omega)] at hx
      obtain ⟨o', ho', rfl⟩ := Option.map_eq_some_iff.1 hx
      have e1 : inTo L H.length (x - H.length + L.length) = x := by rw [inTo, if_neg (by omega)]; omega
      exact .inl ⟨_, o', e1.symm, ho', AObj.sub_live hl, by rw [← hK2in, e1]; exact hg⟩
  have hown2 : ∀ {blk : Nat}, owned K2 (mergeH H L H') blk → owned K1 H' blk ∨ ∃ (x : Nat) (o : AObj) (base : Nat), x ∉ L ∧ H[x]? = some o ∧ o.live ∧ K.γ x = some (blk, base) := by
    rintro blk ⟨x, o, base, h1, h2, h3⟩
    rcases src h1 h2 h3 with ⟨b, o', _, g1, g2, g3⟩ | ⟨g1, _, g2, g3⟩
    · exact .inl ⟨b, o', base, g1, g2, g3⟩
    · exact .inr ⟨x, o, base, g1, g2, h2, g3⟩
  have hownK : ∀ {blk : Nat}, owned Kl Hl blk → owned K H blk := fun hb => by
    obtain ⟨j, x, g1, o, base, g2, g3, g4⟩ := hownl hb
    exact ⟨x, o, base, g2, g3, g4⟩
  have hh2 : HRep E K2 w' (mergeH H L H') := by
    refine ⟨fun x o hx => ?_, fun x x' o o' blk b1 b2 h1 h2 l1 l2 e1 e2 => ?_, fun blk hb hi => ?_, hh1.low, fun g => ?_⟩
    · by_cases hlt' : x < H.length
      · rw [mergeH_lt hlt'] at hx
        cases hp : posOf x 0 L with
        | some j =>
          rw [hp] at hx
          simp only [Option.some.injEq] at hx
          obtain ⟨_, hj⟩ := posOf_some hp
          rw [Nat.sub_zero] at hj
          have hjl : j < H'.length := by have := (List.getElem?_eq_some_iff.1 hj).1; omega
          have hoj : H'[j]? = some (H'.getD j .dead) := by simp [List.getD_eq_getElem?_getD, hjl]
          subst hx
          rw [show K2.γ x = K1.γ j by rw [← hK2in, hin hj]]
          exact orep_sub inn (hh1.obj j _ hoj)
        | none =>
          rw [hp] at hx
          simp only [Option.some.injEq] at hx
          have hox : H[x]? = some o := by rw [← hx]; simp [List.getD_eq_getElem?_getD, hlt']
          rw [hK2lt x hlt']
          refine hmv.orep (hh.obj x o hox) fun blk base hg hl => ?_
          exact ev.frame blk (owned_lt hh ⟨x, o, base, hox, hl, hg⟩) (hnot (posOf_none hp) hox hl hg)
      · rw [mergeH_ge (by omega)] at hx
        obtain ⟨o', ho', rfl⟩ := Option.map_eq_some_iff.1 hx
        have e1 : inTo L H.length (x - H.length + L.length) = x := by rw [inTo, if_neg (by omega)]; omega
        rw [show K2.γ x = K1.γ (x - H.length + L.length) by rw [← hK2in, e1]]
        exact orep_sub inn (hh1.obj _ _ ho')
    · rcases src h1 l1 e1 with ⟨b, p, q1, q2, q3, q4⟩ | ⟨q1, q2, q3, q4⟩ <;> rcases src h2 l2 e2 with ⟨b', p', r1, r2, r3, r4⟩ | ⟨r1, r2, r3, r4⟩
      · rw [q1, r1, hh1.inj b b' p p' blk b1 b2 q2 r2 q3 r3 q4 r4]
      · rcases ev.own blk ⟨b, p, b1, q2, q3, q4⟩ with hc | hc
        · exact absurd hc (hnot r1 r3 l2 r4)
        · have := owned_lt hh ⟨x', o', b2, r3, l2, r4⟩; omega
      · rcases ev.own blk ⟨b', p', b2, r2, r3, r4⟩ with hc | hc
        · exact absurd hc (hnot q1 q3 l1 q4)
        · have := owned_lt hh ⟨x, o, b1, q3, l1, q4⟩; omega
      · exact hh.inj x x' o o' blk b1 b2 q3 r3 l1 l2 q4 r4
    · rcases hown2 hb with hb | ⟨x, o, base, g1, g2, g3, g4⟩
      · exact hh1.disj blk hb hi
      · have hox : owned K H blk := ⟨x, o, base, g2, g3, g4⟩
        rcases ev.I' blk hi with hc | hc | hc
        · exact hh.disj blk hox hc
        · exact hnot g1 g2 g3 g4 hc
        · have := owned_lt hh hox; omega
    · exact VRep.mono (K := K1) (K' := K2) (fun b hb => absurd hb (Nat.not_lt_zero _)) (Nat.le_refl _) (fun _ h => h) (fun _ _ _ => rfl) (fun b c ty fz h => ⟨c, h, rfl⟩) (hh1.glob g)
  refine ⟨_, y, _, K2, rfl, ⟨v0, H', hR, hlen, rfl, rfl⟩, hh2, inn _ _ hv1, ⟨hK2lt, by rw [mergeH_len]; omega, ev.I, fun b hb => ?_, fun b hb => ?_, fun b hb hno => ev.frame b hb fun hx => hno (hownK hx), ev.size, ev.cells, ev.loops, ev.os, ev.out⟩⟩
  · rcases ev.I' b hb with hc | hc | hc
    · exact .inl hc
    · exact .inr (.inl (hownK hc))
    · exact .inr (.inr hc)
  · rcases hown2 hb with hb | ⟨x, o, base, g1, g2, g3, g4⟩
    · exact (ev.own b hb).elim (fun h => .inl (hownK h)) .inr
    · exact .inl ⟨x, o, base, g2, g3, g4⟩
end Go.Am
end
section
/- The abstract machine, part Z: own results, blocks let go, iterators, slices of unknown nilness, capacities. -/
set_option linter.unusedVariables false
set_option linter.unusedSimpArgs false
namespace Go.Am

/-! ### values without own blocks -/
theorem subL_closed (σ : Nat → Sub) {cs : List AV} (h : AV.closedL cs = true) : AV.subL σ cs = cs := by
  rw [AV.subL_eq]
  conv => rhs; rw [← List.map_id cs]
  exact List.map_congr_left fun c hm => sub_closed σ _ c (Nat.le_refl _) (AV.closedL_mem h c hm)
theorem closedL_append {a b : List AV} (ha : AV.closedL a = true) (hb : AV.closedL b = true) : AV.closedL (a ++ b) = true :=
  AV.closedL_of fun c hc => (List.mem_append.1 hc).elim (AV.closedL_mem ha c) (AV.closedL_mem hb c)
theorem osrc_arr {H : AHeap} {M : Nat} {σ : Nat → Sub} {τ : Nat → Option Nat} {b' b k : Nat} {es es' : List AV} (hH : H[b]? = some (.arr k es)) (ht : τ b' = some b) (hs : σ b = .to b') (he : es = es') (hcl : AV.closedL es' = true) : OSrc H M σ τ b' (.arr k es') := by
  subst he
  refine .some b _ _ hH ht hs (.arr k es es (by rw [subL_closed σ hcl]; exact WkL.refl M es) fun i e e' h1 h2 => ?_)
  rw [h1] at h2; cases h2; rfl
theorem osrc_cells {H : AHeap} {M : Nat} {σ : Nat → Sub} {τ : Nat → Option Nat} {b' b : Nat} {cs cs' : List AV} (hH : H[b]? = some (.cells cs)) (ht : τ b' = some b) (hs : σ b = .to b') (he : WkL M (AV.subL σ cs) cs') : OSrc H M σ τ b' (.cells cs') :=
  .some b _ _ hH ht hs (.cells cs cs' he)
/-- a whole own array, promised never to change again -/
theorem sub_whole {σ : Nat → Sub} {b k n : Nat} {es : List AV} (hs : σ b = .isl k es) (hn : n = es.length) : (AV.sl b k 0 n).sub σ = .isl k es := by
  subst hn
  simp only [AV.sub, hs, Nat.beq_refl, Bool.true_and, Nat.zero_add]
  have : Nat.ble es.length es.length = true := Nat.ble_eq_true_of_le (Nat.le_refl _)
  rw [this]; simp
theorem fz_whole {k n : Nat} {es es' : List AV} (hn : n = es.length) (hcl : AV.closedL es' = true) (he : es = es') : Fz [.arr k es] (.sl 0 k 0 n) (.isl k es') := by
  subst he
  refine ⟨[.isl k es], ⟨⟨es, rfl, (subL_closed _ hcl).symm⟩, trivial⟩, ?_⟩
  rw [sub_whole (es := es) rfl hn]; exact .refl _

/-! ### entailments that keep the first N numbers -/
def keepT : Nat → List (Option Nat) → Prop
  | _, [] => True
  | i, x :: r => x = some i ∧ keepT (i + 1) r
theorem keepT_spec : ∀ {T : List (Option Nat)} {i : Nat}, keepT i T → ∀ (b : Nat), b < T.length → T[b]? = some (some (i + b))
  | [], i, h, b, hb => by simp at hb
  | x :: r, i, h, b, hb => by
    cases b with
    | zero => simp [h.1]
    | succ b => have := keepT_spec h.2 b (by simpa using hb); simp [this]; omega
theorem ent_subN {E : Env} {n N : Nat} {F F' : AFr} {H H' : AHeap} (L : List Sub) (T : List (Option Nat)) (hN : keepT 0 (T.take N)) (hT : N ≤ T.length) (hNH : N ≤ H'.length) (h1 : SubL H H'.length T (ofL L) 0 L) (h2 : ObjL H H'.length (ofL L) (ofT T) 0 H') (h3 : FWk H'.length (ofL L) F F') : Ent E n N F H F' H' := by
  intro K w tmps hh hF _
  have key : ∀ b s, ofL L b = s → s ≠ .gone → L[b]? = some s := by
    intro b s h hs
    unfold ofL at h
    cases hb : L[b]? with
    | none => rw [hb] at h; exact absurd h.symm hs
    | some x => rw [hb] at h; simp at h; rw [h]
  obtain ⟨K', a, b, c⟩ := hrep_sub (N := N) hh (ofL L) (ofT T) (fun b hb => by
      have := keepT_spec hN b (by rw [List.length_take]; omega)
      rw [List.getElem?_take, if_pos hb] at this
      simp [ofT, this]) hNH (fun b b' _ hs => by
      have := h1.spec b _ (key b _ hs (by simp))
      simp only [Nat.zero_add] at this
      exact ⟨this.1, by simp [ofT, this.2]⟩) (fun b k es' _ hs => by
      have := h1.spec b _ (key b _ hs (by simp)); simpa only [Nat.zero_add] using this) (fun b cs' _ hs => by
      have := h1.spec b _ (key b _ hs (by simp)); simpa only [Nat.zero_add] using this) (fun b' o' ho => by
      have := h2.spec b' o' ho; simpa only [Nat.zero_add] using this)
  exact ⟨K', a, ⟨hF.1, fun t => (h3.spec t).rep (sub_rep hh b _ _ _ (Nat.le_refl _) (hF.2 t))⟩, c⟩

/-! ### the last blocks let go -/
def keepS (m : Nat) : Nat → Sub := fun b => cond (Nat.blt b m) (.to b) .gone
theorem keepS_or (m b : Nat) : (keepS m b = .to b ∧ b < m) ∨ keepS m b = .gone := by
  unfold keepS
  cases hc : Nat.blt b m with
  | true => exact .inl ⟨rfl, Nat.le_of_ble_eq_true hc⟩
  | false => exact .inr rfl
theorem hrep_drop {E : Env} {K : Ctx} {w : World} {H X : AHeap} (hh : HRep E K w (H ++ X)) (hb : ∀ o ∈ H, o.sub (keepS H.length) = o) :
    HRep E K w H ∧ (∀ N, N ≤ H.length → Ev N K (H ++ X) w K H w) ∧ ∀ v y, VRep K (H ++ X).length w v y → VRep K H.length w (v.sub (keepS H.length)) y := by
  have hle : H.length ≤ (H ++ X).length := by simp
  have sok : SubOk E K w (H ++ X) (keepS H.length) K H.length := by
    refine ⟨fun b b' hb hs => ?_, fun b k es hb hs => ?_, fun b cs hb hs => ?_, fun b h => h, fun b blk base hb h1 h2 => ?_⟩
    all_goals rcases keepS_or H.length b with ⟨hc, hl⟩ | hc
    · rw [hc] at hs; cases hs; exact ⟨hl, rfl⟩
    · rw [hc] at hs; cases hs
    · rw [hc] at hs; cases hs
    · rw [hc] at hs; cases hs
    · rw [hc] at hs; cases hs
    · rw [hc] at hs; cases hs
    · exact absurd hc (h1 b)
    · exact absurd hc h2
  have rep : ∀ v y, VRep K (H ++ X).length w v y → VRep K H.length w (v.sub (keepS H.length)) y := fun v y hv => sub_rep hh sok _ v y (Nat.le_refl _) hv
  have get : ∀ {b : Nat} {o : AObj}, H[b]? = some o → (H ++ X)[b]? = some o := fun {b o} h => by rw [List.getElem?_append_left (List.getElem?_eq_some_iff.1 h).1]; exact h
  have own : ∀ b, owned K H b → owned K (H ++ X) b := fun b ⟨i, o, base, h1, h2, h3⟩ => ⟨i, o, base, get h1, h2, h3⟩
  refine ⟨⟨fun b o hb' => ?_, fun b b' o o' blk b1 b2 h1 h2 => hh.inj b b' o o' blk b1 b2 (get h1) (get h2), fun blk h => hh.disj blk (own blk h), hh.low, hh.glob⟩,
    fun N hN => { Ev.refl N K (H ++ X) w (by omega) with len := hN, I := fun _ h => h, I' := fun _ h => .inl h, own := fun b h => .inl (own b h) }, rep⟩
  have := orep_sub rep (hh.obj b o (get hb'))
  rwa [hb o (List.mem_of_getElem? hb')] at this
theorem on_drop {E : Env} {n N : Nat} {F F' : AFr} {H X : AHeap} {l : List AOper} {Q : AExit → AFr → AHeap → Prop} {k : List KI} (hb : ∀ o ∈ H, o.sub (keepS H.length) = o) (hN : N ≤ H.length) (hF : FWk H.length (keepS H.length) F F') (h : Holds E n N Q (.ops l) k F' H) : Holds E n N Q (.ops l) k F (H ++ X) := by
  refine AOps.ent (fun K w tmps h1 h2 h3 => ?_) h
  obtain ⟨a, b, c⟩ := hrep_drop h1 hb
  exact ⟨K, a, ⟨h2.1, fun t => (hF.spec t).rep (c _ _ (h2.2 t))⟩, b N hN⟩
theorem on_dropC {E : Env} {n N : Nat} {F F' : AFr} {H X : AHeap} {l : ACode} {Q : AExit → AFr → AHeap → Prop} {k : List KI} (hb : ∀ o ∈ H, o.sub (keepS H.length) = o) (hN : N ≤ H.length) (hF : FWk H.length (keepS H.length) F F') (h : Holds E n N Q (.code l) k F' H) : Holds E n N Q (.code l) k F (H ++ X) := by
  refine AWP.ent (fun K w tmps h1 h2 h3 => ?_) h
  obtain ⟨a, b, c⟩ := hrep_drop h1 hb
  exact ⟨K, a, ⟨h2.1, fun t => (hF.spec t).rep (c _ _ (h2.2 t))⟩, b N hN⟩

/-! ### heaps said otherwise, one number kept in the frame -/
def onlyS (l : Nat) : Nat → Sub := fun b => cond (Nat.beq b l) (.to l) .gone
theorem onlyS_or (l b : Nat) : (onlyS l b = .to l ∧ b = l) ∨ onlyS l b = .gone := by
  unfold onlyS
  cases hc : Nat.beq b l with
  | true => exact .inl ⟨rfl, Nat.eq_of_beq_eq_true hc⟩
  | false => exact .inr rfl
def HEnt (E : Env) (N l : Nat) (H H' : AHeap) : Prop :=
  ∀ K w, HRep E K w H → N ≤ H.length → ∃ K', HRep E K' w H' ∧ Ev N K H w K' H' w ∧ ∀ v y, VRep K H.length w v y → VRep K' H'.length w (v.sub (onlyS l)) y
theorem HEnt.ent {E : Env} {n N l : Nat} {H H' : AHeap} {F F' : AFr} (h : HEnt E N l H H') (hF : FWk H'.length (onlyS l) F F') : Ent E n N F H F' H' := by
  intro K w tmps h1 h2 h3
  obtain ⟨K', a, b, c⟩ := h K w h1 h3
  exact ⟨K', a, ⟨h2.1, fun t => (hF.spec t).rep (c _ _ (h2.2 t))⟩, b⟩
theorem HEnt.refl {E : Env} {N l : Nat} {H : AHeap} (hl : l < H.length) : HEnt E N l H H := by
  intro K w h1 h3
  refine ⟨K, h1, Ev.refl _ _ _ _ h3, fun v y hv => ?_⟩
  refine sub_rep h1 (σ := onlyS l) (K' := K) ⟨fun b b' hb hs => ?_, fun b k es hb hs => ?_, fun b cs hb hs => ?_, fun b h => h, fun b blk base hb h1 h2 => ?_⟩ _ v y (Nat.le_refl _) hv
  all_goals rcases onlyS_or l b with ⟨hc, e⟩ | hc
  · rw [hc] at hs; cases hs; rw [e]; exact ⟨hl, rfl⟩
  · rw [hc] at hs; cases hs
  · rw [hc] at hs; cases hs
  · rw [hc] at hs; cases hs
  · rw [hc] at hs; cases hs
  · rw [hc] at hs; cases hs
  · exact absurd hc (h1 l)
  · exact absurd hc h2
theorem hent_sub {E : Env} {N l : Nat} {H H' : AHeap} (L : List Sub) (T : List (Option Nat)) (hl : L[l]? = some (.to l)) (hN : keepT 0 (T.take N)) (hT : N ≤ T.length) (hNH : N ≤ H'.length) (h1 : SubL H H'.length T (ofL L) 0 L) (h2 : ObjL H H'.length (ofL L) (ofT T) 0 H') : HEnt E N l H H' := by
  intro K w hh h3
  have key : ∀ b s, ofL L b = s → s ≠ .gone → L[b]? = some s := by
    intro b s h hs
    unfold ofL at h
    cases hb : L[b]? with
    | none => rw [hb] at h; exact absurd h.symm hs
    | some x => rw [hb] at h; simp at h; rw [h]
  obtain ⟨K', a, b, c⟩ := hrep_sub (N := N) hh (ofL L) (ofT T) (fun b hb => by
      have := keepT_spec hN b (by rw [List.length_take]; omega)
      rw [List.getElem?_take, if_pos hb] at this
      simp [ofT, this]) hNH (fun b b' _ hs => by
      have := h1.spec b _ (key b _ hs (by simp))
      simp only [Nat.zero_add] at this
      exact ⟨this.1, by simp [ofT, this.2]⟩) (fun b k es' _ hs => by
      have := h1.spec b _ (key b _ hs (by simp)); simpa only [Nat.zero_add] using this) (fun b cs' _ hs => by
      have := h1.spec b _ (key b _ hs (by simp)); simpa only [Nat.zero_add] using this) (fun b' o' ho => by
      have := h2.spec b' o' ho; simpa only [Nat.zero_add] using this)
  refine ⟨K', a, c, fun v y hv => ?_⟩
  have hol : ofL L l = .to l := by simp [ofL, hl]
  refine sub_rep hh (σ := onlyS l) (K' := K') ⟨fun x b' hx hs => ?_, fun x k es hx hs => ?_, fun x cs hx hs => ?_, b.I, fun x blk base hx h1 h2 => ?_⟩ _ v y (Nat.le_refl _) hv
  all_goals rcases onlyS_or l x with ⟨hc, e⟩ | hc
  · rw [hc] at hs; cases hs; rw [e] at hx ⊢; exact b.to _ _ hx hol
  · rw [hc] at hs; cases hs
  · rw [hc] at hs; cases hs
  · rw [hc] at hs; cases hs
  · rw [hc] at hs; cases hs
  · rw [hc] at hs; cases hs
  · exact absurd hc (h1 l)
  · exact absurd hc h2

section
variable {E : Env} {n N : Nat} {Q : AExit → AFr → AHeap → Prop} {k : List KI} {F : AFr} {H : AHeap}
/-! ### calls -/
theorem on_callv {o : AOper} {l : List AOper} {x : Opd} {xs : List Opd} {fv : AV} {args : List AV} {R : AV → AHeap → Prop} (hg : o.guard = none) (ho : o.op = .callv x xs) (hf : x.ev E.G F = fv) (ha : xs.map (·.ev E.G F) = args) (hc : ACallV E fv args H R)
    (h : ∀ v H1, R v H1 → Holds E n N Q (.ops l) k (F.set o.dst v) H1) : Holds E n N Q (.ops (o :: l)) k F H :=
  aops_callv (by rw [hg]; rfl) ho hf ha hc h
/-- under a guard that is known to hold -/
theorem on_gpcall {o : AOper} {l : List AOper} {f : FuncId} {xs : List Opd} {args : List AV} {v : AV} {d : Nat} {b : Bool} (hg : o.guard = some (d, b)) (hd : F.get d = .val (.bool b)) (ho : o.op = .call f xs) (ha : xs.map (·.ev E.G F) = args) (hc : PCall E f args v) (hcl : AV.closedL args = true)
    (h : Holds E n N Q (.ops l) k (F.set o.dst v) H) : Holds E n N Q (.ops (o :: l)) k F H :=
  aops_pcall (by rw [hg]; simp only [wantA, hd]; cases b <;> rfl) ho ha hc hcl h
theorem on_glcall {o : AOper} {l : List AOper} {f : FuncId} {xs : List Opd} {args args' : List AV} {v : AV} {d : Nat} {b : Bool} (L : List Sub) (hg : o.guard = some (d, b)) (hd : F.get d = .val (.bool b)) (ho : o.op = .call f xs) (ha : xs.map (·.ev E.G F) = args) (hL : SubL H 0 [] (ofL L) 0 L) (ha' : AV.subL (ofL L) args = args')
    (hc : PCall E f args' v) (hfl : v.flat = true) (h : Holds E n N Q (.ops l) k (F.set o.dst v) H) : Holds E n N Q (.ops (o :: l)) k F H :=
  aops_lcall L (by rw [hg]; simp only [wantA, hd]; cases b <;> rfl) ho ha hL ha' hc hfl h

/-- The contract of a function that takes nothing of its own and gives blocks of its own. -/
def OCall (E : Env) (f : FuncId) (args : List AV) (v : AV) (H0 : AHeap) : Prop := Enters E.P f ∧ ACall E f args [] fun v' H' => v' = v ∧ H' = H0
def sh (m : Nat) : Nat → Sub := fun b => .to (b + m)
theorem subIn_nil (m : Nat) : subIn [] m = sh m := by funext b; simp [subIn, sh, inTo]
theorem OCall.lift {f : FuncId} {args : List AV} {v : AV} {H0 : AHeap} (h : OCall E f args v H0) (hcl : AV.closedL args = true) : ACall E f args H fun v' H' => v' = v.sub (sh H.length) ∧ H' = H ++ H0.map (AObj.sub (sh H.length)) := by
  refine ACall.mono (ACall.frame h.2 (H := H) (args' := args) [] List.nodup_nil (fun x hx => by cases hx) rfl ?_) ?_
  · have := subL_closed (subOut []) hcl
    rw [AV.subL_eq] at this; exact this.symm
  · rintro v' H' ⟨v0, H1, ⟨rfl, rfl⟩, _, rfl, rfl⟩
    rw [subIn_nil]
    refine ⟨rfl, ?_⟩
    unfold mergeH
    rw [subIn_nil]
    congr 1
    apply List.ext_getElem?
    intro i
    by_cases hi : i < H.length
    · simp [posOf, hi, List.getD_eq_getElem?_getD]
    · rw [List.getElem?_eq_none (by simp; omega), List.getElem?_eq_none (by omega)]
theorem on_ocall {o : AOper} {l : List AOper} {f : FuncId} {xs : List Opd} {args : List AV} {v v' : AV} {H0 H' : AHeap} (hg : o.guard = none) (ho : o.op = .call f xs) (ha : xs.map (·.ev E.G F) = args) (hc : OCall E f args v H0) (hcl : AV.closedL args = true)
    (hv : v.sub (sh H.length) = v') (hH : H0.map (AObj.sub (sh H.length)) = H') (h : Holds E n N Q (.ops l) k (F.set o.dst v') (H ++ H')) : Holds E n N Q (.ops (o :: l)) k F H := by
  refine aops_call (by rw [hg]; rfl) ho ha hc.1 (hc.lift hcl) ?_
  rintro _ _ ⟨rfl, rfl⟩
  rw [hv, hH]; exact h
/-- .. and where it is given own blocks -/
theorem on_fcall {o : AOper} {l : List AOper} {f : FuncId} {xs : List Opd} {args : List AV} {R : AV → AHeap → Prop} {Hl : AHeap} (L : List Nat) (hg : o.guard = none) (ho : o.op = .call f xs) (hen : Enters E.P f) (hc : ACall E f args Hl R) (hnd : L.Nodup) (hlt : ∀ x ∈ L, x < H.length)
    (hHl : Hl = L.map fun x => (H.getD x .dead).sub (subOut L)) (hargs : args = xs.map fun x => (x.ev E.G F).sub (subOut L))
    (h : ∀ v0 H', R v0 H' → L.length ≤ H'.length → Holds E n N Q (.ops l) k (F.set o.dst (v0.sub (subIn L H.length))) (mergeH H L H')) : Holds E n N Q (.ops (o :: l)) k F H := by
  refine aops_call (by rw [hg]; rfl) ho rfl hen (ACall.frame hc (H := H) (args' := xs.map (·.ev E.G F)) L hnd hlt hHl (by rw [hargs, List.map_map]; rfl)) ?_
  rintro _ _ ⟨v0, H', h1, h2, rfl, rfl⟩
  exact h v0 H' h1 h2
/-- the end said otherwise -/
theorem AWP.entEnd {ac : ACode} {Q : AExit → AFr → AHeap → Prop} (h : AWP E n N ac F H (fun e F' H' => ∃ F2 H2, Ent E n N F' H' F2 H2 ∧ Q e F2 H2)) : AWP E n N ac F H Q := by
  intro c hc K w tmps T rs k cs h1 h2 h3 h4
  obtain ⟨e, F', H', K', w', tmps', nw, todo, ⟨F2, H2, he, hq⟩, a1, a2, a3, a4, a5, a6, a7⟩ := h c hc K w tmps T rs k cs h1 h2 h3 h4
  obtain ⟨K2, b1, b2, b3⟩ := he K' w' tmps' a1 a2 a3.len
  exact ⟨e, F2, H2, K2, w', tmps', nw, todo, hq, b1, b2, a3.trans b3, a4.ev b3, a5, a6, a7⟩
def OQ (E : Env) (n N : Nat) (rvs : List RV) (R : AV → AHeap → Prop) (e : AExit) (F' : AFr) (H' : AHeap) : Prop :=
  match e with
  | .exit _ => False
  | _ => ∃ F2 H2 vs, Ent E n N F' H' F2 H2 ∧ evRVs F2 H2 rvs = some vs ∧ R (packRV vs) H2
theorem rcall_body {E : Env} {f : FuncId} {fn : Func} {ac : ACode} {args : List AV} {H : AHeap} {R : AV → AHeap → Prop} {n : Nat} {rvs : List RV} (hf : E.P.funcs[f]? = some fn) (hb : fn.body.map (prep E.P n) = some ac) (hnt : fn.ntmps = n) (hrv : fn.results.toList.map (prepRV E.P) = rvs.map some) (hn : Nat.ble args.length n = true)
    (h : Holds E n H.length (OQ E n H.length rvs R) (.code ac) [] (startF 0 args) H) : ACall E f args H R := by
  subst hnt
  refine acall_body hf hb hrv (Nat.le_of_ble_eq_true hn) (AWP.entEnd (AWP.mono h fun e F' H' h => ?_))
  cases e with
  | exit i => exact h.elim
  | normal => obtain ⟨F2, H2, vs, a, b, c⟩ := h; exact ⟨F2, H2, a, vs, b, c⟩
  | ret => obtain ⟨F2, H2, vs, a, b, c⟩ := h; exact ⟨F2, H2, a, vs, b, c⟩
theorem enters_of {P : Program} {f : FuncId} {fn : Func} {n : Nat} {ac : ACode} (hf : P.funcs[f]? = some fn) (hnm : (fn.name == "runtime.NumGoroutine") = false) (hb : fn.body.map (prep P n) = some ac) : Enters P f :=
  enters_body hf hnm (by cases hbb : fn.body with | none => rw [hbb] at hb; cases hb | some b => rfl)
theorem ocall_body {E : Env} {f : FuncId} {fn : Func} {ac : ACode} {args : List AV} {v : AV} {H0 : AHeap} {n : Nat} {rvs : List RV} (hf : E.P.funcs[f]? = some fn) (hnm : (fn.name == "runtime.NumGoroutine") = false) (hb : fn.body.map (prep E.P n) = some ac) (hnt : fn.ntmps = n) (hrv : fn.results.toList.map (prepRV E.P) = rvs.map some) (hn : Nat.ble args.length n = true)
    (h : Holds E n 0 (OQ E n 0 rvs (fun v' H' => v' = v ∧ H' = H0)) (.code ac) [] (startF 0 args) []) : OCall E f args v H0 :=
  ⟨enters_of hf hnm hb, rcall_body hf hb hnt hrv hn h⟩
theorem o_ret {rvs : List RV} {R : AV → AHeap → Prop} {F F2 : AFr} {H H2 : AHeap} {vs : List AV} (he : Ent E n N F H F2 H2) (h1 : evRVs F2 H2 rvs = some vs) (h2 : R (packRV vs) H2) : Holds E n N (OQ E n N rvs R) (.out .ret) [] F H := ⟨F2, H2, vs, he, h1, h2⟩
theorem o_norm {rvs : List RV} {R : AV → AHeap → Prop} {F F2 : AFr} {H H2 : AHeap} {vs : List AV} (he : Ent E n N F H F2 H2) (h1 : evRVs F2 H2 rvs = some vs) (h2 : R (packRV vs) H2) : Holds E n N (OQ E n N rvs R) (.out .normal) [] F H := ⟨F2, H2, vs, he, h1, h2⟩
end
end Go.Am
end
section
/- The abstract machine, part Zq: drawn regions that leave the heap, with calls, step by step. -/
set_option linter.unusedVariables false
set_option linter.unusedSimpArgs false
namespace Go.Am

def QD (E : Env) (H : AHeap) (ops : List AOper) (F : AFr) (P : AFr → Prop) : Prop := ∀ F0, Weak F F0 → ∃ F1 Fs, QR E H ops F0 F1 ∧ Weak Fs F1 ∧ P Fs

section
variable {E : Env} {n N : Nat} {Q : AExit → AFr → AHeap → Prop} {k : List KI} {F : AFr} {H : AHeap} {P : AFr → Prop}

theorem qd_draw {ops : List AOper} (hm : E.P.follows .mixedOrders = true) (hwf : wfDraw ops (befs ops []) = true) (h : QD E H ops F (fun F' => Holds E n N Q (.out .normal) k F' H)) : Holds E n N Q (.code (.draw ops)) k F H := by
  obtain ⟨F1, Fs, h1, h2, h3⟩ := h F (fun t => .inl rfl)
  exact AWP.weakEnd (awp_drawq hm hwf h1 ⟨Fs, h2, h3⟩)
theorem qd_nil (h : P F) : QD E H [] F P := fun F0 hw => ⟨F0, F, .nil _, hw, h⟩
theorem QD.op {o : AOper} {l : List AOper} {v : AV} (hg : wantA F o.guard = some true) (hd : defd F o = true) (hq : quietOp o.op = true) (he : evalOp E.G o.op F H = some (true, v, H)) (h : QD E H l (F.set o.dst v) P) : QD E H (o :: l) F P := by
  intro F0 hw
  obtain ⟨F1, Fs, h1, h2, h3⟩ := h (F0.set o.dst v) (hw.set _ _)
  refine ⟨F1, Fs, .op ?_ ?_ h1, h2, h3⟩
  · cases hgd : o.guard with
    | none => rfl
    | some p =>
      obtain ⟨d, b⟩ := p
      rw [hgd] at hg
      simp only [wantA] at hg ⊢
      split at hg
      · rename_i t ht
        rw [hw.val (G := E.G) (x := .t d) ht |> fun h => (show F0.get d = .val (.bool t) from h)]; exact hg
      · cases hg
  · rw [evalOp_congr (hw.ev hd)] at he; exact he
theorem wantA_weak {F F0 : AFr} {g : Option (Nat × Bool)} {b : Bool} (hw : Weak F F0) (h : wantA F g = some b) : wantA F0 g = some b := by
  cases g with
  | none => exact h
  | some p =>
    obtain ⟨d, c⟩ := p
    simp only [wantA] at h ⊢
    split at h
    · rename_i t ht
      rw [show F0.get d = .val (.bool t) from hw.val (G := fun _ => .undef) (x := .t d) ht]; exact h
    · cases h
theorem QD.skip {o : AOper} {l : List AOper} (hg : wantA F o.guard = some false) (h : QD E H l (F.set o.dst .undef) P) : QD E H (o :: l) F P := by
  intro F0 hw
  obtain ⟨F1, Fs, h1, h2, h3⟩ := h (F0.set o.dst .undef) (hw.set _ _)
  exact ⟨F1, Fs, .skip (wantA_weak hw hg) h1, h2, h3⟩
theorem qd_call {o : AOper} {l : List AOper} {f : FuncId} {xs : List Opd} {args : List AV} {v : AV} (hg : wantA F o.guard = some true) (hd : defd F o = true) (ho : o.op = .call f xs) (ha : xs.map (·.ev E.G F) = args) (hen : Enters E.P f) (hc : ACall E f args H fun v' H' => v' = v ∧ H' = H)
    (h : QD E H l (F.set o.dst v) P) : QD E H (o :: l) F P := by
  intro F0 hw
  obtain ⟨F1, Fs, h1, h2, h3⟩ := h (F0.set o.dst v) (hw.set _ _)
  refine ⟨F1, Fs, .call f xs args (wantA_weak hw hg) ho ?_ hen hc h1, h2, h3⟩
  rw [← ha]
  exact (List.map_congr_left fun x hx => hw.ev hd x (by rw [ho]; exact hx)).symm
theorem qd_pcall {o : AOper} {l : List AOper} {f : FuncId} {xs : List Opd} {args : List AV} {v : AV} (hg : wantA F o.guard = some true) (hd : defd F o = true) (ho : o.op = .call f xs) (ha : xs.map (·.ev E.G F) = args) (hc : PCall E f args v) (hcl : AV.closedL args = true)
    (h : QD E H l (F.set o.dst v) P) : QD E H (o :: l) F P := qd_call hg hd ho ha hc.1 (hc.lift hcl) h
theorem qd_lcall {o : AOper} {l : List AOper} {f : FuncId} {xs : List Opd} {args args' : List AV} {v : AV} (L : List Sub) (hg : wantA F o.guard = some true) (hd : defd F o = true) (ho : o.op = .call f xs) (ha : xs.map (·.ev E.G F) = args) (hL : SubL H 0 [] (ofL L) 0 L) (ha' : AV.subL (ofL L) args = args') (hc : PCall E f args' v) (hfl : v.flat = true)
    (h : QD E H l (F.set o.dst v) P) : QD E H (o :: l) F P := qd_call hg hd ho ha hc.1 (hc.lend L hL ha' hfl) h
theorem qd_split {ops : List AOper} {t : Bool} (d : Nat) (hd : F.get d = .val (.bool t)) (h1 : t = true → QD E H ops ((d, .val (.bool true)) :: F) P) (h2 : t = false → QD E H ops ((d, .val (.bool false)) :: F) P) : QD E H ops F P := by
  intro F0 hw
  have hsame : ∀ {b : Bool}, t = b → Weak ((d, .val (.bool b)) :: F) F0 := by
    rintro b rfl t'
    have := AFr.get_set F (some d) (.val (.bool t)) t'
    simp only [AFr.set] at this
    rw [this]
    split
    · rename_i h; cases h; rcases hw d with e | e
      · exact .inl (hd.symm.trans e)
      · rw [hd] at e; cases e
    · exact hw t'
  cases t
  · exact h2 rfl F0 (hsame rfl)
  · exact h1 rfl F0 (hsame rfl)
end

def runP (X : Words) (G : Nat → AV) : Nat → Nat → List AOper → AFr → AHeap → Cd × List AOper × AFr
  | 0, _, l, F, _ => (.tt, l, F)
  | _ + 1, _, [], F, _ => (.tt, [], F)
  | f + 1, g, o :: l, F, H =>
    match o.guard with
    | none => cond (quietOp o.op && defd F o) (match opX X G o.op F H with
      | some (c, v, _) => match runP X G f g l (F.set o.dst v) H with
        | (c', r) => (andD c c', r)
      | none => (.tt, o :: l, F)) (.tt, o :: l, F)
    | some (d, b) => match F.get d with
      | .val (.bool t) => match segOf d b (o :: l) with
        | some (seg, p, rest) => match runSegD X G seg F H with
          | some (c, F1) => match chosen X G b t p F1 F with
            | some v => match runP X G f g rest ((skipSeg seg F).set p.dst v) H with
              | (c', r) => (andD (impD (cond b t (X.bNot t)) c) c', r)
            | none => (.tt, o :: l, F)
          | none => (.tt, o :: l, F)
        | none => match g with
          | 0 => (.tt, o :: l, F)
          | g + 1 => cond (t == b) (cond (quietOp o.op && defd F o) (match opX X G o.op F H with
            | some (c, v, _) => match runP X G f g l (F.set o.dst v) H with
              | (c', r) => (andD c c', r)
            | none => (.tt, o :: l, F)) (.tt, o :: l, F)) (runP X G f g l (F.set o.dst .undef) H)
      | _ => (.tt, o :: l, F)

section
variable {E : Env} {H : AHeap} {P : AFr → Prop}
theorem runP_sound {X : Words} (hXs : X = std) : ∀ (f g : Nat) (l : List AOper) (F : AFr) {c : Cd} {rest : List AOper} {F' : AFr}, runP X E.G f g l F H = (c, rest, F') → c.ok → QD E H rest F' P → QD E H l F P
  | 0, g, l, F, c, rest, F', hr, hc, h => by simp only [runP] at hr; cases hr; exact h
  | f + 1, g, [], F, c, rest, F', hr, hc, h => by simp only [runP] at hr; cases hr; exact h
  | f + 1, g, o :: l, F, c, rest, F', hr, hc, h => by
    have op : ∀ {g : Nat}, wantA F o.guard = some true → (cond (quietOp o.op && defd F o) (match opX X E.G o.op F H with
      | some (c, v, _) => match runP X E.G f g l (F.set o.dst v) H with
        | (c', r) => (andD c c', r)
      | none => (.tt, o :: l, F)) (.tt, o :: l, F)) = (c, rest, F') → QD E H (o :: l) F P := by
      intro g hw hr
      cases hqd : quietOp o.op && defd F o with
      | false => rw [hqd, cond_false] at hr; cases hr; exact h
      | true =>
        rw [hqd, cond_true] at hr
        simp only [Bool.and_eq_true] at hqd
        split at hr
        · rename_i c0 v H1 hop
          cases hx : runP X E.G f g l (F.set o.dst v) H with
          | mk c' r =>
            obtain ⟨rest', F2⟩ := r
            rw [hx] at hr
            simp only [Prod.mk.injEq] at hr
            obtain ⟨rfl, rfl, rfl⟩ := hr
            have hc := andD_ok hc
            have hop := opX_spec hXs hop hc.1
            have hH := quiet_heap hqd.1 hop
            rw [hH] at hop
            exact QD.op hw hqd.2 hqd.1 hop (runP_sound hXs f g l _ hx hc.2 h)
        · cases hr; exact h
    simp only [runP] at hr
    split at hr
    · rename_i hg
      exact op (by rw [hg]; rfl) hr
    · rename_i d b hg
      split at hr
      · rename_i t ht
        split at hr
        · rename_i seg p rst hseg
          split at hr
          · rename_i c0 F1 hrun
            split at hr
            · rename_i v hv
              cases hx : runP X E.G f g rst ((skipSeg seg F).set p.dst v) H with
              | mk c' r =>
                obtain ⟨rest', F2⟩ := r
                rw [hx] at hr
                simp only [Prod.mk.injEq] at hr
                obtain ⟨rfl, rfl, rfl⟩ := hr
                have hc := andD_ok hc
                obtain ⟨e, hok, hpg, x, y, hop⟩ := segOf_spec hseg
                rw [e]
                intro F0 hw
                have ht0 : F0.get d = .val (.bool t) := hw.val (G := E.G) (x := .t d) ht
                have fin : ∀ F1', QR E H seg F0 F1' → Weak ((skipSeg seg F).set p.dst v) (F1'.set p.dst v) → evalOp E.G p.op F1' H = some (true, v, H) → ∃ F2 Fs, QR E H (seg ++ p :: rst) F0 F2 ∧ Weak Fs F2 ∧ P Fs := by
                  intro F1' q1 q2 q3
                  obtain ⟨F3, Fs, b1, b2, b3⟩ := runP_sound hXs f g rst _ hx hc.2 h _ q2
                  exact ⟨F3, Fs, q1.append (.op (by rw [hpg]; rfl) q3 b1), b2, b3⟩
                cases htb : (t == b) with
                | true =>
                  have hc0 : c0.ok := impD_ok hc.1 (by subst hXs; cases b <;> cases t <;> first | rfl | cases htb)
                  obtain ⟨F1', a1, a2, a3⟩ := segD_run hXs htb seg F F0 F1 c0 hok ht0 hw hrun hc0
                  exact fin F1' a1 (((segD_weak seg F F c0 (fun t => .inl rfl) hrun).trans a2).set _ _) (chosen_run hXs htb hop hv a2 a3)
                | false =>
                  obtain ⟨a1, a2, a3⟩ := segD_skip (E := E) (H := H) htb seg F F0 hok ht0 hw
                  exact fin _ a1 (a2.set _ _) (chosen_skip hXs htb hop hv a3)
            · cases hr; exact h
          · cases hr; exact h
        · split at hr
          · cases hr; exact h
          · cases htb : (t == b) with
            | true => rw [htb, cond_true] at hr; exact op (by rw [hg]; simp only [wantA, ht, htb]) hr
            | false => rw [htb, cond_false] at hr; exact QD.skip (by rw [hg]; simp only [wantA, ht, htb]) (runP_sound hXs f _ l _ hr hc h)
      · cases hr; exact h
theorem qd_go {X : Words} (hXs : X = std) (g : Nat) {l : List AOper} {F : AFr} {c : Cd} {rest : List AOper} {F' : AFr} (he : runP X E.G 1000 g l F H = (c, rest, F')) (hc : c.ok) (h : QD E H rest F' P) : QD E H l F P :=
  runP_sound hXs 1000 g l F he hc h
end

/-! ### facts on words -/
theorem lt_t {iLt : Int → Int → Bool} {lenA : List AV → Int} (e1 : iLt = Wd.iLt) (e2 : lenA = Wd.lenA) {i : Int} {es : List AV} (h : i < es.length) : iLt i (lenA es) = true := by subst e1 e2; exact decide_eq_true h
theorem lt_f {iLt : Int → Int → Bool} {lenA : List AV → Int} (e1 : iLt = Wd.iLt) (e2 : lenA = Wd.lenA) {i : Int} {es : List AV} (h : ¬ i < es.length) : iLt i (lenA es) = false := by subst e1 e2; exact decide_eq_false h
theorem el_at {α : Type} {atA : List AV → Int → AV} (e : atA = Wd.atA) {enc : α → AV} {l d r : List α} {c : α} {es : List AV} {i : Int} (hes : mapE enc l = es) (hl : l = d ++ c :: r) (hi : i = d.length) : atA es i = enc c := by
  subst e hes hi hl
  rw [mapE_eq]; simp [Wd.atA]
theorem inc_w {iAdd : IntKind → Int → Int → Int} (e : iAdd = Wd.iAdd) {i : Int} {n : Nat} (hi : i = n) (hn : n < 1152921504606846976) : iAdd .i64 i 1 = ((n + 1 : Nat) : Int) := by
  subst e hi
  show IntKind.i64.wrap _ = _
  rw [wrap64 (by omega) (by omega)]; rfl
theorem len_split {α : Type} {l d r : List α} (h : l = d ++ r) : l.length = d.length + r.length := by rw [h, List.length_append]
theorem add_w {iAdd : IntKind → Int → Int → Int} (e : iAdd = Wd.iAdd) {a b : Int} (h1 : -9223372036854775808 ≤ a + b) (h2 : a + b < 9223372036854775808) : iAdd .i64 a b = a + b := by
  subst e; exact wrap64 h1 h2
theorem sub_w {iSub : IntKind → Int → Int → Int} (e : iSub = Wd.iSub) {a b : Int} (h1 : -9223372036854775808 ≤ a - b) (h2 : a - b < 9223372036854775808) : iSub .i64 a b = a - b := by
  subst e; exact wrap64 h1 h2
theorem el_at0 {α : Type} {atA : List AV → Int → AV} (e : atA = Wd.atA) {enc : α → AV} {l d r : List α} {c : α} {es : List AV} {i : Int} (hes : mapE enc l = es) (hl : l = d ++ c :: r) (hi : i.toNat = d.length) : atA es i = enc c := by
  subst e hes hl
  rw [mapE_eq]; simp [Wd.atA, hi]
theorem on_gskip {E : Env} {n N : Nat} {Q : AExit → AFr → AHeap → Prop} {k : List KI} {F : AFr} {H : AHeap} {o : AOper} {l : List AOper} {d : Nat} {b : Bool} (hg : o.guard = some (d, b)) (hd : F.get d = .val (.bool (!b))) (h : Holds E n N Q (.ops l) k (F.set o.dst .undef) H) : Holds E n N Q (.ops (o :: l)) k F H :=
  aops_skip (by rw [hg]; simp only [wantA, hd]; cases b <;> rfl) h
theorem qd_pick {E : Env} {H : AHeap} {P : AFr → Prop} {F : AFr} {o : AOper} {l : List AOper} {c a b : Opd} {t : Bool} (hg : o.guard = none) (ho : o.op = .pick c a b) (hc : c.ev E.G F = .val (.bool t)) (h : QD E H l (F.set o.dst (cond t (a.ev E.G F) (b.ev E.G F))) P) : QD E H (o :: l) F P := by
  intro F0 hw
  have ev : ∀ x : Opd, x.ev E.G F = x.ev E.G F0 ∨ x.ev E.G F = .undef := by
    intro x
    cases x with
    | t i => exact hw i
    | c v => exact .inl rfl
    | g n => exact .inl rfl
  have hwk : Weak (F.set o.dst (cond t (a.ev E.G F) (b.ev E.G F))) (F0.set o.dst (cond t (a.ev E.G F0) (b.ev E.G F0))) := by
    intro u
    rw [AFr.get_set, AFr.get_set]
    split
    · cases t
      · exact ev b
      · exact ev a
    · exact hw u
  obtain ⟨F1, Fs, h1, h2, h3⟩ := h _ hwk
  refine ⟨F1, Fs, .op (by rw [hg]; rfl) ?_ h1, h2, h3⟩
  rw [ho]
  have hc0 : c.ev E.G F0 = .val (.bool t) := hw.val hc
  exact evalOp_some1 (by simp only [evalOp1, hc0, ans])
end Go.Am
end
section
/- The abstract machine, part Zr: guards on what was skipped. -/
set_option linter.unusedVariables false
set_option linter.unusedSimpArgs false
namespace Go.Am
section
variable {E : Env} {n N : Nat} {F : AFr} {H : AHeap}
theorem undef_plain : ∀ cs, undef ≠ Value.agg cs := fun cs h => by cases h
theorem aops_skipv {a : AOper} {rest : List AOper} {Q : AFr → AHeap → Prop} (hg : wantA F a.guard = some false) (h : AOps E n N rest (F.set a.dst (.val undef)) H Q) (hd : ∀ x, a.dst = some x → x < n) : AOps E n N (a :: rest) F H Q := by
  intro ops l hl K w tmps T ds k cs h1 h2 h3
  obtain ⟨i, l', o, rfl, ho, rfl, hl'⟩ := ops_cons hl
  have hgn : (prepOper E.P n ops o).guard ≠ none := by intro e; rw [e] at hg; cases hg
  have hw := wanted_of h2 (prepOper_guard hgn) hg
  have hst := st_op_skip (P := E.P) (T := T) (tmps := tmps) (ds := ds) (k := k) (cs := cs) (w := w) (ops := ops) (i := i) (rest := l') (by simp [ho, hw])
  rw [ho] at hst
  rw [prepOper_dst] at h hd
  have hF := frep_set (Ev.mv h1 (Ev.refl H.length K H w (Nat.le_refl _))) h2 (VRep.val undef undef_plain) o.dst (.inl hd)
  obtain ⟨F', H', K', w', t', q, a1, a2, a3, a4⟩ := h ops l' hl' K w _ T ds k cs h1 hF h3
  exact ⟨F', H', K', w', t', q, a1, a2, a3, .head hst a4⟩
theorem aops_skipu {a : AOper} {rest : List AOper} {Q : AFr → AHeap → Prop} {d : Nat} {b : Bool} (hg : a.guard = some (d, b)) (hu : F.get d = .val undef) (h : AOps E n N rest (F.set a.dst .undef) H Q) : AOps E n N (a :: rest) F H Q := by
  intro ops l hl K w tmps T ds k cs h1 h2 h3
  obtain ⟨i, l', o, rfl, ho, rfl, hl'⟩ := ops_cons hl
  have hgn : (prepOper E.P n ops o).guard ≠ none := by intro e; rw [e] at hg; cases hg
  have hgt := prepOper_guard hgn
  have hw : Region.wanted o (yielded ops tmps) = false := by
    cases hog : o.guard with
    | none => rw [hog] at hgt; simp only [guardT, Option.some.injEq] at hgt; rw [← hgt] at hg; cases hg
    | some jb =>
      obtain ⟨j, want⟩ := jb
      rw [hog] at hgt; simp only [guardT] at hgt
      split at hgt
      · rename_i d' hd
        simp only [Option.some.injEq] at hgt
        rw [← hgt] at hg
        cases hg
        have hr := h2.2 d
        rw [hu] at hr
        have hr := rep_val hr
        have hy : yielded ops tmps j = none := by
          simp only [yielded, hd, Option.bind_some]
          cases hx : tmps[d]? with
          | none => rfl
          | some x => rw [Array.getD_eq_getD_getElem?, hx] at hr; simp at hr; subst hr; rfl
        simp [Region.wanted, hog, hy]
      · cases hgt
  have hst := st_op_skip (P := E.P) (T := T) (tmps := tmps) (ds := ds) (k := k) (cs := cs) (w := w) (ops := ops) (i := i) (rest := l') (by simp [ho, hw])
  rw [ho] at hst
  have hF := frep_set (Ev.mv h1 (Ev.refl H.length K H w (Nat.le_refl _))) h2 (VRep.undef undef) o.dst (.inr rfl)
  rw [prepOper_dst] at h
  obtain ⟨F', H', K', w', t', q, a1, a2, a3, a4⟩ := h ops l' hl' K w _ T ds k cs h1 hF h3
  exact ⟨F', H', K', w', t', q, a1, a2, a3, .head hst a4⟩
theorem guard_u {P : Program} {K : Ctx} {w : World} {tmps : Array Value} {ops : Array Oper} {o : Oper} {d : Nat} {b : Bool} (h2 : FRep n K H.length w F tmps) (hg : (prepOper P n ops o).guard = some (d, b)) (hu : F.get d = .val undef) : Region.wanted o (yielded ops tmps) = false := by
  have hgn : (prepOper P n ops o).guard ≠ none := by intro e; rw [e] at hg; cases hg
  have hgt := prepOper_guard hgn
  cases hog : o.guard with
  | none => rw [hog] at hgt; simp only [guardT, Option.some.injEq] at hgt; rw [← hgt] at hg; cases hg
  | some jb =>
    obtain ⟨j, want⟩ := jb
    rw [hog] at hgt; simp only [guardT] at hgt
    split at hgt
    · rename_i d' hd
      simp only [Option.some.injEq] at hgt
      rw [← hgt] at hg
      cases hg
      have hr := h2.2 d
      rw [hu] at hr
      have hr := rep_val hr
      have hy : yielded ops tmps j = none := by
        simp only [yielded, hd, Option.bind_some]
        cases hx : tmps[d]? with
        | none => rfl
        | some x => rw [Array.getD_eq_getD_getElem?, hx] at hr; simp at hr; subst hr; rfl
      simp [Region.wanted, hog, hy]
    · cases hgt
theorem aops_skipuv {a : AOper} {rest : List AOper} {Q : AFr → AHeap → Prop} {d : Nat} {b : Bool} (hg : a.guard = some (d, b)) (hu : F.get d = .val undef) (h : AOps E n N rest (F.set a.dst (.val undef)) H Q) (hd : ∀ x, a.dst = some x → x < n) : AOps E n N (a :: rest) F H Q := by
  intro ops l hl K w tmps T ds k cs h1 h2 h3
  obtain ⟨i, l', o, rfl, ho, rfl, hl'⟩ := ops_cons hl
  have hw := guard_u h2 hg hu
  have hst := st_op_skip (P := E.P) (T := T) (tmps := tmps) (ds := ds) (k := k) (cs := cs) (w := w) (ops := ops) (i := i) (rest := l') (by simp [ho, hw])
  rw [ho] at hst
  rw [prepOper_dst] at h hd
  have hF := frep_set (Ev.mv h1 (Ev.refl H.length K H w (Nat.le_refl _))) h2 (VRep.val undef undef_plain) o.dst (.inl hd)
  obtain ⟨F', H', K', w', t', q, a1, a2, a3, a4⟩ := h ops l' hl' K w _ T ds k cs h1 hF h3
  exact ⟨F', H', K', w', t', q, a1, a2, a3, .head hst a4⟩
variable {Q : AExit → AFr → AHeap → Prop} {k : List KI}
theorem on_gskipuv {o : AOper} {l : List AOper} {d x : Nat} {b : Bool} (hg : o.guard = some (d, b)) (hu : F.get d = .val undef) (hx : o.dst = some x) (hn : Nat.blt x n = true) (h : Holds E n N Q (.ops l) k ((x, .val undef) :: F) H) : Holds E n N Q (.ops (o :: l)) k F H :=
  aops_skipuv hg hu (by rw [hx]; exact h) (fun y hy => by rw [hx] at hy; cases hy; exact Nat.le_of_ble_eq_true hn)
theorem on_gskipv {o : AOper} {l : List AOper} {d x : Nat} {b : Bool} (hg : o.guard = some (d, b)) (hd : F.get d = .val (.bool (!b))) (hx : o.dst = some x) (hn : Nat.blt x n = true) (h : Holds E n N Q (.ops l) k ((x, .val undef) :: F) H) : Holds E n N Q (.ops (o :: l)) k F H :=
  aops_skipv (by rw [hg]; simp only [wantA, hd]; cases b <;> rfl) (by rw [hx]; exact h) (fun y hy => by rw [hx] at hy; cases hy; exact Nat.le_of_ble_eq_true hn)
theorem on_gskipu {o : AOper} {l : List AOper} {d : Nat} {b : Bool} (hg : o.guard = some (d, b)) (hu : F.get d = .val undef) (h : Holds E n N Q (.ops l) k (F.set o.dst .undef) H) : Holds E n N Q (.ops (o :: l)) k F H := aops_skipu hg hu h
end
end Go.Am
end
section
/- The abstract machine, part Td: drawn regions that change the heap, carried out in the order of the text. -/
set_option linter.unusedVariables false
set_option linter.unusedSimpArgs false
namespace Go.Am

inductive Kd where
  | free
  | look (b : Nat) (ob : Option AObj)
  | eff

/-- what an operation reads of the heap: nothing (none), one object (some b) -/
def readOf (G : Nat → AV) (o : AOp) (F : AFr) : Option Nat :=
  match o with
  | .ld _ _ x => match x.ev G F with
    | .ptr b _ => some b
    | .eptr b _ _ _ => some b
    | _ => none
  | _ => none

theorem evalBin_free {op : BinOp} {x y : AV} {H H' H1 : AHeap} {c : Bool} {v : AV} (h : evalBin op x y H = some (c, v, H1)) : evalBin op x y H' = some (c, v, H') := by
  unfold evalBin at h ⊢
  split at h
  · split at h
    · rename_i hk
      rw [if_pos hk]
      cases op <;> simp [ans, cmpI] at h ⊢ <;> first | exact h.1 | exact ⟨h.1, h.2.1⟩
    · cases h
  · cases op <;> simp [ans] at h ⊢ <;> first | exact h.1 | exact ⟨h.1, h.2.1⟩
  · cases h
theorem free1 {G : Nat → AV} {o : AOp} {F : AFr} {H H' H1 : AHeap} {c : Bool} {v : AV} (hq : quietOp o = true) (hr : readOf G o F = none) (h : evalOp1 G o F H = some (c, v, H1)) : evalOp1 G o F H' = some (c, v, H') := by
  cases o with
  | bin op x y => exact evalBin_free h
  | ld k agg x =>
    simp only [evalOp1, readOf] at h hr ⊢
    split at h
    · rename_i cs hx
      split at h
      · rename_i u hu
        simp only [ans, Option.some.injEq, Prod.mk.injEq] at h ⊢
        exact ⟨h.1, h.2.1, trivial⟩
      · cases h
    · rename_i hx; rw [hx] at hr; cases hr
    · rename_i hx; rw [hx] at hr; cases hr
    · cases h
  | _ => first | (cases hq; done) | (simp only [evalOp1, ans] at h ⊢; (repeat' split at h) <;> first | (simp only [Option.some.injEq, Prod.mk.injEq] at h; simp_all; done) | (simp_all; done) | cases h)
theorem free2 {G : Nat → AV} {o : AOp} {F : AFr} {H H' H1 : AHeap} {c : Bool} {v : AV} (hq : quietOp o = true) (h : evalOp2 G o F H = some (c, v, H1)) : evalOp2 G o F H' = some (c, v, H') := by
  cases o with
  | bin op x y =>
    cases op with
    | shr =>
      simp only [evalOp2, shrOf] at h ⊢
      split at h
      · simp only [Option.some.injEq, Prod.mk.injEq, and_true] at h ⊢; exact ⟨h.1, h.2.1⟩
      · cases h
    | _ => simp [evalOp2] at h
  | _ => first | (cases hq; done) | (simp only [evalOp2, ans] at h ⊢; (repeat' split at h) <;> first | (simp only [Option.some.injEq, Prod.mk.injEq] at h; simp_all; done) | (simp_all; done) | cases h)
theorem none1 {G : Nat → AV} {o : AOp} {F : AFr} {H H' : AHeap} (hq : quietOp o = true) (hr : readOf G o F = none) (h : evalOp1 G o F H = none) : evalOp1 G o F H' = none := by
  cases h' : evalOp1 G o F H' with
  | none => rfl
  | some r => obtain ⟨c, v, H1⟩ := r; rw [free1 hq hr h'] at h; cases h
theorem free_any {G : Nat → AV} {o : AOp} {F : AFr} {H H1 : AHeap} {c : Bool} {v : AV} (hq : quietOp o = true) (hr : readOf G o F = none) (h : evalOp G o F H = some (c, v, H1)) (H' : AHeap) : evalOp G o F H' = some (c, v, H') := by
  unfold evalOp at h ⊢
  cases h1 : evalOp1 G o F H with
  | some r =>
    rw [h1] at h
    dsimp only at h
    cases h
    rw [free1 (H' := H') hq hr h1]
  | none =>
    rw [h1] at h
    rw [none1 (H' := H') hq hr h1]
    exact free2 hq h
theorem look_any {G : Nat → AV} {o : AOp} {F : AFr} {H H1 H' : AHeap} {c : Bool} {v : AV} {b : Nat} (hr : readOf G o F = some b) (h : evalOp G o F H = some (c, v, H1)) (hb : H'[b]? = H[b]?) : evalOp G o F H' = some (c, v, H') := by
  cases o with
  | ld k agg x =>
    have h2 : ∀ H, evalOp2 G (.ld k agg x) F H = none := fun _ => rfl
    simp only [readOf] at hr
    split at hr
    · rename_i b' off hx
      cases hr
      simp only [evalOp, h2, evalOp1, hx, cellsOf, hb] at h ⊢
      generalize H[b]? = ob at h ⊢
      cases ob with
      | none => simp at h
      | some o =>
        cases o with
        | cells cs =>
          dsimp only at h ⊢
          cases ht : takeC cs off k agg with
          | none => rw [ht] at h; simp at h
          | some u => rw [ht] at h; simp [ans] at h ⊢; exact ⟨h.1, h.2.1⟩
        | _ => simp at h
    · rename_i b' k' i j hx
      cases hr
      simp only [evalOp, h2, evalOp1, hx, arrOf, hb] at h ⊢
      generalize H[b]? = ob at h ⊢
      cases ob with
      | none => simp at h
      | some o =>
        cases o with
        | arr k2 es =>
          dsimp only at h ⊢
          cases hk : Nat.beq k' k2 with
          | false => rw [hk] at h; simp at h
          | true =>
            rw [hk] at h
            simp only [if_true] at h ⊢
            cases ht : takeC (es.getD i AV.undef).cells j k agg with
            | none => rw [ht] at h; simp at h
            | some u => rw [ht] at h; simp at h ⊢; exact ⟨h.1, h.2.1⟩
        | _ => simp at h
    · cases hr
  | _ => cases hr

inductive TRn (E : Env) : List AOper → AFr → AHeap → List AV → List Kd → List AHeap → AFr → AHeap → Prop
  | nil (F H) : TRn E [] F H [] [] [] F H
  | free {o l F H v V ks Hs F' H'} (hg : wantA F o.guard = some true) (hq : quietOp o.op = true) (hr : readOf E.G o.op F = none) (he : evalOp E.G o.op F H = some (true, v, H)) (r : TRn E l (F.set o.dst v) H V ks Hs F' H') : TRn E (o :: l) F H (v :: V) (.free :: ks) Hs F' H'
  | look {o l F H v V ks Hs F' H' b} (hg : wantA F o.guard = some true) (hr : readOf E.G o.op F = some b) (he : evalOp E.G o.op F H = some (true, v, H)) (r : TRn E l (F.set o.dst v) H V ks Hs F' H') : TRn E (o :: l) F H (v :: V) (.look b H[b]? :: ks) Hs F' H'
  | skip {o l F H V ks Hs F' H'} (hg : wantA F o.guard = some false) (r : TRn E l (F.set o.dst .undef) H V ks Hs F' H') : TRn E (o :: l) F H (.undef :: V) (.free :: ks) Hs F' H'
  | pcall {o l F H v V ks Hs F' H'} (f : FuncId) (xs : List Opd) (args : List AV) (hg : wantA F o.guard = some true) (ho : o.op = .call f xs) (ha : xs.map (·.ev E.G F) = args) (hc : PCall E f args v) (hcl : AV.closedL args = true) (r : TRn E l (F.set o.dst v) H V ks Hs F' H') : TRn E (o :: l) F H (v :: V) (.free :: ks) Hs F' H'
  | eff {o l F H v H1 V ks Hs F' H'} (hg : wantA F o.guard = some true) (he : evalOp E.G o.op F H = some (true, v, H1)) (r : TRn E l (F.set o.dst v) H1 V ks Hs F' H') : TRn E (o :: l) F H (v :: V) (.eff :: ks) (H1 :: Hs) F' H'
  | ecall {o l F H v H1 V ks Hs F' H'} (f : FuncId) (xs : List Opd) (args : List AV) (hg : wantA F o.guard = some true) (ho : o.op = .call f xs) (ha : xs.map (·.ev E.G F) = args) (hen : Enters E.P f) (hc : ACall E f args H fun v' H'' => v' = v ∧ H'' = H1) (r : TRn E l (F.set o.dst v) H1 V ks Hs F' H') : TRn E (o :: l) F H (v :: V) (.eff :: ks) (H1 :: Hs) F' H'

theorem TRn.len {E : Env} {l : List AOper} {F F' : AFr} {H H' : AHeap} {V : List AV} {ks : List Kd} {Hs : List AHeap} (h : TRn E l F H V ks Hs F' H') : V.length = l.length ∧ F' = finF F l V := by
  induction h with
  | nil => exact ⟨rfl, rfl⟩
  | _ => rename_i ih; exact ⟨by simp [ih.1], by simp only [finF]; exact ih.2⟩
theorem TRn.get {E : Env} {l : List AOper} {F F' : AFr} {H H' : AHeap} {V : List AV} {ks : List Kd} {Hs : List AHeap} (h : TRn E l F H V ks Hs F' H') (t : Nat) (hd : ∀ o ∈ l, o.dst ≠ some t) : F'.get t = F.get t := by
  rw [h.len.2, finF_none l V F t (fun i o ho => hd o (List.mem_of_getElem? ho))]

def effIdx : Nat → List Kd → List Nat
  | _, [] => []
  | i, .eff :: r => i :: effIdx (i + 1) r
  | i, _ :: r => effIdx (i + 1) r
theorem effIdx_ge : ∀ {ks : List Kd} {i x : Nat}, x ∈ effIdx i ks → i ≤ x
  | [], i, x, h => by cases h
  | .eff :: r, i, x, h => by
    rcases List.mem_cons.1 h with rfl | h
    · exact Nat.le_refl _
    · have := effIdx_ge h; omega
  | .free :: r, i, x, h => by have := effIdx_ge (ks := r) h; omega
  | .look b ob :: r, i, x, h => by have := effIdx_ge (ks := r) h; omega
theorem effIdx_lt : ∀ {ks : List Kd} {i x : Nat}, x ∈ effIdx i ks → x < i + ks.length
  | [], i, x, h => by cases h
  | .eff :: r, i, x, h => by
    rcases List.mem_cons.1 h with rfl | h
    · simp
    · have := effIdx_lt h; simp; omega
  | .free :: r, i, x, h => by have := effIdx_lt (ks := r) h; simp; omega
  | .look b ob :: r, i, x, h => by have := effIdx_lt (ks := r) h; simp; omega
theorem effIdx_nodup : ∀ (ks : List Kd) (i : Nat), (effIdx i ks).Nodup
  | [], i => List.nodup_nil
  | .eff :: r, i => List.nodup_cons.2 ⟨fun h => by have := effIdx_ge h; omega, effIdx_nodup r _⟩
  | .free :: r, i => effIdx_nodup r _
  | .look b ob :: r, i => effIdx_nodup r _

def lookAll (B chain : List Nat) (i b : Nat) (ob : Option AObj) : List AHeap → Nat → Prop
  | [], _ => True
  | H :: r, j => (okpos B chain i j = true → H[b]? = ob) ∧ lookAll B chain i b ob r (j + 1)
theorem lookAll_spec {B chain : List Nat} {i b : Nat} {ob : Option AObj} : ∀ {Hs : List AHeap} {j : Nat}, lookAll B chain i b ob Hs j → ∀ (m : Nat) H, Hs[m]? = some H → okpos B chain i (j + m) = true → H[b]? = ob
  | [], j, h, m, H, hm, _ => by simp at hm
  | H0 :: r, j, h, m, H, hm, hp => by
    cases m with
    | zero => simp at hm; subst hm; exact h.1 hp
    | succ m => exact lookAll_spec h.2 m H (by simpa using hm) (by rwa [show j + 1 + m = j + (m + 1) by omega])
def LooksL (B chain : List Nat) (Hs : List AHeap) : Nat → List Kd → Prop
  | _, [] => True
  | i, .look b ob :: r => lookAll B chain i b ob Hs 0 ∧ LooksL B chain Hs (i + 1) r
  | i, _ :: r => LooksL B chain Hs (i + 1) r

theorem TRn.dop {E : Env} {B : List Nat} {l : List AOper} {F F' : AFr} {H H' : AHeap} {V : List AV} {ks : List Kd} {Hs : List AHeap} (h : TRn E l F H V ks Hs F' H') :
    ∀ (base : Nat) (pre : List Nat) (preH : List AHeap), preH.length = pre.length → (∀ x ∈ pre, x < base) → LooksL B (pre ++ effIdx base ks) (preH ++ H :: Hs) base ks →
    (∀ (i : Nat) o, l[i]? = some o → ∀ t ∈ o.looks, ∀ (k : Nat) o', i ≤ k → l[k]? = some o' → o'.dst ≠ some t) →
    ∀ (i : Nat) o v, l[i]? = some o → V[i]? = some v → DOp E B (pre ++ effIdx base ks) F' (preH ++ H :: Hs) (base + i) o v := by
  induction h with
  | nil => intro base pre preH _ _ _ _ i o v ho; simp at ho
  | @free o l F H v V ks Hs F' H' hg hq hr he r ih =>
    intro base pre preH hlen hpre hlk hl i o' v' ho' hv'
    have hlks : ∀ t ∈ o.looks, F.get t = F'.get t := fun t ht => by
      rw [TRn.get r t (fun o' ho' => by obtain ⟨k, hk⟩ := List.getElem?_of_mem ho'; exact hl 0 o rfl t ht (k + 1) o' (by omega) (by simpa using hk)), AFr.get_set, if_neg (hl 0 o rfl t ht 0 o (Nat.le_refl _) rfl)]
    cases i with
    | zero =>
      simp at ho' hv'; subst ho' hv'
      refine .free (by rw [← looks_want hlks]; exact hg) (fun H2 => ⟨true, ?_, rfl⟩) ?_
      · rw [← evalOp_congr (looks_ev hlks)]; exact free_any hq hr he H2
      · rw [Bool.eq_false_iff]; intro hc
        rw [List.contains_iff_mem] at hc
        rcases List.mem_append.1 hc with hc | hc
        · have := hpre _ hc; omega
        · have := effIdx_ge (ks := ks) (show base + 0 ∈ effIdx (base + 1) ks from hc); omega
    | succ i =>
      have := ih (base + 1) pre preH hlen (fun x hx => Nat.lt_succ_of_lt (hpre x hx)) hlk (fun i o'' ho t ht k o3 hk ho3 => hl (i + 1) o'' (by simpa using ho) t ht (k + 1) o3 (by omega) (by simpa using ho3)) i o' v' (by simpa using ho') (by simpa using hv')
      rwa [show base + 1 + i = base + (i + 1) by omega] at this
  | @look o l F H v V ks Hs F' H' b hg hr he r ih =>
    intro base pre preH hlen hpre hlk hl i o' v' ho' hv'
    have hlks : ∀ t ∈ o.looks, F.get t = F'.get t := fun t ht => by
      rw [TRn.get r t (fun o' ho' => by obtain ⟨k, hk⟩ := List.getElem?_of_mem ho'; exact hl 0 o rfl t ht (k + 1) o' (by omega) (by simpa using hk)), AFr.get_set, if_neg (hl 0 o rfl t ht 0 o (Nat.le_refl _) rfl)]
    cases i with
    | zero =>
      simp at ho' hv'; subst ho' hv'
      refine .look (by rw [← looks_want hlks]; exact hg) (fun j H2 hj hp => ⟨true, ?_, rfl⟩) ?_
      · rw [← evalOp_congr (looks_ev hlks)]
        exact look_any hr he (lookAll_spec hlk.1 j H2 hj (by simpa using hp))
      · rw [Bool.eq_false_iff]; intro hc
        rw [List.contains_iff_mem] at hc
        rcases List.mem_append.1 hc with hc | hc
        · have := hpre _ hc; omega
        · have := effIdx_ge (ks := ks) (show base + 0 ∈ effIdx (base + 1) ks from hc); omega
    | succ i =>
      have := ih (base + 1) pre preH hlen (fun x hx => Nat.lt_succ_of_lt (hpre x hx)) hlk.2 (fun i o'' ho t ht k o3 hk ho3 => hl (i + 1) o'' (by simpa using ho) t ht (k + 1) o3 (by omega) (by simpa using ho3)) i o' v' (by simpa using ho') (by simpa using hv')
      rwa [show base + 1 + i = base + (i + 1) by omega] at this
  | @skip o l F H V ks Hs F' H' hg r ih =>
    intro base pre preH hlen hpre hlk hl i o' v' ho' hv'
    have hlks : ∀ t ∈ o.looks, F.get t = F'.get t := fun t ht => by
      rw [TRn.get r t (fun o' ho' => by obtain ⟨k, hk⟩ := List.getElem?_of_mem ho'; exact hl 0 o rfl t ht (k + 1) o' (by omega) (by simpa using hk)), AFr.get_set, if_neg (hl 0 o rfl t ht 0 o (Nat.le_refl _) rfl)]
    cases i with
    | zero =>
      simp at ho' hv'; subst ho' hv'
      refine .skip (by rw [← looks_want hlks]; exact hg) rfl ?_
      rw [Bool.eq_false_iff]; intro hc
      rw [List.contains_iff_mem] at hc
      rcases List.mem_append.1 hc with hc | hc
      · have := hpre _ hc; omega
      · have := effIdx_ge (ks := ks) (show base + 0 ∈ effIdx (base + 1) ks from hc); omega
    | succ i =>
      have := ih (base + 1) pre preH hlen (fun x hx => Nat.lt_succ_of_lt (hpre x hx)) hlk (fun i o'' ho t ht k o3 hk ho3 => hl (i + 1) o'' (by simpa using ho) t ht (k + 1) o3 (by omega) (by simpa using ho3)) i o' v' (by simpa using ho') (by simpa using hv')
      rwa [show base + 1 + i = base + (i + 1) by omega] at this
  | @pcall o l F H v V ks Hs F' H' f xs args hg ho ha hc hcl r ih =>
    intro base pre preH hlen hpre hlk hl i o' v' ho' hv'
    have hlks : ∀ t ∈ o.looks, F.get t = F'.get t := fun t ht => by
      rw [TRn.get r t (fun o' ho' => by obtain ⟨k, hk⟩ := List.getElem?_of_mem ho'; exact hl 0 o rfl t ht (k + 1) o' (by omega) (by simpa using hk)), AFr.get_set, if_neg (hl 0 o rfl t ht 0 o (Nat.le_refl _) rfl)]
    cases i with
    | zero =>
      simp at ho' hv'; subst ho' hv'
      refine .call f xs args (by rw [← looks_want hlks]; exact hg) ho ?_ hc.1 (fun j H2 hj hp => hc.lift hcl) ?_
      · rw [← ha]; exact (List.map_congr_left fun x hx => looks_ev hlks x (by rw [ho]; exact hx)).symm
      · rw [Bool.eq_false_iff]; intro hc
        rw [List.contains_iff_mem] at hc
        rcases List.mem_append.1 hc with hc | hc
        · have := hpre _ hc; omega
        · have := effIdx_ge (ks := ks) (show base + 0 ∈ effIdx (base + 1) ks from hc); omega
    | succ i =>
      have := ih (base + 1) pre preH hlen (fun x hx => Nat.lt_succ_of_lt (hpre x hx)) hlk (fun i o'' ho t ht k o3 hk ho3 => hl (i + 1) o'' (by simpa using ho) t ht (k + 1) o3 (by omega) (by simpa using ho3)) i o' v' (by simpa using ho') (by simpa using hv')
      rwa [show base + 1 + i = base + (i + 1) by omega] at this
  | @eff o l F H v H1 V ks Hs F' H' hg he r ih =>
    intro base pre preH hlen hpre hlk hl i o' v' ho' hv'
    have hlks : ∀ t ∈ o.looks, F.get t = F'.get t := fun t ht => by
      rw [TRn.get r t (fun o' ho' => by obtain ⟨k, hk⟩ := List.getElem?_of_mem ho'; exact hl 0 o rfl t ht (k + 1) o' (by omega) (by simpa using hk)), AFr.get_set, if_neg (hl 0 o rfl t ht 0 o (Nat.le_refl _) rfl)]
    have e1 : pre ++ effIdx base (.eff :: ks) = (pre ++ [base]) ++ effIdx (base + 1) ks := by simp [effIdx]
    have e2 : preH ++ H :: H1 :: Hs = (preH ++ [H]) ++ H1 :: Hs := by simp
    cases i with
    | zero =>
      simp at ho' hv'; subst ho' hv'
      refine .eff pre.length H H1 true (by rw [← looks_want hlks]; exact hg) (by simp [effIdx]) (by rw [← hlen]; simp) (by rw [← hlen]; simp) (by rw [← evalOp_congr (looks_ev hlks)]; exact he) rfl
    | succ i =>
      have := ih (base + 1) (pre ++ [base]) (preH ++ [H]) (by simp [hlen]) (fun x hx => by
        rcases List.mem_append.1 hx with hx | hx
        · exact Nat.lt_succ_of_lt (hpre x hx)
        · simp at hx; omega) (by rw [← e1, ← e2]; exact hlk) (fun i o'' ho t ht k o3 hk ho3 => hl (i + 1) o'' (by simpa using ho) t ht (k + 1) o3 (by omega) (by simpa using ho3)) i o' v' (by simpa using ho') (by simpa using hv')
      rw [← e1, ← e2] at this
      rwa [show base + 1 + i = base + (i + 1) by omega] at this
  | @ecall o l F H v H1 V ks Hs F' H' f xs args hg ho ha hen hc r ih =>
    intro base pre preH hlen hpre hlk hl i o' v' ho' hv'
    have hlks : ∀ t ∈ o.looks, F.get t = F'.get t := fun t ht => by
      rw [TRn.get r t (fun o' ho' => by obtain ⟨k, hk⟩ := List.getElem?_of_mem ho'; exact hl 0 o rfl t ht (k + 1) o' (by omega) (by simpa using hk)), AFr.get_set, if_neg (hl 0 o rfl t ht 0 o (Nat.le_refl _) rfl)]
    have e1 : pre ++ effIdx base (.eff :: ks) = (pre ++ [base]) ++ effIdx (base + 1) ks := by simp [effIdx]
    have e2 : preH ++ H :: H1 :: Hs = (preH ++ [H]) ++ H1 :: Hs := by simp
    cases i with
    | zero =>
      simp at ho' hv'; subst ho' hv'
      refine .ecall pre.length H H1 f xs args (by rw [← looks_want hlks]; exact hg) (by simp [effIdx]) (by rw [← hlen]; simp) (by rw [← hlen]; simp) ho ?_ hen hc
      rw [← ha]; exact (List.map_congr_left fun x hx => looks_ev hlks x (by rw [ho]; exact hx)).symm
    | succ i =>
      have := ih (base + 1) (pre ++ [base]) (preH ++ [H]) (by simp [hlen]) (fun x hx => by
        rcases List.mem_append.1 hx with hx | hx
        · exact Nat.lt_succ_of_lt (hpre x hx)
        · simp at hx; omega) (by rw [← e1, ← e2]; exact hlk) (fun i o'' ho t ht k o3 hk ho3 => hl (i + 1) o'' (by simpa using ho) t ht (k + 1) o3 (by omega) (by simpa using ho3)) i o' v' (by simpa using ho') (by simpa using hv')
      rw [← e1, ← e2] at this
      rwa [show base + 1 + i = base + (i + 1) by omega] at this
theorem TRn.kinds3 {E : Env} {l : List AOper} {F F' : AFr} {H H' : AHeap} {V : List AV} {ks : List Kd} {Hs : List AHeap} (h : TRn E l F H V ks Hs F' H') : ks.length = l.length ∧ (∀ i, Hs.length = (effIdx i ks).length) ∧ (H :: Hs)[Hs.length]? = some H' := by
  induction h with
  | nil => exact ⟨rfl, fun _ => rfl, rfl⟩
  | eff hg he r ih => exact ⟨by simp [ih.1], fun i => by simp only [effIdx, List.length_cons]; rw [ih.2.1 (i + 1)], by simpa using ih.2.2⟩
  | ecall f xs args hg ho ha hen hc r ih => exact ⟨by simp [ih.1], fun i => by simp only [effIdx, List.length_cons]; rw [ih.2.1 (i + 1)], by simpa using ih.2.2⟩
  | _ => rename_i ih; exact ⟨by simp [ih.1], fun i => by simp only [effIdx]; exact ih.2.1 (i + 1), ih.2.2⟩

def TR (E : Env) (l : List AOper) (F : AFr) (H : AHeap) (K : List Kd → List AHeap → AFr → AHeap → Prop) : Prop := ∃ V ks Hs F' H', TRn E l F H V ks Hs F' H' ∧ K ks Hs F' H'

section
variable {E : Env} {n N : Nat} {Q : AExit → AFr → AHeap → Prop} {k : List KI} {F : AFr} {H : AHeap} {K : List Kd → List AHeap → AFr → AHeap → Prop}
theorem tr_draw {ops : List AOper} (hm : E.P.follows .mixedOrders = true) (hwf : wfDraw ops (befs ops []) = true) (h : TR E ops F H (fun ks Hs F' H' => chainsFrom (befs ops []) (effIdx 0 ks).length (effIdx 0 ks) = [effIdx 0 ks] ∧ LooksL (befs ops []) (effIdx 0 ks) (H :: Hs) 0 ks ∧ Holds E n N Q (.out .normal) k F' H')) : Holds E n N Q (.code (.draw ops)) k F H := by
  obtain ⟨V, ks, Hs, F', H', ht, h1, h2, h3⟩ := h
  have wf := wfDraw_spec hwf
  have hB : ∀ i k, ((befs ops []).getD i 0).testBit k = true → Anc ops k i := by
    have := befs_spec ops [] [] rfl (fun i k hk => by simp at hk)
    simpa using this
  obtain ⟨m1, m2, m3⟩ := ht.kinds3
  refine awp_draw hm (effIdx 0 ks) hwf ?_ (effIdx_nodup _ _) fun chain hch => ?_
  · rw [List.all_eq_true]; intro x hx
    have := effIdx_lt hx
    exact Nat.ble_eq_true_of_le (by omega)
  · rw [h1, List.mem_singleton] at hch
    subst hch
    refine ⟨V, H :: Hs, H', ht.len.1, by simp [m2 0], rfl, fun i o v ho hv => ?_, ?_, ?_⟩
    · rw [← ht.len.2]
      have := ht.dop (B := befs ops []) 0 [] [] rfl (fun x hx => by cases hx) h2 (fun i o ho t ht k o' hik hk hd => by
        have := (hB i k (wf.look i k o o' t ho hk ht hd)).lt wf
        omega) i o v ho hv
      simpa using this
    · rw [← m2 0]; exact m3
    · rw [← ht.len.2]; exact h3
theorem tr_nil (h : K [] [] F H) : TR E [] F H K := ⟨[], [], [], F, H, .nil _ _, h⟩
theorem tr_free {o : AOper} {l : List AOper} {v : AV} (hg : wantA F o.guard = some true) (hq : quietOp o.op = true) (hr : readOf E.G o.op F = none) (he : evalOp E.G o.op F H = some (true, v, H)) (h : TR E l (F.set o.dst v) H (fun ks => K (.free :: ks))) : TR E (o :: l) F H K := by
  obtain ⟨V, ks, Hs, F', H', a, b⟩ := h; exact ⟨_, _, _, _, _, .free hg hq hr he a, b⟩
theorem tr_look {o : AOper} {l : List AOper} {v : AV} {b : Nat} (hg : wantA F o.guard = some true) (hr : readOf E.G o.op F = some b) (he : evalOp E.G o.op F H = some (true, v, H)) (h : TR E l (F.set o.dst v) H (fun ks => K (.look b H[b]? :: ks))) : TR E (o :: l) F H K := by
  obtain ⟨V, ks, Hs, F', H', a, b⟩ := h; exact ⟨_, _, _, _, _, .look hg hr he a, b⟩
theorem tr_skip {o : AOper} {l : List AOper} (hg : wantA F o.guard = some false) (h : TR E l (F.set o.dst .undef) H (fun ks => K (.free :: ks))) : TR E (o :: l) F H K := by
  obtain ⟨V, ks, Hs, F', H', a, b⟩ := h; exact ⟨_, _, _, _, _, .skip hg a, b⟩
theorem tr_pcall {o : AOper} {l : List AOper} {f : FuncId} {xs : List Opd} {args : List AV} {v : AV} (hg : wantA F o.guard = some true) (ho : o.op = .call f xs) (ha : xs.map (·.ev E.G F) = args) (hc : PCall E f args v) (hcl : AV.closedL args = true) (h : TR E l (F.set o.dst v) H (fun ks => K (.free :: ks))) : TR E (o :: l) F H K := by
  obtain ⟨V, ks, Hs, F', H', a, b⟩ := h; exact ⟨_, _, _, _, _, .pcall f xs args hg ho ha hc hcl a, b⟩
theorem tr_eff {o : AOper} {l : List AOper} {v : AV} {H1 : AHeap} (hg : wantA F o.guard = some true) (he : evalOp E.G o.op F H = some (true, v, H1)) (h : TR E l (F.set o.dst v) H1 (fun ks Hs => K (.eff :: ks) (H1 :: Hs))) : TR E (o :: l) F H K := by
  obtain ⟨V, ks, Hs, F', H', a, b⟩ := h; exact ⟨_, _, _, _, _, .eff hg he a, b⟩
theorem tr_ocall {o : AOper} {l : List AOper} {f : FuncId} {xs : List Opd} {args : List AV} {v v' : AV} {H0 H' : AHeap} (hg : wantA F o.guard = some true) (ho : o.op = .call f xs) (ha : xs.map (·.ev E.G F) = args) (hc : OCall E f args v H0) (hcl : AV.closedL args = true)
    (hv : v.sub (sh H.length) = v') (hH : H0.map (AObj.sub (sh H.length)) = H') (h : TR E l (F.set o.dst v') (H ++ H') (fun ks Hs => K (.eff :: ks) ((H ++ H') :: Hs))) : TR E (o :: l) F H K := by
  obtain ⟨V, ks, Hs, F', H2, a, b⟩ := h
  exact ⟨_, _, _, _, _, .ecall f xs args hg ho ha hc.1 (by subst hv hH; exact hc.lift hcl) a, b⟩
end

/-- the region in the order of the text, as far as it goes without calls -/
def runT (X : Words) (G : Nat → AV) : Nat → List AOper → AFr → AHeap → Cd × List AOper × AFr × AHeap × List Kd × List AHeap
  | 0, l, F, H => (.tt, l, F, H, [], [])
  | _ + 1, [], F, H => (.tt, [], F, H, [], [])
  | f + 1, o :: l, F, H =>
    match o.guard with
    | none => match opX X G o.op F H with
      | some (c, v, H1) => cond (quietOp o.op)
        (match readOf G o.op F with
        | none => match runT X G f l (F.set o.dst v) H with
          | (c', r, F', H', ks, Hs) => (andD c c', r, F', H', .free :: ks, Hs)
        | some b => match runT X G f l (F.set o.dst v) H with
          | (c', r, F', H', ks, Hs) => (andD c c', r, F', H', .look b H[b]? :: ks, Hs))
        (match runT X G f l (F.set o.dst v) H1 with
        | (c', r, F', H', ks, Hs) => (andD c c', r, F', H', .eff :: ks, H1 :: Hs))
      | none => (.tt, o :: l, F, H, [], [])
    | some _ => (.tt, o :: l, F, H, [], [])
theorem runT_sound {E : Env} {X : Words} (hXs : X = std) : ∀ (f : Nat) (l : List AOper) (F : AFr) (H : AHeap) (K : List Kd → List AHeap → AFr → AHeap → Prop) {c : Cd} {rest : List AOper} {F' : AFr} {H' : AHeap} {ks : List Kd} {Hs : List AHeap}, runT X E.G f l F H = (c, rest, F', H', ks, Hs) → c.ok →
    TR E rest F' H' (fun k2 H2 => K (ks ++ k2) (Hs ++ H2)) → TR E l F H K
  | 0, l, F, H, K, c, rest, F', H', ks, Hs, hr, hc, h => by simp only [runT] at hr; cases hr; exact h
  | f + 1, [], F, H, K, c, rest, F', H', ks, Hs, hr, hc, h => by simp only [runT] at hr; cases hr; exact h
  | f + 1, o :: l, F, H, K, c, rest, F', H', ks, Hs, hr, hc, h => by
    simp only [runT] at hr
    split at hr
    · rename_i hg
      have hw : wantA F o.guard = some true := by rw [hg]; rfl
      split at hr
      · rename_i c0 v H1 hop
        cases hq : quietOp o.op with
        | true =>
          rw [hq, cond_true] at hr
          cases hrd : readOf E.G o.op F with
          | none =>
            rw [hrd] at hr
            dsimp only at hr
            cases hx : runT X E.G f l (F.set o.dst v) H with
            | mk c' r =>
              obtain ⟨r1, r2, r3, r4, r5⟩ := r
              rw [hx] at hr
              simp only [Prod.mk.injEq] at hr
              obtain ⟨rfl, rfl, rfl, rfl, rfl, rfl⟩ := hr
              have hc := andD_ok hc
              have hop := opX_spec hXs hop hc.1
              have hH := quiet_heap hq hop
              rw [hH] at hop
              exact tr_free hw hq hrd hop (runT_sound hXs f l _ _ _ hx hc.2 h)
          | some b =>
            rw [hrd] at hr
            dsimp only at hr
            cases hx : runT X E.G f l (F.set o.dst v) H with
            | mk c' r =>
              obtain ⟨r1, r2, r3, r4, r5⟩ := r
              rw [hx] at hr
              simp only [Prod.mk.injEq] at hr
              obtain ⟨rfl, rfl, rfl, rfl, rfl, rfl⟩ := hr
              have hc := andD_ok hc
              have hop := opX_spec hXs hop hc.1
              have hH := quiet_heap hq hop
              rw [hH] at hop
              exact tr_look hw hrd hop (runT_sound hXs f l _ _ _ hx hc.2 h)
        | false =>
          rw [hq, cond_false] at hr
          cases hx : runT X E.G f l (F.set o.dst v) H1 with
          | mk c' r =>
            obtain ⟨r1, r2, r3, r4, r5⟩ := r
            rw [hx] at hr
            simp only [Prod.mk.injEq] at hr
            obtain ⟨rfl, rfl, rfl, rfl, rfl, rfl⟩ := hr
            have hc := andD_ok hc
            exact tr_eff hw (opX_spec hXs hop hc.1) (runT_sound hXs f l _ _ _ hx hc.2 h)
      · cases hr; exact h
    · cases hr; exact h
theorem tr_go {E : Env} {X : Words} (hXs : X = std) {l : List AOper} {F : AFr} {H : AHeap} {K : List Kd → List AHeap → AFr → AHeap → Prop} {c : Cd} {rest : List AOper} {F' : AFr} {H' : AHeap} {ks : List Kd} {Hs : List AHeap} (he : runT X E.G 1000 l F H = (c, rest, F', H', ks, Hs)) (hc : c.ok)
    (h : TR E rest F' H' (fun k2 H2 => K (ks ++ k2) (Hs ++ H2))) : TR E l F H K := runT_sound hXs 1000 l F H K he hc h
end Go.Am
end
section
/- The abstract machine, part Te: blocks let go, loops over functions. -/
set_option linter.unusedVariables false
set_option linter.unusedSimpArgs false
namespace Go.Am
section
variable {E : Env} {n N : Nat} {Q : AExit → AFr → AHeap → Prop} {k : List KI} {F F' : AFr} {H H' X : AHeap}
theorem ent_drop (hb : ∀ o ∈ H, o.sub (keepS H.length) = o) (hN : N ≤ H.length) (hF : FWk H.length (keepS H.length) F F') : Ent E n N F (H ++ X) F' H := by
  intro K w tmps h1 h2 h3
  obtain ⟨a, b, c⟩ := hrep_drop h1 hb
  exact ⟨K, a, ⟨h2.1, fun t => (hF.spec t).rep (c _ _ (h2.2 t))⟩, b N hN⟩
theorem on_entO {l : List AOper} (he : Ent E n N F H F' H') (h : Holds E n N Q (.ops l) k F' H') : Holds E n N Q (.ops l) k F H := AOps.ent he h
/-- a loop over a function value -/
theorem on_rfun {f : Opd} {ps : List Nat} {a b : ACode} {g : FuncId} {cs : List AV} (hf : f.ev E.G F = .fn g cs) (hen : Enters E.P g)
    (h : ACall E g (.yld H.length :: cs) (H ++ [.loop F n ps a b .ready none]) (fun _ H1 => ∃ st pd, H1[H.length]? = some (.loop F n ps a b st pd) ∧ st ≠ .busy ∧ Cont E n N Q k (pd.getD .normal) F (H1.set H.length .dead))) : Holds E n N Q (.code (.rfun f ps a b)) k F H := by
  refine awp_rfun ?_
  rw [hf]
  exact ⟨hen, h⟩
/-- a round, where the body ends by itself -/
def RoundQ (E : Env) (l : Nat) (F : AFr) (n : Nat) (ps : List Nat) (a b : ACode) (R : AV → AHeap → Prop) (e : AExit) (F2 : AFr) (H2 : AHeap) : Prop :=
  ∃ pd2, H2[l]? = some (.loop F n ps a b .busy pd2) ∧ match e with
        | .normal => R (.val (.bool true)) (H2.set l (.loop F n ps a b .ready none))
        | e => R (.val (.bool false)) (H2.set l (.loop F n ps a b .done (some e)))
def AssignQ (E : Env) (l N : Nat) (F : AFr) (n : Nat) (ps : List Nat) (a b : ACode) (R : AV → AHeap → Prop) (e : AExit) (F1 : AFr) (H1 : AHeap) : Prop :=
  e = .normal ∧ ∃ pd1, H1[l]? = some (.loop F n ps a b .ready pd1) ∧ Holds E n N (RoundQ E l F n ps a b R) (.code b) [] F1 (H1.set l (.loop F n ps a b .busy pd1))
theorem yield_round {l : Nat} {args : List AV} {R : AV → AHeap → Prop} {ps : List Nat} {a b : ACode} {pd : Option AExit} (hl : H[l]? = some (.loop F n ps a b .ready pd)) (hlen : ps.length = args.length)
    (h : Holds E n H.length (AssignQ E l H.length F n ps a b R) (.code a) [] (bindF F ps args) H) : AYield E l args H R :=
  ayield_round hl hlen (AWP.mono h fun e F1 H1 ⟨h1, pd1, h2, h3⟩ => ⟨h1, pd1, h2, AWP.mono h3 fun e F2 H2 h => h⟩)
end
end Go.Am
end
section
/- The abstract machine, part Tf: slices of unknown nilness; capacities made known. -/
set_option linter.unusedVariables false
set_option linter.unusedSimpArgs false
namespace Go.Am
theorem prepOp_eqnil {P : Program} {op : Op} {neq : Bool} {x y : Opd} (h : prepOp P op = .eqnil neq x y) : ∃ t e x' y' ty, op = .binOp (if neq then .neq else .eql) t x' y' ty ∧ P.underlying t = some (.slice e) ∧ x = opd x' ∧ y = opd y' := by
  cases op with
  | binOp op t x' y' ty =>
    simp only [prepOp] at h
    split at h
    all_goals first
      | (cases h; done)
      | (split at h <;> cases h; done)
      | (simp only [AOp.eqnil.injEq] at h; obtain ⟨rfl, rfl, rfl⟩ := h; exact ⟨_, _, _, _, _, rfl, ‹_›, rfl, rfl⟩)
  | makeFunc fn first caps => cases fn <;> simp only [prepOp] at h <;> (repeat' split at h) <;> cases h
  | makeMap t r => cases r <;> simp [prepOp] at h
  | call c =>
    obtain ⟨callee, args, ts⟩ := c
    simp only [prepOp] at h
    (repeat' split at h) <;> cases h
  | _ => first | (simp [prepOp] at h; done) | (simp only [prepOp] at h; (repeat' split at h) <;> cases h)
def emptyA : AV → Prop
  | .isl _ es => es = []
  | .sl _ _ _ len => len = 0
  | _ => True
section
variable {E : Env} {n N : Nat} {F : AFr} {H : AHeap}
theorem nil_any {K : Ctx} {M : Nat} {w : World} {v : AV} {y : Value} (hv : (∃ k es, v = .isl k es) ∨ ∃ b k lo len, v = .sl b k lo len) (h : VRep K M w v y) : ∃ a m c, y = .slice a m c ∧ (a.isNone = true → emptyA v) := by
  rcases hv with ⟨k, es, rfl⟩ | ⟨b, k, lo, len, rfl⟩
  · cases h with
    | islnil => exact ⟨_, _, _, rfl, fun _ => rfl⟩
    | isl => exact ⟨_, _, _, rfl, fun h => by cases h⟩
  · cases h with
    | slnil => exact ⟨_, _, _, rfl, fun _ => rfl⟩
    | sl0 => exact ⟨_, _, _, rfl, fun _ => rfl⟩
    | sl => exact ⟨_, _, _, rfl, fun h => by cases h⟩
theorem aops_eqnil {a : AOper} {rest : List AOper} {Q : AFr → AHeap → Prop} {neq : Bool} {x y : Opd} (hg : wantA F a.guard = some true) (ho' : a.op = .eqnil neq x y) (hv : (∃ k es, x.ev E.G F = .isl k es) ∨ ∃ b k lo len, x.ev E.G F = .sl b k lo len) (hy : y.ev E.G F = .val (.slice none 0 0))
    (h : ∀ t : Bool, (t = true → emptyA (x.ev E.G F)) → AOps E n N rest (F.set a.dst (.val (.bool (if neq then !t else t)))) H Q) : AOps E n N (a :: rest) F H Q := by
  intro ops l hl K w tmps T ds k cs h1 h2 h3
  obtain ⟨i, l', o, rfl, ho, rfl, hl'⟩ := ops_cons hl
  have hnb : (prepOper E.P n ops o).op ≠ .bad := by rw [ho']; intro e; cases e
  obtain ⟨e1, e2, e3⟩ := prepOper_op hnb
  rw [e1] at ho' hnb
  have hw := wanted_of h2 e3 hg
  have hops := ops_of h1 h2 (ρ := (T.fr tmps ds (.inRegion ops (i :: l') :: k)).eval) (fun x => Fc.eval_fr _ _ _ _ x)
  obtain ⟨t, e, x', y', ty, hop, hu, rfl, rfl⟩ := prepOp_eqnil ho'
  obtain ⟨ad, m, c, q1, q2⟩ := nil_any hv (hops x')
  have q3 := hops y'
  rw [hy] at q3
  have q3 := rep_val q3
  have hok : OpOk E K H w (execOp (T.fr tmps ds (.inRegion ops (i :: l') :: k)).eval o) (.val (.bool (if neq then !ad.isNone else ad.isNone))) H := by
    have := ok_eqnil h1 (neq := neq) hu (xo := x') (yo := y') ad m c
    rw [← q1, ← q3] at this
    cases neq <;> simpa only [execOp, hop, if_true, Bool.false_eq_true, if_false] using this
  obtain ⟨yv, w1, K1, hr, hv', hh, ev⟩ := hok
  have hst := st_op_value (cs := cs) ho hw (not_defer hnb) hr
  have hF := frep_set (Ev.mv h1 ev) h2 hv' o.dst (.inl e2)
  have h := h ad.isNone q2
  rw [prepOper_dst] at h
  obtain ⟨F', H', K', w', t', q, a1, a2, a3, a4⟩ := h ops l' hl' K1 w1 _ T ds k cs hh hF (Nat.le_trans h3 ev.len)
  exact ⟨F', H', K', w', t', q, a1, a2, (ev.mono h3).trans a3, .head hst a4⟩
variable {Q : AExit → AFr → AHeap → Prop} {k : List KI}
theorem on_eqnilI {o : AOper} {l : List AOper} {neq : Bool} {x y : Opd} {kk : Nat} {es : List AV} (hg : o.guard = none) (ho : o.op = .eqnil neq x y) (hx : x.ev E.G F = .isl kk es) (hy : y.ev E.G F = .val (.slice none 0 0))
    (h : ∀ t : Bool, (t = true → es = []) → Holds E n N Q (.ops l) k (F.set o.dst (.val (.bool (if neq then !t else t)))) H) : Holds E n N Q (.ops (o :: l)) k F H :=
  aops_eqnil (by rw [hg]; rfl) ho (.inl ⟨_, _, hx⟩) hy (fun t ht => h t (by rw [hx] at ht; exact ht))
/-- a slice's capacity is made known; the spare cells are unknown -/
def junkE (k : Nat) : AV := .agg (List.replicate k .undef)
theorem on_cap {cur : ACode} (t b kk lo m : Nat) {es : List AV} (hx : F.get t = .sl b kk lo m) (ha : H[b]? = some (.arr kk es)) (hlen : lo + m = es.length) (hm : 0 < m) (hN : N ≤ H.length)
    (h : ∀ c, m ≤ c → Holds E n N Q (.code cur) k ((t, .slc b kk lo m c) :: F) (H.set b (.arr kk (es ++ List.replicate (c - m) (junkE kk))))) : Holds E n N Q (.code cur) k F H := by
  intro c0 hc0 K w tmps T rs kq cs h1 h2 h3 h4
  have hv := h2.2 t
  rw [hx] at hv
  have hbl : b < H.length := (List.getElem?_eq_some_iff.1 ha).1
  generalize hyv : tmps.getD t undef = yv at hv
  cases hv with
  | slnil => omega
  | sl0 => omega
  | sl _ _ _ _ cap blk base hM hg hle hs =>
    obtain ⟨c, cty, hheap, hck, hl⟩ := h1.arr ha hg
    obtain ⟨c2, t2, f2, g1, g2⟩ := hs
    rw [hheap] at g1; cases g1
    have hH := h1.touch (o' := .arr kk (es ++ List.replicate (cap - m) (junkE kk))) ha trivial hg (w' := w) ⟨fun _ _ => rfl, rfl, fun b c ty fz h => ⟨c, h, rfl⟩, fun b r h => ⟨r, h⟩, rfl, rfl⟩ trivial (fun mv => by
      refine .arr _ _ _ _ _ _ hheap (fun i e he => ?_) (fun i e he => ?_)
      · rcases Nat.lt_or_ge i es.length with hlt | hge
        · rw [List.getElem?_append_left hlt] at he; exact hck i e he
        · rw [List.getElem?_append_right hge, List.getElem?_replicate] at he
          split at he
          · cases he; simp [junkE, AV.cells]
          · cases he
      · rcases Nat.lt_or_ge i es.length with hlt | hge
        · rw [List.getElem?_append_left hlt] at he; exact hl i e he
        · rw [List.getElem?_append_right hge, List.getElem?_replicate] at he
          split at he
          · rename_i hlt
            cases he
            intro j x hj
            simp only [junkE, AV.cells, List.getElem?_replicate] at hj
            split at hj
            · rename_i hjk
              cases hj
              have hin : base + i * kk + j < c.size := by
                have h5 : i * kk + kk ≤ (lo + cap) * kk := mul_lt_step (by omega)
                omega
              exact ⟨_, Array.getElem?_eq_getElem hin, .undef _⟩
            · cases hj
          · cases he)
    obtain ⟨hh2, ev2⟩ := hH
    have hF2 : FRep n K (H.set b (.arr kk (es ++ List.replicate (cap - m) (junkE kk)))).length w ((t, .slc b kk lo m cap) :: F) tmps := by
      refine ⟨h2.1, fun u => ?_⟩
      have e0 := AFr.get_set F (some t) (.slc b kk lo m cap) u
      simp only [AFr.set] at e0
      rw [e0, List.length_set]
      split
      · rename_i heq; cases heq; rw [hyv]; exact .slc _ _ _ _ _ blk base hM hg hle ⟨c, cty, (0, 0), hheap, g2⟩
      · exact h2.2 u
    obtain ⟨e, F', H', K', w', tmps', nw, todo, r1, r2, r3, r4, r5, r6, r7⟩ := h cap hle c0 hc0 K w tmps T rs kq cs hh2 hF2 (by rw [List.length_set]; exact h3) (h4.ev (ev2.mono hN))
    exact ⟨e, F', H', K', w', tmps', nw, todo, r1, r2, r3, (ev2.mono hN).trans r4, r5, r6, r7⟩
end
end Go.Am
end
section
/- The abstract machine, part Tg: arrays whose elements are said otherwise. -/
set_option linter.unusedVariables false
set_option linter.unusedSimpArgs false
namespace Go.Am
theorem osrc_arrS {H : AHeap} {M : Nat} {σ : Nat → Sub} {τ : Nat → Option Nat} {b' b k : Nat} {es es' : List AV} (hH : H[b]? = some (.arr k es)) (ht : τ b' = some b) (hs : σ b = .to b') (he : AV.subL σ es = es') : OSrc H M σ τ b' (.arr k es') := by
  subst he
  refine .some b _ _ hH ht hs (.arr k es _ (WkL.refl M _) fun i e e' h1 h2 => ?_)
  rw [AV.subL_eq, List.getElem?_map, h1] at h2
  cases h2
  rw [AV.cells_sub, List.length_map]
theorem subL_append (σ : Nat → Sub) (a b : List AV) : AV.subL σ (a ++ b) = AV.subL σ a ++ AV.subL σ b := by simp [AV.subL_eq]
theorem arr_sh {k m : Nat} {es : List AV} (h : AV.closedL es = true) : [AObj.arr k es].map (AObj.sub (sh m)) = [.arr k es] := by simp [AObj.sub, subL_closed _ h]
end Go.Am
end
section
/- The abstract machine, part Th: drawn regions that may go in several orders; own blocks given away. -/
set_option linter.unusedVariables false
set_option linter.unusedSimpArgs false
namespace Go.Am

theorem DOp.congr {E : Env} {B chain : List Nat} {F F' : AFr} {Hs : List AHeap} {i : Nat} {o : AOper} {v : AV} (hF : ∀ t, F.get t = F'.get t) (h : DOp E B chain F Hs i o v) : DOp E B chain F' Hs i o v := by
  have ev : ∀ x : Opd, x.ev E.G F = x.ev E.G F' := fun x => by cases x with
    | t i => exact hF i
    | _ => rfl
  have want : wantA F o.guard = wantA F' o.guard := by
    cases o.guard with
    | none => rfl
    | some p => obtain ⟨d, b⟩ := p; simp only [wantA, hF d]
  have args : ∀ xs : List Opd, xs.map (·.ev E.G F) = xs.map (·.ev E.G F') := fun xs => List.map_congr_left fun x _ => ev x
  have eo : ∀ H, evalOp E.G o.op F H = evalOp E.G o.op F' H := fun H => evalOp_congr fun x _ => ev x
  cases h with
  | skip hg hv hc => exact .skip (want ▸ hg) hv hc
  | free hg h hc => exact .free (want ▸ hg) (fun H => by rw [← eo]; exact h H) hc
  | look hg h hc => exact .look (want ▸ hg) (fun j H hj hp => by rw [← eo]; exact h j H hj hp) hc
  | call f xs as hg ho ha hen h hc => exact .call f xs as (want ▸ hg) ho (by rw [← args]; exact ha) hen h hc
  | eff j H H' c hg hj h1 h2 h hc => exact .eff j H H' c (want ▸ hg) hj h1 h2 (by rw [← eo]; exact h) hc
  | ecall j H H' f xs as hg hj h1 h2 ho ha hen h => exact .ecall j H H' f xs as (want ▸ hg) hj h1 h2 ho (by rw [← args]; exact ha) hen h

def effLab : List Nat → List Kd → List Nat
  | i :: ls, .eff :: r => i :: effLab ls r
  | _ :: ls, _ :: r => effLab ls r
  | _, _ => []
theorem effLab_mem : ∀ {ls : List Nat} {ks : List Kd} {x : Nat}, x ∈ effLab ls ks → x ∈ ls
  | [], ks, x, h => by cases ks <;> cases h
  | i :: ls, [], x, h => by cases h
  | i :: ls, .eff :: r, x, h => by
    rcases List.mem_cons.1 h with rfl | h
    · exact List.mem_cons_self
    · exact List.mem_cons_of_mem _ (effLab_mem h)
  | i :: ls, .free :: r, x, h => List.mem_cons_of_mem _ (effLab_mem (ks := r) h)
  | i :: ls, .look b ob :: r, x, h => List.mem_cons_of_mem _ (effLab_mem (ks := r) h)
def LooksP (B chain : List Nat) (Hs : List AHeap) : List Nat → List Kd → Prop
  | i :: ls, .look b ob :: r => lookAll B chain i b ob Hs 0 ∧ LooksP B chain Hs ls r
  | _ :: ls, _ :: r => LooksP B chain Hs ls r
  | _, _ => True

theorem TRn.dopL {E : Env} {B : List Nat} {l : List AOper} {F F' : AFr} {H H' : AHeap} {V : List AV} {ks : List Kd} {Hs : List AHeap} (h : TRn E l F H V ks Hs F' H') :
    ∀ (ls : List Nat) (pre : List Nat) (preH : List AHeap), ls.length = l.length → ls.Nodup → preH.length = pre.length → (∀ x ∈ pre, x ∉ ls) → LooksP B (pre ++ effLab ls ks) (preH ++ H :: Hs) ls ks →
    (∀ (i : Nat) o, l[i]? = some o → ∀ t ∈ o.looks, ∀ (k : Nat) o', i ≤ k → l[k]? = some o' → o'.dst ≠ some t) →
    ∀ (i : Nat) o v x, l[i]? = some o → V[i]? = some v → ls[i]? = some x → DOp E B (pre ++ effLab ls ks) F' (preH ++ H :: Hs) x o v := by
  have nocont : ∀ {pre ls : List Nat} {ks : List Kd} {x : Nat}, (∀ y ∈ pre, y ∉ x :: ls) → (x :: ls).Nodup → (pre ++ effLab ls ks).contains x = false := by
    intro pre ls ks x hp hn
    rw [Bool.eq_false_iff]; intro hc
    rw [List.contains_iff_mem] at hc
    rcases List.mem_append.1 hc with hc | hc
    · exact hp _ hc List.mem_cons_self
    · exact (List.nodup_cons.1 hn).1 (effLab_mem hc)
  induction h with
  | nil => intro ls pre preH _ _ _ _ _ _ i o v x ho; simp at ho
  | @free o l F H v V ks Hs F' H' hg hq hr he r ih =>
    intro ls pre preH hll hnd hlen hpre hlk hl i o' v' x ho' hv' hx
    obtain ⟨x0, ls, rfl⟩ : ∃ x0 r, ls = x0 :: r := by cases ls with | nil => simp at hll | cons a b => exact ⟨a, b, rfl⟩
    have hlks : ∀ t ∈ o.looks, F.get t = F'.get t := fun t ht => by
      rw [TRn.get r t (fun o' ho' => by obtain ⟨k, hk⟩ := List.getElem?_of_mem ho'; exact hl 0 o rfl t ht (k + 1) o' (by omega) (by simpa using hk)), AFr.get_set, if_neg (hl 0 o rfl t ht 0 o (Nat.le_refl _) rfl)]
    cases i with
    | zero =>
      simp at ho' hv' hx; subst ho' hv' hx
      refine .free (by rw [← looks_want hlks]; exact hg) (fun H2 => ⟨true, ?_, rfl⟩) (nocont (ls := ls) (ks := ks) hpre hnd)
      rw [← evalOp_congr (looks_ev hlks)]; exact free_any hq hr he H2
    | succ i =>
      exact ih ls pre preH (by simpa using hll) (List.nodup_cons.1 hnd).2 hlen (fun y hy hm => hpre y hy (List.mem_cons_of_mem _ hm)) hlk (fun i o'' ho t ht k o3 hk ho3 => hl (i + 1) o'' (by simpa using ho) t ht (k + 1) o3 (by omega) (by simpa using ho3)) i o' v' x (by simpa using ho') (by simpa using hv') (by simpa using hx)
  | @look o l F H v V ks Hs F' H' b hg hr he r ih =>
    intro ls pre preH hll hnd hlen hpre hlk hl i o' v' x ho' hv' hx
    obtain ⟨x0, ls, rfl⟩ : ∃ x0 r, ls = x0 :: r := by cases ls with | nil => simp at hll | cons a b => exact ⟨a, b, rfl⟩
    have hlks : ∀ t ∈ o.looks, F.get t = F'.get t := fun t ht => by
      rw [TRn.get r t (fun o' ho' => by obtain ⟨k, hk⟩ := List.getElem?_of_mem ho'; exact hl 0 o rfl t ht (k + 1) o' (by omega) (by simpa using hk)), AFr.get_set, if_neg (hl 0 o rfl t ht 0 o (Nat.le_refl _) rfl)]
    cases i with
    | zero =>
      simp at ho' hv' hx; subst ho' hv' hx
      refine .look (by rw [← looks_want hlks]; exact hg) (fun j H2 hj hp => ⟨true, ?_, rfl⟩) (nocont (ls := ls) (ks := ks) hpre hnd)
      rw [← evalOp_congr (looks_ev hlks)]
      exact look_any hr he (lookAll_spec hlk.1 j H2 hj (by simpa using hp))
    | succ i =>
      exact ih ls pre preH (by simpa using hll) (List.nodup_cons.1 hnd).2 hlen (fun y hy hm => hpre y hy (List.mem_cons_of_mem _ hm)) hlk.2 (fun i o'' ho t ht k o3 hk ho3 => hl (i + 1) o'' (by simpa using ho) t ht (k + 1) o3 (by omega) (by simpa using ho3)) i o' v' x (by simpa using ho') (by simpa using hv') (by simpa using hx)
  | @skip o l F H V ks Hs F' H' hg r ih =>
    intro ls pre preH hll hnd hlen hpre hlk hl i o' v' x ho' hv' hx
    obtain ⟨x0, ls, rfl⟩ : ∃ x0 r, ls = x0 :: r := by cases ls with | nil => simp at hll | cons a b => exact ⟨a, b, rfl⟩
    have hlks : ∀ t ∈ o.looks, F.get t = F'.get t := fun t ht => by
      rw [TRn.get r t (fun o' ho' => by obtain ⟨k, hk⟩ := List.getElem?_of_mem ho'; exact hl 0 o rfl t ht (k + 1) o' (by omega) (by simpa using hk)), AFr.get_set, if_neg (hl 0 o rfl t ht 0 o (Nat.le_refl _) rfl)]
    cases i with
    | zero =>
      simp at ho' hv' hx; subst ho' hv' hx
      exact .skip (by rw [← looks_want hlks]; exact hg) rfl (nocont (ls := ls) (ks := ks) hpre hnd)
    | succ i =>
      exact ih ls pre preH (by simpa using hll) (List.nodup_cons.1 hnd).2 hlen (fun y hy hm => hpre y hy (List.mem_cons_of_mem _ hm)) hlk (fun i o'' ho t ht k o3 hk ho3 => hl (i + 1) o'' (by simpa using ho) t ht (k + 1) o3 (by omega) (by simpa using ho3)) i o' v' x (by simpa using ho') (by simpa using hv') (by simpa using hx)
  | @pcall o l F H v V ks Hs F' H' f xs args hg ho ha hc hcl r ih =>
    intro ls pre preH hll hnd hlen hpre hlk hl i o' v' x ho' hv' hx
    obtain ⟨x0, ls, rfl⟩ : ∃ x0 r, ls = x0 :: r := by cases ls with | nil => simp at hll | cons a b => exact ⟨a, b, rfl⟩
    have hlks : ∀ t ∈ o.looks, F.get t = F'.get t := fun t ht => by
      rw [TRn.get r t (fun o' ho' => by obtain ⟨k, hk⟩ := List.getElem?_of_mem ho'; exact hl 0 o rfl t ht (k + 1) o' (by omega) (by simpa using hk)), AFr.get_set, if_neg (hl 0 o rfl t ht 0 o (Nat.le_refl _) rfl)]
    cases i with
    | zero =>
      simp at ho' hv' hx; subst ho' hv' hx
      refine .call f xs args (by rw [← looks_want hlks]; exact hg) ho ?_ hc.1 (fun j H2 hj hp => hc.lift hcl) (nocont (ls := ls) (ks := ks) hpre hnd)
      rw [← ha]; exact (List.map_congr_left fun x hx => looks_ev hlks x (by rw [ho]; exact hx)).symm
    | succ i =>
      exact ih ls pre preH (by simpa using hll) (List.nodup_cons.1 hnd).2 hlen (fun y hy hm => hpre y hy (List.mem_cons_of_mem _ hm)) hlk (fun i o'' ho t ht k o3 hk ho3 => hl (i + 1) o'' (by simpa using ho) t ht (k + 1) o3 (by omega) (by simpa using ho3)) i o' v' x (by simpa using ho') (by simpa using hv') (by simpa using hx)
  | @eff o l F H v H1 V ks Hs F' H' hg he r ih =>
    intro ls pre preH hll hnd hlen hpre hlk hl i o' v' x ho' hv' hx
    obtain ⟨x0, ls, rfl⟩ : ∃ x0 r, ls = x0 :: r := by cases ls with | nil => simp at hll | cons a b => exact ⟨a, b, rfl⟩
    have hlks : ∀ t ∈ o.looks, F.get t = F'.get t := fun t ht => by
      rw [TRn.get r t (fun o' ho' => by obtain ⟨k, hk⟩ := List.getElem?_of_mem ho'; exact hl 0 o rfl t ht (k + 1) o' (by omega) (by simpa using hk)), AFr.get_set, if_neg (hl 0 o rfl t ht 0 o (Nat.le_refl _) rfl)]
    have e1 : pre ++ effLab (x0 :: ls) (.eff :: ks) = (pre ++ [x0]) ++ effLab ls ks := by simp [effLab]
    have e2 : preH ++ H :: H1 :: Hs = (preH ++ [H]) ++ H1 :: Hs := by simp
    cases i with
    | zero =>
      simp at ho' hv' hx; subst ho' hv' hx
      exact .eff pre.length H H1 true (by rw [← looks_want hlks]; exact hg) (by simp [effLab]) (by rw [← hlen]; simp) (by rw [← hlen]; simp) (by rw [← evalOp_congr (looks_ev hlks)]; exact he) rfl
    | succ i =>
      have := ih ls (pre ++ [x0]) (preH ++ [H]) (by simpa using hll) (List.nodup_cons.1 hnd).2 (by simp [hlen]) (fun y hy hm => by
        rcases List.mem_append.1 hy with hy | hy
        · exact hpre y hy (List.mem_cons_of_mem _ hm)
        · simp at hy; subst hy; exact (List.nodup_cons.1 hnd).1 hm) (by rw [← e1, ← e2]; exact hlk) (fun i o'' ho t ht k o3 hk ho3 => hl (i + 1) o'' (by simpa using ho) t ht (k + 1) o3 (by omega) (by simpa using ho3)) i o' v' x (by simpa using ho') (by simpa using hv') (by simpa using hx)
      rw [← e1, ← e2] at this; exact this
  | @ecall o l F H v H1 V ks Hs F' H' f xs args hg ho ha hen hc r ih =>
    intro ls pre preH hll hnd hlen hpre hlk hl i o' v' x ho' hv' hx
    obtain ⟨x0, ls, rfl⟩ : ∃ x0 r, ls = x0 :: r := by cases ls with | nil => simp at hll | cons a b => exact ⟨a, b, rfl⟩
    have hlks : ∀ t ∈ o.looks, F.get t = F'.get t := fun t ht => by
      rw [TRn.get r t (fun o' ho' => by obtain ⟨k, hk⟩ := List.getElem?_of_mem ho'; exact hl 0 o rfl t ht (k + 1) o' (by omega) (by simpa using hk)), AFr.get_set, if_neg (hl 0 o rfl t ht 0 o (Nat.le_refl _) rfl)]
    have e1 : pre ++ effLab (x0 :: ls) (.eff :: ks) = (pre ++ [x0]) ++ effLab ls ks := by simp [effLab]
    have e2 : preH ++ H :: H1 :: Hs = (preH ++ [H]) ++ H1 :: Hs := by simp
    cases i with
    | zero =>
      simp at ho' hv' hx; subst ho' hv' hx
      refine .ecall pre.length H H1 f xs args (by rw [← looks_want hlks]; exact hg) (by simp [effLab]) (by rw [← hlen]; simp) (by rw [← hlen]; simp) ho ?_ hen hc
      rw [← ha]; exact (List.map_congr_left fun x hx => looks_ev hlks x (by rw [ho]; exact hx)).symm
    | succ i =>
      have := ih ls (pre ++ [x0]) (preH ++ [H]) (by simpa using hll) (List.nodup_cons.1 hnd).2 (by simp [hlen]) (fun y hy hm => by
        rcases List.mem_append.1 hy with hy | hy
        · exact hpre y hy (List.mem_cons_of_mem _ hm)
        · simp at hy; subst hy; exact (List.nodup_cons.1 hnd).1 hm) (by rw [← e1, ← e2]; exact hlk) (fun i o'' ho t ht k o3 hk ho3 => hl (i + 1) o'' (by simpa using ho) t ht (k + 1) o3 (by omega) (by simpa using ho3)) i o' v' x (by simpa using ho') (by simpa using hv') (by simpa using hx)
      rw [← e1, ← e2] at this; exact this

/-- an order that the edges allow -/
def runsB (ops : List AOper) : List Nat → List Nat → Bool
  | S, [] => (List.range ops.length).all fun i => S.contains i
  | S, i :: l => !S.contains i && (match ops[i]? with | some o => o.after.all fun k => S.contains k | none => false) && runsB ops (i :: S) l
theorem runsB_spec {ops : List AOper} : ∀ {l S : List Nat}, runsB ops S l = true → Runs ops S l
  | [], S, h => fun i hi => by
    have := List.all_eq_true.1 h i (List.mem_range.2 hi)
    simpa using this
  | i :: l, S, h => by
    simp only [runsB, Bool.and_eq_true] at h
    obtain ⟨⟨h1, h2⟩, h3⟩ := h
    refine ⟨by simpa using h1, ?_, runsB_spec h3⟩
    split at h2
    · rename_i o ho
      exact ⟨o, ho, fun k hk => by have := List.all_eq_true.1 h2 k hk; simpa using this⟩
    · cases h2

section
variable {E : Env} {n N : Nat} {Q : AExit → AFr → AHeap → Prop} {k : List KI} {F : AFr} {H : AHeap}
theorem Runs.mem_all {ops : List AOper} : ∀ {l S : List Nat}, Runs ops S l → ∀ i, i < ops.length → i ∈ S ∨ i ∈ l
  | [], S, h, i, hi => .inl (h i hi)
  | j :: l, S, h, i, hi => by
    rcases Runs.mem_all h.2.2 i hi with h | h
    · rcases List.mem_cons.1 h with rfl | h
      · exact .inr List.mem_cons_self
      · exact .inl h
    · exact .inr (List.mem_cons_of_mem _ h)
theorem Runs.lt {ops : List AOper} : ∀ {l S : List Nat}, Runs ops S l → ∀ i ∈ l, i < ops.length
  | [], S, h, i, hi => by cases hi
  | j :: l, S, h, i, hi => by
    rcases List.mem_cons.1 hi with rfl | hi
    · obtain ⟨o, ho, _⟩ := h.2.1; exact (List.getElem?_eq_some_iff.1 ho).1
    · exact Runs.lt h.2.2 i hi
/-- what must come before has come -/
theorem Runs.before {ops : List AOper} {i k : Nat} (ha : Anc ops k i) : ∀ {l S : List Nat}, Runs ops S l → Shut ops S → ∀ (p q : Nat), l[p]? = some i → l[q]? = some k → q < p
  | [], S, h, hs, p, q, hp, hq => by simp at hp
  | j :: l, S, h, hs, p, q, hp, hq => by
    have hs' : Shut ops (j :: S) := by
      intro x hx o ho y hy
      rcases List.mem_cons.1 hx with rfl | hx
      · obtain ⟨o', ho', hd⟩ := h.2.1
        rw [ho] at ho'; cases ho'
        exact List.mem_cons_of_mem _ (hd y hy)
      · exact List.mem_cons_of_mem _ (hs x hx o ho y hy)
    cases p with
    | zero =>
      simp at hp; subst hp
      -- then k lies in S, so it does not come again
      have hk : k ∈ S := Anc.mem hs ha h.2.1
      cases q with
      | zero => simp at hq; subst hq; exact absurd hk h.1
      | succ q => exact absurd (List.mem_cons_of_mem _ hk) (Runs.notin h.2.2 k (List.mem_of_getElem? (by simpa using hq)))
    | succ p =>
      cases q with
      | zero => omega
      | succ q =>
        have := Runs.before ha h.2.2 hs' p q (by simpa using hp) (by simpa using hq)
        omega

theorem trp_draw {ops : List AOper} (hm : E.P.follows .mixedOrders = true) (effs : List Nat) (hwf : wfDraw ops (befs ops []) = true) (hlt : effs.all (Nat.blt · ops.length) = true) (hnd : effs.Nodup)
    (h : ∀ chain ∈ chainsFrom (befs ops []) effs.length effs, ∃ ord, runsB ops [] ord = true ∧ TR E (ord.map fun i => ops.getD i default) F H (fun ks Hs F' H' => effLab ord ks = chain ∧ LooksP (befs ops []) chain (H :: Hs) ord ks ∧ Holds E n N Q (.out .normal) k F' H')) : Holds E n N Q (.code (.draw ops)) k F H := by
  have wf := wfDraw_spec hwf
  have hB : ∀ i k, ((befs ops []).getD i 0).testBit k = true → Anc ops k i := by
    have := befs_spec ops [] [] rfl (fun i k hk => by simp at hk)
    simpa using this
  refine AWP.weakEnd (awp_draw hm effs hwf hlt hnd fun chain hch => ?_)
  obtain ⟨ord, hruns, V, ks, Hs, F', H', ht, h1, h2, h3⟩ := h chain hch
  have hr := runsB_spec hruns
  have hnd' := Runs.nodup hr
  have hall : ∀ i, i < ops.length → ∃ p, ord[p]? = some i := fun i hi => by
    rcases Runs.mem_all hr i hi with h | h
    · cases h
    · exact List.getElem?_of_mem h
  obtain ⟨m1, _, m3⟩ := ht.kinds3
  have hget : ∀ {p i : Nat} {o : AOper}, ord[p]? = some i → ops[i]? = some o → (ord.map fun i => ops.getD i default)[p]? = some o := by
    intro p i o hp ho
    rw [List.getElem?_map, hp]; simp [List.getD_eq_getElem?_getD, ho]
  have hget' : ∀ {p : Nat} {o : AOper}, (ord.map fun i => ops.getD i default)[p]? = some o → ∃ i, ord[p]? = some i ∧ ops[i]? = some o := by
    intro p o hp
    rw [List.getElem?_map] at hp
    obtain ⟨i, hi, rfl⟩ := Option.map_eq_some_iff.1 hp
    have hlt := Runs.lt hr i (List.mem_of_getElem? hi)
    exact ⟨i, hi, by simp [List.getD_eq_getElem?_getD, hlt]⟩
  have hVl : V.length = ord.length := by rw [ht.len.1, List.length_map]
  have hlook : ∀ (i : Nat) o, (ord.map fun i => ops.getD i default)[i]? = some o → ∀ t ∈ o.looks, ∀ (k : Nat) o', i ≤ k → (ord.map fun i => ops.getD i default)[k]? = some o' → o'.dst ≠ some t := by
    intro p o hp t ht' q o' hpq hq hd
    obtain ⟨i, e1, e2⟩ := hget' hp
    obtain ⟨j, e3, e4⟩ := hget' hq
    have := Runs.before (hB i j (wf.look i j o o' t e2 e4 ht' hd)) hr (fun x hx => by cases hx) p q e1 e3
    omega
  -- the values by number
  let V' : List AV := (List.range ops.length).map fun i => V.getD (ord.idxOf i) .undef
  have hV' : ∀ {p i : Nat}, ord[p]? = some i → V'[i]? = V[p]? := by
    intro p i hp
    have hlt := Runs.lt hr i (List.mem_of_getElem? hp)
    have hpl : p < ord.length := (List.getElem?_eq_some_iff.1 hp).1
    have hidx : ord.idxOf i = p := by
      have hm := List.mem_of_getElem? hp
      have h1 : ord[ord.idxOf i]? = some i := by
        have hl := List.idxOf_lt_length_iff.2 hm
        rw [List.getElem?_eq_getElem hl, List.getElem_idxOf hl]
      exact (List.getElem?_inj (List.idxOf_lt_length_iff.2 hm) hnd').1 (h1.trans hp.symm)
    simp only [V', List.getElem?_map, List.getElem?_range hlt, Option.map_some, hidx]
    simp [List.getD_eq_getElem?_getD, hVl, hpl]
  have hF : ∀ t, F'.get t = (finF F ops V').get t := by
    intro t
    by_cases hx : ∃ (i : Nat) (o : AOper), ops[i]? = some o ∧ o.dst = some t
    · obtain ⟨i, o, ho, hd⟩ := hx
      obtain ⟨p, hp⟩ := hall i (List.getElem?_eq_some_iff.1 ho).1
      have hpl : p < V.length := by rw [hVl]; exact (List.getElem?_eq_some_iff.1 hp).1
      have e1 : V[p]? = some V[p] := List.getElem?_eq_getElem hpl
      rw [ht.len.2, finF_some _ V F p o V[p] t (hget hp ho) e1 hd (fun q o' hq hd' => by
        obtain ⟨j, e3, e4⟩ := hget' hq
        have := wf.dst i j o o' t ho e4 hd hd'
        subst this
        exact (List.getElem?_inj (List.getElem?_eq_some_iff.1 e3).1 hnd').1 (e3.trans hp.symm))]
      rw [finF_some ops V' F i o V[p] t ho (by rw [hV' hp]; exact e1) hd (fun q o' hq hd' => wf.dst i q o o' t ho hq hd hd')]
    · rw [ht.len.2, finF_none _ V F t (fun p o hp hd => by obtain ⟨i, _, e2⟩ := hget' hp; exact hx ⟨i, o, e2, hd⟩), finF_none ops V' F t (fun i o ho hd => hx ⟨i, o, ho, hd⟩)]
  have hHs : Hs.length = chain.length := by
    have key : ∀ (ls : List Nat) (ks : List Kd), ls.length = ks.length → ∀ i, (effLab ls ks).length = (effIdx i ks).length := by
      intro ls
      induction ls with
      | nil => intro ks hk i; cases ks with | nil => rfl | cons a b => simp at hk
      | cons a b ih =>
        intro ks hk i
        cases ks with
        | nil => simp at hk
        | cons x r =>
          have := ih r (by simpa using hk)
          cases x <;> simp only [effLab, effIdx, List.length_cons, this (i + 1)]
    rw [← h1, key ord ks (by rw [m1, List.length_map]) 0]
    exact ht.kinds3.2.1 0
  refine ⟨V', H :: Hs, H', by simp [V'], by simp [hHs], rfl, fun i o v ho hv => ?_, by rw [← hHs]; exact m3, F', fun t => .inl (hF t), h3⟩
  obtain ⟨p, hp⟩ := hall i (List.getElem?_eq_some_iff.1 ho).1
  rw [hV' hp] at hv
  have := ht.dopL (B := befs ops []) ord [] [] (by simp) hnd' rfl (fun x hx => by cases hx) (by simp only [List.nil_append]; rw [h1]; exact h2) hlook p o v i (hget hp ho) hv hp
  simp only [List.nil_append] at this
  rw [h1] at this
  exact DOp.congr hF this

/-- own blocks are given away with a call: they are promised never to change again -/
theorem PCall.give {f : FuncId} {args args' : List AV} {v : AV} {H1 : AHeap} (L : List Sub) (hlen : H1.length = H.length) (h1 : SubL H H.length (List.map some (List.range H.length)) (ofL L) 0 L) (h2 : ObjL H H.length (ofL L) (ofT (List.map some (List.range H.length))) 0 H1) (ha : AV.subL (ofL L) args = args') (h : PCall E f args' v) (hcl : AV.closedL args' = true) :
    ACall E f args H fun v' H' => v' = v ∧ H' = H1 := by
  intro K w ys hh hv
  have key : ∀ b s, ofL L b = s → s ≠ .gone → L[b]? = some s := by
    intro b s h hs
    unfold ofL at h
    cases hb : L[b]? with
    | none => rw [hb] at h; exact absurd h.symm hs
    | some x => rw [hb] at h; simp at h; rw [h]
  have hT : ∀ b, b < H.length → (List.map some (List.range H.length))[b]? = some (some b) := fun b hb => by simp [hb]
  obtain ⟨K', a, b, c⟩ := hrep_sub (N := H.length) (H' := H1) hh (ofL L) (ofT (List.map some (List.range H.length))) (fun b hb => by simp [ofT, hb]) (by omega) (fun b b' _ hs => by
      have := h1.spec b _ (key b _ hs (by simp))
      simp only [Nat.zero_add] at this
      exact ⟨by rw [hlen]; exact this.1, by simp [ofT, this.2]⟩) (fun b k es' _ hs => by
      have := h1.spec b _ (key b _ hs (by simp)); simpa only [Nat.zero_add] using this) (fun b cs' _ hs => by
      have := h1.spec b _ (key b _ hs (by simp)); simpa only [Nat.zero_add] using this) (fun b' o' ho => by
      have := h2.spec b' o' ho; rw [hlen]; simpa only [Nat.zero_add] using this)
  have hv' : VReps K' H1.length w args' ys := by
    rw [← ha, AV.subL_eq]
    refine ⟨by rw [List.length_map]; exact hv.1, fun i x y hx hy => ?_⟩
    rw [List.getElem?_map] at hx
    obtain ⟨x0, hx0, rfl⟩ := Option.map_eq_some_iff.1 hx
    exact sub_rep hh b _ _ _ (Nat.le_refl _) (hv.2 i x0 y hx0 hy)
  refine (h.lift hcl K' w ys a hv').mono ?_
  rintro e w' ⟨v', y, H', K1, rfl, ⟨rfl, rfl⟩, q1, q2, q3⟩
  exact ⟨_, y, _, K1, rfl, ⟨rfl, rfl⟩, q1, q2, c.trans (by rw [hlen] at q3; exact q3)⟩
theorem tr_ecall {o : AOper} {l : List AOper} {f : FuncId} {xs : List Opd} {args : List AV} {v : AV} {H1 : AHeap} {K : List Kd → List AHeap → AFr → AHeap → Prop} (hg : wantA F o.guard = some true) (ho : o.op = .call f xs) (ha : xs.map (·.ev E.G F) = args) (hen : Enters E.P f) (hc : ACall E f args H fun v' H' => v' = v ∧ H' = H1)
    (h : TR E l (F.set o.dst v) H1 (fun ks Hs => K (.eff :: ks) (H1 :: Hs))) : TR E (o :: l) F H K := by
  obtain ⟨V, ks, Hs, F', H2, a, b⟩ := h
  exact ⟨_, _, _, _, _, .ecall f xs args hg ho ha hen hc a, b⟩
end
end Go.Am
end
section
/- The abstract machine, part Ti: drawn regions in several orders, brought to one state. -/
set_option linter.unusedVariables false
set_option linter.unusedSimpArgs false
namespace Go.Am
def AllC (P : List Nat → Prop) : List (List Nat) → Prop
  | [] => True
  | c :: r => P c ∧ AllC P r
theorem AllC.mem {P : List Nat → Prop} : ∀ {l : List (List Nat)}, AllC P l → ∀ c ∈ l, P c
  | [], _, c, h => by cases h
  | x :: r, h, c, hc => by
    rcases List.mem_cons.1 hc with rfl | hc
    · exact h.1
    · exact h.2.mem c hc
section
variable {E : Env} {n N : Nat} {Q : AExit → AFr → AHeap → Prop} {k : List KI} {F : AFr} {H : AHeap}
theorem trp_drawE {ops : List AOper} (effs : List Nat) (chains : List (List Nat)) (F0 : AFr) (H0 : AHeap) (hm : E.P.follows .mixedOrders = true) (hwf : wfDraw ops (befs ops []) = true) (hlt : effs.all (Nat.blt · ops.length) = true) (hnd : effs.Nodup) (hch : chainsFrom (befs ops []) effs.length effs = chains)
    (hrest : Holds E n N Q (.out .normal) k F0 H0)
    (h : AllC (fun chain => ∃ ord, runsB ops [] ord = true ∧ TR E (ord.map fun i => ops.getD i default) F H (fun ks Hs F' H' => effLab ord ks = chain ∧ LooksP (befs ops []) chain (H :: Hs) ord ks ∧ Ent E n N F' H' F0 H0)) chains) : Holds E n N Q (.code (.draw ops)) k F H := by
  refine AWP.entEnd (trp_draw (k := []) hm effs hwf hlt hnd (Q := fun e F' H' => ∃ F2 H2, Ent E n N F' H' F2 H2 ∧ Cont E n N Q k e F2 H2) fun chain hc => ?_)
  rw [hch] at hc
  obtain ⟨ord, h1, V, ks, Hs, F', H', h2, h3, h4, h5⟩ := h.mem chain hc
  exact ⟨ord, h1, V, ks, Hs, F', H', h2, h3, h4, F0, H0, h5, hrest⟩
theorem tr_drawB {ops : List AOper} {B : List Nat} (hm : E.P.follows .mixedOrders = true) (hB : befs ops [] = B) (hwf : wfDraw ops B = true) (h : TR E ops F H (fun ks Hs F' H' => chainsFrom B (effIdx 0 ks).length (effIdx 0 ks) = [effIdx 0 ks] ∧ LooksL B (effIdx 0 ks) (H :: Hs) 0 ks ∧ Holds E n N Q (.out .normal) k F' H')) : Holds E n N Q (.code (.draw ops)) k F H := by
  subst hB; exact tr_draw hm hwf h
end
end Go.Am
end
section
set_option linter.unusedVariables false
set_option linter.unusedSimpArgs false
set_option maxRecDepth 20000
namespace Go.Am
open Go Go.Lib

section
variable {E : Env} {n N : Nat} {F : AFr} {H : AHeap}

/-- a call of a function without a body, that answers at once and changes nothing -/
theorem aops_ext {a : AOper} {rest : List AOper} {Q : AFr → AHeap → Prop} {f : FuncId} {xs : List Opd} {args : List AV} {v : AV} (hg : wantA F a.guard = some true) (ho' : a.op = .call f xs) (hargs : xs.map (·.ev E.G F) = args)
    (hE : ∀ K w ys, HRep E K w H → VReps K H.length w args ys → ∃ y, (callFunc f ys.toArray).run E.P w = .ok (.value y) w ∧ VRep K H.length w v y)
    (h : AOps E n N rest (F.set a.dst v) H Q) : AOps E n N (a :: rest) F H Q := by
  intro ops l hl K w tmps T ds k cs h1 h2 h3
  obtain ⟨i, l', o, rfl, ho, rfl, hl'⟩ := ops_cons hl
  have hnb : (prepOper E.P n ops o).op ≠ .bad := by rw [ho']; intro e; cases e
  obtain ⟨e1, e2, e3⟩ := prepOper_op hnb
  rw [e1] at ho' hnb
  have hw := wanted_of h2 e3 hg
  have hops := ops_of h1 h2 (ρ := (T.fr tmps ds (.inRegion ops (i :: l') :: k)).eval) (fun x => Fc.eval_fr _ _ _ _ x)
  obtain ⟨c, hop, hcal, rfl⟩ := prepOp_call ho'
  have hvs : VReps K H.length w args (c.args.toList.map (T.fr tmps ds (.inRegion ops (i :: l') :: k)).eval) := by
    rw [← hargs]
    refine ⟨by simp, ?_⟩
    have := rep_list hops (xs := c.args.toList)
    intro j x y hx hy
    exact this j x y (by simpa using hx) hy
  obtain ⟨y, hrunE, hv⟩ := hE K w _ h1 hvs
  have hrun : (execOp (T.fr tmps ds (.inRegion ops (i :: l') :: k)).eval o).run E.P w = .ok (.value y) w := by
    have ha : (c.args.toList.map (T.fr tmps ds (.inRegion ops (i :: l') :: k)).eval).toArray = c.args.map (T.fr tmps ds (.inRegion ops (i :: l') :: k)).eval := Array.ext' (by simp)
    rw [ha] at hrunE
    obtain ⟨callee, args', ts⟩ := c
    dsimp only at hcal ha hrunE
    subst hcal
    have hef : (T.fr tmps ds (.inRegion ops (i :: l') :: k)).eval (.func f) = .func (.func f) #[] #[] := rfl
    simp [execOp, hop, resolve, hef, Deferred.ofValue, invoke]
    exact hrunE
  have hst := st_op_value (cs := cs) ho hw (not_defer hnb) (.inl hrun)
  have hF := frep_set (Ev.mv h1 (Ev.refl H.length K H w (Nat.le_refl _))) h2 hv o.dst (.inl e2)
  rw [prepOper_dst] at h
  obtain ⟨F', H', K', w', t', q, a1, a2, a3, a4⟩ := h ops l' hl' K w _ T ds k cs h1 hF h3
  exact ⟨F', H', K', w', t', q, a1, a2, a3, .head hst a4⟩

/-- the slices of an own array -/
inductive SlOf (b k : Nat) : AV → Prop
  | sl (lo m : Nat) : SlOf b k (.sl b k lo m)
  | slc (lo m c : Nat) : SlOf b k (.slc b k lo m c)

theorem SlOf.inv {b k : Nat} {x : AV} (hs : SlOf b k x) {K : Ctx} {M : Nat} {w : World} {y : Value} (hv : VRep K M w x y) :
    y = .slice none 0 0 ∨ (∃ a, y = .slice (some a) 0 0) ∨ ∃ blk base lo len cap, y = .slice (some ⟨blk, base + lo * k, none⟩) len cap ∧ K.γ b = some (blk, base) ∧ len ≤ cap ∧ sizeAt w blk (base + (lo + cap) * k) := by
  cases hs with
  | sl lo m =>
    cases hv with
    | slnil => exact .inl rfl
    | sl0 _ _ _ a => exact .inr (.inl ⟨a, rfl⟩)
    | sl _ _ _ _ cap blk base hM hg hle hs => exact .inr (.inr ⟨blk, base, lo, m, cap, rfl, hg, hle, hs⟩)
  | slc lo m c =>
    cases hv with
    | slc _ _ _ _ cap blk base hM hg hle hs => exact .inr (.inr ⟨blk, base, lo, m, c, rfl, hg, hle, hs⟩)

theorem frozen_own {K : Ctx} {w : World} (hh : HRep E K w H) {b k blk base : Nat} {es : List AV} (hb : H[b]? = some (.arr k es)) (hg : K.γ b = some (blk, base)) :
    ∃ c ty, w.heap[blk]? = some (.cells c ty (0, 0)) := by
  obtain ⟨c, cty, hheap, _⟩ := hh.arr hb hg
  exact ⟨c, cty, hheap⟩

theorem ov_shape (tS tR : TypeId) (a b : Addr) (la ca lb cb : Nat) : ∃ (S : TypeDesc → Sem Value) (R : Nat → Sem Value), Extern.SlicesOverlaps.overlaps #[tS, tS] #[tR] #[.slice (some a) la ca, .slice (some b) lb cb] =
    (underlying tS >>= fun d => match d with
      | .slice e => Go.sizeOf e >>= fun size => if la = 0 ∨ lb = 0 ∨ size = 0 then pure (Value.bool false) else R size
      | d => S d) := ⟨_, _, rfl⟩
theorem ov_shape0 (tS tR : TypeId) (o0 o1 : Option Addr) (h : o0 = none ∨ o1 = none) (la ca lb cb : Nat) : ∃ (S : TypeDesc → Sem Value), Extern.SlicesOverlaps.overlaps #[tS, tS] #[tR] #[.slice o0 la ca, .slice o1 lb cb] =
    (underlying tS >>= fun d => match d with
      | .slice e => Go.sizeOf e >>= fun _ => pure (Value.bool false)
      | d => S d) := by
  rcases h with rfl | rfl
  · cases o1 <;> exact ⟨_, rfl⟩
  · cases o0 <;> exact ⟨_, rfl⟩
theorem ovz {P : Program} {tS tR te : TypeId} {w : World} {o0 o1 : Option Addr} {la ca lb cb : Nat} (hu : P.underlying tS = some (.slice te)) (hz : ∀ w, (Go.sizeOf te).run P w = .ok (P.cellsOf te) w) (hz0 : la = 0 ∨ lb = 0) : (Extern.SlicesOverlaps.overlaps #[tS, tS] #[tR] #[.slice o0 la ca, .slice o1 lb cb]).run P w = .ok (.bool false) w := by
  have hz1 : la = 0 ∨ lb = 0 ∨ P.cellsOf te = 0 := by rcases hz0 with h | h; exact .inl h; exact .inr (.inl h)
  cases o0 with
  | none =>
    obtain ⟨S, hS⟩ := ov_shape0 tS tR none o1 (.inl rfl) la ca lb cb
    rw [hS]; simp [run_underlying hu, hz]
  | some a => cases o1 with
    | none =>
      obtain ⟨S, hS⟩ := ov_shape0 tS tR (some a) none (.inr rfl) la ca lb cb
      rw [hS]; simp [run_underlying hu, hz]
    | some b =>
      obtain ⟨S, R, hS⟩ := ov_shape tS tR a b la ca lb cb
      rw [hS]; simp [run_underlying hu, hz, hz1]

theorem overlaps_own {f : FuncId} {fn : Func} {tS tR te : TypeId} {ei : TypeInfo} (hf : E.P.funcs[f]? = some fn) (hname : (fn.name == "runtime.NumGoroutine") = false) (hb : fn.body.isNone = true) (hn : Extern.findNext fn = none)
    (he : Extern.find fn = some (Extern.SlicesOverlaps.overlaps #[tS, tS] #[tR])) (hu : E.P.underlying tS = some (.slice te)) (hi : E.P.info? te = some ei)
    {a b ka kb : Nat} {ea eb : List AV} {x0 x1 : AV} (h0 : SlOf a ka x0) (h1 : SlOf b kb x1) (hab : a ≠ b) (hka : H[a]? = some (.arr ka ea)) (hkb : H[b]? = some (.arr kb eb)) (hkb0 : 0 < kb) :
    ∀ K w ys, HRep E K w H → VReps K H.length w [x0, x1] ys → ∃ y, (callFunc f ys.toArray).run E.P w = .ok (.value y) w ∧ VRep K H.length w (.val (.bool false)) y := by
  intro K w ys hh hv
  refine ⟨.bool false, ?_, .val _ (by intro cs; simp)⟩
  obtain ⟨hl, hv⟩ := hv
  obtain ⟨y0, y1, rfl⟩ : ∃ y0 y1, ys = [y0, y1] := by
    match ys, hl with
    | [y0, y1], _ => exact ⟨y0, y1, rfl⟩
  have v0 := hv 0 x0 y0 rfl rfl
  have v1 := hv 1 x1 y1 rfl rfl
  rw [run_callFunc_extern hf hname hb hn he]
  have hz : ∀ w, (Go.sizeOf te).run E.P w = .ok (E.P.cellsOf te) w := fun w => run_sizeOf w hi
  suffices hs : (Extern.SlicesOverlaps.overlaps #[tS, tS] #[tR] #[y0, y1]).run E.P w = .ok (.bool false) w by
    show Result.andThen ((Extern.SlicesOverlaps.overlaps #[tS, tS] #[tR] #[y0, y1]).run E.P w) _ = _
    rw [hs]; rfl
  have hsl : ∀ (o0 o1 : Option Addr) (la ca lb cb : Nat), y0 = .slice o0 la ca → y1 = .slice o1 lb cb → (la = 0 ∨ lb = 0 ∨ ∃ blk0 off0 blk1 off1, o0 = some ⟨blk0, off0, none⟩ ∧ o1 = some ⟨blk1, off1, none⟩ ∧ blk0 ≠ blk1 ∧
      (∃ c ty, w.heap[blk0]? = some (.cells c ty (0, 0))) ∧ ∃ c ty, w.heap[blk1]? = some (.cells c ty (0, 0)) ∧ c.size ≠ 0) → (Extern.SlicesOverlaps.overlaps #[tS, tS] #[tR] #[y0, y1]).run E.P w = .ok (.bool false) w := by
    rintro o0 o1 la ca lb cb rfl rfl hc
    have hzero : (la = 0 ∨ lb = 0) → (Extern.SlicesOverlaps.overlaps #[tS, tS] #[tR] #[.slice o0 la ca, .slice o1 lb cb]).run E.P w = .ok (.bool false) w := fun h => ovz hu hz h
    rcases hc with h | h | ⟨blk0, off0, blk1, off1, rfl, rfl, hne, ⟨c0, ty0, g0⟩, c1, ty1, g1, hsz⟩
    · exact hzero (.inl h)
    · exact hzero (.inr h)
    · refine Go.Lib.run_overlaps_apart w tS tR te hu _ hz ⟨blk0, off0, none⟩ ⟨blk1, off1, none⟩ la ca lb cb hne ty0 ty1 c0.size c1.size ?_ ?_ hsz ?_ ?_
      · simp [World.shape?, g0]
      · simp [World.shape?, g1]
      · simp [World.frozen?, g0]
      · simp [World.frozen?, g0]
  rcases h0.inv v0 with rfl | ⟨a0, rfl⟩ | ⟨blk0, base0, lo0, len0, cap0, rfl, hg0, hle0, hs0⟩
  · rcases h1.inv v1 with rfl | ⟨a1, rfl⟩ | ⟨blk1, base1, lo1, len1, cap1, rfl, hg1, hle1, hs1⟩ <;> exact hsl _ _ _ _ _ _ rfl rfl (.inl rfl)
  · rcases h1.inv v1 with rfl | ⟨a1, rfl⟩ | ⟨blk1, base1, lo1, len1, cap1, rfl, hg1, hle1, hs1⟩ <;> exact hsl _ _ _ _ _ _ rfl rfl (.inl rfl)
  · rcases h1.inv v1 with rfl | ⟨a1, rfl⟩ | ⟨blk1, base1, lo1, len1, cap1, rfl, hg1, hle1, hs1⟩
    · exact hsl _ _ _ _ _ _ rfl rfl (.inr (.inl rfl))
    · exact hsl _ _ _ _ _ _ rfl rfl (.inr (.inl rfl))
    · refine hsl _ _ _ _ _ _ rfl rfl ?_
      by_cases hz0 : len1 = 0
      · exact .inr (.inl hz0)
      · refine .inr (.inr ⟨_, _, _, _, rfl, rfl, ?_, frozen_own hh hka hg0, ?_⟩)
        · rintro rfl
          exact hab (hh.inj a b _ _ _ _ _ hka hkb trivial trivial hg0 hg1)
        · obtain ⟨c1, ty1, g1⟩ := frozen_own hh hkb hg1
          refine ⟨c1, ty1, g1, ?_⟩
          obtain ⟨c2, ty2, fz2, g2, hle⟩ := hs1
          rw [g1] at g2; cases g2
          have : 0 < (lo1 + cap1) * kb := Nat.mul_pos (by omega) hkb0
          omega

theorem on_ext {k : List KI} {Q : AExit → AFr → AHeap → Prop} {o : AOper} {l : List AOper} {f : FuncId} {xs : List Opd} {args : List AV} {v : AV} (hg : o.guard = none) (ho : o.op = .call f xs) (ha : xs.map (·.ev E.G F) = args)
    (hE : ∀ K w ys, HRep E K w H → VReps K H.length w args ys → ∃ y, (callFunc f ys.toArray).run E.P w = .ok (.value y) w ∧ VRep K H.length w v y)
    (h : Holds E n N Q (.ops l) k (F.set o.dst v) H) : Holds E n N Q (.ops (o :: l)) k F H :=
  aops_ext (by rw [hg]; rfl) ho ha hE h
/-- of an own array, only its first elements are known any more -/
theorem ent_trunc {b k m : Nat} {es : List AV} (hb : H[b]? = some (.arr k es)) (hN : N ≤ H.length) : Ent E n N F H F (H.set b (.arr k (es.take m))) := by
  intro K w tmps h1 h2 h3
  have ho := h1.obj b _ hb
  cases hg : K.γ b with
  | none =>
    rw [hg] at ho
    cases ho with
    | arr0 =>
      have he : H.set b (.arr k (([] : List AV).take m)) = H := by
        apply List.ext_getElem?
        intro i
        rw [List.getElem?_set]
        split
        · rename_i hbi; subst hbi; rw [hb]; simp [(List.getElem?_eq_some_iff.1 hb).1]
        · rfl
      rw [he]
      exact ⟨K, h1, h2, (Ev.refl H.length K H w (Nat.le_refl _)).mono hN⟩
  | some g =>
    obtain ⟨blk, base⟩ := g
    obtain ⟨c, cty, hheap, hck, hl⟩ := h1.arr hb hg
    have hH := h1.touch (o' := .arr k (es.take m)) hb trivial hg (w' := w) ⟨fun _ _ => rfl, rfl, fun b c ty fz h => ⟨c, h, rfl⟩, fun b r h => ⟨r, h⟩, rfl, rfl⟩ trivial (fun mv => by
      refine .arr _ _ _ _ _ _ hheap (fun i e he => ?_) (fun i e he => ?_)
      · rw [List.getElem?_take] at he; split at he
        · exact hck i e he
        · cases he
      · rw [List.getElem?_take] at he; split at he
        · exact hl i e he
        · cases he)
    obtain ⟨hh2, ev2⟩ := hH
    exact ⟨K, hh2, by rw [List.length_set]; exact h2, ev2.mono hN⟩
/-- a slice's capacity is forgotten -/
theorem ent_unslc (t : Nat) {b k lo m c : Nat} (hx : F.get t = .slc b k lo m c) : Ent E n N F H ((t, .sl b k lo m) :: F) H := by
  intro K w tmps h1 h2 h3
  refine ⟨K, h1, ⟨h2.1, fun u => ?_⟩, Ev.refl _ _ _ _ h3⟩
  have e0 := AFr.get_set F (some t) (.sl b k lo m) u
  simp only [AFr.set] at e0
  rw [e0]
  split
  · rename_i heq
    cases heq
    have hv := h2.2 t
    rw [hx] at hv
    generalize tmps.getD t undef = y at hv ⊢
    cases hv with
    | slc _ _ _ _ cap blk base hM hg hle hs => exact .sl _ _ _ _ _ blk base hM hg hle hs
  · exact h2.2 u
end
end Go.Am
end
section
set_option linter.unusedVariables false
namespace Go.Am
open Go Go.Lib

section
variable {E : Env} {F : AFr} {H : AHeap} {K : List Kd → List AHeap → AFr → AHeap → Prop}
/-- a guard that is known to hold -/
theorem tr_ung {dst : Option Nat} {op : AOp} {after : List Nat} {guard : Option (Nat × Bool)} {l : List AOper} (hg : wantA F guard = some true) (h : TR E (⟨dst, op, after, none⟩ :: l) F H K) : TR E (⟨dst, op, after, guard⟩ :: l) F H K := by
  obtain ⟨V, ks, Hs, F', H', ht, hk⟩ := h
  refine ⟨V, ks, Hs, F', H', ?_, hk⟩
  cases ht with
  | free h1 hq hr he r => exact .free (o := ⟨dst, op, after, guard⟩) hg hq hr he r
  | look h1 hr he r => exact .look (o := ⟨dst, op, after, guard⟩) hg hr he r
  | skip h1 r => cases h1
  | pcall f xs args h1 ho ha hc hcl r => exact .pcall (o := ⟨dst, op, after, guard⟩) f xs args hg ho ha hc hcl r
  | eff h1 he r => exact .eff (o := ⟨dst, op, after, guard⟩) hg he r
  | ecall f xs args h1 ho ha hen hc r => exact .ecall (o := ⟨dst, op, after, guard⟩) f xs args hg ho ha hen hc r
end
end Go.Am
end
section
/- The abstract machine: a contract serves arguments that are known more exactly (a nil slice is a slice without elements). -/
namespace Go.Am

theorem closed_agg (cs : List AV) : (AV.agg cs).closed = AV.closedL cs := rfl
theorem closed_v (v : Value) : (AV.val v).closed = true := rfl

theorem PCall.weak {E : Env} {f : FuncId} {args args' : List AV} {v : AV} (h : PCall E f args' v) (hw : WkL 0 args args') : PCall E f args v := by
  refine ⟨h.1, fun K w ys hh hv => h.2 K w ys hh ?_⟩
  obtain ⟨hl, hc⟩ := hw.spec
  refine ⟨hl ▸ hv.1, fun i x' y hx hy => ?_⟩
  obtain ⟨x, hx0⟩ : ∃ x, args[i]? = some x := ⟨_, List.getElem?_eq_getElem (by have := (List.getElem?_eq_some_iff.1 hx).1; omega)⟩
  exact (hc i x x' hx0 hx).rep (hv.2 i x y hx0 hy)
end Go.Am
end
section
/- The abstract machine, part Tm: a call that is given own blocks, inside a drawn region. -/
set_option linter.unusedVariables false
namespace Go.Am
theorem ACall.at {E : Env} {f : FuncId} {args args' : List AV} {Hl H1l H H1 : AHeap} {v1 v : AV} (L : List Nat) (hc : ACall E f args Hl fun v' H' => v' = v1 ∧ H' = H1l) (hnd : L.Nodup) (hlt : ∀ x ∈ L, x < H.length)
    (hHl : Hl = L.map fun x => (H.getD x .dead).sub (subOut L)) (hargs : args = args'.map (AV.sub (subOut L))) (hv : v1.sub (subIn L H.length) = v) (hH : mergeH H L H1l = H1) :
    ACall E f args' H fun v' H' => v' = v ∧ H' = H1 := by
  refine ACall.mono (ACall.frame hc (H := H) (args' := args') L hnd hlt hHl hargs) ?_
  rintro _ _ ⟨v0, H', ⟨rfl, rfl⟩, h2, rfl, rfl⟩
  exact ⟨hv, hH⟩
section
variable {E : Env} {n N : Nat} {Q : AExit → AFr → AHeap → Prop} {F0 : AFr} {H0 : AHeap}
/-- several ways out of a loop are brought to one state -/
theorem on_joinX {ι : Type} {cur : Cur} {i : Nat} {b : ACode} {k : List KI} (inv : ι → AFr × AHeap) (good : ι → Prop) (tail : ∀ x, good x → Holds E n N Q (.code b) k (inv x).1 (inv x).2)
    (h : (∀ F H x, good x → Ent E n N F H (inv x).1 (inv x).2 → Holds E n N Q (.out (.exit i)) (.block i :: .seq b :: k) F H) → Holds E n N Q cur (.block i :: .seq b :: k) F0 H0) : Holds E n N Q cur (.block i :: .seq b :: k) F0 H0 := by
  refine h fun F H x hg he => ?_
  show (if i = i then Cont E n N Q (.seq b :: k) .normal F H else Cont E n N Q (.seq b :: k) (.exit i) F H)
  rw [if_pos rfl]
  exact AWP.ent he (tail x hg)
end
end Go.Am
end
