/- Contracts of the program's functions, for every argument that meets the conditions that each theorem names. -/
import Derived.Test.YtecfkfgaejmdfaaCt4
section
set_option linter.unusedVariables false
set_option linter.unusedSimpArgs false
set_option maxRecDepth 20000
namespace Go.Am
open Go.Proofs

theorem asc_span : ∀ (l : List Int) (a b : Int), l.Pairwise (· < ·) → (∀ n ∈ l, a ≤ n ∧ n < b) → (l.length : Int) ≤ max 0 (b - a)
  | [], a, b, _, _ => by simp; omega
  | x :: r, a, b, hp, h => by
    obtain ⟨h1, h2⟩ := List.pairwise_cons.1 hp
    have hx := h x (by simp)
    have := asc_span r (x + 1) b h2 fun n hn => ⟨by have := h1 n hn; omega, (h n (by simp [hn])).2⟩
    simp only [List.length_cons]; omega
theorem ord_of : ∀ (l : List Int) (x : Int), l.Pairwise (· < ·) → (∀ n ∈ l, x < n ∧ 0 ≤ n ∧ n ≤ 1099511627776) → ordF x l = 0
  | [], _, _, _ => rfl
  | a :: r, x, hp, h => by
    obtain ⟨h1, h2⟩ := List.pairwise_cons.1 hp
    have ha := h a (by simp)
    rw [ordF, if_neg (by omega), if_neg (by omega)]
    exact ord_of r a h2 fun n hn => ⟨h1 n hn, (h n (by simp [hn])).2⟩
/-- trackers of numbers below 20 -/
structure T20 (t : Trk) : Prop where
  nrm : Nrm t.next t.bey
  next : t.next ≤ 20
  bey : ∀ n ∈ t.bey, n < 20
  pts : t.pts = []
  mark : t.mark = -1
theorem T20.len {t : Trk} (h : T20 t) : t.bey.length ≤ 20 := by
  have := asc_span t.bey 0 20 h.nrm.asc fun n hn => ⟨by have := h.nrm.gt n hn; have := h.nrm.pos; omega, h.bey n hn⟩
  omega
theorem T20.chk {t : Trk} (h : T20 t) : checkT t = 0 := by
  have h1 := h.len
  have h2 := h.nrm.pos
  have h3 := h.next
  unfold checkT
  rw [if_neg (by omega), if_neg (by omega)]
  exact ord_of _ _ h.nrm.asc fun n hn => by have := h.nrm.gt n hn; have := h.bey n hn; omega
theorem T20.sml {t : Trk} (h : T20 t) : Sml t := ⟨by have := h.len; omega, h.pts⟩
theorem T20.mem {t : Trk} (h : T20 t) {n : Int} (hm : Mem t.next t.bey n) : 0 ≤ n ∧ n < 20 := by
  rcases hm with hm | hm
  · have := h.next; omega
  · have := h.nrm.gt n hm; have := h.nrm.pos; have := h.bey n hm; omega
theorem t20_of {t : Trk} (h1 : Nrm t.next t.bey) (h2 : ∀ n, Mem t.next t.bey n → n < 20) (h3 : t.pts = []) (h4 : t.mark = -1) : T20 t := by
  refine ⟨h1, ?_, fun n hn => h2 n (.inr hn), h3, h4⟩
  by_cases h5 : t.next ≤ 20
  · exact h5
  · have := h2 20 (.inl ⟨by omega, by omega⟩); omega
theorem t20_begin : T20 TrkB := ⟨⟨by simp [TrkB], by simp [TrkB], by simp [TrkB]⟩, by simp [TrkB], by simp [TrkB], rfl, rfl⟩
theorem mem_begin (n : Int) : ¬ Mem TrkB.next TrkB.bey n := by
  rintro (h | h)
  · simp [TrkB] at h; omega
  · simp [TrkB] at h
theorem t20_with {t : Trk} {n : Int} (h : T20 t) (hn : 0 ≤ n ∧ n < 20) : T20 (withT t n) := by
  obtain ⟨h1, h2⟩ := with_nrm h.nrm hn.1
  have h3 := with_pts t n
  refine t20_of h1 (fun m hm => ?_) (h3.1.trans h.pts) (h3.2.trans h.mark)
  rcases (h2 m).1 hm with h4 | rfl
  · exact (h.mem h4).2
  · exact hn.2
theorem recv_small {t : Trk} {n : Int} (h : T20 t) (hn : 0 ≤ n ∧ n < 20) : recvT t n = (withT t n, !contF t n, 0) := by
  have h1 := (t20_with h hn).len
  unfold recvT
  rw [if_neg (by simp [h.chk]), if_neg (by omega)]
  unfold withT at h1 ⊢
  by_cases hc : contF t n = true
  · simp only [hc, if_true, Bool.not_true]
  · simp only [Bool.not_eq_true] at hc
    simp only [hc, Bool.false_eq_true, if_false] at h1 ⊢
    rw [if_neg (by omega)]
    simp
theorem all_small : ∀ (l : List Int) (t : Trk), T20 t → (∀ n ∈ l, 0 ≤ n ∧ n < 20) → allT t l = (foldR t l, true) ∧ T20 (foldR t l)
  | [], t, h, _ => ⟨rfl, h⟩
  | n :: r, t, h, hl => by
    have hn := hl n (by simp)
    have h2 := t20_with h hn
    obtain ⟨i1, i2⟩ := all_small r (withT t n) h2 fun m hm => hl m (by simp [hm])
    refine ⟨?_, i2⟩
    rw [allT, recv_small h hn]
    simp only [ne_eq, not_true_eq_false, if_false]
    exact i1
theorem small_range (l : List Int) (h8 : ∀ n ∈ l, 0 ≤ n ∧ n ≤ 255) : ∀ n ∈ smallF l, 0 ≤ n ∧ n < 20 := by
  intro n hn
  obtain ⟨m, hm, rfl⟩ := List.mem_map.1 hn
  have := h8 m hm
  exact ⟨Int.tmod_nonneg _ this.1, Int.tmod_lt_of_pos _ (by decide)⟩
noncomputable def ofL20 (l : List Int) : Trk := foldR TrkB l
theorem of_mem {l : List Int} (hl : ∀ n ∈ l, 0 ≤ n ∧ n < 20) (m : Int) : Mem (ofL20 l).next (ofL20 l).bey m ↔ m ∈ l := by
  have := (fold_nrm l TrkB t20_begin.nrm fun n hn => (hl n hn).1).2.1 m
  unfold ofL20
  rw [this]
  exact ⟨fun h => h.resolve_left (mem_begin m), .inr⟩
theorem of_t20 {l : List Int} (hl : ∀ n ∈ l, 0 ≤ n ∧ n < 20) : T20 (ofL20 l) := (all_small l TrkB t20_begin hl).2
theorem t20_eq {a b : Trk} (ha : T20 a) (hb : T20 b) (h : ∀ n, Mem a.next a.bey n ↔ Mem b.next b.bey n) : a = b := by
  obtain ⟨h1, h2⟩ := nrm_eq ha.nrm hb.nrm h
  have h3 := ha.pts; have h4 := hb.pts; have h5 := ha.mark; have h6 := hb.mark
  obtain ⟨a1, a2, a3, a4⟩ := a
  obtain ⟨b1, b2, b3, b4⟩ := b
  dsimp only at *
  rw [h1, h2, h3, h4, h5, h6]
theorem merge_small {a b : Trk} (ha : T20 a) (hb : T20 b) : mergeT a b = (mrgT a b, 0) ∧ T20 (mrgT a b) ∧ ∀ n, Mem (mrgT a b).next (mrgT a b).bey n ↔ Mem a.next a.bey n ∨ Mem b.next b.bey n := by
  obtain ⟨m1, m2⟩ := merge_nrm ha.chk hb.chk
  have h20 : T20 (mrgT a b) := t20_of m1 (fun n hn => by
    rcases (m2 n).1 hn with h | h
    · exact (ha.mem h).2
    · exact (hb.mem h).2) ha.pts ha.mark
  refine ⟨?_, h20, m2⟩
  have := h20.len
  unfold mergeT
  rw [if_neg (by simp [ha.chk]), if_neg (by simp [hb.chk]), if_neg (by omega)]
theorem merge_of {k l : List Int} (hk : ∀ n ∈ k, 0 ≤ n ∧ n < 20) (hl : ∀ n ∈ l, 0 ≤ n ∧ n < 20) : mergeT (ofL20 k) (ofL20 l) = (ofL20 (k ++ l), 0) := by
  have hkl : ∀ n ∈ k ++ l, 0 ≤ n ∧ n < 20 := fun n hn => by
    rcases List.mem_append.1 hn with h | h
    · exact hk n h
    · exact hl n h
  obtain ⟨h1, h2, h3⟩ := merge_small (of_t20 hk) (of_t20 hl)
  rw [h1]
  congr 1
  refine t20_eq h2 (of_t20 hkl) fun n => ?_
  rw [h3, of_mem hk, of_mem hl, of_mem hkl, List.mem_append]
theorem of_congr {k l : List Int} (hk : ∀ n ∈ k, 0 ≤ n ∧ n < 20) (h : ∀ n, n ∈ k ↔ n ∈ l) : ofL20 k = ofL20 l := by
  have hl : ∀ n ∈ l, 0 ≤ n ∧ n < 20 := fun n hn => hk n ((h n).2 hn)
  exact t20_eq (of_t20 hk) (of_t20 hl) fun n => by rw [of_mem hk, of_mem hl, h]
end Go.Am
end
section
set_option linter.unusedVariables false
set_option linter.unusedSimpArgs false
set_option maxRecDepth 20000
namespace Go.Am
open Go.Proofs

theorem P25o (l : List Int) (h8 : ∀ n ∈ l, 0 ≤ n ∧ n ≤ 255) (hl : l.length < 500000000000) : OCall EE 25 [.isl 1 (mapE u8 l)] (.sl 0 1 0 l.length) [.arr 1 (mapE int (smallF l))] := by
  have hcl : (AV.isl 1 (mapE u8 l)).closed = true := by simp [AV.closed, closed_mapE u8_closed]
  refine words fun iLt iLe iEq iNe iAdd iSub iMul iQuo iRem iShr iNeg iCvt iMax iMin bNot bEq bNe bAnd bOr sEq sNe sLen sCat sCut sAt lenA lenN iOf natOf atA atN cutA partA dropA catA setA repA putA idxN addN subN minN lenCut hX e_iLt e_iLe e_iEq e_iNe e_iAdd e_iSub e_iMul e_iQuo e_iRem e_iShr e_iNeg e_iCvt e_iMax e_iMin e_bNot e_bEq e_bNe e_bAnd e_bOr e_sEq e_sNe e_sLen e_sCat e_sCut e_sAt e_lenA e_lenN e_iOf e_natOf e_atA e_atN e_cutA e_partA e_dropA e_catA e_setA e_repA e_putA e_idxN e_addN e_subN e_minN e_lenCut ee => ?_
  generalize hel : mapE u8 l = el at *
  have hll : el.length = l.length := by rw [← hel, mapE_len]
  refine ocall_body (fn := Try.f25) (n := 21) (ac := Tryc25) (rvs := [.t 2]) rfl (by decide) Tryp25 rfl rfl rfl ?_
  refine go rfl hX 60 (by conv => lhs; cbv) ?_ ?_
  · first | exact trivial | (simp only [Cd.ok, ee]; and_intros <;> first | omega | rfl | (simp <;> omega))
  refine on_loopP (ι := List Int × List Int × Int × Nat × List AV) (fun p => ([(4, int p.2.2.1), (3, .sl 0 1 0 p.2.2.2.1), (0, .isl 1 el)], [.arr 1 p.2.2.2.2]))
    (fun p => l = p.1 ++ p.2.1 ∧ p.2.2.1 = p.1.length ∧ p.2.2.2.1 = p.2.2.2.2.length ∧ p.2.2.2.2 = mapE int (smallF p.1)) (fun p => p.2.1.length) ([], l, 0, 0, []) ⟨rfl, rfl, rfl, by simp [mapE_eq, smallF]⟩
    (ent_sub [] [none] trivial ⟨.none 1 rfl, trivial⟩ ⟨.refl _, .nilS 0 1 0 (by simp), .cl hcl, trivial⟩) ?_
  rintro ⟨d, r, i, ln, w⟩ ⟨k1, hi, kn, kw⟩
  dsimp only at k1 hi kn kw ⊢
  have hcw : AV.closedL w = true := by rw [kw]; exact closed_mapE int_closed _
  have hwl : w.length = d.length := by rw [kw, mapE_len]; simp [smallF]
  cases r with
  | nil =>
    have L1 := len_split k1
    try simp only [List.length_cons, List.length_nil] at L1
    have hc : iLt i (lenA el) = false := lt_f e_iLt e_lenA (by omega)
    have hd : d = l := by rw [k1, List.append_nil]
    have kw' := kw
    rw [hd] at kw'
    rw [← kw']
    refine go rfl hX 0 (by conv => lhs; cbv; try simp only [hc]; cbv; try simp only [hc]; cbv; try simp only [hc]; cbv; try simp only [hc]; cbv) ?_ ?_
    · first | exact trivial | (simp only [Cd.ok, ee]; and_intros <;> first | omega | rfl | (simp <;> omega))
    refine go rfl hX 60 (by conv => lhs; cbv) ?_ ?_
    · first | exact trivial | (simp only [Cd.ok, ee]; and_intros <;> first | omega | rfl | (simp <;> omega))
    refine loopP_exit ?_
    refine go rfl hX 60 (by conv => lhs; cbv) ?_ ?_
    · first | exact trivial | (simp only [Cd.ok, ee]; and_intros <;> first | omega | rfl | (simp <;> omega))
    have hln : ln = l.length := by rw [kn, hwl, hd]
    exact o_ret (F2 := [(2, .sl 0 1 0 ln)]) (H2 := [.arr 1 w]) (ent_sub [.to 0] [some 0] ⟨⟨by simp, rfl⟩, trivial⟩ ⟨osrc_arr rfl rfl rfl rfl hcw, trivial⟩ ⟨.refl _, trivial⟩) rfl ⟨by rw [hln]; rfl, rfl⟩
  | cons n r =>
    have L1 := len_split k1
    try simp only [List.length_cons, List.length_nil] at L1
    have hc : iLt i (lenA el) = true := lt_t e_iLt e_lenA (by omega)
    have hat := el_at e_atA hel k1 hi
    dsimp only [u8] at hat
    have hn := h8 n (by rw [k1]; simp)
    have hm1 : 0 ≤ n.tmod 20 := Int.tmod_nonneg _ hn.1
    have hm2 : n.tmod 20 < 20 := Int.tmod_lt_of_pos _ (by decide)
    have hi' : iAdd .i64 i 1 = ((d ++ [n] : List Int).length : Int) := by
      simp only [List.length_append, List.length_cons, List.length_nil]; exact inc_w e_iAdd hi (by omega)
    have kw2 : w ++ [int (n.tmod 20)] = mapE int (smallF (d ++ [n])) := by rw [kw, mapI_snoc]; simp [smallF]
    have hk : iCvt .i64 (iRem n 20) = n.tmod 20 := by simp only [ee]; exact wrap64 (by omega) (by omega)
    generalize n.tmod 20 = m at *
    have hcw2 : AV.closedL (w ++ [int m]) = true := closedL_append hcw rfl
    refine go rfl hX 0 (by conv => lhs; cbv; try simp only [hc, hat, hk]; cbv; try simp only [hc, hat, hk]; cbv; try simp only [hc, hat, hk]; cbv; try simp only [hc, hat, hk]; cbv) ?_ ?_
    · first | exact trivial | (simp only [Cd.ok, ee]; and_intros <;> first | omega | rfl | (simp <;> omega))
    refine go rfl hX 1 (by conv => lhs; cbv; try simp only [hc, hat, hk]; cbv; try simp only [hc, hat, hk]; cbv; try simp only [hc, hat, hk]; cbv; try simp only [hc, hat, hk]; cbv) ?_ ?_
    · first | exact trivial | (simp only [Cd.ok, ee]; and_intros <;> first | omega | rfl | (simp <;> omega))
    refine loopP_next (d ++ [n], r, iAdd .i64 i 1, ln + 1, w ++ [int m]) ⟨by simp [k1], hi', by simp [kn], kw2⟩ (by simp) (ent_sub [.gone, .gone, .to 0] [some 2] ⟨trivial, trivial, ⟨by simp, rfl⟩, trivial⟩ ⟨osrc_arr rfl rfl rfl (by simp [ee, kn]) hcw2, trivial⟩ ⟨.refl _, .of (by simp only [ee]; rfl), .cl hcl, trivial⟩)

theorem enters24 : Enters EE.P 24 := enters_of (fn := Try.f24) (n := 31) (ac := Tryc24) rfl (by decide) Tryp24
set_option maxHeartbeats 4000000 in
theorem P6 (l0 l1 : List Int) (h0 : ∀ n ∈ l0, 0 ≤ n ∧ n ≤ 255) (h1 : ∀ n ∈ l1, 0 ≤ n ∧ n ≤ 255) (s0 : Short l0) (s1 : Short l1) : PCall EE 6 [.agg [.isl 1 (mapE u8 l0), .isl 1 (mapE u8 l1)]] (.val (.bool true)) := by
  have P11c := P11
  have hc0 : (AV.isl 1 (mapE u8 l0)).closed = true := by simp [AV.closed, closed_mapE u8_closed]
  have hc1 : (AV.isl 1 (mapE u8 l1)).closed = true := by simp [AV.closed, closed_mapE u8_closed]
  have hl0 : (mapE u8 l0).length = l0.length := mapE_len _ _
  have hl1 : (mapE u8 l1).length = l1.length := mapE_len _ _
  by_cases hq : 30 < l0.length
  · clear h0 h1 s0 s1
    generalize mapE u8 l0 = e0 at *
    generalize mapE u8 l1 = e1 at *
    refine words fun iLt iLe iEq iNe iAdd iSub iMul iQuo iRem iShr iNeg iCvt iMax iMin bNot bEq bNe bAnd bOr sEq sNe sLen sCat sCut sAt lenA lenN iOf natOf atA atN cutA partA dropA catA setA repA putA idxN addN subN minN lenCut hX e_iLt e_iLe e_iEq e_iNe e_iAdd e_iSub e_iMul e_iQuo e_iRem e_iShr e_iNeg e_iCvt e_iMax e_iMin e_bNot e_bEq e_bNe e_bAnd e_bOr e_sEq e_sNe e_sLen e_sCat e_sCut e_sAt e_lenA e_lenN e_iOf e_natOf e_atA e_atN e_cutA e_partA e_dropA e_catA e_setA e_repA e_putA e_idxN e_addN e_subN e_minN e_lenCut ee => ?_
    have hb : iLt 30 (lenA e0) = true := by simp [ee]; omega
    have hor : ∀ x, bOr true x = true := by simp [ee]
    refine fn_body (fn := Try.f6) (n := 106) (ac := Tryc6) (rvs := [.t 2]) rfl (by decide) Tryp6 rfl rfl rfl ?_
    refine go rfl hX 0 (by conv => lhs; cbv; try simp only [hb, hor]; cbv; try simp only [hb, hor]; cbv; try simp only [hb, hor]; cbv; try simp only [hb, hor]; cbv) ?_ ?_
    · first | exact trivial | (simp only [Cd.ok, ee]; and_intros <;> first | omega | rfl | (simp <;> omega))
    refine go rfl hX 60 (by conv => lhs; cbv) ?_ ?_
    · first | exact trivial | (simp only [Cd.ok, ee]; and_intros <;> first | omega | rfl | (simp <;> omega))
    refine on_pcall (args := []) rfl rfl rfl P11c rfl ?_
    refine go rfl hX 60 (by conv => lhs; cbv) ?_ ?_
    · first | exact trivial | (simp only [Cd.ok, ee]; and_intros <;> first | omega | rfl | (simp <;> omega))
    refine fn_ret rfl rfl (.val ?_)
    rfl
  by_cases hq1 : 30 < l1.length
  · clear h0 h1 s0 s1
    generalize mapE u8 l0 = e0 at *
    generalize mapE u8 l1 = e1 at *
    refine words fun iLt iLe iEq iNe iAdd iSub iMul iQuo iRem iShr iNeg iCvt iMax iMin bNot bEq bNe bAnd bOr sEq sNe sLen sCat sCut sAt lenA lenN iOf natOf atA atN cutA partA dropA catA setA repA putA idxN addN subN minN lenCut hX e_iLt e_iLe e_iEq e_iNe e_iAdd e_iSub e_iMul e_iQuo e_iRem e_iShr e_iNeg e_iCvt e_iMax e_iMin e_bNot e_bEq e_bNe e_bAnd e_bOr e_sEq e_sNe e_sLen e_sCat e_sCut e_sAt e_lenA e_lenN e_iOf e_natOf e_atA e_atN e_cutA e_partA e_dropA e_catA e_setA e_repA e_putA e_idxN e_addN e_subN e_minN e_lenCut ee => ?_
    have hb0 : iLt 30 (lenA e0) = false := by simp [ee]; omega
    have hb1 : iLt 30 (lenA e1) = true := by simp [ee]; omega
    have hor : bOr false true = true := by simp [ee]
    refine fn_body (fn := Try.f6) (n := 106) (ac := Tryc6) (rvs := [.t 2]) rfl (by decide) Tryp6 rfl rfl rfl ?_
    refine go rfl hX 0 (by conv => lhs; cbv; try simp only [hb0, hb1, hor]; cbv; try simp only [hb0, hb1, hor]; cbv; try simp only [hb0, hb1, hor]; cbv; try simp only [hb0, hb1, hor]; cbv) ?_ ?_
    · first | exact trivial | (simp only [Cd.ok, ee]; and_intros <;> first | omega | rfl | (simp <;> omega))
    refine go rfl hX 60 (by conv => lhs; cbv) ?_ ?_
    · first | exact trivial | (simp only [Cd.ok, ee]; and_intros <;> first | omega | rfl | (simp <;> omega))
    refine on_pcall (args := []) rfl rfl rfl P11c rfl ?_
    refine go rfl hX 60 (by conv => lhs; cbv) ?_ ?_
    · first | exact trivial | (simp only [Cd.ok, ee]; and_intros <;> first | omega | rfl | (simp <;> omega))
    refine fn_ret rfl rfl (.val ?_)
    rfl
  have r0 := small_range l0 h0
  have r1 := small_range l1 h1
  have r01 : ∀ n ∈ smallF l0 ++ smallF l1, 0 ≤ n ∧ n < 20 := fun n hn => by
    rcases List.mem_append.1 hn with h | h
    · exact r0 n h
    · exact r1 n h
  have z0 : (smallF l0).length = l0.length := by simp [smallF]
  have z1 : (smallF l1).length = l1.length := by simp [smallF]
  have P25a := P25 l0 h0 (by omega)
  have P25b := P25 l1 h1 (by omega)
  have P25x := P25o l0 h0 (by omega)
  have P24a := P24 (smallF l0) (by omega)
  have P24b := P24 (smallF l1) (by omega)
  have P24c := P24 (smallF l0 ++ smallF l1) (by rw [List.length_append]; omega)
  rw [(all_small _ _ t20_begin r0).1] at P24a
  rw [(all_small _ _ t20_begin r1).1] at P24b
  rw [(all_small _ _ t20_begin r01).1] at P24c
  have m0 := merge_of r0 r1
  have m1 := merge_of r1 r0
  have m2 := merge_of r0 r0
  rw [of_congr (k := smallF l1 ++ smallF l0) (l := smallF l0 ++ smallF l1) (fun n hn => r01 n (by rw [List.mem_append] at hn ⊢; exact hn.symm)) (fun n => by rw [List.mem_append, List.mem_append, or_comm])] at m1
  rw [of_congr (k := smallF l0 ++ smallF l0) (l := smallF l0) (fun n hn => r0 n (by simpa using hn)) (fun n => by simp)] at m2
  have t0 := of_t20 r0
  have t1 := of_t20 r1
  have t2 := of_t20 r01
  have P22a := P22 _ _ t0.sml.fine t1.sml.fine (by rw [t0.pts]; simp)
  have P22b := P22 _ _ t1.sml.fine t0.sml.fine (by rw [t1.pts]; simp)
  have P22c := P22 _ _ t0.sml.fine t0.sml.fine (by rw [t0.pts]; simp)
  rw [m0] at P22a
  rw [m1] at P22b
  rw [m2] at P22c
  have P14a := P14 (ofL20 (smallF l0)) (ofL20 (smallF l0)) t0.sml.fine
  have P14c := P14 (ofL20 (smallF l0 ++ smallF l1)) (ofL20 (smallF l0 ++ smallF l1)) t2.sml.fine
  have happ : mapE int (smallF l0) ++ mapE int (smallF l1) = mapE int (smallF l0 ++ smallF l1) := by simp [mapE_eq]
  change PCall EE 24 _ (.tup [(ofL20 (smallF l0)).enc, _]) at P24a
  change PCall EE 24 _ (.tup [(ofL20 (smallF l1)).enc, _]) at P24b
  change PCall EE 24 _ (.tup [(ofL20 (smallF l0 ++ smallF l1)).enc, _]) at P24c
  have hca := Trk.closed (ofL20 (smallF l0))
  have hcb := Trk.closed (ofL20 (smallF l1))
  have hcc := Trk.closed (ofL20 (smallF l0 ++ smallF l1))
  have y0 : (mapE int (smallF l0)).length = l0.length := by rw [mapE_len, z0]
  have y1 : (mapE int (smallF l1)).length = l1.length := by rw [mapE_len, z1]
  have y2 : (mapE int (smallF l0 ++ smallF l1)).length = l0.length + l1.length := by rw [mapE_len, List.length_append, z0, z1]
  have k0 : AV.closedL (mapE int (smallF l0)) = true := closed_mapE int_closed _
  have hk0 : (AV.isl 1 (mapE int (smallF l0))).closed = true := closedI _
  have hk1 : (AV.isl 1 (mapE int (smallF l1))).closed = true := closedI _
  have k2 : AV.closedL (mapE int (smallF l0 ++ smallF l1)) = true := closed_mapE int_closed _
  have kf1 : fitB 1 (mapE int (smallF l1)) = true := fitL (k := 1) (enc := int) fitI _
  dsimp only at P24a P24b P24c P22a P22b P22c P14a P14c
  rw [decide_eq_true rfl] at P14a P14c
  generalize ofL20 (smallF l0) = a at *
  generalize ofL20 (smallF l1) = b at *
  generalize ofL20 (smallF l0 ++ smallF l1) = c at *
  have hea := closedI a.bey
  have heb := closedI b.bey
  have hepa := closedP a.pts
  have hec := closedI c.bey
  have hepc := closedP c.pts
  have hepb := closedP b.pts
  unfold Trk.enc at *
  generalize mapE int (smallF l0 ++ smallF l1) = mc at *
  generalize mapE int (smallF l0) = ma at *
  generalize mapE int (smallF l1) = mb at *
  generalize mapE u8 l0 = e0 at *
  generalize mapE u8 l1 = e1 at *
  generalize mapE int a.bey = ea at *
  generalize mapE Pt.enc a.pts = epa at *
  generalize mapE int b.bey = eb at *
  generalize mapE Pt.enc b.pts = epb at *
  generalize mapE int c.bey = ec at *
  generalize mapE Pt.enc c.pts = epc at *
  generalize a.next = an at *
  generalize a.mark = ak at *
  generalize b.next = bn at *
  generalize b.mark = bk at *
  generalize c.next = cn at *
  generalize c.mark = ck at *
  refine words fun iLt iLe iEq iNe iAdd iSub iMul iQuo iRem iShr iNeg iCvt iMax iMin bNot bEq bNe bAnd bOr sEq sNe sLen sCat sCut sAt lenA lenN iOf natOf atA atN cutA partA dropA catA setA repA putA idxN addN subN minN lenCut hX e_iLt e_iLe e_iEq e_iNe e_iAdd e_iSub e_iMul e_iQuo e_iRem e_iShr e_iNeg e_iCvt e_iMax e_iMin e_bNot e_bEq e_bNe e_bAnd e_bOr e_sEq e_sNe e_sLen e_sCat e_sCut e_sAt e_lenA e_lenN e_iOf e_natOf e_atA e_atN e_cutA e_partA e_dropA e_catA e_setA e_repA e_putA e_idxN e_addN e_subN e_minN e_lenCut ee => ?_
  have hb0 : iLt 30 (lenA e0) = false := by simp [ee]; omega
  have hb1 : iLt 30 (lenA e1) = false := by simp [ee]; omega
  have hor : bOr false false = false := by simp [ee]
  have hand : bAnd true true = true := by simp [ee]
  have hz : iEq 0 0 = true := by simp [ee]
  have hdr : dropA ma 0 = ma := by simp only [ee]; rfl
  have hcat : catA ma mb = mc := by simp only [ee]; exact happ
  have hlnb : addN l0.length (lenN mb) = l0.length + l1.length := by simp only [ee]; omega
  generalize hn0 : l0.length = n0 at *
  generalize hn1 : l1.length = n1 at *
  generalize hnc : n0 + n1 = nc at *
  refine fn_body (fn := Try.f6) (n := 106) (ac := Tryc6) (rvs := [.t 2]) rfl (by decide) Tryp6 rfl rfl rfl ?_
  refine go rfl hX 0 (by conv => lhs; cbv; try simp only [hb0, hb1, hor]; cbv; try simp only [hb0, hb1, hor]; cbv; try simp only [hb0, hb1, hor]; cbv; try simp only [hb0, hb1, hor]; cbv) ?_ ?_
  · first | exact trivial | (simp only [Cd.ok, ee]; and_intros <;> first | omega | rfl | (simp <;> omega))
  refine go rfl hX 60 (by conv => lhs; cbv) ?_ ?_
  · first | exact trivial | (simp only [Cd.ok, ee]; and_intros <;> first | omega | rfl | (simp <;> omega))
  refine on_pcall (args := [AV.isl 1 e0]) rfl rfl rfl P25a (by simp [AV.closedL, closed_v, closed_agg, hc0, hc1, hk0, hk1]) ?_
  refine on_pcall (args := [AV.isl 1 ma]) rfl rfl rfl P24a (by simp [AV.closedL, closed_v, closed_agg, hc0, hc1, hk0, hk1]) ?_
  refine go rfl hX 60 (by conv => lhs; cbv) ?_ ?_
  · first | exact trivial | (simp only [Cd.ok, ee]; and_intros <;> first | omega | rfl | (simp <;> omega))
  refine on_pcall (args := [AV.isl 1 e1]) rfl rfl rfl P25b (by simp [AV.closedL, closed_v, closed_agg, hc0, hc1, hk0, hk1]) ?_
  refine on_pcall (args := [AV.isl 1 mb]) rfl rfl rfl P24b (by simp [AV.closedL, closed_v, closed_agg, hc0, hc1, hk0, hk1]) ?_
  refine go rfl hX 60 (by conv => lhs; cbv) ?_ ?_
  · first | exact trivial | (simp only [Cd.ok, ee]; and_intros <;> first | omega | rfl | (simp <;> omega))
  refine trp_drawE [2, 6, 7, 11, 12] [[2, 6, 7, 11, 12], [2, 6, 11, 7, 12], [2, 11, 6, 7, 12], [11, 2, 6, 7, 12]] [(8, .val (.bool true)), (7, .ptr 3 0), (6, .val (.bool true)), (5, .ptr 2 0), (4, .val (.bool true)), (3, .ptr 1 0)] [.cells [.isl 1 e0, .isl 1 e1], .cells [int an, .isl 1 ea, .isl 2 epa, int ak], .cells [int bn, .isl 1 eb, .isl 2 epb, int bk], .cells [int cn, .isl 1 ec, .isl 2 epc, int ck]] rfl rfl rfl (by decide) rfl ?_ ⟨⟨[0, 1, 2, 3, 4, 5, 6, 7, 8, 9, 10, 11, 12, 13], rfl, ?_⟩, ⟨[0, 1, 2, 3, 4, 5, 6, 11, 7, 8, 9, 10, 12, 13], rfl, ?_⟩, ⟨[0, 1, 2, 11, 3, 4, 5, 6, 7, 8, 9, 10, 12, 13], rfl, ?_⟩, ⟨[11, 0, 1, 2, 3, 4, 5, 6, 7, 8, 9, 10, 12, 13], rfl, ?_⟩, trivial⟩
  rotate_left
  · refine tr_go hX (by conv => lhs; cbv) ?_ ?_
    · first | exact trivial | (simp only [Cd.ok, ee]; and_intros <;> first | omega | rfl | (simp <;> omega))
    refine tr_ocall (args := [.isl 1 e0]) (v' := .sl 3 1 0 n0) (H' := [.arr 1 ma]) rfl rfl rfl P25x (by simp [AV.closedL, hc0]) rfl (by simp [AObj.sub, subL_closed _ k0]) ?_
    refine tr_go hX (by conv => lhs; cbv) ?_ ?_
    · first | exact trivial | (simp only [Cd.ok, ee]; and_intros <;> first | omega | rfl | (simp <;> omega))
    refine tr_pcall (args := [.isl 1 e1]) rfl rfl rfl P25b (by simp [AV.closedL, hc1]) ?_
    refine tr_go hX (by conv => lhs; cbv; simp only [hdr, hcat, hlnb,hdr, hcat, hlnb]; cbv; simp only [hdr, hcat, hlnb,hdr, hcat, hlnb]; cbv) ?_ ?_
    · simp only [Cd.ok, ee]; (and_intros <;> first | omega | rfl | exact kf1)
    refine tr_ecall (args := [.sl 4 1 0 nc]) rfl rfl rfl enters24 (PCall.give (args' := [.isl 1 mc]) (H1 := [.cells [.isl 1 e0, .isl 1 e1], .cells [int an, .isl 1 ea, .isl 2 epa, int ak], .cells [int bn, .isl 1 eb, .isl 2 epb, int bk], .dead, .dead]) [.to 0, .to 1, .to 2, .gone, .isl 1 mc] rfl ⟨⟨by simp, rfl⟩, ⟨by simp, rfl⟩, ⟨by simp, rfl⟩, trivial, ⟨_, rfl, (subL_closed _ k2).symm⟩, trivial⟩ ⟨osrc_cells (b := 0) rfl rfl rfl ⟨.cl hc0, .cl hc1, trivial⟩, osrc_cells (b := 1) rfl rfl rfl ⟨.refl _, .cl hea, .cl hepa, .refl _, trivial⟩, osrc_cells (b := 2) rfl rfl rfl ⟨.refl _, .cl heb, .cl hepb, .refl _, trivial⟩, .dead, .dead, trivial⟩ (by show [AV.sub _ (.sl 4 1 0 nc)] = _; rw [sub_whole (es := mc) rfl y2.symm]) P24c (closed1 k2)) ?_
    refine tr_go hX (by conv => lhs; cbv) ?_ ?_
    · first | exact trivial | (simp only [Cd.ok, ee]; and_intros <;> first | omega | rfl | (simp <;> omega))
    refine tr_nil ⟨by simp [effLab], ?_, ?_⟩
    · simp only [LooksP, lookAll, List.append, List.cons_append, List.nil_append, List.append_nil]; and_intros <;> first | trivial | (intro hp; first | rfl | exact absurd (show false = true from hp) Bool.false_ne_true)
    exact (ent_sub [.to 0, .to 1, .to 2, .gone, .gone, .to 3] [some 0, some 1, some 2, some 5] ⟨⟨by simp, rfl⟩, ⟨by simp, rfl⟩, ⟨by simp, rfl⟩, trivial, trivial, ⟨by simp, rfl⟩, trivial⟩ ⟨osrc_cells (b := 0) rfl rfl rfl ⟨.cl hc0, .cl hc1, trivial⟩, osrc_cells (b := 1) rfl rfl rfl ⟨.refl _, .cl hea, .cl hepa, .refl _, trivial⟩, osrc_cells (b := 2) rfl rfl rfl ⟨.refl _, .cl heb, .cl hepb, .refl _, trivial⟩, osrc_cells (b := 5) rfl rfl rfl ⟨.refl _, .cl hec, .cl hepc, .refl _, trivial⟩, trivial⟩ ⟨.refl _, .refl _, .refl _, .refl _, .refl _, .refl _, trivial⟩)
  · refine tr_go hX (by conv => lhs; cbv) ?_ ?_
    · first | exact trivial | (simp only [Cd.ok, ee]; and_intros <;> first | omega | rfl | (simp <;> omega))
    refine tr_ocall (args := [.isl 1 e0]) (v' := .sl 3 1 0 n0) (H' := [.arr 1 ma]) rfl rfl rfl P25x (by simp [AV.closedL, hc0]) rfl (by simp [AObj.sub, subL_closed _ k0]) ?_
    refine tr_go hX (by conv => lhs; cbv) ?_ ?_
    · first | exact trivial | (simp only [Cd.ok, ee]; and_intros <;> first | omega | rfl | (simp <;> omega))
    refine tr_pcall (args := [.isl 1 e1]) rfl rfl rfl P25b (by simp [AV.closedL, hc1]) ?_
    refine tr_go hX (by conv => lhs; cbv; simp only [hdr, hcat, hlnb,hdr, hcat, hlnb]; cbv; simp only [hdr, hcat, hlnb,hdr, hcat, hlnb]; cbv) ?_ ?_
    · simp only [Cd.ok, ee]; (and_intros <;> first | omega | rfl | exact kf1)
    refine tr_ecall (args := [.sl 4 1 0 nc]) rfl rfl rfl enters24 (PCall.give (args' := [.isl 1 mc]) (H1 := [.cells [.isl 1 e0, .isl 1 e1], .cells [int an, .isl 1 ea, .isl 2 epa, int ak], .cells [int bn, .isl 1 eb, .isl 2 epb, int bk], .dead, .dead, .cells [int 0, .val (.slice none 0 0), .val (.slice none 0 0), int 0]]) [.to 0, .to 1, .to 2, .gone, .isl 1 mc, .to 5] rfl ⟨⟨by simp, rfl⟩, ⟨by simp, rfl⟩, ⟨by simp, rfl⟩, trivial, ⟨_, rfl, (subL_closed _ k2).symm⟩, ⟨by simp, rfl⟩, trivial⟩ ⟨osrc_cells (b := 0) rfl rfl rfl ⟨.cl hc0, .cl hc1, trivial⟩, osrc_cells (b := 1) rfl rfl rfl ⟨.refl _, .cl hea, .cl hepa, .refl _, trivial⟩, osrc_cells (b := 2) rfl rfl rfl ⟨.refl _, .cl heb, .cl hepb, .refl _, trivial⟩, .dead, .dead, osrc_cells (b := 5) rfl rfl rfl ⟨.refl _, .refl _, .refl _, .refl _, trivial⟩, trivial⟩ (by show [AV.sub _ (.sl 4 1 0 nc)] = _; rw [sub_whole (es := mc) rfl y2.symm]) P24c (closed1 k2)) ?_
    refine tr_go hX (by conv => lhs; cbv) ?_ ?_
    · first | exact trivial | (simp only [Cd.ok, ee]; and_intros <;> first | omega | rfl | (simp <;> omega))
    refine tr_nil ⟨by simp [effLab], ?_, ?_⟩
    · simp only [LooksP, lookAll, List.append, List.cons_append, List.nil_append, List.append_nil]; and_intros <;> first | trivial | (intro hp; first | rfl | exact absurd (show false = true from hp) Bool.false_ne_true)
    exact (ent_sub [.to 0, .to 1, .to 2, .gone, .gone, .to 3] [some 0, some 1, some 2, some 5] ⟨⟨by simp, rfl⟩, ⟨by simp, rfl⟩, ⟨by simp, rfl⟩, trivial, trivial, ⟨by simp, rfl⟩, trivial⟩ ⟨osrc_cells (b := 0) rfl rfl rfl ⟨.cl hc0, .cl hc1, trivial⟩, osrc_cells (b := 1) rfl rfl rfl ⟨.refl _, .cl hea, .cl hepa, .refl _, trivial⟩, osrc_cells (b := 2) rfl rfl rfl ⟨.refl _, .cl heb, .cl hepb, .refl _, trivial⟩, osrc_cells (b := 5) rfl rfl rfl ⟨.refl _, .cl hec, .cl hepc, .refl _, trivial⟩, trivial⟩ ⟨.refl _, .refl _, .refl _, .refl _, .refl _, .refl _, trivial⟩)
  · refine tr_go hX (by conv => lhs; cbv) ?_ ?_
    · first | exact trivial | (simp only [Cd.ok, ee]; and_intros <;> first | omega | rfl | (simp <;> omega))
    refine tr_ocall (args := [.isl 1 e0]) (v' := .sl 3 1 0 n0) (H' := [.arr 1 ma]) rfl rfl rfl P25x (by simp [AV.closedL, hc0]) rfl (by simp [AObj.sub, subL_closed _ k0]) ?_
    refine tr_go hX (by conv => lhs; cbv) ?_ ?_
    · first | exact trivial | (simp only [Cd.ok, ee]; and_intros <;> first | omega | rfl | (simp <;> omega))
    refine tr_pcall (args := [.isl 1 e1]) rfl rfl rfl P25b (by simp [AV.closedL, hc1]) ?_
    refine tr_go hX (by conv => lhs; cbv; simp only [hdr, hcat, hlnb,hdr, hcat, hlnb]; cbv; simp only [hdr, hcat, hlnb,hdr, hcat, hlnb]; cbv) ?_ ?_
    · simp only [Cd.ok, ee]; (and_intros <;> first | omega | rfl | exact kf1)
    refine tr_ecall (args := [.sl 5 1 0 nc]) rfl rfl rfl enters24 (PCall.give (args' := [.isl 1 mc]) (H1 := [.cells [.isl 1 e0, .isl 1 e1], .cells [int an, .isl 1 ea, .isl 2 epa, int ak], .cells [int bn, .isl 1 eb, .isl 2 epb, int bk], .dead, .cells [int 0, .val (.slice none 0 0), .val (.slice none 0 0), int 0], .dead]) [.to 0, .to 1, .to 2, .gone, .to 4, .isl 1 mc] rfl ⟨⟨by simp, rfl⟩, ⟨by simp, rfl⟩, ⟨by simp, rfl⟩, trivial, ⟨by simp, rfl⟩, ⟨_, rfl, (subL_closed _ k2).symm⟩, trivial⟩ ⟨osrc_cells (b := 0) rfl rfl rfl ⟨.cl hc0, .cl hc1, trivial⟩, osrc_cells (b := 1) rfl rfl rfl ⟨.refl _, .cl hea, .cl hepa, .refl _, trivial⟩, osrc_cells (b := 2) rfl rfl rfl ⟨.refl _, .cl heb, .cl hepb, .refl _, trivial⟩, .dead, osrc_cells (b := 4) rfl rfl rfl ⟨.refl _, .refl _, .refl _, .refl _, trivial⟩, .dead, trivial⟩ (by show [AV.sub _ (.sl 5 1 0 nc)] = _; rw [sub_whole (es := mc) rfl y2.symm]) P24c (closed1 k2)) ?_
    refine tr_go hX (by conv => lhs; cbv) ?_ ?_
    · first | exact trivial | (simp only [Cd.ok, ee]; and_intros <;> first | omega | rfl | (simp <;> omega))
    refine tr_nil ⟨by simp [effLab], ?_, ?_⟩
    · simp only [LooksP, lookAll, List.append, List.cons_append, List.nil_append, List.append_nil]; and_intros <;> first | trivial | (intro hp; first | rfl | exact absurd (show false = true from hp) Bool.false_ne_true)
    exact (ent_sub [.to 0, .to 1, .to 2, .gone, .to 3, .gone] [some 0, some 1, some 2, some 4] ⟨⟨by simp, rfl⟩, ⟨by simp, rfl⟩, ⟨by simp, rfl⟩, trivial, ⟨by simp, rfl⟩, trivial, trivial⟩ ⟨osrc_cells (b := 0) rfl rfl rfl ⟨.cl hc0, .cl hc1, trivial⟩, osrc_cells (b := 1) rfl rfl rfl ⟨.refl _, .cl hea, .cl hepa, .refl _, trivial⟩, osrc_cells (b := 2) rfl rfl rfl ⟨.refl _, .cl heb, .cl hepb, .refl _, trivial⟩, osrc_cells (b := 4) rfl rfl rfl ⟨.refl _, .cl hec, .cl hepc, .refl _, trivial⟩, trivial⟩ ⟨.refl _, .refl _, .refl _, .refl _, .refl _, .refl _, trivial⟩)
  · refine tr_go hX (by conv => lhs; cbv) ?_ ?_
    · first | exact trivial | (simp only [Cd.ok, ee]; and_intros <;> first | omega | rfl | (simp <;> omega))
    refine tr_ocall (args := [.isl 1 e0]) (v' := .sl 4 1 0 n0) (H' := [.arr 1 ma]) rfl rfl rfl P25x (by simp [AV.closedL, hc0]) rfl (by simp [AObj.sub, subL_closed _ k0]) ?_
    refine tr_go hX (by conv => lhs; cbv) ?_ ?_
    · first | exact trivial | (simp only [Cd.ok, ee]; and_intros <;> first | omega | rfl | (simp <;> omega))
    refine tr_pcall (args := [.isl 1 e1]) rfl rfl rfl P25b (by simp [AV.closedL, hc1]) ?_
    refine tr_go hX (by conv => lhs; cbv; simp only [hdr, hcat, hlnb,hdr, hcat, hlnb]; cbv; simp only [hdr, hcat, hlnb,hdr, hcat, hlnb]; cbv) ?_ ?_
    · simp only [Cd.ok, ee]; (and_intros <;> first | omega | rfl | exact kf1)
    refine tr_ecall (args := [.sl 5 1 0 nc]) rfl rfl rfl enters24 (PCall.give (args' := [.isl 1 mc]) (H1 := [.cells [.isl 1 e0, .isl 1 e1], .cells [int an, .isl 1 ea, .isl 2 epa, int ak], .cells [int bn, .isl 1 eb, .isl 2 epb, int bk], .cells [int 0, .val (.slice none 0 0), .val (.slice none 0 0), int 0], .dead, .dead]) [.to 0, .to 1, .to 2, .to 3, .gone, .isl 1 mc] rfl ⟨⟨by simp, rfl⟩, ⟨by simp, rfl⟩, ⟨by simp, rfl⟩, ⟨by simp, rfl⟩, trivial, ⟨_, rfl, (subL_closed _ k2).symm⟩, trivial⟩ ⟨osrc_cells (b := 0) rfl rfl rfl ⟨.cl hc0, .cl hc1, trivial⟩, osrc_cells (b := 1) rfl rfl rfl ⟨.refl _, .cl hea, .cl hepa, .refl _, trivial⟩, osrc_cells (b := 2) rfl rfl rfl ⟨.refl _, .cl heb, .cl hepb, .refl _, trivial⟩, osrc_cells (b := 3) rfl rfl rfl ⟨.refl _, .refl _, .refl _, .refl _, trivial⟩, .dead, .dead, trivial⟩ (by show [AV.sub _ (.sl 5 1 0 nc)] = _; rw [sub_whole (es := mc) rfl y2.symm]) P24c (closed1 k2)) ?_
    refine tr_go hX (by conv => lhs; cbv) ?_ ?_
    · first | exact trivial | (simp only [Cd.ok, ee]; and_intros <;> first | omega | rfl | (simp <;> omega))
    refine tr_nil ⟨by simp [effLab], ?_, ?_⟩
    · simp only [LooksP, lookAll, List.append, List.cons_append, List.nil_append, List.append_nil]; and_intros <;> first | trivial | (intro hp; first | rfl | exact absurd (show false = true from hp) Bool.false_ne_true)
    exact (ent_sub [.to 0, .to 1, .to 2, .to 3, .gone, .gone] [some 0, some 1, some 2, some 3] ⟨⟨by simp, rfl⟩, ⟨by simp, rfl⟩, ⟨by simp, rfl⟩, ⟨by simp, rfl⟩, trivial, trivial, trivial⟩ ⟨osrc_cells (b := 0) rfl rfl rfl ⟨.cl hc0, .cl hc1, trivial⟩, osrc_cells (b := 1) rfl rfl rfl ⟨.refl _, .cl hea, .cl hepa, .refl _, trivial⟩, osrc_cells (b := 2) rfl rfl rfl ⟨.refl _, .cl heb, .cl hepb, .refl _, trivial⟩, osrc_cells (b := 3) rfl rfl rfl ⟨.refl _, .cl hec, .cl hepc, .refl _, trivial⟩, trivial⟩ ⟨.refl _, .refl _, .refl _, .refl _, .refl _, .refl _, trivial⟩)
  refine go rfl hX 60 (by conv => lhs; cbv) ?_ ?_
  · first | exact trivial | (simp only [Cd.ok, ee]; and_intros <;> first | omega | rfl | (simp <;> omega))
  refine on_pcall (args := [AV.agg [int an, AV.isl 1 ea, AV.isl 2 epa, int ak], AV.agg [int bn, AV.isl 1 eb, AV.isl 2 epb, int bk]]) rfl rfl rfl P22a (by simp [AV.closedL, closed_v, closed_agg, hca, hcb, hcc]) ?_
  refine go rfl hX 60 (by conv => lhs; cbv) ?_ ?_
  · first | exact trivial | (simp only [Cd.ok, ee]; and_intros <;> first | omega | rfl | (simp <;> omega))
  refine on_pcall (args := [AV.agg [int bn, AV.isl 1 eb, AV.isl 2 epb, int bk], AV.agg [int an, AV.isl 1 ea, AV.isl 2 epa, int ak]]) rfl rfl rfl P22b (by simp [AV.closedL, closed_v, closed_agg, hca, hcb, hcc]) ?_
  refine go rfl hX 60 (by conv => lhs; cbv) ?_ ?_
  · first | exact trivial | (simp only [Cd.ok, ee]; and_intros <;> first | omega | rfl | (simp <;> omega))
  refine on_pcall (args := [AV.agg [int an, AV.isl 1 ea, AV.isl 2 epa, int ak], AV.agg [int an, AV.isl 1 ea, AV.isl 2 epa, int ak]]) rfl rfl rfl P22c (by simp [AV.closedL, closed_v, closed_agg, hca, hcb, hcc]) ?_
  refine go rfl hX 60 (by conv => lhs; cbv) ?_ ?_
  · first | exact trivial | (simp only [Cd.ok, ee]; and_intros <;> first | omega | rfl | (simp <;> omega))
  refine on_pcall (args := []) rfl rfl rfl P11c rfl ?_
  refine go rfl hX 0 (by conv => lhs; cbv; try simp only [hand, hz]; cbv; try simp only [hand, hz]; cbv; try simp only [hand, hz]; cbv; try simp only [hand, hz]; cbv) ?_ ?_
  · first | exact trivial | (simp only [Cd.ok, ee]; and_intros <;> first | omega | rfl | (simp <;> omega))
  refine go rfl hX 60 (by conv => lhs; cbv) ?_ ?_
  · first | exact trivial | (simp only [Cd.ok, ee]; and_intros <;> first | omega | rfl | (simp <;> omega))
  refine on_gpcall (args := [AV.agg [int cn, AV.isl 1 ec, AV.isl 2 epc, int ck], AV.agg [int cn, AV.isl 1 ec, AV.isl 2 epc, int ck]]) rfl rfl rfl rfl P14c (by simp [AV.closedL, closed_v, closed_agg, hca, hcb, hcc]) ?_
  refine go rfl hX 60 (by conv => lhs; cbv) ?_ ?_
  · first | exact trivial | (simp only [Cd.ok, ee]; and_intros <;> first | omega | rfl | (simp <;> omega))
  refine on_gpcall (args := [AV.agg [int cn, AV.isl 1 ec, AV.isl 2 epc, int ck], AV.agg [int cn, AV.isl 1 ec, AV.isl 2 epc, int ck]]) rfl rfl rfl rfl P14c (by simp [AV.closedL, closed_v, closed_agg, hca, hcb, hcc]) ?_
  refine go rfl hX 60 (by conv => lhs; cbv) ?_ ?_
  · first | exact trivial | (simp only [Cd.ok, ee]; and_intros <;> first | omega | rfl | (simp <;> omega))
  refine on_gpcall (args := [AV.agg [int an, AV.isl 1 ea, AV.isl 2 epa, int ak], AV.agg [int an, AV.isl 1 ea, AV.isl 2 epa, int ak]]) rfl rfl rfl rfl P14a (by simp [AV.closedL, closed_v, closed_agg, hca, hcb, hcc]) ?_
  refine go rfl hX 60 (by conv => lhs; cbv) ?_ ?_
  · first | exact trivial | (simp only [Cd.ok, ee]; and_intros <;> first | omega | rfl | (simp <;> omega))
  refine fn_ret rfl rfl (.val ?_)
  rfl
end Go.Am
end
section
set_option linter.unusedVariables false
set_option linter.unusedSimpArgs false
set_option maxRecDepth 20000
namespace Go.Am
open Go.Proofs Go.ChangeShapes Go.WideShapes Go.ChangeAt Go.RowKit

theorem bytes5 : Try.prog.bytesOf 5 = 1 := by kernel_rfl
theorem rdU8 {n : Nat} {x : AV} (h : El EE.P (Cl EE.P n) 5 x) : ∃ i, x = u8 i ∧ (0 ≤ i ∧ i ≤ 255) := by
  obtain ⟨i, h, hw⟩ := (h.one (by kernel_rfl)).int Try.underlying5
  refine ⟨i, by simpa [u8] using h, ?_⟩
  have h1 : IntKind.u8.min = 0 := by decide
  have h2 : IntKind.u8.max = 255 := by decide
  simp [Lit.wf, h1, h2] at hw
  exact hw
theorem rdU8s {n : Nat} {cs : List AV} (h : Cl EE.P n 48 cs) : ∃ l : List Int, cs = [.isl 1 (mapE u8 l)] ∧ Short l ∧ ∀ n ∈ l, 0 ≤ n ∧ n ≤ 255 := by
  obtain ⟨m, es, rfl, hl, he⟩ := h.slice Try.underlying48
  obtain ⟨l, rfl, h2⟩ := list_enc fun x hx => rdU8 (he x hx)
  exact ⟨l, by rw [cells5], short_of (k := 0) (bytes5 ▸ hl), h2⟩
theorem rdU8sA {n : Nat} {x : AV} (h : El EE.P (Cl EE.P n) 48 x) : ∃ l : List Int, x = .isl 1 (mapE u8 l) ∧ Short l ∧ ∀ n ∈ l, 0 ≤ n ∧ n ≤ 255 := by
  obtain ⟨l, h, hl⟩ := rdU8s (h.one (by kernel_rfl))
  exact ⟨l, by simpa using h, hl⟩
theorem rdTwo {n : Nat} {x : AV} (h : El EE.P (Cl EE.P n) 49 x) : ∃ k l : List Int, x = .agg [.isl 1 (mapE u8 k), .isl 1 (mapE u8 l)] ∧ (Short k ∧ ∀ n ∈ k, 0 ≤ n ∧ n ≤ 255) ∧ (Short l ∧ ∀ n ∈ l, 0 ≤ n ∧ n ≤ 255) := by
  obtain ⟨cs, rfl, g⟩ := h.agg agg49
  obtain ⟨m, a, r, rfl, ha, b, r, rfl, hb, rfl⟩ := g.array Try.underlying49
  obtain ⟨k, rfl, hk⟩ := rdU8s ha
  obtain ⟨l, rfl, hl⟩ := rdU8s hb
  exact ⟨k, l, rfl, hk, hl⟩
end Go.Am
end
section
set_option linter.unusedVariables false
set_option linter.unusedSimpArgs false
set_option maxRecDepth 20000
namespace Go.Am
open Go.Proofs

def bl (b : Bool) : AV := .val (.bool b)
theorem bl_closed (b : Bool) : (bl b).closed = true := rfl
def seenF (d : List Int) : List Bool := (List.range 20).map fun v : Nat => decide ((v : Int) ∈ d)
def cntF (v : Nat) (d : List Int) : Nat := (((List.range 20).drop v).filter fun u : Nat => decide ((u : Int) ∈ d)).length
theorem seen_len (d : List Int) : (seenF d).length = 20 := by simp [seenF]
theorem seen_get (d : List Int) (v : Nat) (hv : v < 20) : (seenF d)[v]? = some (decide ((v : Int) ∈ d)) := by
  simp [seenF, hv]
theorem seen_set (d : List Int) (n : Int) (h : 0 ≤ n ∧ n < 20) : (seenF d).set n.toNat true = seenF (d ++ [n]) := by
  apply List.ext_getElem?
  intro v
  by_cases hv : v < 20
  · rw [seen_get _ v hv, List.getElem?_set, seen_len]
    by_cases hk : n.toNat = v
    · have e : (v : Int) = n := by omega
      rw [if_pos hk, if_pos (by omega)]
      simp [e]
    · have e : (v : Int) ≠ n := by omega
      rw [if_neg hk, seen_get _ v hv]
      simp [e]
  · rw [List.getElem?_eq_none (by simp [seen_len]; omega), List.getElem?_eq_none (by simp [seen_len]; omega)]
theorem cnt_add (k : Nat) (p q : Nat → Bool) : ∀ (L : List Nat), L.Nodup → p k = false → (∀ u, q u = (p u || u == k)) → (L.filter q).length = (L.filter p).length + (if k ∈ L then 1 else 0)
  | [], _, _, _ => by simp
  | a :: r, hn, hp, hq => by
    obtain ⟨h1, h2⟩ := List.nodup_cons.1 hn
    have ih := cnt_add k p q r h2 hp hq
    by_cases ha : a = k
    · subst ha
      have hqa : q a = true := by rw [hq]; simp
      rw [if_neg h1] at ih
      rw [List.filter_cons_of_pos hqa, List.filter_cons_of_neg (by simp [hp]), if_pos (by simp), List.length_cons, ih]
    · have hqa : q a = p a := by rw [hq]; simp [ha]
      have hm : (k ∈ a :: r) ↔ k ∈ r := by simp [Ne.symm ha]
      by_cases hpa : p a = true
      · rw [List.filter_cons_of_pos (by rw [hqa]; exact hpa), List.filter_cons_of_pos hpa, List.length_cons, List.length_cons, ih]
        by_cases hk : k ∈ r
        · rw [if_pos hk, if_pos (hm.2 hk)]
        · rw [if_neg hk, if_neg (fun h => hk (hm.1 h))]
      · rw [List.filter_cons_of_neg (by rw [hqa]; exact hpa), List.filter_cons_of_neg hpa, ih]
        by_cases hk : k ∈ r
        · rw [if_pos hk, if_pos (hm.2 hk)]
        · rw [if_neg hk, if_neg (fun h => hk (hm.1 h))]
theorem cnt_snoc (d : List Int) (n : Int) (h : 0 ≤ n ∧ n < 20) : cntF 0 (d ++ [n]) = cntF 0 d + (if n ∈ d then 0 else 1) := by
  have e : ∀ u : Nat, decide ((u : Int) ∈ d ++ [n]) = (decide ((u : Int) ∈ d) || u == n.toNat) := by
    intro u
    have : ((u : Int) = n) ↔ u = n.toNat := by omega
    rw [Bool.eq_iff_iff]
    simp [this]
  by_cases hn : n ∈ d
  · rw [if_pos hn]
    unfold cntF
    congr 1
    apply List.filter_congr
    intro u _
    rw [e u]
    by_cases hu : u = n.toNat
    · have : (u : Int) = n := by omega
      simp [this, hn]
    · simp [hu]
  · rw [if_neg hn]
    unfold cntF
    have := cnt_add n.toNat (fun u => decide ((u : Int) ∈ d)) (fun u => decide ((u : Int) ∈ d ++ [n])) (List.range 20) List.nodup_range (by
      have : ((n.toNat : Nat) : Int) = n := by omega
      simp [this, hn]) e
    rw [if_pos (by rw [List.mem_range]; omega)] at this
    exact this
theorem cnt_step (d : List Int) (v : Nat) (hv : v < 20) : cntF v d = (if (v : Int) ∈ d then 1 else 0) + cntF (v + 1) d := by
  unfold cntF
  have e : (List.range 20).drop v = v :: (List.range 20).drop (v + 1) := by
    rw [List.drop_eq_getElem_cons (by simp; omega)]; simp
  rw [e]
  by_cases h : (v : Int) ∈ d
  · rw [List.filter_cons_of_pos (by simpa using h), if_pos h, List.length_cons]; omega
  · rw [List.filter_cons_of_neg (by simpa using h), if_neg h]; omega
theorem cnt_le (d : List Int) (v : Nat) : cntF v d ≤ 20 := by
  unfold cntF
  refine Nat.le_trans (List.length_filter_le _ _) ?_
  simp
theorem fold_snoc (t : Trk) (d : List Int) (n : Int) : foldR t (d ++ [n]) = withT (foldR t d) n := by simp [foldR, List.foldl_append]
theorem cont_of {d : List Int} (hd : ∀ n ∈ d, 0 ≤ n ∧ n < 20) (n : Int) : contF (ofL20 d) n = decide (n ∈ d) := by
  rw [Bool.eq_iff_iff, cont_mem (of_t20 hd).nrm, of_mem hd]; simp
theorem recv_of {d : List Int} (hd : ∀ n ∈ d, 0 ≤ n ∧ n < 20) {n : Int} (hn : 0 ≤ n ∧ n < 20) : recvT (ofL20 d) n = (ofL20 (d ++ [n]), !decide (n ∈ d), 0) := by
  rw [recv_small (of_t20 hd) hn, cont_of hd]
  unfold ofL20
  rw [fold_snoc]
theorem has_of {d : List Int} (hd : ∀ n ∈ d, 0 ≤ n ∧ n < 20) (n : Int) : hasT (ofL20 d) n = (decide (n ∈ d), 0) := by
  unfold hasT
  rw [if_neg (by simp [(of_t20 hd).chk]), cont_of hd]
theorem map_set {α : Type} (e : α → AV) (l : List α) (k : Nat) (x : α) : (mapE e l).set k (e x) = mapE e (l.set k x) := by rw [mapE_eq, mapE_eq, List.map_set]
end Go.Am
end
section
set_option linter.unusedVariables false
set_option linter.unusedSimpArgs false
set_option maxRecDepth 20000
namespace Go.Am
open Go.Proofs

def inG (v : Int) (p : Pt) : Bool := decide (p.a ≤ v) && decide (v ≤ p.b)
def inF (v : Int) (l : List Pt) : Nat := (l.filter (inG v)).length
theorem in_snoc (v : Int) (d : List Pt) (p : Pt) : inF v (d ++ [p]) = inF v d + (if inG v p = true then 1 else 0) := by
  unfold inF
  by_cases h : inG v p = true <;> simp [List.filter_append, h]
def ordG (b : Int) : List Pt → Prop
  | [] => True
  | p :: r => b ≤ p.a ∧ p.a ≤ p.b ∧ ordG (p.b + 2) r
theorem ordG_mono : ∀ (l : List Pt) (a b : Int), a ≤ b → ordG b l → ordG a l
  | [], _, _, _, _ => trivial
  | p :: r, a, b, h, ho => ⟨by have := ho.1; omega, ho.2⟩
theorem holes_ord : ∀ (l : List Int) (f : Int), l.Pairwise (· < ·) → (∀ n ∈ l, f ≤ n) → ordG f (holesF f l)
  | [], _, _, _ => trivial
  | n :: r, f, hp, h => by
    obtain ⟨h1, h2⟩ := List.pairwise_cons.1 hp
    have hn := h n (by simp)
    have ih := holes_ord r (n + 1) h2 fun m hm => by have := h1 m hm; omega
    unfold holesF
    by_cases hf : f < n
    · rw [if_pos hf]
      refine ⟨Int.le_refl _, by dsimp only; omega, ?_⟩
      show ordG (n - 1 + 2) (holesF (n + 1) r)
      have e : n - 1 + 2 = n + 1 := by omega
      rw [e]; exact ih
    · rw [if_neg hf]
      exact ordG_mono _ _ _ (by omega) ih
theorem holes_in (v : Int) : ∀ (l : List Int) (f : Int), l.Pairwise (· < ·) → (∀ n ∈ l, f ≤ n) → inF v (holesF f l) = if (f ≤ v ∧ v ∉ l ∧ ∃ n ∈ l, v < n) then 1 else 0
  | [], f, _, _ => by simp [holesF, inF]
  | n :: r, f, hp, h => by
    obtain ⟨h1, h2⟩ := List.pairwise_cons.1 hp
    have hn := h n (by simp)
    have ih := holes_in v r (n + 1) h2 fun m hm => by have := h1 m hm; omega
    have key : inF v (holesF f (n :: r)) = (if f < n ∧ f ≤ v ∧ v ≤ n - 1 then 1 else 0) + inF v (holesF (n + 1) r) := by
      conv => lhs; unfold holesF
      by_cases hf : f < n
      · rw [if_pos hf]
        unfold inF
        by_cases hv : f ≤ v ∧ v ≤ n - 1
        · have : inG v ⟨f, n - 1⟩ = true := by simp [inG]; omega
          rw [if_pos ⟨hf, hv⟩, List.singleton_append, List.filter_cons_of_pos this, List.length_cons]; omega
        · have : ¬ inG v ⟨f, n - 1⟩ = true := by simp [inG]; omega
          rw [if_neg (fun h => hv h.2), List.singleton_append, List.filter_cons_of_neg this]; omega
      · rw [if_neg hf, if_neg (fun h => hf h.1)]; simp
    rw [key, ih]
    by_cases c1 : f ≤ v ∧ v < n
    · rw [if_pos (by omega), if_neg (by omega), if_pos]
      refine ⟨c1.1, ?_, n, by simp, c1.2⟩
      intro hv
      rcases List.mem_cons.1 hv with hv | hv
      · omega
      · have := h1 v hv; omega
    · rw [if_neg (by omega)]
      by_cases c2 : n + 1 ≤ v ∧ v ∉ r ∧ ∃ m ∈ r, v < m
      · rw [if_pos c2, if_pos]
        obtain ⟨a1, a2, m, a3, a4⟩ := c2
        refine ⟨by omega, ?_, m, by simp [a3], a4⟩
        intro hv
        rcases List.mem_cons.1 hv with hv | hv
        · omega
        · exact a2 hv
      · rw [if_neg c2, if_neg]
        rintro ⟨a1, a2, m, a3, a4⟩
        apply c2
        have hvn : v ≠ n := fun h => a2 (by simp [h])
        have hvr : v ∉ r := fun h => a2 (by simp [h])
        refine ⟨by omega, hvr, ?_⟩
        rcases List.mem_cons.1 a3 with rfl | a3
        · omega
        · exact ⟨m, a3, a4⟩
def mostF (t : Trk) : Int := match t.bey.getLast? with
  | some m => m
  | none => t.next
theorem last_max : ∀ (l : List Int) (m : Int), l.Pairwise (· < ·) → l.getLast? = some m → m ∈ l ∧ ∀ n ∈ l, n ≤ m := by
  intro l m hp h
  obtain ⟨k, rfl⟩ := List.getLast?_eq_some_iff.1 h
  refine ⟨by simp, fun n hn => ?_⟩
  rcases List.mem_append.1 hn with hn | hn
  · have := (List.pairwise_append.1 hp).2.2 n hn m (by simp); omega
  · simp at hn; omega
theorem in_most {t : Trk} (h : Nrm t.next t.bey) (v : Int) (hv : 0 ≤ v) : inF v (holesF t.next t.bey) = if (!contF t v && decide (v < mostF t)) = true then 1 else 0 := by
  rw [holes_in v t.bey t.next h.asc fun n hn => by have := h.gt n hn; omega]
  have hc := cont_mem (n := v) h
  congr 1
  rw [eq_iff_iff, Bool.and_eq_true, Bool.not_eq_true', decide_eq_true_eq]
  have hnc : contF t v = false ↔ ¬ Mem t.next t.bey v := by rw [← hc]; simp
  rw [hnc]
  unfold Mem mostF
  cases hl : t.bey.getLast? with
  | none =>
    have hb : t.bey = [] := List.getLast?_eq_none_iff.1 hl
    simp [hb]; omega
  | some m =>
    obtain ⟨m1, m2⟩ := last_max _ _ h.asc hl
    constructor
    · rintro ⟨a1, a2, n, a3, a4⟩
      refine ⟨?_, by have := m2 n a3; show v < m; omega⟩
      rintro (a5 | a5)
      · omega
      · exact a2 a5
    · rintro ⟨a1, a2⟩
      refine ⟨?_, fun h => a1 (.inr h), m, m1, a2⟩
      by_cases h5 : t.next ≤ v
      · exact h5
      · exact absurd (.inl ⟨hv, by omega⟩) a1
theorem below_step (v : Int) : ∀ (l : List Int), l.Pairwise (· < ·) → belowF (v + 1) l = belowF v l + (if v ∈ l then 1 else 0)
  | [], _ => by simp [belowF]
  | a :: r, hp => by
    obtain ⟨h1, h2⟩ := List.pairwise_cons.1 hp
    have ih := below_step v r h2
    unfold belowF at ih ⊢
    by_cases h3 : a < v
    · have hm : (v ∈ a :: r) ↔ v ∈ r := by simp; omega
      rw [List.filter_cons_of_pos (by simp; omega), List.filter_cons_of_pos (by simp; omega)]
      simp only [List.length_cons]
      by_cases h4 : v ∈ r
      · rw [if_pos h4] at ih; rw [if_pos (hm.2 h4)]; omega
      · rw [if_neg h4] at ih; rw [if_neg (fun h => h4 (hm.1 h))]; omega
    · have hr : ∀ x, x ≤ v + 1 → r.filter (fun m => decide (m < x)) = [] ∨ a < x := by
        intro x hx
        by_cases h5 : a < x
        · exact .inr h5
        · exact .inl (List.filter_eq_nil_iff.2 fun m hm => by have := h1 m hm; simp; omega)
      have hrv : v ∉ r := fun h => by have := h1 v h; omega
      have hre : r.filter (fun m => decide (m < v + 1)) = [] := List.filter_eq_nil_iff.2 fun m hm => by have := h1 m hm; simp; omega
      have hre2 : r.filter (fun m => decide (m < v)) = [] := List.filter_eq_nil_iff.2 fun m hm => by have := h1 m hm; simp; omega
      by_cases h4 : a = v
      · rw [List.filter_cons_of_pos (by simp; omega), List.filter_cons_of_neg (by simp; omega), hre, hre2, if_pos (by simp [h4])]; simp
      · rw [List.filter_cons_of_neg (by simp; omega), List.filter_cons_of_neg (by simp; omega), hre, hre2, if_neg (by simp; exact ⟨fun h => h4 h.symm, hrv⟩)]; simp
def misF (t : Trk) (v : Int) : Int := max 0 (v - t.next) - belowF v t.bey
theorem below_zero (t : Trk) (h : Nrm t.next t.bey) (v : Int) (hv : v ≤ t.next) : belowF v t.bey = 0 := by
  unfold belowF
  rw [List.filter_eq_nil_iff.2 fun m hm => by have := h.gt m hm; simp; omega]; rfl
theorem mis_zero (t : Trk) (h : Nrm t.next t.bey) (v : Int) (hv : v ≤ t.next) : misF t v = 0 := by
  unfold misF
  rw [below_zero t h v hv]; omega
theorem mis_step (t : Trk) (h : Nrm t.next t.bey) (v : Int) (hv : 0 ≤ v) : misF t (v + 1) = misF t v + (if contF t v = true then 0 else 1) := by
  have hc := cont_mem (n := v) h
  by_cases h1 : v < t.next
  · rw [mis_zero t h _ (by omega), mis_zero t h _ (by omega), if_pos (hc.2 (.inl ⟨hv, h1⟩))]; rfl
  · unfold misF
    rw [below_step v t.bey h.asc]
    by_cases h2 : v ∈ t.bey
    · rw [if_pos h2, if_pos (hc.2 (.inr h2))]; omega
    · have : ¬ contF t v = true := fun h3 => by
        rcases hc.1 h3 with h4 | h4
        · omega
        · exact h2 h4
      rw [if_neg h2, if_neg this]; omega
theorem miss_of {t : Trk} (h : T20 t) {v : Int} (hv : 0 ≤ v ∧ v ≤ 100) : missT t v = (misF t v, 0) := by
  unfold missT
  rw [if_neg (by simp [h.chk]), if_neg (by omega)]
  rfl
theorem has_cont {t : Trk} (h : T20 t) (v : Int) : hasT t v = (contF t v, 0) := by
  unfold hasT
  rw [if_neg (by simp [h.chk])]
theorem gaps_of {t : Trk} (h : T20 t) : gapsT t = (holesF t.next t.bey, 0) := by
  unfold gapsT
  rw [if_neg (by simp [h.chk])]
theorem holes_range : ∀ (l : List Int) (f : Int), 0 ≤ f → f ≤ 20 → (∀ n ∈ l, 0 ≤ n ∧ n < 20) → ∀ p ∈ holesF f l, 0 ≤ p.a ∧ p.a ≤ 20 ∧ -1 ≤ p.b ∧ p.b < 20
  | [], _, _, _, _, p, hp => by simp [holesF] at hp
  | n :: r, f, h0, h1, h, p, hp => by
    have hn := h n (by simp)
    unfold holesF at hp
    rcases List.mem_append.1 hp with hp | hp
    · split at hp
      · simp at hp; subst hp; dsimp only; omega
      · simp at hp
    · exact holes_range r (n + 1) (by omega) (by omega) (fun m hm => h m (by simp [hm])) p hp
theorem mis_range {t : Trk} (h : T20 t) (v : Int) (hv : 0 ≤ v ∧ v ≤ 100) : -20 ≤ misF t v ∧ misF t v ≤ 100 := by
  have h1 := below_le v t.bey
  have h2 := h.len
  have h3 := h.nrm.pos
  unfold misF
  omega
end Go.Am
end
