/- Contracts of the program's functions, for every argument that meets the conditions that each theorem names. -/
import Derived.Test.YtecfkfgaejmdfaaCt4
import Derived.Test.YtecfkfgaejmdfaaAm6
section
set_option linter.unusedVariables false
set_option linter.unusedSimpArgs false
set_option maxRecDepth 20000
namespace Go.Am
open Go.Proofs

theorem asc_span : ∀ (l : List Int) (a b : Int), l.Pairwise (· < ·) → (∀ n ∈ l, a ≤ n ∧ n < b) → (l.length : Int) ≤ max 0 (b - a)
  | [], a, b, _, _ => by simp; omega
  | x :: r, a, b, hp, h => by
    obtain ⟨h1, h2⟩ := List.pairwise_cons.1 hp
    have hx := h x (by simp)
    have := asc_span r (x + 1) b h2 fun n hn => ⟨by have := h1 n hn; omega, (h n (by simp [hn])).2⟩
    simp only [List.length_cons]; omega
theorem ord_of : ∀ (l : List Int) (x : Int), l.Pairwise (· < ·) → (∀ n ∈ l, x < n ∧ 0 ≤ n ∧ n ≤ 1099511627776) → ordF x l = 0
  | [], _, _, _ => rfl
  | a :: r, x, hp, h => by
    obtain ⟨h1, h2⟩ := List.pairwise_cons.1 hp
    have ha := h a (by simp)
    rw [ordF, if_neg (by omega), if_neg (by omega)]
    exact ord_of r a h2 fun n hn => ⟨h1 n hn, (h n (by simp [hn])).2⟩
/-- trackers of numbers below 20 -/
structure T20 (t : Trk) : Prop where
  nrm : Nrm t.next t.bey
  next : t.next ≤ 20
  bey : ∀ n ∈ t.bey, n < 20
  pts : t.pts = []
  mark : t.mark = -1
theorem T20.len {t : Trk} (h : T20 t) : t.bey.length ≤ 20 := by
  have := asc_span t.bey 0 20 h.nrm.asc fun n hn => ⟨by have := h.nrm.gt n hn; have := h.nrm.pos; omega, h.bey n hn⟩
  omega
theorem T20.chk {t : Trk} (h : T20 t) : checkT t = 0 := by
  have h1 := h.len
  have h2 := h.nrm.pos
  have h3 := h.next
  unfold checkT
  rw [if_neg (by omega), if_neg (by omega)]
  exact ord_of _ _ h.nrm.asc fun n hn => by have := h.nrm.gt n hn; have := h.bey n hn; omega
theorem T20.sml {t : Trk} (h : T20 t) : Sml t := ⟨by have := h.len; omega, h.pts⟩
theorem T20.mem {t : Trk} (h : T20 t) {n : Int} (hm : Mem t.next t.bey n) : 0 ≤ n ∧ n < 20 := by
  rcases hm with hm | hm
  · have := h.next; omega
  · have := h.nrm.gt n hm; have := h.nrm.pos; have := h.bey n hm; omega
theorem t20_of {t : Trk} (h1 : Nrm t.next t.bey) (h2 : ∀ n, Mem t.next t.bey n → n < 20) (h3 : t.pts = []) (h4 : t.mark = -1) : T20 t := by
  refine ⟨h1, ?_, fun n hn => h2 n (.inr hn), h3, h4⟩
  by_cases h5 : t.next ≤ 20
  · exact h5
  · have := h2 20 (.inl ⟨by omega, by omega⟩); omega
theorem t20_begin : T20 TrkB := ⟨⟨by simp [TrkB], by simp [TrkB], by simp [TrkB]⟩, by simp [TrkB], by simp [TrkB], rfl, rfl⟩
theorem mem_begin (n : Int) : ¬ Mem TrkB.next TrkB.bey n := by
  rintro (h | h)
  · simp [TrkB] at h; omega
  · simp [TrkB] at h
theorem t20_with {t : Trk} {n : Int} (h : T20 t) (hn : 0 ≤ n ∧ n < 20) : T20 (withT t n) := by
  obtain ⟨h1, h2⟩ := with_nrm h.nrm hn.1
  have h3 := with_pts t n
  refine t20_of h1 (fun m hm => ?_) (h3.1.trans h.pts) (h3.2.trans h.mark)
  rcases (h2 m).1 hm with h4 | rfl
  · exact (h.mem h4).2
  · exact hn.2
theorem recv_small {t : Trk} {n : Int} (h : T20 t) (hn : 0 ≤ n ∧ n < 20) : recvT t n = (withT t n, !contF t n, 0) := by
  have h1 := (t20_with h hn).len
  unfold recvT
  rw [if_neg (by simp [h.chk]), if_neg (by omega)]
  unfold withT at h1 ⊢
  by_cases hc : contF t n = true
  · simp only [hc, if_true, Bool.not_true]
  · simp only [Bool.not_eq_true] at hc
    simp only [hc, Bool.false_eq_true, if_false] at h1 ⊢
    rw [if_neg (by omega)]
    simp
theorem all_small : ∀ (l : List Int) (t : Trk), T20 t → (∀ n ∈ l, 0 ≤ n ∧ n < 20) → allT t l = (foldR t l, true) ∧ T20 (foldR t l)
  | [], t, h, _ => ⟨rfl, h⟩
  | n :: r, t, h, hl => by
    have hn := hl n (by simp)
    have h2 := t20_with h hn
    obtain ⟨i1, i2⟩ := all_small r (withT t n) h2 fun m hm => hl m (by simp [hm])
    refine ⟨?_, i2⟩
    rw [allT, recv_small h hn]
    simp only [ne_eq, not_true_eq_false, if_false]
    exact i1
theorem small_range (l : List Int) (h8 : ∀ n ∈ l, 0 ≤ n ∧ n ≤ 255) : ∀ n ∈ smallF l, 0 ≤ n ∧ n < 20 := by
  intro n hn
  obtain ⟨m, hm, rfl⟩ := List.mem_map.1 hn
  have := h8 m hm
  exact ⟨Int.tmod_nonneg _ this.1, Int.tmod_lt_of_pos _ (by decide)⟩
noncomputable def ofL20 (l : List Int) : Trk := foldR TrkB l
theorem of_mem {l : List Int} (hl : ∀ n ∈ l, 0 ≤ n ∧ n < 20) (m : Int) : Mem (ofL20 l).next (ofL20 l).bey m ↔ m ∈ l := by
  have := (fold_nrm l TrkB t20_begin.nrm fun n hn => (hl n hn).1).2.1 m
  unfold ofL20
  rw [this]
  exact ⟨fun h => h.resolve_left (mem_begin m), .inr⟩
theorem of_t20 {l : List Int} (hl : ∀ n ∈ l, 0 ≤ n ∧ n < 20) : T20 (ofL20 l) := (all_small l TrkB t20_begin hl).2
theorem t20_eq {a b : Trk} (ha : T20 a) (hb : T20 b) (h : ∀ n, Mem a.next a.bey n ↔ Mem b.next b.bey n) : a = b := by
  obtain ⟨h1, h2⟩ := nrm_eq ha.nrm hb.nrm h
  have h3 := ha.pts; have h4 := hb.pts; have h5 := ha.mark; have h6 := hb.mark
  obtain ⟨a1, a2, a3, a4⟩ := a
  obtain ⟨b1, b2, b3, b4⟩ := b
  dsimp only at *
  rw [h1, h2, h3, h4, h5, h6]
theorem merge_small {a b : Trk} (ha : T20 a) (hb : T20 b) : mergeT a b = (mrgT a b, 0) ∧ T20 (mrgT a b) ∧ ∀ n, Mem (mrgT a b).next (mrgT a b).bey n ↔ Mem a.next a.bey n ∨ Mem b.next b.bey n := by
  obtain ⟨m1, m2⟩ := merge_nrm ha.chk hb.chk
  have h20 : T20 (mrgT a b) := t20_of m1 (fun n hn => by
    rcases (m2 n).1 hn with h | h
    · exact (ha.mem h).2
    · exact (hb.mem h).2) ha.pts ha.mark
  refine ⟨?_, h20, m2⟩
  have := h20.len
  unfold mergeT
  rw [if_neg (by simp [ha.chk]), if_neg (by simp [hb.chk]), if_neg (by omega)]
theorem merge_of {k l : List Int} (hk : ∀ n ∈ k, 0 ≤ n ∧ n < 20) (hl : ∀ n ∈ l, 0 ≤ n ∧ n < 20) : mergeT (ofL20 k) (ofL20 l) = (ofL20 (k ++ l), 0) := by
  have hkl : ∀ n ∈ k ++ l, 0 ≤ n ∧ n < 20 := fun n hn => by
    rcases List.mem_append.1 hn with h | h
    · exact hk n h
    · exact hl n h
  obtain ⟨h1, h2, h3⟩ := merge_small (of_t20 hk) (of_t20 hl)
  rw [h1]
  congr 1
  refine t20_eq h2 (of_t20 hkl) fun n => ?_
  rw [h3, of_mem hk, of_mem hl, of_mem hkl, List.mem_append]
theorem of_congr {k l : List Int} (hk : ∀ n ∈ k, 0 ≤ n ∧ n < 20) (h : ∀ n, n ∈ k ↔ n ∈ l) : ofL20 k = ofL20 l := by
  have hl : ∀ n ∈ l, 0 ≤ n ∧ n < 20 := fun n hn => hk n ((h n).2 hn)
  exact t20_eq (of_t20 hk) (of_t20 hl) fun n => by rw [of_mem hk, of_mem hl, h]
end Go.Am
end
section
set_option linter.unusedVariables false
set_option linter.unusedSimpArgs false
set_option maxRecDepth 20000
namespace Go.Am
open Go.Proofs

theorem P25o (l : List Int) (h8 : ∀ n ∈ l, 0 ≤ n ∧ n ≤ 255) (hl : l.length < 500000000000) : OCall EE 25 [.isl 1 (mapE u8 l)] (.sl 0 1 0 l.length) [.arr 1 (mapE int (smallF l))] := by
  have hcl : (AV.isl 1 (mapE u8 l)).closed = true := by simp [AV.closed, closed_mapE u8_closed]
  refine words fun iLt iLe iEq iNe iAdd iSub iMul iQuo iRem iShr iNeg iCvt iMax iMin bNot bEq bNe bAnd bOr sEq sNe sLen sCat sCut sAt lenA lenN iOf natOf atA atN cutA partA dropA catA setA repA putA idxN addN subN minN lenCut hX e_iLt e_iLe e_iEq e_iNe e_iAdd e_iSub e_iMul e_iQuo e_iRem e_iShr e_iNeg e_iCvt e_iMax e_iMin e_bNot e_bEq e_bNe e_bAnd e_bOr e_sEq e_sNe e_sLen e_sCat e_sCut e_sAt e_lenA e_lenN e_iOf e_natOf e_atA e_atN e_cutA e_partA e_dropA e_catA e_setA e_repA e_putA e_idxN e_addN e_subN e_minN e_lenCut ee => ?_
  generalize hel : mapE u8 l = el at *
  have hll : el.length = l.length := by rw [← hel, mapE_len]
  refine ocall_body (fn := Try.f25) (n := 21) (ac := Tryc25) (rvs := [.t 2]) rfl (by decide) Tryp25 rfl rfl rfl ?_
  refine go rfl hX 60 (by conv => lhs; cbv) ?_ ?_
  · first | exact trivial | (simp only [Cd.ok, ee]; and_intros <;> first | omega | rfl | (simp <;> omega))
  refine on_loopP (ι := List Int × List Int × Int × Nat × List AV) (fun p => ([(4, int p.2.2.1), (3, .sl 0 1 0 p.2.2.2.1), (0, .isl 1 el)], [.arr 1 p.2.2.2.2]))
    (fun p => l = p.1 ++ p.2.1 ∧ p.2.2.1 = p.1.length ∧ p.2.2.2.1 = p.2.2.2.2.length ∧ p.2.2.2.2 = mapE int (smallF p.1)) (fun p => p.2.1.length) ([], l, 0, 0, []) ⟨rfl, rfl, rfl, by simp [mapE_eq, smallF]⟩
    (ent_sub [] [none] trivial ⟨.none 1 rfl, trivial⟩ ⟨.refl _, .nilS 0 1 0 (by simp), .cl hcl, trivial⟩) ?_
  rintro ⟨d, r, i, ln, w⟩ ⟨k1, hi, kn, kw⟩
  dsimp only at k1 hi kn kw ⊢
  have hcw : AV.closedL w = true := by rw [kw]; exact closed_mapE int_closed _
  have hwl : w.length = d.length := by rw [kw, mapE_len]; simp [smallF]
  cases r with
  | nil =>
    have L1 := len_split k1
    try simp only [List.length_cons, List.length_nil] at L1
    have hc : iLt i (lenA el) = false := lt_f e_iLt e_lenA (by omega)
    have hd : d = l := by rw [k1, List.append_nil]
    have kw' := kw
    rw [hd] at kw'
    rw [← kw']
    refine go rfl hX 0 (by conv => lhs; cbv; try simp only [hc]; cbv; try simp only [hc]; cbv; try simp only [hc]; cbv; try simp only [hc]; cbv) ?_ ?_
    · first | exact trivial | (simp only [Cd.ok, ee]; and_intros <;> first | omega | rfl | (simp <;> omega))
    refine go rfl hX 60 (by conv => lhs; cbv) ?_ ?_
    · first | exact trivial | (simp only [Cd.ok, ee]; and_intros <;> first | omega | rfl | (simp <;> omega))
    refine loopP_exit ?_
    refine go rfl hX 60 (by conv => lhs; cbv) ?_ ?_
    · first | exact trivial | (simp only [Cd.ok, ee]; and_intros <;> first | omega | rfl | (simp <;> omega))
    have hln : ln = l.length := by rw [kn, hwl, hd]
    exact o_ret (F2 := [(2, .sl 0 1 0 ln)]) (H2 := [.arr 1 w]) (ent_sub [.to 0] [some 0] ⟨⟨by simp, rfl⟩, trivial⟩ ⟨osrc_arr rfl rfl rfl rfl hcw, trivial⟩ ⟨.refl _, trivial⟩) rfl ⟨by rw [hln]; rfl, rfl⟩
  | cons n r =>
    have L1 := len_split k1
    try simp only [List.length_cons, List.length_nil] at L1
    have hc : iLt i (lenA el) = true := lt_t e_iLt e_lenA (by omega)
    have hat := el_at e_atA hel k1 hi
    dsimp only [u8] at hat
    have hn := h8 n (by rw [k1]; simp)
    have hm1 : 0 ≤ n.tmod 20 := Int.tmod_nonneg _ hn.1
    have hm2 : n.tmod 20 < 20 := Int.tmod_lt_of_pos _ (by decide)
    have hi' : iAdd .i64 i 1 = ((d ++ [n] : List Int).length : Int) := by
      simp only [List.length_append, List.length_cons, List.length_nil]; exact inc_w e_iAdd hi (by omega)
    have kw2 : w ++ [int (n.tmod 20)] = mapE int (smallF (d ++ [n])) := by rw [kw, mapI_snoc]; simp [smallF]
    have hk : iCvt .i64 (iRem n 20) = n.tmod 20 := by simp only [ee]; exact wrap64 (by omega) (by omega)
    generalize n.tmod 20 = m at *
    have hcw2 : AV.closedL (w ++ [int m]) = true := closedL_append hcw rfl
    refine go rfl hX 0 (by conv => lhs; cbv; try simp only [hc, hat, hk]; cbv; try simp only [hc, hat, hk]; cbv; try simp only [hc, hat, hk]; cbv; try simp only [hc, hat, hk]; cbv) ?_ ?_
    · first | exact trivial | (simp only [Cd.ok, ee]; and_intros <;> first | omega | rfl | (simp <;> omega))
    refine go rfl hX 1 (by conv => lhs; cbv; try simp only [hc, hat, hk]; cbv; try simp only [hc, hat, hk]; cbv; try simp only [hc, hat, hk]; cbv; try simp only [hc, hat, hk]; cbv) ?_ ?_
    · first | exact trivial | (simp only [Cd.ok, ee]; and_intros <;> first | omega | rfl | (simp <;> omega))
    refine loopP_next (d ++ [n], r, iAdd .i64 i 1, ln + 1, w ++ [int m]) ⟨by simp [k1], hi', by simp [kn], kw2⟩ (by simp) (ent_sub [.gone, .gone, .to 0] [some 2] ⟨trivial, trivial, ⟨by simp, rfl⟩, trivial⟩ ⟨osrc_arr rfl rfl rfl (by simp [ee, kn]) hcw2, trivial⟩ ⟨.refl _, .of (by simp only [ee]; rfl), .cl hcl, trivial⟩)

theorem enters24 : Enters EE.P 24 := enters_of (fn := Try.f24) (n := 31) (ac := Tryc24) rfl (by decide) Tryp24
set_option maxHeartbeats 4000000 in
theorem P6 (l0 l1 : List Int) (h0 : ∀ n ∈ l0, 0 ≤ n ∧ n ≤ 255) (h1 : ∀ n ∈ l1, 0 ≤ n ∧ n ≤ 255) (s0 : Short l0) (s1 : Short l1) : PCall EE 6 [.agg [.isl 1 (mapE u8 l0), .isl 1 (mapE u8 l1)]] (.val (.bool true)) := by
  have P11c := P11
  have hc0 : (AV.isl 1 (mapE u8 l0)).closed = true := by simp [AV.closed, closed_mapE u8_closed]
  have hc1 : (AV.isl 1 (mapE u8 l1)).closed = true := by simp [AV.closed, closed_mapE u8_closed]
  have hl0 : (mapE u8 l0).length = l0.length := mapE_len _ _
  have hl1 : (mapE u8 l1).length = l1.length := mapE_len _ _
  by_cases hq : 30 < l0.length
  · clear h0 h1 s0 s1
    generalize mapE u8 l0 = e0 at *
    generalize mapE u8 l1 = e1 at *
    refine words fun iLt iLe iEq iNe iAdd iSub iMul iQuo iRem iShr iNeg iCvt iMax iMin bNot bEq bNe bAnd bOr sEq sNe sLen sCat sCut sAt lenA lenN iOf natOf atA atN cutA partA dropA catA setA repA putA idxN addN subN minN lenCut hX e_iLt e_iLe e_iEq e_iNe e_iAdd e_iSub e_iMul e_iQuo e_iRem e_iShr e_iNeg e_iCvt e_iMax e_iMin e_bNot e_bEq e_bNe e_bAnd e_bOr e_sEq e_sNe e_sLen e_sCat e_sCut e_sAt e_lenA e_lenN e_iOf e_natOf e_atA e_atN e_cutA e_partA e_dropA e_catA e_setA e_repA e_putA e_idxN e_addN e_subN e_minN e_lenCut ee => ?_
    have hb : iLt 30 (lenA e0) = true := by simp [ee]; omega
    have hor : ∀ x, bOr true x = true := by simp [ee]
    refine fn_body (fn := Try.f6) (n := 106) (ac := Tryc6) (rvs := [.t 2]) rfl (by decide) Tryp6 rfl rfl rfl ?_
    refine go rfl hX 0 (by conv => lhs; cbv; try simp only [hb, hor]; cbv; try simp only [hb, hor]; cbv; try simp only [hb, hor]; cbv; try simp only [hb, hor]; cbv) ?_ ?_
    · first | exact trivial | (simp only [Cd.ok, ee]; and_intros <;> first | omega | rfl | (simp <;> omega))
    refine go rfl hX 60 (by conv => lhs; cbv) ?_ ?_
    · first | exact trivial | (simp only [Cd.ok, ee]; and_intros <;> first | omega | rfl | (simp <;> omega))
    refine on_pcall (args := []) rfl rfl rfl P11c rfl ?_
    refine go rfl hX 60 (by conv => lhs; cbv) ?_ ?_
    · first | exact trivial | (simp only [Cd.ok, ee]; and_intros <;> first | omega | rfl | (simp <;> omega))
    refine fn_ret rfl rfl (.val ?_)
    rfl
  by_cases hq1 : 30 < l1.length
  · clear h0 h1 s0 s1
    generalize mapE u8 l0 = e0 at *
    generalize mapE u8 l1 = e1 at *
    refine words fun iLt iLe iEq iNe iAdd iSub iMul iQuo iRem iShr iNeg iCvt iMax iMin bNot bEq bNe bAnd bOr sEq sNe sLen sCat sCut sAt lenA lenN iOf natOf atA atN cutA partA dropA catA setA repA putA idxN addN subN minN lenCut hX e_iLt e_iLe e_iEq e_iNe e_iAdd e_iSub e_iMul e_iQuo e_iRem e_iShr e_iNeg e_iCvt e_iMax e_iMin e_bNot e_bEq e_bNe e_bAnd e_bOr e_sEq e_sNe e_sLen e_sCat e_sCut e_sAt e_lenA e_lenN e_iOf e_natOf e_atA e_atN e_cutA e_partA e_dropA e_catA e_setA e_repA e_putA e_idxN e_addN e_subN e_minN e_lenCut ee => ?_
    have hb0 : iLt 30 (lenA e0) = false := by simp [ee]; omega
    have hb1 : iLt 30 (lenA e1) = true := by simp [ee]; omega
    have hor : bOr false true = true := by simp [ee]
    refine fn_body (fn := Try.f6) (n := 106) (ac := Tryc6) (rvs := [.t 2]) rfl (by decide) Tryp6 rfl rfl rfl ?_
    refine go rfl hX 0 (by conv => lhs; cbv; try simp only [hb0, hb1, hor]; cbv; try simp only [hb0, hb1, hor]; cbv; try simp only [hb0, hb1, hor]; cbv; try simp only [hb0, hb1, hor]; cbv) ?_ ?_
    · first | exact trivial | (simp only [Cd.ok, ee]; and_intros <;> first | omega | rfl | (simp <;> omega))
    refine go rfl hX 60 (by conv => lhs; cbv) ?_ ?_
    · first | exact trivial | (simp only [Cd.ok, ee]; and_intros <;> first | omega | rfl | (simp <;> omega))
    refine on_pcall (args := []) rfl rfl rfl P11c rfl ?_
    refine go rfl hX 60 (by conv => lhs; cbv) ?_ ?_
    · first | exact trivial | (simp only [Cd.ok, ee]; and_intros <;> first | omega | rfl | (simp <;> omega))
    refine fn_ret rfl rfl (.val ?_)
    rfl
  have r0 := small_range l0 h0
  have r1 := small_range l1 h1
  have r01 : ∀ n ∈ smallF l0 ++ smallF l1, 0 ≤ n ∧ n < 20 := fun n hn => by
    rcases List.mem_append.1 hn with h | h
    · exact r0 n h
    · exact r1 n h
  have z0 : (smallF l0).length = l0.length := by simp [smallF]
  have z1 : (smallF l1).length = l1.length := by simp [smallF]
  have P25a := P25 l0 h0 (by omega)
  have P25b := P25 l1 h1 (by omega)
  have P25x := P25o l0 h0 (by omega)
  have P24a := P24 (smallF l0) (by omega)
  have P24b := P24 (smallF l1) (by omega)
  have P24c := P24 (smallF l0 ++ smallF l1) (by rw [List.length_append]; omega)
  rw [(all_small _ _ t20_begin r0).1] at P24a
  rw [(all_small _ _ t20_begin r1).1] at P24b
  rw [(all_small _ _ t20_begin r01).1] at P24c
  have m0 := merge_of r0 r1
  have m1 := merge_of r1 r0
  have m2 := merge_of r0 r0
  rw [of_congr (k := smallF l1 ++ smallF l0) (l := smallF l0 ++ smallF l1) (fun n hn => r01 n (by rw [List.mem_append] at hn ⊢; exact hn.symm)) (fun n => by rw [List.mem_append, List.mem_append, or_comm])] at m1
  rw [of_congr (k := smallF l0 ++ smallF l0) (l := smallF l0) (fun n hn => r0 n (by simpa using hn)) (fun n => by simp)] at m2
  have t0 := of_t20 r0
  have t1 := of_t20 r1
  have t2 := of_t20 r01
  have P22a := P22 _ _ t0.sml.fine t1.sml.fine (by rw [t0.pts]; simp)
  have P22b := P22 _ _ t1.sml.fine t0.sml.fine (by rw [t1.pts]; simp)
  have P22c := P22 _ _ t0.sml.fine t0.sml.fine (by rw [t0.pts]; simp)
  rw [m0] at P22a
  rw [m1] at P22b
  rw [m2] at P22c
  have P14a := P14 (ofL20 (smallF l0)) (ofL20 (smallF l0)) t0.sml.fine
  have P14c := P14 (ofL20 (smallF l0 ++ smallF l1)) (ofL20 (smallF l0 ++ smallF l1)) t2.sml.fine
  have happ : mapE int (smallF l0) ++ mapE int (smallF l1) = mapE int (smallF l0 ++ smallF l1) := by simp [mapE_eq]
  change PCall EE 24 _ (.tup [(ofL20 (smallF l0)).enc, _]) at P24a
  change PCall EE 24 _ (.tup [(ofL20 (smallF l1)).enc, _]) at P24b
  change PCall EE 24 _ (.tup [(ofL20 (smallF l0 ++ smallF l1)).enc, _]) at P24c
  have hca := Trk.closed (ofL20 (smallF l0))
  have hcb := Trk.closed (ofL20 (smallF l1))
  have hcc := Trk.closed (ofL20 (smallF l0 ++ smallF l1))
  have y0 : (mapE int (smallF l0)).length = l0.length := by rw [mapE_len, z0]
  have y1 : (mapE int (smallF l1)).length = l1.length := by rw [mapE_len, z1]
  have y2 : (mapE int (smallF l0 ++ smallF l1)).length = l0.length + l1.length := by rw [mapE_len, List.length_append, z0, z1]
  have k0 : AV.closedL (mapE int (smallF l0)) = true := closed_mapE int_closed _
  have hk0 : (AV.isl 1 (mapE int (smallF l0))).closed = true := closedI _
  have hk1 : (AV.isl 1 (mapE int (smallF l1))).closed = true := closedI _
  have k2 : AV.closedL (mapE int (smallF l0 ++ smallF l1)) = true := closed_mapE int_closed _
  have kf1 : fitB 1 (mapE int (smallF l1)) = true := fitL (k := 1) (enc := int) fitI _
  dsimp only at P24a P24b P24c P22a P22b P22c P14a P14c
  rw [decide_eq_true rfl] at P14a P14c
  generalize ofL20 (smallF l0) = a at *
  generalize ofL20 (smallF l1) = b at *
  generalize ofL20 (smallF l0 ++ smallF l1) = c at *
  have hea := closedI a.bey
  have heb := closedI b.bey
  have hepa := closedP a.pts
  have hec := closedI c.bey
  have hepc := closedP c.pts
  have hepb := closedP b.pts
  unfold Trk.enc at *
  generalize mapE int (smallF l0 ++ smallF l1) = mc at *
  generalize mapE int (smallF l0) = ma at *
  generalize mapE int (smallF l1) = mb at *
  generalize mapE u8 l0 = e0 at *
  generalize mapE u8 l1 = e1 at *
  generalize mapE int a.bey = ea at *
  generalize mapE Pt.enc a.pts = epa at *
  generalize mapE int b.bey = eb at *
  generalize mapE Pt.enc b.pts = epb at *
  generalize mapE int c.bey = ec at *
  generalize mapE Pt.enc c.pts = epc at *
  generalize a.next = an at *
  generalize a.mark = ak at *
  generalize b.next = bn at *
  generalize b.mark = bk at *
  generalize c.next = cn at *
  generalize c.mark = ck at *
  refine words fun iLt iLe iEq iNe iAdd iSub iMul iQuo iRem iShr iNeg iCvt iMax iMin bNot bEq bNe bAnd bOr sEq sNe sLen sCat sCut sAt lenA lenN iOf natOf atA atN cutA partA dropA catA setA repA putA idxN addN subN minN lenCut hX e_iLt e_iLe e_iEq e_iNe e_iAdd e_iSub e_iMul e_iQuo e_iRem e_iShr e_iNeg e_iCvt e_iMax e_iMin e_bNot e_bEq e_bNe e_bAnd e_bOr e_sEq e_sNe e_sLen e_sCat e_sCut e_sAt e_lenA e_lenN e_iOf e_natOf e_atA e_atN e_cutA e_partA e_dropA e_catA e_setA e_repA e_putA e_idxN e_addN e_subN e_minN e_lenCut ee => ?_
  have hb0 : iLt 30 (lenA e0) = false := by simp [ee]; omega
  have hb1 : iLt 30 (lenA e1) = false := by simp [ee]; omega
  have hor : bOr false false = false := by simp [ee]
  have hand : bAnd true true = true := by simp [ee]
  have hz : iEq 0 0 = true := by simp [ee]
  have hdr : dropA ma 0 = ma := by simp only [ee]; rfl
  have hcat : catA ma mb = mc := by simp only [ee]; exact happ
  have hlnb : addN l0.length (lenN mb) = l0.length + l1.length := by simp only [ee]; omega
  generalize hn0 : l0.length = n0 at *
  generalize hn1 : l1.length = n1 at *
  generalize hnc : n0 + n1 = nc at *
  refine fn_body (fn := Try.f6) (n := 106) (ac := Tryc6) (rvs := [.t 2]) rfl (by decide) Tryp6 rfl rfl rfl ?_
  refine go rfl hX 0 (by conv => lhs; cbv; try simp only [hb0, hb1, hor]; cbv; try simp only [hb0, hb1, hor]; cbv; try simp only [hb0, hb1, hor]; cbv; try simp only [hb0, hb1, hor]; cbv) ?_ ?_
  · first | exact trivial | (simp only [Cd.ok, ee]; and_intros <;> first | omega | rfl | (simp <;> omega))
  refine go rfl hX 60 (by conv => lhs; cbv) ?_ ?_
  · first | exact trivial | (simp only [Cd.ok, ee]; and_intros <;> first | omega | rfl | (simp <;> omega))
  refine on_pcall (args := [AV.isl 1 e0]) rfl rfl rfl P25a (by simp [AV.closedL, closed_v, closed_agg, hc0, hc1, hk0, hk1]) ?_
  refine on_pcall (args := [AV.isl 1 ma]) rfl rfl rfl P24a (by simp [AV.closedL, closed_v, closed_agg, hc0, hc1, hk0, hk1]) ?_
  refine go rfl hX 60 (by conv => lhs; cbv) ?_ ?_
  · first | exact trivial | (simp only [Cd.ok, ee]; and_intros <;> first | omega | rfl | (simp <;> omega))
  refine on_pcall (args := [AV.isl 1 e1]) rfl rfl rfl P25b (by simp [AV.closedL, closed_v, closed_agg, hc0, hc1, hk0, hk1]) ?_
  refine on_pcall (args := [AV.isl 1 mb]) rfl rfl rfl P24b (by simp [AV.closedL, closed_v, closed_agg, hc0, hc1, hk0, hk1]) ?_
  refine go rfl hX 60 (by conv => lhs; cbv) ?_ ?_
  · first | exact trivial | (simp only [Cd.ok, ee]; and_intros <;> first | omega | rfl | (simp <;> omega))
  refine trp_drawE [2, 6, 7, 11, 12] [[2, 6, 7, 11, 12], [2, 6, 11, 7, 12], [2, 11, 6, 7, 12], [11, 2, 6, 7, 12]] [(8, .val (.bool true)), (7, .ptr 3 0), (6, .val (.bool true)), (5, .ptr 2 0), (4, .val (.bool true)), (3, .ptr 1 0)] [.cells [.isl 1 e0, .isl 1 e1], .cells [int an, .isl 1 ea, .isl 2 epa, int ak], .cells [int bn, .isl 1 eb, .isl 2 epb, int bk], .cells [int cn, .isl 1 ec, .isl 2 epc, int ck]] rfl rfl rfl (by decide) rfl ?_ ⟨⟨[0, 1, 2, 3, 4, 5, 6, 7, 8, 9, 10, 11, 12, 13], rfl, ?_⟩, ⟨[0, 1, 2, 3, 4, 5, 6, 11, 7, 8, 9, 10, 12, 13], rfl, ?_⟩, ⟨[0, 1, 2, 11, 3, 4, 5, 6, 7, 8, 9, 10, 12, 13], rfl, ?_⟩, ⟨[11, 0, 1, 2, 3, 4, 5, 6, 7, 8, 9, 10, 12, 13], rfl, ?_⟩, trivial⟩
  rotate_left
  · refine tr_go hX (by conv => lhs; cbv) ?_ ?_
    · first | exact trivial | (simp only [Cd.ok, ee]; and_intros <;> first | omega | rfl | (simp <;> omega))
    refine tr_ocall (args := [.isl 1 e0]) (v' := .sl 3 1 0 n0) (H' := [.arr 1 ma]) rfl rfl rfl P25x (by simp [AV.closedL, hc0]) rfl (by simp [AObj.sub, subL_closed _ k0]) ?_
    refine tr_go hX (by conv => lhs; cbv) ?_ ?_
    · first | exact trivial | (simp only [Cd.ok, ee]; and_intros <;> first | omega | rfl | (simp <;> omega))
    refine tr_pcall (args := [.isl 1 e1]) rfl rfl rfl P25b (by simp [AV.closedL, hc1]) ?_
    refine tr_go hX (by conv => lhs; cbv; simp only [hdr, hcat, hlnb,hdr, hcat, hlnb]; cbv; simp only [hdr, hcat, hlnb,hdr, hcat, hlnb]; cbv) ?_ ?_
    · simp only [Cd.ok, ee]; (and_intros <;> first | omega | rfl | exact kf1)
    refine tr_ecall (args := [.sl 4 1 0 nc]) rfl rfl rfl enters24 (PCall.give (args' := [.isl 1 mc]) (H1 := [.cells [.isl 1 e0, .isl 1 e1], .cells [int an, .isl 1 ea, .isl 2 epa, int ak], .cells [int bn, .isl 1 eb, .isl 2 epb, int bk], .dead, .dead]) [.to 0, .to 1, .to 2, .gone, .isl 1 mc] rfl ⟨⟨by simp, rfl⟩, ⟨by simp, rfl⟩, ⟨by simp, rfl⟩, trivial, ⟨_, rfl, (subL_closed _ k2).symm⟩, trivial⟩ ⟨osrc_cells (b := 0) rfl rfl rfl ⟨.cl hc0, .cl hc1, trivial⟩, osrc_cells (b := 1) rfl rfl rfl ⟨.refl _, .cl hea, .cl hepa, .refl _, trivial⟩, osrc_cells (b := 2) rfl rfl rfl ⟨.refl _, .cl heb, .cl hepb, .refl _, trivial⟩, .dead, .dead, trivial⟩ (by show [AV.sub _ (.sl 4 1 0 nc)] = _; rw [sub_whole (es := mc) rfl y2.symm]) P24c (closed1 k2)) ?_
    refine tr_go hX (by conv => lhs; cbv) ?_ ?_
    · first | exact trivial | (simp only [Cd.ok, ee]; and_intros <;> first | omega | rfl | (simp <;> omega))
    refine tr_nil ⟨by simp [effLab], ?_, ?_⟩
    · simp only [LooksP, lookAll, List.append, List.cons_append, List.nil_append, List.append_nil]; and_intros <;> first | trivial | (intro hp; first | rfl | exact absurd (show false = true from hp) Bool.false_ne_true)
    exact (ent_sub [.to 0, .to 1, .to 2, .gone, .gone, .to 3] [some 0, some 1, some 2, some 5] ⟨⟨by simp, rfl⟩, ⟨by simp, rfl⟩, ⟨by simp, rfl⟩, trivial, trivial, ⟨by simp, rfl⟩, trivial⟩ ⟨osrc_cells (b := 0) rfl rfl rfl ⟨.cl hc0, .cl hc1, trivial⟩, osrc_cells (b := 1) rfl rfl rfl ⟨.refl _, .cl hea, .cl hepa, .refl _, trivial⟩, osrc_cells (b := 2) rfl rfl rfl ⟨.refl _, .cl heb, .cl hepb, .refl _, trivial⟩, osrc_cells (b := 5) rfl rfl rfl ⟨.refl _, .cl hec, .cl hepc, .refl _, trivial⟩, trivial⟩ ⟨.refl _, .refl _, .refl _, .refl _, .refl _, .refl _, trivial⟩)
  · refine tr_go hX (by conv => lhs; cbv) ?_ ?_
    · first | exact trivial | (simp only [Cd.ok, ee]; and_intros <;> first | omega | rfl | (simp <;> omega))
    refine tr_ocall (args := [.isl 1 e0]) (v' := .sl 3 1 0 n0) (H' := [.arr 1 ma]) rfl rfl rfl P25x (by simp [AV.closedL, hc0]) rfl (by simp [AObj.sub, subL_closed _ k0]) ?_
    refine tr_go hX (by conv => lhs; cbv) ?_ ?_
    · first | exact trivial | (simp only [Cd.ok, ee]; and_intros <;> first | omega | rfl | (simp <;> omega))
    refine tr_pcall (args := [.isl 1 e1]) rfl rfl rfl P25b (by simp [AV.closedL, hc1]) ?_
    refine tr_go hX (by conv => lhs; cbv; simp only [hdr, hcat, hlnb,hdr, hcat, hlnb]; cbv; simp only [hdr, hcat, hlnb,hdr, hcat, hlnb]; cbv) ?_ ?_
    · simp only [Cd.ok, ee]; (and_intros <;> first | omega | rfl | exact kf1)
    refine tr_ecall (args := [.sl 4 1 0 nc]) rfl rfl rfl enters24 (PCall.give (args' := [.isl 1 mc]) (H1 := [.cells [.isl 1 e0, .isl 1 e1], .cells [int an, .isl 1 ea, .isl 2 epa, int ak], .cells [int bn, .isl 1 eb, .isl 2 epb, int bk], .dead, .dead, .cells [int 0, .val (.slice none 0 0), .val (.slice none 0 0), int 0]]) [.to 0, .to 1, .to 2, .gone, .isl 1 mc, .to 5] rfl ⟨⟨by simp, rfl⟩, ⟨by simp, rfl⟩, ⟨by simp, rfl⟩, trivial, ⟨_, rfl, (subL_closed _ k2).symm⟩, ⟨by simp, rfl⟩, trivial⟩ ⟨osrc_cells (b := 0) rfl rfl rfl ⟨.cl hc0, .cl hc1, trivial⟩, osrc_cells (b := 1) rfl rfl rfl ⟨.refl _, .cl hea, .cl hepa, .refl _, trivial⟩, osrc_cells (b := 2) rfl rfl rfl ⟨.refl _, .cl heb, .cl hepb, .refl _, trivial⟩, .dead, .dead, osrc_cells (b := 5) rfl rfl rfl ⟨.refl _, .refl _, .refl _, .refl _, trivial⟩, trivial⟩ (by show [AV.sub _ (.sl 4 1 0 nc)] = _; rw [sub_whole (es := mc) rfl y2.symm]) P24c (closed1 k2)) ?_
    refine tr_go hX (by conv => lhs; cbv) ?_ ?_
    · first | exact trivial | (simp only [Cd.ok, ee]; and_intros <;> first | omega | rfl | (simp <;> omega))
    refine tr_nil ⟨by simp [effLab], ?_, ?_⟩
    · simp only [LooksP, lookAll, List.append, List.cons_append, List.nil_append, List.append_nil]; and_intros <;> first | trivial | (intro hp; first | rfl | exact absurd (show false = true from hp) Bool.false_ne_true)
    exact (ent_sub [.to 0, .to 1, .to 2, .gone, .gone, .to 3] [some 0, some 1, some 2, some 5] ⟨⟨by simp, rfl⟩, ⟨by simp, rfl⟩, ⟨by simp, rfl⟩, trivial, trivial, ⟨by simp, rfl⟩, trivial⟩ ⟨osrc_cells (b := 0) rfl rfl rfl ⟨.cl hc0, .cl hc1, trivial⟩, osrc_cells (b := 1) rfl rfl rfl ⟨.refl _, .cl hea, .cl hepa, .refl _, trivial⟩, osrc_cells (b := 2) rfl rfl rfl ⟨.refl _, .cl heb, .cl hepb, .refl _, trivial⟩, osrc_cells (b := 5) rfl rfl rfl ⟨.refl _, .cl hec, .cl hepc, .refl _, trivial⟩, trivial⟩ ⟨.refl _, .refl _, .refl _, .refl _, .refl _, .refl _, trivial⟩)
  · refine tr_go hX (by conv => lhs; cbv) ?_ ?_
    · first | exact trivial | (simp only [Cd.ok, ee]; and_intros <;> first | omega | rfl | (simp <;> omega))
    refine tr_ocall (args := [.isl 1 e0]) (v' := .sl 3 1 0 n0) (H' := [.arr 1 ma]) rfl rfl rfl P25x (by simp [AV.closedL, hc0]) rfl (by simp [AObj.sub, subL_closed _ k0]) ?_
    refine tr_go hX (by conv => lhs; cbv) ?_ ?_
    · first | exact trivial | (simp only [Cd.ok, ee]; and_intros <;> first | omega | rfl | (simp <;> omega))
    refine tr_pcall (args := [.isl 1 e1]) rfl rfl rfl P25b (by simp [AV.closedL, hc1]) ?_
    refine tr_go hX (by conv => lhs; cbv; simp only [hdr, hcat, hlnb,hdr, hcat, hlnb]; cbv; simp only [hdr, hcat, hlnb,hdr, hcat, hlnb]; cbv) ?_ ?_
    · simp only [Cd.ok, ee]; (and_intros <;> first | omega | rfl | exact kf1)
    refine tr_ecall (args := [.sl 5 1 0 nc]) rfl rfl rfl enters24 (PCall.give (args' := [.isl 1 mc]) (H1 := [.cells [.isl 1 e0, .isl 1 e1], .cells [int an, .isl 1 ea, .isl 2 epa, int ak], .cells [int bn, .isl 1 eb, .isl 2 epb, int bk], .dead, .cells [int 0, .val (.slice none 0 0), .val (.slice none 0 0), int 0], .dead]) [.to 0, .to 1, .to 2, .gone, .to 4, .isl 1 mc] rfl ⟨⟨by simp, rfl⟩, ⟨by simp, rfl⟩, ⟨by simp, rfl⟩, trivial, ⟨by simp, rfl⟩, ⟨_, rfl, (subL_closed _ k2).symm⟩, trivial⟩ ⟨osrc_cells (b := 0) rfl rfl rfl ⟨.cl hc0, .cl hc1, trivial⟩, osrc_cells (b := 1) rfl rfl rfl ⟨.refl _, .cl hea, .cl hepa, .refl _, trivial⟩, osrc_cells (b := 2) rfl rfl rfl ⟨.refl _, .cl heb, .cl hepb, .refl _, trivial⟩, .dead, osrc_cells (b := 4) rfl rfl rfl ⟨.refl _, .refl _, .refl _, .refl _, trivial⟩, .dead, trivial⟩ (by show [AV.sub _ (.sl 5 1 0 nc)] = _; rw [sub_whole (es := mc) rfl y2.symm]) P24c (closed1 k2)) ?_
    refine tr_go hX (by conv => lhs; cbv) ?_ ?_
    · first | exact trivial | (simp only [Cd.ok, ee]; and_intros <;> first | omega | rfl | (simp <;> omega))
    refine tr_nil ⟨by simp [effLab], ?_, ?_⟩
    · simp only [LooksP, lookAll, List.append, List.cons_append, List.nil_append, List.append_nil]; and_intros <;> first | trivial | (intro hp; first | rfl | exact absurd (show false = true from hp) Bool.false_ne_true)
    exact (ent_sub [.to 0, .to 1, .to 2, .gone, .to 3, .gone] [some 0, some 1, some 2, some 4] ⟨⟨by simp, rfl⟩, ⟨by simp, rfl⟩, ⟨by simp, rfl⟩, trivial, ⟨by simp, rfl⟩, trivial, trivial⟩ ⟨osrc_cells (b := 0) rfl rfl rfl ⟨.cl hc0, .cl hc1, trivial⟩, osrc_cells (b := 1) rfl rfl rfl ⟨.refl _, .cl hea, .cl hepa, .refl _, trivial⟩, osrc_cells (b := 2) rfl rfl rfl ⟨.refl _, .cl heb, .cl hepb, .refl _, trivial⟩, osrc_cells (b := 4) rfl rfl rfl ⟨.refl _, .cl hec, .cl hepc, .refl _, trivial⟩, trivial⟩ ⟨.refl _, .refl _, .refl _, .refl _, .refl _, .refl _, trivial⟩)
  · refine tr_go hX (by conv => lhs; cbv) ?_ ?_
    · first | exact trivial | (simp only [Cd.ok, ee]; and_intros <;> first | omega | rfl | (simp <;> omega))
    refine tr_ocall (args := [.isl 1 e0]) (v' := .sl 4 1 0 n0) (H' := [.arr 1 ma]) rfl rfl rfl P25x (by simp [AV.closedL, hc0]) rfl (by simp [AObj.sub, subL_closed _ k0]) ?_
    refine tr_go hX (by conv => lhs; cbv) ?_ ?_
    · first | exact trivial | (simp only [Cd.ok, ee]; and_intros <;> first | omega | rfl | (simp <;> omega))
    refine tr_pcall (args := [.isl 1 e1]) rfl rfl rfl P25b (by simp [AV.closedL, hc1]) ?_
    refine tr_go hX (by conv => lhs; cbv; simp only [hdr, hcat, hlnb,hdr, hcat, hlnb]; cbv; simp only [hdr, hcat, hlnb,hdr, hcat, hlnb]; cbv) ?_ ?_
    · simp only [Cd.ok, ee]; (and_intros <;> first | omega | rfl | exact kf1)
    refine tr_ecall (args := [.sl 5 1 0 nc]) rfl rfl rfl enters24 (PCall.give (args' := [.isl 1 mc]) (H1 := [.cells [.isl 1 e0, .isl 1 e1], .cells [int an, .isl 1 ea, .isl 2 epa, int ak], .cells [int bn, .isl 1 eb, .isl 2 epb, int bk], .cells [int 0, .val (.slice none 0 0), .val (.slice none 0 0), int 0], .dead, .dead]) [.to 0, .to 1, .to 2, .to 3, .gone, .isl 1 mc] rfl ⟨⟨by simp, rfl⟩, ⟨by simp, rfl⟩, ⟨by simp, rfl⟩, ⟨by simp, rfl⟩, trivial, ⟨_, rfl, (subL_closed _ k2).symm⟩, trivial⟩ ⟨osrc_cells (b := 0) rfl rfl rfl ⟨.cl hc0, .cl hc1, trivial⟩, osrc_cells (b := 1) rfl rfl rfl ⟨.refl _, .cl hea, .cl hepa, .refl _, trivial⟩, osrc_cells (b := 2) rfl rfl rfl ⟨.refl _, .cl heb, .cl hepb, .refl _, trivial⟩, osrc_cells (b := 3) rfl rfl rfl ⟨.refl _, .refl _, .refl _, .refl _, trivial⟩, .dead, .dead, trivial⟩ (by show [AV.sub _ (.sl 5 1 0 nc)] = _; rw [sub_whole (es := mc) rfl y2.symm]) P24c (closed1 k2)) ?_
    refine tr_go hX (by conv => lhs; cbv) ?_ ?_
    · first | exact trivial | (simp only [Cd.ok, ee]; and_intros <;> first | omega | rfl | (simp <;> omega))
    refine tr_nil ⟨by simp [effLab], ?_, ?_⟩
    · simp only [LooksP, lookAll, List.append, List.cons_append, List.nil_append, List.append_nil]; and_intros <;> first | trivial | (intro hp; first | rfl | exact absurd (show false = true from hp) Bool.false_ne_true)
    exact (ent_sub [.to 0, .to 1, .to 2, .to 3, .gone, .gone] [some 0, some 1, some 2, some 3] ⟨⟨by simp, rfl⟩, ⟨by simp, rfl⟩, ⟨by simp, rfl⟩, ⟨by simp, rfl⟩, trivial, trivial, trivial⟩ ⟨osrc_cells (b := 0) rfl rfl rfl ⟨.cl hc0, .cl hc1, trivial⟩, osrc_cells (b := 1) rfl rfl rfl ⟨.refl _, .cl hea, .cl hepa, .refl _, trivial⟩, osrc_cells (b := 2) rfl rfl rfl ⟨.refl _, .cl heb, .cl hepb, .refl _, trivial⟩, osrc_cells (b := 3) rfl rfl rfl ⟨.refl _, .cl hec, .cl hepc, .refl _, trivial⟩, trivial⟩ ⟨.refl _, .refl _, .refl _, .refl _, .refl _, .refl _, trivial⟩)
  refine go rfl hX 60 (by conv => lhs; cbv) ?_ ?_
  · first | exact trivial | (simp only [Cd.ok, ee]; and_intros <;> first | omega | rfl | (simp <;> omega))
  refine on_pcall (args := [AV.agg [int an, AV.isl 1 ea, AV.isl 2 epa, int ak], AV.agg [int bn, AV.isl 1 eb, AV.isl 2 epb, int bk]]) rfl rfl rfl P22a (by simp [AV.closedL, closed_v, closed_agg, hca, hcb, hcc]) ?_
  refine go rfl hX 60 (by conv => lhs; cbv) ?_ ?_
  · first | exact trivial | (simp only [Cd.ok, ee]; and_intros <;> first | omega | rfl | (simp <;> omega))
  refine on_pcall (args := [AV.agg [int bn, AV.isl 1 eb, AV.isl 2 epb, int bk], AV.agg [int an, AV.isl 1 ea, AV.isl 2 epa, int ak]]) rfl rfl rfl P22b (by simp [AV.closedL, closed_v, closed_agg, hca, hcb, hcc]) ?_
  refine go rfl hX 60 (by conv => lhs; cbv) ?_ ?_
  · first | exact trivial | (simp only [Cd.ok, ee]; and_intros <;> first | omega | rfl | (simp <;> omega))
  refine on_pcall (args := [AV.agg [int an, AV.isl 1 ea, AV.isl 2 epa, int ak], AV.agg [int an, AV.isl 1 ea, AV.isl 2 epa, int ak]]) rfl rfl rfl P22c (by simp [AV.closedL, closed_v, closed_agg, hca, hcb, hcc]) ?_
  refine go rfl hX 60 (by conv => lhs; cbv) ?_ ?_
  · first | exact trivial | (simp only [Cd.ok, ee]; and_intros <;> first | omega | rfl | (simp <;> omega))
  refine on_pcall (args := []) rfl rfl rfl P11c rfl ?_
  refine go rfl hX 0 (by conv => lhs; cbv; try simp only [hand, hz]; cbv; try simp only [hand, hz]; cbv; try simp only [hand, hz]; cbv; try simp only [hand, hz]; cbv) ?_ ?_
  · first | exact trivial | (simp only [Cd.ok, ee]; and_intros <;> first | omega | rfl | (simp <;> omega))
  refine go rfl hX 60 (by conv => lhs; cbv) ?_ ?_
  · first | exact trivial | (simp only [Cd.ok, ee]; and_intros <;> first | omega | rfl | (simp <;> omega))
  refine on_gpcall (args := [AV.agg [int cn, AV.isl 1 ec, AV.isl 2 epc, int ck], AV.agg [int cn, AV.isl 1 ec, AV.isl 2 epc, int ck]]) rfl rfl rfl rfl P14c (by simp [AV.closedL, closed_v, closed_agg, hca, hcb, hcc]) ?_
  refine go rfl hX 60 (by conv => lhs; cbv) ?_ ?_
  · first | exact trivial | (simp only [Cd.ok, ee]; and_intros <;> first | omega | rfl | (simp <;> omega))
  refine on_gpcall (args := [AV.agg [int cn, AV.isl 1 ec, AV.isl 2 epc, int ck], AV.agg [int cn, AV.isl 1 ec, AV.isl 2 epc, int ck]]) rfl rfl rfl rfl P14c (by simp [AV.closedL, closed_v, closed_agg, hca, hcb, hcc]) ?_
  refine go rfl hX 60 (by conv => lhs; cbv) ?_ ?_
  · first | exact trivial | (simp only [Cd.ok, ee]; and_intros <;> first | omega | rfl | (simp <;> omega))
  refine on_gpcall (args := [AV.agg [int an, AV.isl 1 ea, AV.isl 2 epa, int ak], AV.agg [int an, AV.isl 1 ea, AV.isl 2 epa, int ak]]) rfl rfl rfl rfl P14a (by simp [AV.closedL, closed_v, closed_agg, hca, hcb, hcc]) ?_
  refine go rfl hX 60 (by conv => lhs; cbv) ?_ ?_
  · first | exact trivial | (simp only [Cd.ok, ee]; and_intros <;> first | omega | rfl | (simp <;> omega))
  refine fn_ret rfl rfl (.val ?_)
  rfl
end Go.Am
end
section
set_option linter.unusedVariables false
set_option linter.unusedSimpArgs false
set_option maxRecDepth 20000
namespace Go.Am
open Go.Proofs Go.ChangeShapes Go.WideShapes Go.ChangeAt Go.RowKit

theorem bytes5 : Try.prog.bytesOf 5 = 1 := by kernel_rfl
theorem rdU8 {n : Nat} {x : AV} (h : El EE.P (Cl EE.P n) 5 x) : ∃ i, x = u8 i ∧ (0 ≤ i ∧ i ≤ 255) := by
  obtain ⟨i, h, hw⟩ := (h.one (by kernel_rfl)).int Try.underlying5
  refine ⟨i, by simpa [u8] using h, ?_⟩
  have h1 : IntKind.u8.min = 0 := by decide
  have h2 : IntKind.u8.max = 255 := by decide
  simp [Lit.wf, h1, h2] at hw
  exact hw
theorem rdU8s {n : Nat} {cs : List AV} (h : Cl EE.P n 48 cs) : ∃ l : List Int, cs = [.isl 1 (mapE u8 l)] ∧ Short l ∧ ∀ n ∈ l, 0 ≤ n ∧ n ≤ 255 := by
  obtain ⟨m, es, rfl, hl, he⟩ := h.slice Try.underlying48
  obtain ⟨l, rfl, h2⟩ := list_enc fun x hx => rdU8 (he x hx)
  exact ⟨l, by rw [cells5], short_of (k := 0) (bytes5 ▸ hl), h2⟩
theorem rdU8sA {n : Nat} {x : AV} (h : El EE.P (Cl EE.P n) 48 x) : ∃ l : List Int, x = .isl 1 (mapE u8 l) ∧ Short l ∧ ∀ n ∈ l, 0 ≤ n ∧ n ≤ 255 := by
  obtain ⟨l, h, hl⟩ := rdU8s (h.one (by kernel_rfl))
  exact ⟨l, by simpa using h, hl⟩
theorem rdTwo {n : Nat} {x : AV} (h : El EE.P (Cl EE.P n) 49 x) : ∃ k l : List Int, x = .agg [.isl 1 (mapE u8 k), .isl 1 (mapE u8 l)] ∧ (Short k ∧ ∀ n ∈ k, 0 ≤ n ∧ n ≤ 255) ∧ (Short l ∧ ∀ n ∈ l, 0 ≤ n ∧ n ≤ 255) := by
  obtain ⟨cs, rfl, g⟩ := h.agg agg49
  obtain ⟨m, a, r, rfl, ha, b, r, rfl, hb, rfl⟩ := g.array Try.underlying49
  obtain ⟨k, rfl, hk⟩ := rdU8s ha
  obtain ⟨l, rfl, hl⟩ := rdU8s hb
  exact ⟨k, l, rfl, hk, hl⟩
end Go.Am
end
section
set_option linter.unusedVariables false
set_option linter.unusedSimpArgs false
set_option maxRecDepth 20000
namespace Go.Am
open Go.Proofs

def bl (b : Bool) : AV := .val (.bool b)
theorem bl_closed (b : Bool) : (bl b).closed = true := rfl
def seenF (d : List Int) : List Bool := (List.range 20).map fun v : Nat => decide ((v : Int) ∈ d)
def cntF (v : Nat) (d : List Int) : Nat := (((List.range 20).drop v).filter fun u : Nat => decide ((u : Int) ∈ d)).length
theorem seen_len (d : List Int) : (seenF d).length = 20 := by simp [seenF]
theorem seen_get (d : List Int) (v : Nat) (hv : v < 20) : (seenF d)[v]? = some (decide ((v : Int) ∈ d)) := by
  simp [seenF, hv]
theorem seen_set (d : List Int) (n : Int) (h : 0 ≤ n ∧ n < 20) : (seenF d).set n.toNat true = seenF (d ++ [n]) := by
  apply List.ext_getElem?
  intro v
  by_cases hv : v < 20
  · rw [seen_get _ v hv, List.getElem?_set, seen_len]
    by_cases hk : n.toNat = v
    · have e : (v : Int) = n := by omega
      rw [if_pos hk, if_pos (by omega)]
      simp [e]
    · have e : (v : Int) ≠ n := by omega
      rw [if_neg hk, seen_get _ v hv]
      simp [e]
  · rw [List.getElem?_eq_none (by simp [seen_len]; omega), List.getElem?_eq_none (by simp [seen_len]; omega)]
theorem cnt_add (k : Nat) (p q : Nat → Bool) : ∀ (L : List Nat), L.Nodup → p k = false → (∀ u, q u = (p u || u == k)) → (L.filter q).length = (L.filter p).length + (if k ∈ L then 1 else 0)
  | [], _, _, _ => by simp
  | a :: r, hn, hp, hq => by
    obtain ⟨h1, h2⟩ := List.nodup_cons.1 hn
    have ih := cnt_add k p q r h2 hp hq
    by_cases ha : a = k
    · subst ha
      have hqa : q a = true := by rw [hq]; simp
      rw [if_neg h1] at ih
      rw [List.filter_cons_of_pos hqa, List.filter_cons_of_neg (by simp [hp]), if_pos (by simp), List.length_cons, ih]
    · have hqa : q a = p a := by rw [hq]; simp [ha]
      have hm : (k ∈ a :: r) ↔ k ∈ r := by simp [Ne.symm ha]
      by_cases hpa : p a = true
      · rw [List.filter_cons_of_pos (by rw [hqa]; exact hpa), List.filter_cons_of_pos hpa, List.length_cons, List.length_cons, ih]
        by_cases hk : k ∈ r
        · rw [if_pos hk, if_pos (hm.2 hk)]
        · rw [if_neg hk, if_neg (fun h => hk (hm.1 h))]
      · rw [List.filter_cons_of_neg (by rw [hqa]; exact hpa), List.filter_cons_of_neg hpa, ih]
        by_cases hk : k ∈ r
        · rw [if_pos hk, if_pos (hm.2 hk)]
        · rw [if_neg hk, if_neg (fun h => hk (hm.1 h))]
theorem cnt_snoc (d : List Int) (n : Int) (h : 0 ≤ n ∧ n < 20) : cntF 0 (d ++ [n]) = cntF 0 d + (if n ∈ d then 0 else 1) := by
  have e : ∀ u : Nat, decide ((u : Int) ∈ d ++ [n]) = (decide ((u : Int) ∈ d) || u == n.toNat) := by
    intro u
    have : ((u : Int) = n) ↔ u = n.toNat := by omega
    rw [Bool.eq_iff_iff]
    simp [this]
  by_cases hn : n ∈ d
  · rw [if_pos hn]
    unfold cntF
    congr 1
    apply List.filter_congr
    intro u _
    rw [e u]
    by_cases hu : u = n.toNat
    · have : (u : Int) = n := by omega
      simp [this, hn]
    · simp [hu]
  · rw [if_neg hn]
    unfold cntF
    have := cnt_add n.toNat (fun u => decide ((u : Int) ∈ d)) (fun u => decide ((u : Int) ∈ d ++ [n])) (List.range 20) List.nodup_range (by
      have : ((n.toNat : Nat) : Int) = n := by omega
      simp [this, hn]) e
    rw [if_pos (by rw [List.mem_range]; omega)] at this
    exact this
theorem cnt_step (d : List Int) (v : Nat) (hv : v < 20) : cntF v d = (if (v : Int) ∈ d then 1 else 0) + cntF (v + 1) d := by
  unfold cntF
  have e : (List.range 20).drop v = v :: (List.range 20).drop (v + 1) := by
    rw [List.drop_eq_getElem_cons (by simp; omega)]; simp
  rw [e]
  by_cases h : (v : Int) ∈ d
  · rw [List.filter_cons_of_pos (by simpa using h), if_pos h, List.length_cons]; omega
  · rw [List.filter_cons_of_neg (by simpa using h), if_neg h]; omega
theorem cnt_le (d : List Int) (v : Nat) : cntF v d ≤ 20 := by
  unfold cntF
  refine Nat.le_trans (List.length_filter_le _ _) ?_
  simp
theorem fold_snoc (t : Trk) (d : List Int) (n : Int) : foldR t (d ++ [n]) = withT (foldR t d) n := by simp [foldR, List.foldl_append]
theorem cont_of {d : List Int} (hd : ∀ n ∈ d, 0 ≤ n ∧ n < 20) (n : Int) : contF (ofL20 d) n = decide (n ∈ d) := by
  rw [Bool.eq_iff_iff, cont_mem (of_t20 hd).nrm, of_mem hd]; simp
theorem recv_of {d : List Int} (hd : ∀ n ∈ d, 0 ≤ n ∧ n < 20) {n : Int} (hn : 0 ≤ n ∧ n < 20) : recvT (ofL20 d) n = (ofL20 (d ++ [n]), !decide (n ∈ d), 0) := by
  rw [recv_small (of_t20 hd) hn, cont_of hd]
  unfold ofL20
  rw [fold_snoc]
theorem has_of {d : List Int} (hd : ∀ n ∈ d, 0 ≤ n ∧ n < 20) (n : Int) : hasT (ofL20 d) n = (decide (n ∈ d), 0) := by
  unfold hasT
  rw [if_neg (by simp [(of_t20 hd).chk]), cont_of hd]
theorem map_set {α : Type} (e : α → AV) (l : List α) (k : Nat) (x : α) : (mapE e l).set k (e x) = mapE e (l.set k x) := by rw [mapE_eq, mapE_eq, List.map_set]
end Go.Am
end
section
set_option linter.unusedVariables false
set_option linter.unusedSimpArgs false
set_option maxRecDepth 20000
namespace Go.Am
open Go.Proofs

set_option maxHeartbeats 8000000 in
theorem P8 (l : List Int) (h8 : ∀ n ∈ l, 0 ≤ n ∧ n ≤ 255) (hs : Short l) : PCall EE 8 [.isl 1 (mapE u8 l)] (.val (.bool true)) := by
  have P11c := P11
  have hc0 : (AV.isl 1 (mapE u8 l)).closed = true := by simp [AV.closed, closed_mapE u8_closed]
  have hl0 : (mapE u8 l).length = l.length := mapE_len _ _
  by_cases hq : 30 < l.length
  · clear h8 hs
    generalize mapE u8 l = e0 at *
    refine words fun iLt iLe iEq iNe iAdd iSub iMul iQuo iRem iShr iNeg iCvt iMax iMin bNot bEq bNe bAnd bOr sEq sNe sLen sCat sCut sAt lenA lenN iOf natOf atA atN cutA partA dropA catA setA repA putA idxN addN subN minN lenCut hX e_iLt e_iLe e_iEq e_iNe e_iAdd e_iSub e_iMul e_iQuo e_iRem e_iShr e_iNeg e_iCvt e_iMax e_iMin e_bNot e_bEq e_bNe e_bAnd e_bOr e_sEq e_sNe e_sLen e_sCat e_sCut e_sAt e_lenA e_lenN e_iOf e_natOf e_atA e_atN e_cutA e_partA e_dropA e_catA e_setA e_repA e_putA e_idxN e_addN e_subN e_minN e_lenCut ee => ?_
    have hb : iLt 30 (lenA e0) = true := by simp [ee]; omega
    refine fn_body (fn := Try.f8) (n := 139) (ac := Tryc8) (rvs := [.t 2]) rfl (by decide) Tryp8 rfl rfl rfl ?_
    refine go rfl hX 0 (by conv => lhs; cbv; try simp only [hb]; cbv; try simp only [hb]; cbv; try simp only [hb]; cbv; try simp only [hb]; cbv) ?_ ?_
    · first | exact trivial | (simp only [Cd.ok, ee]; and_intros <;> first | omega | rfl | (simp <;> omega))
    refine go rfl hX 60 (by conv => lhs; cbv) ?_ ?_
    · first | exact trivial | (simp only [Cd.ok, ee]; and_intros <;> first | omega | rfl | (simp <;> omega))
    refine on_pcall (args := []) rfl rfl rfl P11c rfl ?_
    refine go rfl hX 60 (by conv => lhs; cbv) ?_ ?_
    · first | exact trivial | (simp only [Cd.ok, ee]; and_intros <;> first | omega | rfl | (simp <;> omega))
    refine fn_ret rfl rfl (.val ?_)
    rfl
  have r0 := small_range l h8
  have P25c := P25 l h8 (by omega)
  have z0 : (smallF l).length = l.length := by simp [smallF]
  generalize smallF l = n at *
  have P24a := P24 n (by omega)
  rw [(all_small _ _ t20_begin r0).1] at P24a
  change PCall EE 24 _ (.tup [(ofL20 n).enc, _]) at P24a
  have P24b := fun (x : List Int) (hx : x.length < 500000000000) (h : ∀ v, v ∈ n ↔ v ∈ x) => P24 x hx
  have hbk : ∀ x : List Int, x.length < 500000000000 → (∀ v, v ∈ n ↔ v ∈ x) → PCall EE 24 [.isl 1 (mapE int x)] (.tup [(ofL20 n).enc, .val (.bool true)]) := fun x hx h => by
    have := P24 x hx
    rw [(all_small _ _ t20_begin fun v hv => r0 v ((h v).2 hv)).1] at this
    have e : foldR TrkB x = ofL20 n := (of_congr r0 h).symm
    rw [e] at this
    exact this
  clear P24b
  have P14c := P14 (ofL20 n) (ofL20 n) (of_t20 r0).sml.fine
  rw [decide_eq_true rfl] at P14c
  have P17c := P17
  have hcT := Trk.closed (ofL20 n)
  have hce := closedI n
  have hlen : (mapE int n).length = n.length := mapE_len _ _
  have hB : TrkB = ofL20 [] := rfl
  rw [hB] at P17c
  have P26c := fun v => P26 (ofL20 n) v (of_t20 r0).sml.fine
  simp only [has_of r0] at P26c
  have hen : ∀ t : Trk, t.enc = .agg [int t.next, .isl 1 (mapE int t.bey), .isl 2 (mapE Pt.enc t.pts), int t.mark] := fun t => rfl
  have P12c := fun (d : List Int) (hd : ∀ v ∈ d, 0 ≤ v ∧ v < 20) (v : Int) (hv : 0 ≤ v ∧ v < 20) => P12 (ofL20 d) v (of_t20 hd).sml.fine (by rw [(of_t20 hd).pts]; simp)
  have P12c : ∀ (d : List Int) (hd : ∀ v ∈ d, 0 ≤ v ∧ v < 20) (v : Int) (hv : 0 ≤ v ∧ v < 20), PCall EE 12 [(ofL20 d).enc, int v] (.tup [(ofL20 (d ++ [v])).enc, .val (.bool (!decide (v ∈ d))), int 0]) := fun d hd v hv => by
    have := P12c d hd v hv
    rw [recv_of hd hv] at this
    exact this
  unfold Trk.enc at P24a hbk P14c P17c P26c P12c hcT
  have heB := closedI (ofL20 []).bey
  have hepB := closedP (ofL20 []).pts
  generalize hB1 : mapE int (ofL20 []).bey = eB at P17c heB
  generalize hB2 : mapE Pt.enc (ofL20 []).pts = epB at P17c hepB
  generalize hB3 : (ofL20 []).next = bn at P17c
  generalize hB4 : (ofL20 []).mark = bk at P17c
  have heT := closedI (ofL20 n).bey
  have hepT := closedP (ofL20 n).pts
  generalize hT1 : mapE int (ofL20 n).bey = eT at *
  generalize hT2 : mapE Pt.enc (ofL20 n).pts = epT at *
  generalize hT3 : (ofL20 n).next = tn at *
  generalize hT4 : (ofL20 n).mark = tk at *
  refine words fun iLt iLe iEq iNe iAdd iSub iMul iQuo iRem iShr iNeg iCvt iMax iMin bNot bEq bNe bAnd bOr sEq sNe sLen sCat sCut sAt lenA lenN iOf natOf atA atN cutA partA dropA catA setA repA putA idxN addN subN minN lenCut hX e_iLt e_iLe e_iEq e_iNe e_iAdd e_iSub e_iMul e_iQuo e_iRem e_iShr e_iNeg e_iCvt e_iMax e_iMin e_bNot e_bEq e_bNe e_bAnd e_bOr e_sEq e_sNe e_sLen e_sCat e_sCut e_sAt e_lenA e_lenN e_iOf e_natOf e_atA e_atN e_cutA e_partA e_dropA e_catA e_setA e_repA e_putA e_idxN e_addN e_subN e_minN e_lenCut ee => ?_
  generalize mapE u8 l = e0 at *
  generalize hes : mapE int n = en at *
  have hb : iLt 30 (lenA e0) = false := by simp [ee]; omega
  have hlI : lenA en = (n.length : Int) := by simp [ee, hlen]
  obtain ⟨nl, hnl⟩ : ∃ nl, n.length = nl := ⟨_, rfl⟩
  obtain ⟨nI, hnI⟩ : ∃ nI : Int, (nl : Int) = nI := ⟨_, rfl⟩
  rw [hnl, hnI] at hlI
  have hsub : iSub .i64 nI 1 = nI - 1 := by simp only [ee]; exact wrap64 (by omega) (by omega)
  refine fn_body (fn := Try.f8) (n := 139) (ac := Tryc8) (rvs := [.t 2]) rfl (by decide) Tryp8 rfl rfl rfl ?_
  refine go rfl hX 0 (by conv => lhs; cbv; try simp only [hb]; cbv; try simp only [hb]; cbv; try simp only [hb]; cbv; try simp only [hb]; cbv) ?_ ?_
  · first | exact trivial | (simp only [Cd.ok, ee]; and_intros <;> first | omega | rfl | (simp <;> omega))
  refine go rfl hX 1 (by conv => lhs; cbv; simp only [hb]; cbv) ?_ ?_
  · first | exact trivial | (simp only [Cd.ok, ee]; and_intros <;> first | omega | rfl | (simp <;> omega))
  refine on_pcall (args := [AV.isl 1 e0]) rfl rfl rfl P25c (by simp [AV.closedL, hc0]) ?_
  refine go rfl hX 0 (by conv => lhs; cbv; try simp only [hlI, hsub]; cbv; try simp only [hlI, hsub]; cbv; try simp only [hlI, hsub]; cbv; try simp only [hlI, hsub]; cbv) ?_ ?_
  · first | exact trivial | (simp only [Cd.ok, ee]; and_intros <;> first | omega | rfl | (simp <;> omega))
  refine on_loopP (ι := Nat × List Int × List AV × Nat)
    (fun p => ([(5, int (nI - 1 - (p.1 : Int))), (4, .sl 0 1 0 p.2.2.2), (3, .isl 1 en)], [.arr 1 p.2.2.1]))
    (fun p => p.1 ≤ nl ∧ p.2.2.1 = mapE int p.2.1 ∧ p.2.2.2 = p.2.2.1.length ∧ p.2.1.length = p.1 + p.1 ∧ (∀ v ∈ p.2.1, v ∈ n) ∧ (∀ j v, j < p.1 → n[j]? = some v → v ∈ p.2.1)) (fun p => nl - p.1) (0, [], [], 0) ⟨by simp, by simp [mapE_eq], rfl, rfl, by simp, by simp⟩
    (ent_sub [] [none] trivial ⟨.none 1 rfl, trivial⟩ ⟨.of (by show int (nI - 1) = int (nI - 1 - ((0 : Nat) : Int)); simp), .nilS 0 1 0 (by simp), .cl hce, trivial⟩) ?_
  rintro ⟨k, x, w, ln⟩ ⟨k1, kw, kn, kx, kx1, kx2⟩
  dsimp only at k1 kw kn kx kx1 kx2 ⊢
  have hcw : AV.closedL w = true := by rw [kw]; exact closed_mapE int_closed _
  have hwl : w.length = x.length := by rw [kw, mapE_len]
  obtain ⟨iI, hiI⟩ : ∃ iI : Int, nI - 1 - (k : Int) = iI := ⟨_, rfl⟩
  rw [hiI]
  by_cases hk : k = nl
  · have hge : iLe 0 iI = false := by simp [ee]; omega
    refine go rfl hX 0 (by conv => lhs; cbv; try simp only [hge]; cbv; try simp only [hge]; cbv; try simp only [hge]; cbv; try simp only [hge]; cbv) ?_ ?_
    · first | exact trivial | (simp only [Cd.ok, ee]; and_intros <;> first | omega | rfl | (simp <;> omega))
    refine go rfl hX 1 (by conv => lhs; cbv; simp only [hge]; cbv) ?_ ?_
    · first | exact trivial | (simp only [Cd.ok, ee]; and_intros <;> first | omega | rfl | (simp <;> omega))
    refine loopP_exit ?_
    refine go rfl hX 60 (by conv => lhs; cbv) ?_ ?_
    · first | exact trivial | (simp only [Cd.ok, ee]; and_intros <;> first | omega | rfl | (simp <;> omega))
    refine on_pcall (args := [AV.isl 1 en]) rfl rfl rfl P24a (by simp [AV.closedL, hce]) ?_
    refine go rfl hX 60 (by conv => lhs; cbv) ?_ ?_
    · first | exact trivial | (simp only [Cd.ok, ee]; and_intros <;> first | omega | rfl | (simp <;> omega))
    have hxb := hbk x (by omega) (fun v => ⟨fun hv => by
      obtain ⟨j, hj⟩ := List.mem_iff_getElem?.1 hv
      exact kx2 j v (by have := (List.getElem?_eq_some_iff.1 hj).1; omega) hj, kx1 v⟩)
    rw [← kw] at hxb
    refine on_entO (F' := [(54, .isl 1 w), (7, .val (.bool true)), (6, .ptr 0 0), (3, .isl 1 en)]) (H' := [.cells [int tn, .isl 1 eT, .isl 2 epT, int tk]]) (ent_sub [.isl 1 w, .to 0] [some 1] ⟨⟨w, rfl, (subL_closed _ hcw).symm⟩, ⟨by simp, rfl⟩, trivial⟩ ⟨osrc_cells (b := 1) rfl rfl rfl ⟨.refl _, .cl heT, .cl hepT, .refl _, trivial⟩, trivial⟩ ⟨.of (sub_whole rfl kn), .refl _, .refl _, .cl hce, trivial⟩) ?_
    refine on_pcall (args := [AV.isl 1 w]) rfl rfl rfl hxb (by simp [AV.closedL, AV.closed, hcw]) ?_
    refine go rfl hX 60 (by conv => lhs; cbv) ?_ ?_
    · first | exact trivial | (simp only [Cd.ok, ee]; and_intros <;> first | omega | rfl | (simp <;> omega))
    have hnt : bNot true = false := by simp [ee]
    have hor : bOr false false = false := by simp [ee]
    refine go rfl hX 0 (by conv => lhs; cbv; try simp only [hnt, hor]; cbv; try simp only [hnt, hor]; cbv; try simp only [hnt, hor]; cbv; try simp only [hnt, hor]; cbv) ?_ ?_
    · first | exact trivial | (simp only [Cd.ok, ee]; and_intros <;> first | omega | rfl | (simp <;> omega))
    refine on_gpcall (args := [AV.agg [int tn, AV.isl 1 eT, AV.isl 2 epT, int tk], AV.agg [int tn, AV.isl 1 eT, AV.isl 2 epT, int tk]]) rfl rfl rfl rfl P14c (by simp [AV.closedL, closed_v, closed_agg, hcT]) ?_
    refine go rfl hX 0 (by conv => lhs; cbv; try simp only [hnt, hor]; cbv; try simp only [hnt, hor]; cbv; try simp only [hnt, hor]; cbv; try simp only [hnt, hor]; cbv) ?_ ?_
    · first | exact trivial | (simp only [Cd.ok, ee]; and_intros <;> first | omega | rfl | (simp <;> omega))
    refine go rfl hX 60 (by conv => lhs; cbv) ?_ ?_
    · first | exact trivial | (simp only [Cd.ok, ee]; and_intros <;> first | omega | rfl | (simp <;> omega))
    refine on_pcall (args := []) rfl rfl rfl P17c rfl ?_
    refine go rfl hX 60 (by conv => lhs; cbv) ?_ ?_
    · first | exact trivial | (simp only [Cd.ok, ee]; and_intros <;> first | omega | rfl | (simp <;> omega))
    obtain ⟨s0, hs0⟩ : ∃ s0, mapE bl (seenF []) = s0 := ⟨_, rfl⟩
    have hr0 : repA 20 (.val (.bool false)) = s0 := by
      rw [← hs0, mapE_eq]; simp only [ee]; rfl
    have hcs0 : AV.closedL s0 = true := by rw [← hs0]; exact closed_mapE bl_closed _
    have hn20 : natOf 20 = 20 := by simp [ee]
    refine on_loopP (ι := List Int × List Int × Int)
      (fun p => ([(13, int p.2.2), (12, .sl 1 1 0 20), (11, int (cntF 0 p.1 : Nat)), (10, .ptr 0 0), (3, .isl 1 en)], [.cells [int (ofL20 p.1).next, .isl 1 (mapE int (ofL20 p.1).bey), .isl 2 (mapE Pt.enc (ofL20 p.1).pts), int (ofL20 p.1).mark], .arr 1 (mapE bl (seenF p.1))]))
      (fun p => n = p.1 ++ p.2.1 ∧ p.2.2 = p.1.length) (fun p => p.2.1.length) ([], n, 0) ⟨rfl, rfl⟩
      (by dsimp only; rw [hB1, hB2, hB3, hB4, hs0]; exact (ent_sub [.gone, .gone, .to 0, .to 1] [some 2, some 3] ⟨trivial, trivial, ⟨by simp, rfl⟩, ⟨by simp, rfl⟩, trivial⟩ ⟨osrc_cells (b := 2) rfl rfl rfl ⟨.refl _, .cl heB, .cl hepB, .refl _, trivial⟩, osrc_arr (b := 3) rfl rfl rfl hr0 hcs0, trivial⟩ ⟨.refl _, .of (by rw [hn20]; rfl), .refl _, .refl _, .cl hce, trivial⟩)) ?_
    rintro ⟨d, r, i⟩ ⟨j1, hi⟩
    dsimp only at j1 hi ⊢
    have hd : ∀ v ∈ d, 0 ≤ v ∧ v < 20 := fun v hv => r0 v (by rw [j1]; simp [hv])
    have hcd := cnt_le d 0
    have heD := closedI (ofL20 d).bey
    have hepD := closedP (ofL20 d).pts
    cases r with
    | nil =>
      have L1 := len_split j1
      try simp only [List.length_cons, List.length_nil] at L1
      have hc : iLt i (lenA en) = false := lt_f e_iLt e_lenA (by omega)
      have hdn : d = n := by rw [j1]; simp
      subst hdn
      rw [hT1, hT2, hT3, hT4]
      have hsg := fun v hv => seen_get d v hv
      have hcS : AV.closedL (mapE bl (seenF d)) = true := closed_mapE bl_closed _
      have hsl : (mapE bl (seenF d)).length = 20 := by rw [mapE_len, seen_len]
      have hsat : ∀ v, v < 20 → atN (mapE bl (seenF d)) v = .val (.bool (decide ((v : Int) ∈ d))) := by
        intro v hv
        simp only [ee]
        rw [List.getD_eq_getElem?_getD, mapE_eq, List.getElem?_map, hsg v hv]; rfl
      generalize mapE bl (seenF d) = sN at *
      generalize hc0 : ((cntF 0 d : Nat) : Int) = c0 at *
      refine go rfl hX 0 (by conv => lhs; cbv; try simp only [hc]; cbv; try simp only [hc]; cbv; try simp only [hc]; cbv; try simp only [hc]; cbv) ?_ ?_
      · first | exact trivial | (simp only [Cd.ok, ee]; and_intros <;> first | omega | rfl | (simp <;> omega))
      refine go rfl hX 60 (by conv => lhs; cbv) ?_ ?_
      · first | exact trivial | (simp only [Cd.ok, ee]; and_intros <;> first | omega | rfl | (simp <;> omega))
      refine loopP_exit ?_
      refine go rfl hX 60 (by conv => lhs; cbv) ?_ ?_
      · first | exact trivial | (simp only [Cd.ok, ee]; and_intros <;> first | omega | rfl | (simp <;> omega))
      refine on_loopP (ι := Nat)
        (fun p => ([(17, int (p : Int)), (12, .sl 1 1 0 20), (11, int (cntF p d : Nat)), (10, .ptr 0 0)], [.cells [int tn, .isl 1 eT, .isl 2 epT, int tk], .arr 1 sN]))
        (fun p => p ≤ 20) (fun p => 20 - p) 0 (by simp)
        (by dsimp only; rw [hc0]; exact (ent_sub [.to 0, .to 1] [some 0, some 1] ⟨⟨by simp, rfl⟩, ⟨by simp, rfl⟩, trivial⟩ ⟨osrc_cells (b := 0) rfl rfl rfl ⟨.refl _, .cl heT, .cl hepT, .refl _, trivial⟩, osrc_arr (b := 1) rfl rfl rfl rfl hcS, trivial⟩ ⟨.refl _, .refl _, .refl _, .refl _, trivial⟩)) ?_
      rintro v hv
      dsimp only at hv ⊢
      have hcv := cnt_le d v
      by_cases hv20 : v = 20
      · subst hv20
        have hz : cntF 20 d = 0 := by
          have : (List.range 20).drop 20 = [] := by rfl
          unfold cntF; rw [this]; rfl
        rw [hz]
        obtain ⟨zI, hzI⟩ : ∃ zI : Int, ((0 : Nat) : Int) = zI := ⟨_, rfl⟩
        obtain ⟨vI, hvI⟩ : ∃ vI : Int, ((20 : Nat) : Int) = vI := ⟨_, rfl⟩
        rw [hzI, hvI]
        have hlt : iLt vI 20 = false := by simp [ee]; omega
        have heq : iEq zI 0 = true := by simp [ee]; omega
        have hand : bAnd true true = true := by simp [ee]
        refine go rfl hX 0 (by conv => lhs; cbv; try simp only [hlt, heq, hand]; cbv; try simp only [hlt, heq, hand]; cbv; try simp only [hlt, heq, hand]; cbv; try simp only [hlt, heq, hand]; cbv) ?_ ?_
        · first | exact trivial | (simp only [Cd.ok, ee]; and_intros <;> first | omega | rfl | (simp <;> omega))
        refine go rfl hX 60 (by conv => lhs; cbv) ?_ ?_
        · first | exact trivial | (simp only [Cd.ok, ee]; and_intros <;> first | omega | rfl | (simp <;> omega))
        refine loopP_exit ?_
        refine go rfl hX 60 (by conv => lhs; cbv) ?_ ?_
        · first | exact trivial | (simp only [Cd.ok, ee]; and_intros <;> first | omega | rfl | (simp <;> omega))
        refine on_pcall (args := []) rfl rfl rfl P11c rfl ?_
        refine go rfl hX 60 (by conv => lhs; cbv) ?_ ?_
        · first | exact trivial | (simp only [Cd.ok, ee]; and_intros <;> first | omega | rfl | (simp <;> omega))
        refine fn_ret rfl rfl (.val ?_)
        (rw [heq, hand])
      · have hlt0 : v < 20 := by omega
        have hst := cnt_step d v hlt0
        have hsv := hsat v hlt0
        have P26d := P26c (v : Int)
        generalize hbb : decide ((v : Int) ∈ d) = bb at *
        have hcI : ((cntF v d : Nat) : Int) = (if bb = true then 1 else 0) + ((cntF (v + 1) d : Nat) : Int) := by
          rw [hst, ← hbb]; simp; split <;> simp
        have hc1 := cnt_le d (v + 1)
        generalize ((cntF v d : Nat) : Int) = cv at *
        generalize hc2 : ((cntF (v + 1) d : Nat) : Int) = cw at *
        obtain ⟨vI, hvI⟩ : ∃ vI : Int, (v : Int) = vI := ⟨_, rfl⟩
        rw [hvI] at P26d ⊢
        have hlt : iLt vI 20 = true := by simp [ee]; omega
        have hix : idxN 0 vI = v := by simp [ee]; omega
        have hne : iNe 0 0 = false := by simp [ee]
        have hbn : bNe bb bb = false := by simp [ee]
        have hor2 : bOr false false = false := by simp [ee]
        have hv1 : iAdd .i64 vI 1 = ((v + 1 : Nat) : Int) := by simp only [ee]; rw [wrap64 (by omega) (by omega)]; omega
        have hw1 : bb = true → iSub .i64 cv 1 = cw := by
          intro hbt; rw [hbt] at hcI; simp only [if_true] at hcI
          simp only [ee]; rw [wrap64 (by omega) (by omega)]; omega
        have hw0 : bb = false → cv = cw := by intro hbt; rw [hbt] at hcI; simp at hcI; omega
        cases bb with
        | true =>
          have hw1 := hw1 rfl
          refine go rfl hX 0 (by conv => lhs; cbv; try simp only [hlt, hix, hsv, hne, hbn, hor2]; cbv; try simp only [hlt, hix, hsv, hne, hbn, hor2]; cbv; try simp only [hlt, hix, hsv, hne, hbn, hor2]; cbv; try simp only [hlt, hix, hsv, hne, hbn, hor2]; cbv) ?_ ?_
          · first | exact trivial | (simp only [Cd.ok, ee]; and_intros <;> first | omega | rfl | (simp <;> omega))
          refine go rfl hX 60 (by conv => lhs; cbv) ?_ ?_
          · first | exact trivial | (simp only [Cd.ok, ee]; and_intros <;> first | omega | rfl | (simp <;> omega))
          refine on_pcall (args := [AV.agg [int tn, AV.isl 1 eT, AV.isl 2 epT, int tk], int vI]) rfl rfl rfl P26d (by simp [AV.closedL, closed_v, closed_agg, hcT]) ?_
          refine go rfl hX 0 (by conv => lhs; cbv; try simp only [hlt, hix, hsv, hne, hbn, hor2]; cbv; try simp only [hlt, hix, hsv, hne, hbn, hor2]; cbv; try simp only [hlt, hix, hsv, hne, hbn, hor2]; cbv; try simp only [hlt, hix, hsv, hne, hbn, hor2]; cbv) ?_ ?_
          · first | exact trivial | (simp only [Cd.ok, ee]; and_intros <;> first | omega | rfl | (simp <;> omega))
          refine go rfl hX 60 (by conv => lhs; cbv) ?_ ?_
          · first | exact trivial | (simp only [Cd.ok, ee]; and_intros <;> first | omega | rfl | (simp <;> omega))
          refine loopP_next (v + 1) hlt0 (show 20 - (v + 1) < 20 - v by omega) (by (try dsimp only); rw [hc2]; exact (ent_sub [.to 0, .to 1] [some 0, some 1] ⟨⟨by simp, rfl⟩, ⟨by simp, rfl⟩, trivial⟩ ⟨osrc_cells (b := 0) rfl rfl rfl ⟨.refl _, .cl heT, .cl hepT, .refl _, trivial⟩, osrc_arr (b := 1) rfl rfl rfl rfl hcS, trivial⟩ ⟨.of (congrArg int hv1), .refl _, .of (congrArg int hw1), .refl _, trivial⟩))
        | false =>
          have hw0 := hw0 rfl
          refine go rfl hX 0 (by conv => lhs; cbv; try simp only [hlt, hix, hsv, hne, hbn, hor2]; cbv; try simp only [hlt, hix, hsv, hne, hbn, hor2]; cbv; try simp only [hlt, hix, hsv, hne, hbn, hor2]; cbv; try simp only [hlt, hix, hsv, hne, hbn, hor2]; cbv) ?_ ?_
          · first | exact trivial | (simp only [Cd.ok, ee]; and_intros <;> first | omega | rfl | (simp <;> omega))
          refine go rfl hX 60 (by conv => lhs; cbv) ?_ ?_
          · first | exact trivial | (simp only [Cd.ok, ee]; and_intros <;> first | omega | rfl | (simp <;> omega))
          refine on_pcall (args := [AV.agg [int tn, AV.isl 1 eT, AV.isl 2 epT, int tk], int vI]) rfl rfl rfl P26d (by simp [AV.closedL, closed_v, closed_agg, hcT]) ?_
          refine go rfl hX 0 (by conv => lhs; cbv; try simp only [hlt, hix, hsv, hne, hbn, hor2]; cbv; try simp only [hlt, hix, hsv, hne, hbn, hor2]; cbv; try simp only [hlt, hix, hsv, hne, hbn, hor2]; cbv; try simp only [hlt, hix, hsv, hne, hbn, hor2]; cbv) ?_ ?_
          · first | exact trivial | (simp only [Cd.ok, ee]; and_intros <;> first | omega | rfl | (simp <;> omega))
          refine go rfl hX 60 (by conv => lhs; cbv) ?_ ?_
          · first | exact trivial | (simp only [Cd.ok, ee]; and_intros <;> first | omega | rfl | (simp <;> omega))
          refine loopP_next (v + 1) hlt0 (show 20 - (v + 1) < 20 - v by omega) (by (try dsimp only); rw [hc2]; exact (ent_sub [.to 0, .to 1] [some 0, some 1] ⟨⟨by simp, rfl⟩, ⟨by simp, rfl⟩, trivial⟩ ⟨osrc_cells (b := 0) rfl rfl rfl ⟨.refl _, .cl heT, .cl hepT, .refl _, trivial⟩, osrc_arr (b := 1) rfl rfl rfl rfl hcS, trivial⟩ ⟨.of (congrArg int hv1), .refl _, .of (congrArg int hw0), .refl _, trivial⟩))
    | cons a r =>
      have L1 := len_split j1
      try simp only [List.length_cons, List.length_nil] at L1
      have hc : iLt i (lenA en) = true := lt_t e_iLt e_lenA (by omega)
      have hat := el_at e_atA hes j1 hi
      have ha := r0 a (by rw [j1]; simp)
      have P12d := P12c d hd a ha
      have hi' : iAdd .i64 i 1 = ((d ++ [a] : List Int).length : Int) := by
        simp only [List.length_append, List.length_cons, List.length_nil]; exact inc_w e_iAdd hi (by omega)
      have hcS : AV.closedL (mapE bl (seenF d)) = true := closed_mapE bl_closed _
      have hcS2 : AV.closedL (mapE bl (seenF (d ++ [a]))) = true := closed_mapE bl_closed _
      have hsl : (mapE bl (seenF d)).length = 20 := by rw [mapE_len, seen_len]
      obtain ⟨ka, hka⟩ : ∃ ka, a.toNat = ka := ⟨_, rfl⟩
      have hsat : atN (mapE bl (seenF d)) ka = .val (.bool (decide (a ∈ d))) := by
        simp only [ee]
        rw [List.getD_eq_getElem?_getD, mapE_eq, List.getElem?_map, seen_get d ka (by omega)]
        have : (ka : Int) = a := by omega
        rw [this]; rfl
      have hset : setA (mapE bl (seenF d)) ka (.val (.bool true)) = mapE bl (seenF (d ++ [a])) := by
        simp only [ee]
        rw [← seen_set d a ha, hka]
        exact map_set bl _ _ true
      have hcn := cnt_snoc d a ha
      have heD2 := closedI (ofL20 (d ++ [a])).bey
      have hepD2 := closedP (ofL20 (d ++ [a])).pts
      have hcD : (AV.agg [int (ofL20 d).next, .isl 1 (mapE int (ofL20 d).bey), .isl 2 (mapE Pt.enc (ofL20 d).pts), int (ofL20 d).mark]).closed = true := Trk.closed (ofL20 d)
      generalize mapE int (ofL20 d).bey = eD at *
      generalize mapE Pt.enc (ofL20 d).pts = epD at *
      generalize (ofL20 d).next = dn at *
      generalize (ofL20 d).mark = dk at *
      generalize hE1 : mapE int (ofL20 (d ++ [a])).bey = eE at *
      generalize hE2 : mapE Pt.enc (ofL20 (d ++ [a])).pts = epE at *
      generalize hE3 : (ofL20 (d ++ [a])).next = en2 at *
      generalize hE4 : (ofL20 (d ++ [a])).mark = ek at *
      generalize mapE bl (seenF d) = sD at *
      generalize hS2 : mapE bl (seenF (d ++ [a])) = sE at *
      obtain ⟨mb, hmb⟩ : ∃ mb, decide (a ∈ d) = mb := ⟨_, rfl⟩
      rw [hmb] at P12d hsat
      have hcI : ((cntF 0 (d ++ [a]) : Nat) : Int) = ((cntF 0 d : Nat) : Int) + (if mb = true then 0 else 1) := by
        rw [hcn, ← hmb]; simp; split <;> simp
      have hcdI : 0 ≤ ((cntF 0 d : Nat) : Int) ∧ ((cntF 0 d : Nat) : Int) ≤ 20 := by omega
      generalize ((cntF 0 d : Nat) : Int) = c0 at *
      have hix : idxN 0 a = ka := by simp [ee]; omega
      have hne : iNe 0 0 = false := by simp [ee]
      have hor2 : bOr false false = false := by simp [ee]
      have hbe : bEq false true = false := by simp [ee]
      have hbe2 : bEq true false = false := by simp [ee]
      have hc1 : mb = false → iAdd .i64 c0 1 = ((cntF 0 (d ++ [a]) : Nat) : Int) := by
        intro h; rw [h] at hcI; simp at hcI
        simp only [ee]; rw [wrap64 (by omega) (by omega)]; omega
      have hc2 : mb = true → c0 = ((cntF 0 (d ++ [a]) : Nat) : Int) := by
        intro h; rw [h] at hcI; simp at hcI; omega
      have hsl2 : sD.length = 20 := hsl
      generalize hc9 : ((cntF 0 (d ++ [a]) : Nat) : Int) = c9 at *
      cases mb with
      | true =>
        have hc2 := hc2 rfl
        refine go rfl hX 0 (by conv => lhs; cbv; try simp only [hc]; cbv; try simp only [hc]; cbv; try simp only [hc]; cbv; try simp only [hc]; cbv) ?_ ?_
        · first | exact trivial | (simp only [Cd.ok, ee]; and_intros <;> first | omega | rfl | (simp <;> omega))
        refine go rfl hX 1 (by conv => lhs; cbv; try simp only [hc, hat]; cbv; try simp only [hc, hat]; cbv; try simp only [hc, hat]; cbv; try simp only [hc, hat]; cbv) ?_ ?_
        · first | exact trivial | (simp only [Cd.ok, ee]; and_intros <;> first | omega | rfl | (simp <;> omega))
        refine tr_drawB rfl (by conv => lhs; cbv) rfl ?_
        refine tr_go hX (by conv => lhs; cbv; simp only [hat,hat]; cbv; simp only [hat,hat]; cbv) ?_ ?_
        · first | exact trivial | (simp only [Cd.ok, ee]; and_intros <;> first | omega | rfl | (simp <;> omega))
        refine tr_pcall (args := [AV.agg [int dn, AV.isl 1 eD, AV.isl 2 epD, int dk], int a]) rfl rfl rfl P12d (closed2 hcD rfl) ?_
        refine tr_go hX (by conv => lhs; cbv) ?_ ?_
        · first | exact trivial | (simp only [Cd.ok, ee]; and_intros <;> first | omega | rfl | (simp <;> omega))
        refine tr_nil ⟨rfl, ?_, ?_⟩
        · simp only [LooksL, lookAll, List.append, List.cons_append, List.nil_append, List.append_nil]; and_intros <;> first | trivial | (intro hp; first | rfl | exact absurd (show false = true from hp) Bool.false_ne_true)
        refine go rfl hX 0 (by conv => lhs; cbv; try simp only [hne, hat, hix, hsat, hbe, hor2]; cbv; try simp only [hne, hat, hix, hsat, hbe, hor2]; cbv; try simp only [hne, hat, hix, hsat, hbe, hor2]; cbv; try simp only [hne, hat, hix, hsat, hbe, hor2]; cbv) ?_ ?_
        · first | exact trivial | (simp only [Cd.ok, ee]; and_intros <;> first | omega | rfl | (simp <;> omega))
        refine go rfl hX 1 (by conv => lhs; cbv; try simp only [hne, hat, hix, hsat, hbe, hor2]; cbv; try simp only [hne, hat, hix, hsat, hbe, hor2]; cbv; try simp only [hne, hat, hix, hsat, hbe, hor2]; cbv; try simp only [hne, hat, hix, hsat, hbe, hor2]; cbv) ?_ ?_
        · first | exact trivial | (simp only [Cd.ok, ee]; and_intros <;> first | omega | rfl | (simp <;> omega))
        refine go rfl hX 1 (by conv => lhs; cbv; try simp only [hne, hat, hix, hsat, hbe, hor2]; cbv; try simp only [hne, hat, hix, hsat, hbe, hor2]; cbv; try simp only [hne, hat, hix, hsat, hbe, hor2]; cbv; try simp only [hne, hat, hix, hsat, hbe, hor2]; cbv) ?_ ?_
        · first | exact trivial | (simp only [Cd.ok, ee]; and_intros <;> first | omega | rfl | (simp <;> omega))
        refine tr_drawB rfl (by conv => lhs; cbv) rfl ?_
        refine tr_go hX (by conv => lhs; cbv; simp only [hat, hix, hset,hat, hix, hset]; cbv; simp only [hat, hix, hset,hat, hix, hset]; cbv) ?_ ?_
        · first | exact trivial | (simp only [Cd.ok, ee]; and_intros <;> first | omega | rfl | (simp <;> omega))
        refine tr_nil ⟨rfl, by simp [LooksL, lookAll], ?_⟩
        refine go rfl hX 60 (by conv => lhs; cbv) ?_ ?_
        · first | exact trivial | (simp only [Cd.ok, ee]; and_intros <;> first | omega | rfl | (simp <;> omega))
        refine loopP_next (d ++ [a], r, iAdd .i64 i 1) ⟨by simp [j1], hi'⟩ (by simp) ?_
        dsimp only
        rw [hE1, hE2, hE3, hE4, hS2, hc9]
        exact (ent_sub [.to 0, .to 1, .gone] [some 0, some 1] ⟨⟨by simp, rfl⟩, ⟨by simp, rfl⟩, trivial, trivial⟩ ⟨osrc_cells (b := 0) rfl rfl rfl ⟨.refl _, .cl heD2, .cl hepD2, .refl _, trivial⟩, osrc_arr (b := 1) rfl rfl rfl rfl hcS2, trivial⟩ ⟨.refl _, .refl _, .of (congrArg int hc2), .refl _, .cl hce, trivial⟩)
      | false =>
        have hc1 := hc1 rfl
        refine go rfl hX 0 (by conv => lhs; cbv; try simp only [hc]; cbv; try simp only [hc]; cbv; try simp only [hc]; cbv; try simp only [hc]; cbv) ?_ ?_
        · first | exact trivial | (simp only [Cd.ok, ee]; and_intros <;> first | omega | rfl | (simp <;> omega))
        refine go rfl hX 1 (by conv => lhs; cbv; try simp only [hc, hat]; cbv; try simp only [hc, hat]; cbv; try simp only [hc, hat]; cbv; try simp only [hc, hat]; cbv) ?_ ?_
        · first | exact trivial | (simp only [Cd.ok, ee]; and_intros <;> first | omega | rfl | (simp <;> omega))
        refine tr_drawB rfl (by conv => lhs; cbv) rfl ?_
        refine tr_go hX (by conv => lhs; cbv; simp only [hat,hat]; cbv; simp only [hat,hat]; cbv) ?_ ?_
        · first | exact trivial | (simp only [Cd.ok, ee]; and_intros <;> first | omega | rfl | (simp <;> omega))
        refine tr_pcall (args := [AV.agg [int dn, AV.isl 1 eD, AV.isl 2 epD, int dk], int a]) rfl rfl rfl P12d (closed2 hcD rfl) ?_
        refine tr_go hX (by conv => lhs; cbv) ?_ ?_
        · first | exact trivial | (simp only [Cd.ok, ee]; and_intros <;> first | omega | rfl | (simp <;> omega))
        refine tr_nil ⟨rfl, ?_, ?_⟩
        · simp only [LooksL, lookAll, List.append, List.cons_append, List.nil_append, List.append_nil]; and_intros <;> first | trivial | (intro hp; first | rfl | exact absurd (show false = true from hp) Bool.false_ne_true)
        refine go rfl hX 0 (by conv => lhs; cbv; try simp only [hne, hat, hix, hsat, hbe2, hor2]; cbv; try simp only [hne, hat, hix, hsat, hbe2, hor2]; cbv; try simp only [hne, hat, hix, hsat, hbe2, hor2]; cbv; try simp only [hne, hat, hix, hsat, hbe2, hor2]; cbv) ?_ ?_
        · first | exact trivial | (simp only [Cd.ok, ee]; and_intros <;> first | omega | rfl | (simp <;> omega))
        refine go rfl hX 1 (by conv => lhs; cbv; try simp only [hne, hat, hix, hsat, hbe2, hor2]; cbv; try simp only [hne, hat, hix, hsat, hbe2, hor2]; cbv; try simp only [hne, hat, hix, hsat, hbe2, hor2]; cbv; try simp only [hne, hat, hix, hsat, hbe2, hor2]; cbv) ?_ ?_
        · first | exact trivial | (simp only [Cd.ok, ee]; and_intros <;> first | omega | rfl | (simp <;> omega))
        refine go rfl hX 1 (by conv => lhs; cbv; try simp only [hne, hat, hix, hsat, hbe2, hor2]; cbv; try simp only [hne, hat, hix, hsat, hbe2, hor2]; cbv; try simp only [hne, hat, hix, hsat, hbe2, hor2]; cbv; try simp only [hne, hat, hix, hsat, hbe2, hor2]; cbv) ?_ ?_
        · first | exact trivial | (simp only [Cd.ok, ee]; and_intros <;> first | omega | rfl | (simp <;> omega))
        refine tr_drawB rfl (by conv => lhs; cbv) rfl ?_
        refine tr_go hX (by conv => lhs; cbv; simp only [hat, hix, hset,hat, hix, hset]; cbv; simp only [hat, hix, hset,hat, hix, hset]; cbv) ?_ ?_
        · first | exact trivial | (simp only [Cd.ok, ee]; and_intros <;> first | omega | rfl | (simp <;> omega))
        refine tr_nil ⟨rfl, by simp [LooksL, lookAll], ?_⟩
        refine go rfl hX 60 (by conv => lhs; cbv) ?_ ?_
        · first | exact trivial | (simp only [Cd.ok, ee]; and_intros <;> first | omega | rfl | (simp <;> omega))
        refine loopP_next (d ++ [a], r, iAdd .i64 i 1) ⟨by simp [j1], hi'⟩ (by simp) ?_
        dsimp only
        rw [hE1, hE2, hE3, hE4, hS2, hc9]
        exact (ent_sub [.to 0, .to 1, .gone] [some 0, some 1] ⟨⟨by simp, rfl⟩, ⟨by simp, rfl⟩, trivial, trivial⟩ ⟨osrc_cells (b := 0) rfl rfl rfl ⟨.refl _, .cl heD2, .cl hepD2, .refl _, trivial⟩, osrc_arr (b := 1) rfl rfl rfl rfl hcS2, trivial⟩ ⟨.refl _, .refl _, .of (congrArg int hc1), .refl _, .cl hce, trivial⟩)
  · have hge : iLe 0 iI = true := by simp [ee]; omega
    obtain ⟨a, ha⟩ : ∃ a, n[k]? = some a := ⟨_, List.getElem?_eq_getElem (by omega)⟩
    obtain ⟨b, hb2⟩ : ∃ b, n[nl - 1 - k]? = some b := ⟨_, List.getElem?_eq_getElem (by omega)⟩
    obtain ⟨kI, hkI⟩ : ∃ kI : Int, (k : Int) = kI := ⟨_, rfl⟩
    have hat1 : atA en kI = int a := by
      simp only [ee]
      rw [← hes, mapE_eq, List.getD_eq_getElem?_getD, show kI.toNat = k by omega]; simp [ha]
    have hat2 : atA en iI = int b := by
      simp only [ee]
      rw [← hes, mapE_eq, List.getD_eq_getElem?_getD, show iI.toNat = nl - 1 - k by omega]; simp [hb2]
    have hs2 : iSub .i64 (nI - 1) iI = kI := by simp only [ee]; rw [wrap64 (by omega) (by omega)]; omega
    have hs3 : iSub .i64 iI 1 = nI - 1 - ((k + 1 : Nat) : Int) := by simp only [ee]; rw [wrap64 (by omega) (by omega)]; omega
    have kw2 : w ++ [int b, int a] = mapE int (x ++ [b, a]) := by rw [kw]; simp [mapE_eq]
    have hcw2 : AV.closedL (w ++ [int b, int a]) = true := closedL_append hcw rfl
    refine go rfl hX 0 (by conv => lhs; cbv; try simp only [hge]; cbv; try simp only [hge]; cbv; try simp only [hge]; cbv; try simp only [hge]; cbv) ?_ ?_
    · first | exact trivial | (simp only [Cd.ok, ee]; and_intros <;> first | omega | rfl | (simp <;> omega))
    refine go rfl hX 1 (by conv => lhs; cbv; try simp only [hge, hlI, hsub, hs2, hat1, hat2]; cbv; try simp only [hge, hlI, hsub, hs2, hat1, hat2]; cbv; try simp only [hge, hlI, hsub, hs2, hat1, hat2]; cbv; try simp only [hge, hlI, hsub, hs2, hat1, hat2]; cbv) ?_ ?_
    · first | exact trivial | (simp only [Cd.ok, ee]; and_intros <;> first | omega | rfl | (simp <;> omega))
    refine tr_drawX rfl (by conv => lhs; cbv) (by conv => lhs; cbv) (by decide) (by decide) (by conv => lhs; cbv) rfl ?_
    refine tr_go hX (by conv => lhs; cbv; simp only [hlI, hsub, hs2, hat1, hat2,hlI, hsub, hs2, hat1, hat2,hlI, hsub, hs2, hat1, hat2]; cbv; simp only [hlI, hsub, hs2, hat1, hat2,hlI, hsub, hs2, hat1, hat2,hlI, hsub, hs2, hat1, hat2]; cbv; simp only [hlI, hsub, hs2, hat1, hat2,hlI, hsub, hs2, hat1, hat2,hlI, hsub, hs2, hat1, hat2]; cbv) ?_ ?_
    · first | exact trivial | (simp only [Cd.ok, ee]; and_intros <;> first | omega | rfl | (simp <;> omega))
    refine tr_nil ⟨rfl, by simp [LooksL, lookAll], ?_⟩
    refine go rfl hX 60 (by conv => lhs; cbv) ?_ ?_
    · first | exact trivial | (simp only [Cd.ok, ee]; and_intros <;> first | omega | rfl | (simp <;> omega))
    refine loopP_next (k + 1, x ++ [b, a], w ++ [int b, int a], ln + 2) ⟨by dsimp only; omega, kw2, by simp [kn], by simp [kx]; omega, fun v hv => ?_, fun j v hj hv => ?_⟩ (by simp; omega) (ent_sub [.gone, .gone, .to 0] [some 2] ⟨trivial, trivial, ⟨by simp, rfl⟩, trivial⟩ ⟨osrc_arr rfl rfl rfl (by simp [ee, kn]) hcw2, trivial⟩ ⟨.of (congrArg int hs3), .of (by simp only [ee]; rfl), .cl hce, trivial⟩)
    · dsimp only at hv
      rcases List.mem_append.1 hv with hv | hv
      · exact kx1 v hv
      · simp at hv
        rcases hv with rfl | rfl
        · exact List.mem_of_getElem? hb2
        · exact List.mem_of_getElem? ha
    · dsimp only at hj ⊢
      by_cases hjk : j < k
      · exact List.mem_append_left _ (kx2 j v hjk hv)
      · have : j = k := by omega
        subst this
        rw [ha] at hv
        cases hv
        simp
end Go.Am
end
