/- Contracts of the program's functions, for every argument that meets the conditions that each theorem names. -/
import Derived.Test.YtecfkfgaejmdfaaCt2
import Derived.Test.YtecfkfgaejmdfaaAm5
import Derived.Test.YtecfkfgaejmdfaaProg
import Derived.Test.YtecfkfgaejmdfaaAm6
import Derived.Shelf.Sort.Plain
import Derived.Ground.Names2Prog
import Derived.Shelf.Slices.CompactI
import Derived.Shelf.Slices.In.SortNone
section
set_option linter.unusedVariables false
set_option linter.unusedSimpArgs false
set_option maxRecDepth 20000
namespace Go.Am
open Go.Proofs

theorem P49 (l : List Int) (n i : Int) (x : Int) (h0 : 0 ≤ i) (hx : l[i.toNat]? = some x) : PCall EE 49 [int i, .iptr [.isl 1 (mapE int l)], .iptr [int n]] (.val (.bool (decide (n ≤ x)))) := by
  have hlt : i < l.length := by have := (List.getElem?_eq_some_iff.1 hx).1; omega
  have hat0 : (mapE int l).getD i.toNat .undef = int x := by rw [mapE_eq]; simp [hx]
  have hcl := closedI l
  have hel : (mapE int l).length = l.length := mapE_len _ _
  generalize mapE int l = el at *
  refine words fun iLt iLe iEq iNe iAdd iSub iMul iQuo iRem iShr iNeg iCvt iMax iMin bNot bEq bNe bAnd bOr sEq sNe sLen sCat sCut sAt lenA lenN iOf natOf atA atN cutA partA dropA catA setA repA putA idxN addN subN minN lenCut hX e_iLt e_iLe e_iEq e_iNe e_iAdd e_iSub e_iMul e_iQuo e_iRem e_iShr e_iNeg e_iCvt e_iMax e_iMin e_bNot e_bEq e_bNe e_bAnd e_bOr e_sEq e_sNe e_sLen e_sCat e_sCut e_sAt e_lenA e_lenN e_iOf e_natOf e_atA e_atN e_cutA e_partA e_dropA e_catA e_setA e_repA e_putA e_idxN e_addN e_subN e_minN e_lenCut ee => ?_
  have hat : atA el i = int x := by simp only [ee]; exact hat0
  refine fn_body (fn := Try.f49) (n := 11) (ac := Tryc49) (rvs := [.t 4]) rfl (by decide) Tryp49 rfl rfl rfl ?_
  by_cases h : n ≤ x
  · have hb : iLe n x = true := by simp [ee]; exact h
    refine go rfl hX 0 (by conv => lhs; cbv; try simp only [hat, hb]; cbv; try simp only [hat, hb]; cbv; try simp only [hat, hb]; cbv; try simp only [hat, hb]; cbv) ?_ ?_
    · first | exact trivial | (simp only [Cd.ok, ee]; and_intros <;> first | omega | rfl | (simp <;> omega))
    refine fn_ret rfl rfl (.val ?_)
    simp [h]
  · have hb : iLe n x = false := by simp [ee]; omega
    refine go rfl hX 0 (by conv => lhs; cbv; try simp only [hat, hb]; cbv; try simp only [hat, hb]; cbv; try simp only [hat, hb]; cbv; try simp only [hat, hb]; cbv) ?_ ?_
    · first | exact trivial | (simp only [Cd.ok, ee]; and_intros <;> first | omega | rfl | (simp <;> omega))
    refine fn_ret rfl rfl (.val ?_)
    simp [h]
end Go.Am
end
section
set_option linter.unusedVariables false
set_option linter.unusedSimpArgs false
set_option maxRecDepth 20000
namespace Go.Am
open Go.Proofs

theorem enters49 : Enters EE.P 49 := enters_of (fn := Try.f49) (n := 11) (ac := Tryc49) rfl (by decide) Tryp49

theorem half_w (lo hi : Int) (h1 : 0 ≤ lo) (h2 : lo < hi) (h3 : hi < 1152921504606846976) : IntKind.i64.wrap (((IntKind.u64.wrap (IntKind.i64.wrap (lo + hi)))).fdiv (2 ^ min (1 : Int).toNat IntKind.u64.bits)) = (lo + hi) / 2 := by
  rw [wrap64 (x := lo + hi) (by omega) (by omega)]
  have hu : IntKind.u64.wrap (lo + hi) = lo + hi := by
    simp [IntKind.wrap, IntKind.bits, IntKind.signed]
    omega
  rw [hu]
  have hp : (2 : Int) ^ min (1 : Int).toNat IntKind.u64.bits = 2 := by decide
  rw [hp, Int.fdiv_eq_ediv_of_nonneg _ (by decide)]
  exact wrap64 (by omega) (by omega)

theorem P48 (l : List Int) (n : Int) (k : Nat) (hs : Short l) (hk : k ≤ l.length) (hp : ∀ (i : Nat) x, l[i]? = some x → (n ≤ x ↔ k ≤ i)) :
    PCall EE 48 [int l.length, .fn 49 [.iptr [.isl 1 (mapE int l)], .iptr [int n]]] (int k) := by
  unfold Short at hs
  have P49c := fun (i x : Int) (h0 : 0 ≤ i) (hx : l[i.toNat]? = some x) => P49 l n i x h0 hx
  have hcl := closedI l
  have hce : AV.closedL (mapE int l) = true := hcl
  generalize mapE int l = el at *
  generalize hln : (l.length : Int) = ln at *
  generalize hkk : (k : Int) = kk at *
  refine words fun iLt iLe iEq iNe iAdd iSub iMul iQuo iRem iShr iNeg iCvt iMax iMin bNot bEq bNe bAnd bOr sEq sNe sLen sCat sCut sAt lenA lenN iOf natOf atA atN cutA partA dropA catA setA repA putA idxN addN subN minN lenCut hX e_iLt e_iLe e_iEq e_iNe e_iAdd e_iSub e_iMul e_iQuo e_iRem e_iShr e_iNeg e_iCvt e_iMax e_iMin e_bNot e_bEq e_bNe e_bAnd e_bOr e_sEq e_sNe e_sLen e_sCat e_sCut e_sAt e_lenA e_lenN e_iOf e_natOf e_atA e_atN e_cutA e_partA e_dropA e_catA e_setA e_repA e_putA e_idxN e_addN e_subN e_minN e_lenCut ee => ?_
  refine fn_body (fn := Try.f48) (n := 26) (ac := Tryc48) (rvs := [.t 4]) rfl (by decide) Tryp48 rfl rfl rfl ?_
  refine go rfl hX 60 (by conv => lhs; cbv) ?_ ?_
  · first | exact trivial | (simp only [Cd.ok, ee]; and_intros <;> first | omega | rfl | (simp <;> omega))
  refine on_loopP (ι := Int × Int) (fun p => ([(5, int p.1), (6, int p.2), (1, .fn 49 [.iptr [.isl 1 el], .iptr [int n]])], []))
    (fun p => 0 ≤ p.1 ∧ p.1 ≤ kk ∧ kk ≤ p.2 ∧ p.2 ≤ ln) (fun p => (p.2 - p.1).toNat) (0, ln) ⟨by dsimp only; omega, by dsimp only; omega, by dsimp only; omega, by dsimp only; omega⟩ (ent_fw ⟨.refl _, .refl _, .refl _, trivial⟩) ?_
  rintro ⟨lo, hi⟩ ⟨g1, g2, g3, g4⟩
  dsimp only at g1 g2 g3 g4 ⊢
  by_cases hlt : lo < hi
  rotate_left
  · have hc : iLt lo hi = false := by simp [ee]; omega
    have hlk : lo = kk := by omega
    refine go rfl hX 0 (by conv => lhs; cbv; try simp only [hc]; cbv; try simp only [hc]; cbv; try simp only [hc]; cbv; try simp only [hc]; cbv) ?_ ?_
    · first | exact trivial | (simp only [Cd.ok, ee]; and_intros <;> first | omega | rfl | (simp <;> omega))
    refine go rfl hX 60 (by conv => lhs; cbv) ?_ ?_
    · first | exact trivial | (simp only [Cd.ok, ee]; and_intros <;> first | omega | rfl | (simp <;> omega))
    refine loopP_exit ?_
    refine go rfl hX 60 (by conv => lhs; cbv) ?_ ?_
    · first | exact trivial | (simp only [Cd.ok, ee]; and_intros <;> first | omega | rfl | (simp <;> omega))
    refine fn_ret rfl rfl (.val ?_)
    rw [hlk]
  have hc : iLt lo hi = true := by simp [ee]; omega
  have hh : iCvt .i64 (iShr .u64 (iCvt .u64 (iAdd .i64 lo hi)) 1) = (lo + hi) / 2 := by
    simp only [ee]
    exact half_w lo hi g1 hlt (by omega)
  generalize hm : (lo + hi) / 2 = m at *
  have hm1 : lo ≤ m ∧ m < hi := by omega
  obtain ⟨x, hx⟩ : ∃ x, l[m.toNat]? = some x := ⟨_, List.getElem?_eq_getElem (by omega)⟩
  have hpx := hp m.toNat x hx
  have P49d := P49c m x (by omega) hx
  refine go rfl hX 0 (by conv => lhs; cbv; try simp only [hc, hh]; cbv; try simp only [hc, hh]; cbv; try simp only [hc, hh]; cbv; try simp only [hc, hh]; cbv) ?_ ?_
  · first | exact trivial | (simp only [Cd.ok, ee]; and_intros <;> first | omega | rfl | (simp <;> omega))
  refine go rfl hX 60 (by conv => lhs; cbv) ?_ ?_
  · first | exact trivial | (simp only [Cd.ok, ee]; and_intros <;> first | omega | rfl | (simp <;> omega))
  refine go rfl hX 0 (by conv => lhs; cbv; try simp only [hc, hh]; cbv; try simp only [hc, hh]; cbv; try simp only [hc, hh]; cbv; try simp only [hc, hh]; cbv) ?_ ?_
  · first | exact trivial | (simp only [Cd.ok, ee]; and_intros <;> first | omega | rfl | (simp <;> omega))
  have hcA : AV.closedL [int m, .iptr [.isl 1 el], .iptr [int n]] = true := by simp [AV.closedL, AV.closed, hce]
  refine on_callv (fv := .fn 49 [.iptr [.isl 1 el], .iptr [int n]]) (args := [int m]) rfl rfl rfl rfl (show ACallV EE (.fn 49 [.iptr [.isl 1 el], .iptr [int n]]) [int m] [] (fun v H => v = .val (.bool (decide (n ≤ x))) ∧ H = []) from ⟨enters49, P49d.lift hcA⟩) ?_
  rintro _ _ ⟨rfl, rfl⟩
  have hnt : bNot true = false := by simp [ee]
  have hnf : bNot false = true := by simp [ee]
  by_cases hnx : n ≤ x
  · rw [decide_eq_true hnx]
    have hkm := hpx.1 hnx
    refine go rfl hX 0 (by conv => lhs; cbv; try simp only [hnt]; cbv; try simp only [hnt]; cbv; try simp only [hnt]; cbv; try simp only [hnt]; cbv) ?_ ?_
    · first | exact trivial | (simp only [Cd.ok, ee]; and_intros <;> first | omega | rfl | (simp <;> omega))
    refine go rfl hX 60 (by conv => lhs; cbv) ?_ ?_
    · first | exact trivial | (simp only [Cd.ok, ee]; and_intros <;> first | omega | rfl | (simp <;> omega))
    refine loopP_next (lo, m) ⟨g1, g2, by dsimp only; omega, by dsimp only; omega⟩ (by dsimp only; omega) (ent_fw ⟨.refl _, .refl _, .refl _, trivial⟩)
  · rw [decide_eq_false hnx]
    have hkm : ¬ k ≤ m.toNat := fun h => hnx (hpx.2 h)
    have hm' : iAdd .i64 m 1 = m + 1 := by simp only [ee]; exact wrap64 (by omega) (by omega)
    refine go rfl hX 0 (by conv => lhs; cbv; try simp only [hnf, hm']; cbv; try simp only [hnf, hm']; cbv; try simp only [hnf, hm']; cbv; try simp only [hnf, hm']; cbv) ?_ ?_
    · first | exact trivial | (simp only [Cd.ok, ee]; and_intros <;> first | omega | rfl | (simp <;> omega))
    refine go rfl hX 60 (by conv => lhs; cbv) ?_ ?_
    · first | exact trivial | (simp only [Cd.ok, ee]; and_intros <;> first | omega | rfl | (simp <;> omega))
    refine loopP_next (m + 1, hi) ⟨by dsimp only; omega, by dsimp only; omega, g3, g4⟩ (by dsimp only; omega) (ent_fw ⟨.int hm', .refl _, .refl _, trivial⟩)
end Go.Am
end
section
set_option linter.unusedVariables false
set_option linter.unusedSimpArgs false
set_option maxRecDepth 20000
namespace Go.Am
open Go.Proofs

def placeK (n : Int) (l : List Int) : Nat := (l.filter fun m => decide (m < n)).length
theorem place_le (n : Int) (l : List Int) : placeK n l ≤ l.length := List.length_filter_le _ _
theorem place_spec (n : Int) : ∀ (l : List Int), l.Pairwise (· < ·) → ∀ (i : Nat) x, l[i]? = some x → (n ≤ x ↔ placeK n l ≤ i)
  | [], _, i, x, h => by simp at h
  | a :: r, hp, i, x, h => by
    obtain ⟨h1, h2⟩ := List.pairwise_cons.1 hp
    unfold placeK
    by_cases ha : a < n
    · simp only [List.filter_cons, ha, decide_true, if_true, List.length_cons]
      cases i with
      | zero => simp at h; subst h; constructor <;> intro _ <;> omega
      | succ i =>
        have := place_spec n r h2 i x (by simpa using h)
        unfold placeK at this
        rw [this]; omega
    · have hr : r.filter (fun m => decide (m < n)) = [] := List.filter_eq_nil_iff.2 fun m hm => by have := h1 m hm; simp; omega
      simp only [List.filter_cons, ha, decide_false, Bool.false_eq_true, if_false, hr, List.length_nil, Nat.zero_le, iff_true]
      cases i with
      | zero => simp at h; omega
      | succ i =>
        have := h1 x (List.mem_of_getElem? (by simpa using h))
        omega
theorem ord_asc : ∀ (l : List Int) (last : Int), ordF last l = 0 → l.Pairwise (· < ·) ∧ ∀ x ∈ l, last < x
  | [], _, _ => by simp
  | a :: r, last, h => by
    rw [ordF] at h
    split at h
    · simp at h
    split at h
    · simp at h
    obtain ⟨h1, h2⟩ := ord_asc r a h
    refine ⟨List.pairwise_cons.2 ⟨h2, h1⟩, fun x hx => ?_⟩
    rcases List.mem_cons.1 hx with rfl | hx
    · omega
    · have := h2 x hx; omega

theorem P42 (l : List Int) (n : Int) (hs : Short l) (hp : l.Pairwise (· < ·)) : PCall EE 42 [.isl 1 (mapE int l), int n] (int (placeK n l)) := by
  have P48c := P48 l n (placeK n l) hs (place_le n l) (place_spec n l hp)
  have hcl := closedI l
  have hce : AV.closedL (mapE int l) = true := hcl
  have hel : (mapE int l).length = l.length := mapE_len _ _
  generalize mapE int l = el at *
  generalize (placeK n l : Int) = k at *
  generalize hln : (l.length : Int) = ln at *
  refine words fun iLt iLe iEq iNe iAdd iSub iMul iQuo iRem iShr iNeg iCvt iMax iMin bNot bEq bNe bAnd bOr sEq sNe sLen sCat sCut sAt lenA lenN iOf natOf atA atN cutA partA dropA catA setA repA putA idxN addN subN minN lenCut hX e_iLt e_iLe e_iEq e_iNe e_iAdd e_iSub e_iMul e_iQuo e_iRem e_iShr e_iNeg e_iCvt e_iMax e_iMin e_bNot e_bEq e_bNe e_bAnd e_bOr e_sEq e_sNe e_sLen e_sCat e_sCut e_sAt e_lenA e_lenN e_iOf e_natOf e_atA e_atN e_cutA e_partA e_dropA e_catA e_setA e_repA e_putA e_idxN e_addN e_subN e_minN e_lenCut ee => ?_
  have hlen : lenA el = ln := by simp [ee]; omega
  refine fn_body (fn := Try.f42) (n := 9) (ac := Tryc42) (rvs := [.t 4]) rfl (by decide) Tryp42 rfl rfl rfl ?_
  refine go rfl hX 60 (by conv => lhs; cbv) ?_ ?_
  · first | exact trivial | (simp only [Cd.ok, ee]; and_intros <;> first | omega | rfl | (simp <;> omega))
  have hcf : (AV.fn 49 [.iptr [.isl 1 el], .iptr [int n]]).closed = true := by simp [AV.closed, AV.closedL, hce]
  refine on_entO (F' := [(6, int ln), (7, .fn 49 [.iptr [.isl 1 el], .iptr [int n]])]) (H' := [])
    (ent_sub [.icells [.isl 1 el], .icells [int n]] [] ⟨⟨_, rfl, by show _ = [AV.isl 1 (AV.subL _ el)]; rw [subL_closed _ hce]⟩, ⟨_, rfl, rfl⟩, trivial⟩ trivial ⟨.int hlen, .of rfl, trivial⟩) ?_
  refine on_pcall (args := [int ln, AV.fn 49 [AV.iptr [AV.isl 1 el], AV.iptr [int n]]]) rfl rfl rfl P48c (by simp [AV.closedL, closed_v, closed_agg, hcf]) ?_
  refine go rfl hX 60 (by conv => lhs; cbv) ?_ ?_
  · first | exact trivial | (simp only [Cd.ok, ee]; and_intros <;> first | omega | rfl | (simp <;> omega))
  refine fn_ret rfl rfl (.val ?_)
  rfl
end Go.Am
end
section
set_option linter.unusedVariables false
set_option linter.unusedSimpArgs false
set_option maxRecDepth 20000
namespace Go.Am
open Go.Proofs

theorem place_mem (n : Int) (l : List Int) (hp : l.Pairwise (· < ·)) : n ∈ l ↔ l[placeK n l]? = some n := by
  constructor
  · intro h
    obtain ⟨i, hi⟩ := List.mem_iff_getElem?.1 h
    have h1 := (place_spec n l hp i n hi).1 (Int.le_refl _)
    have hlt : i < l.length := (List.getElem?_eq_some_iff.1 hi).1
    obtain ⟨y, hy⟩ : ∃ y, l[placeK n l]? = some y := ⟨_, List.getElem?_eq_getElem (by omega)⟩
    have h2 := (place_spec n l hp _ y hy).2 (Nat.le_refl _)
    by_cases he : placeK n l = i
    · rw [he]; exact hi
    · have hlt2 : placeK n l < i := by omega
      have := (List.pairwise_iff_getElem.1 hp) (placeK n l) i (by omega) hlt hlt2
      have e1 : l[placeK n l] = y := (List.getElem?_eq_some_iff.1 hy).2
      have e2 : l[i] = n := (List.getElem?_eq_some_iff.1 hi).2
      omega
  · intro h; exact List.mem_of_getElem? h

theorem P31 (t : Trk) (n : Int) (hf : t.Fine) (hk : checkT t = 0) : PCall EE 31 [t.enc, int n] (.val (.bool (contF t n))) := by
  have hasc := (ord_asc _ _ (check_ok hk).2.2.2).1
  have hlen := (check_ok hk).2.2.1
  have P42c := P42 t.bey n hf.bey hasc
  have hpm := place_mem n t.bey hasc
  have hpl := place_le n t.bey
  unfold contF
  unfold Trk.enc
  obtain ⟨tn, bey, pts, tk⟩ := t
  dsimp only at *
  have hcb := closedI bey
  have hcp := closedP pts
  generalize hpk : placeK n bey = pk at *
  generalize hpi : (pk : Int) = pi at *
  have hat0 : ∀ x, bey[pk]? = some x → (mapE int bey).getD pi.toNat .undef = int x := by
    intro x hx
    have : pi.toNat = pk := by omega
    rw [this, mapE_eq]; simp [hx]
  generalize heb : mapE int bey = eb at *
  generalize mapE Pt.enc pts = ep at *
  have hbl : eb.length = bey.length := by rw [← heb, mapE_len]
  refine words fun iLt iLe iEq iNe iAdd iSub iMul iQuo iRem iShr iNeg iCvt iMax iMin bNot bEq bNe bAnd bOr sEq sNe sLen sCat sCut sAt lenA lenN iOf natOf atA atN cutA partA dropA catA setA repA putA idxN addN subN minN lenCut hX e_iLt e_iLe e_iEq e_iNe e_iAdd e_iSub e_iMul e_iQuo e_iRem e_iShr e_iNeg e_iCvt e_iMax e_iMin e_bNot e_bEq e_bNe e_bAnd e_bOr e_sEq e_sNe e_sLen e_sCat e_sCut e_sAt e_lenA e_lenN e_iOf e_natOf e_atA e_atN e_cutA e_partA e_dropA e_catA e_setA e_repA e_putA e_idxN e_addN e_subN e_minN e_lenCut ee => ?_
  refine fn_body (fn := Try.f31) (n := 30) (ac := Tryc31) (rvs := [.t 4]) rfl (by decide) Tryp31 rfl rfl rfl ?_
  by_cases h0 : n < tn
  · rw [if_pos h0]
    have hb : iLt n tn = true := by simp [ee]; omega
    refine go rfl hX 0 (by conv => lhs; cbv; try simp only [hb]; cbv; try simp only [hb]; cbv; try simp only [hb]; cbv; try simp only [hb]; cbv) ?_ ?_
    · first | exact trivial | (simp only [Cd.ok, ee]; and_intros <;> first | omega | rfl | (simp <;> omega))
    refine go rfl hX 60 (by conv => lhs; cbv) ?_ ?_
    · first | exact trivial | (simp only [Cd.ok, ee]; and_intros <;> first | omega | rfl | (simp <;> omega))
    refine fn_ret rfl rfl (.val ?_)
    (simp only [ee])
  rw [if_neg h0]
  have hb0 : iLt n tn = false := by simp [ee]; omega
  by_cases h1 : pk < bey.length
  rotate_left
  · have hb1 : iLt pi (lenA eb) = false := by simp [ee]; omega
    have hnm : n ∉ bey := by rw [hpm, List.getElem?_eq_none (by omega)]; simp
    have hatu : atA eb pi = .undef := by
      simp only [ee]
      rw [List.getD_eq_getElem?_getD, List.getElem?_eq_none (by omega)]; rfl
    refine go rfl hX 0 (by conv => lhs; cbv; try simp only [hb0, hb1, hatu]; cbv; try simp only [hb0, hb1, hatu]; cbv; try simp only [hb0, hb1, hatu]; cbv; try simp only [hb0, hb1, hatu]; cbv) ?_ ?_
    · first | exact trivial | (simp only [Cd.ok, ee]; and_intros <;> first | omega | rfl | (simp <;> omega))
    refine go rfl hX 60 (by conv => lhs; cbv) ?_ ?_
    · first | exact trivial | (simp only [Cd.ok, ee]; and_intros <;> first | omega | rfl | (simp <;> omega))
    refine on_pcall (args := [AV.isl 1 eb, int n]) rfl rfl rfl P42c (by simp [AV.closedL, closed_v, closed_agg, hcb]) ?_
    refine go rfl hX 0 (by conv => lhs; cbv; try simp only [hb0, hb1, hatu]; cbv; try simp only [hb0, hb1, hatu]; cbv; try simp only [hb0, hb1, hatu]; cbv; try simp only [hb0, hb1, hatu]; cbv) ?_ ?_
    · first | exact trivial | (simp only [Cd.ok, ee]; and_intros <;> first | omega | rfl | (simp <;> omega))
    refine on_gskip rfl rfl ?_
    refine go rfl hX 60 (by conv => lhs; cbv) ?_ ?_
    · first | exact trivial | (simp only [Cd.ok, ee]; and_intros <;> first | omega | rfl | (simp <;> omega))
    refine on_gskip rfl rfl ?_
    refine go rfl hX 60 (by conv => lhs; cbv) ?_ ?_
    · first | exact trivial | (simp only [Cd.ok, ee]; and_intros <;> first | omega | rfl | (simp <;> omega))
    refine on_gskip rfl rfl ?_
    refine go rfl hX 60 (by conv => lhs; cbv) ?_ ?_
    · first | exact trivial | (simp only [Cd.ok, ee]; and_intros <;> first | omega | rfl | (simp <;> omega))
    refine on_gskip rfl rfl ?_
    refine go rfl hX 60 (by conv => lhs; cbv) ?_ ?_
    · first | exact trivial | (simp only [Cd.ok, ee]; and_intros <;> first | omega | rfl | (simp <;> omega))
    refine on_gskip rfl rfl ?_
    refine go rfl hX 60 (by conv => lhs; cbv) ?_ ?_
    · first | exact trivial | (simp only [Cd.ok, ee]; and_intros <;> first | omega | rfl | (simp <;> omega))
    refine on_gskip rfl rfl ?_
    refine go rfl hX 60 (by conv => lhs; cbv) ?_ ?_
    · first | exact trivial | (simp only [Cd.ok, ee]; and_intros <;> first | omega | rfl | (simp <;> omega))
    refine on_gskip rfl rfl ?_
    refine go rfl hX 60 (by conv => lhs; cbv) ?_ ?_
    · first | exact trivial | (simp only [Cd.ok, ee]; and_intros <;> first | omega | rfl | (simp <;> omega))
    refine fn_ret rfl rfl (.val ?_)
    simp [hnm]
  have hb1 : iLt pi (lenA eb) = true := by simp [ee]; omega
  obtain ⟨x, hx⟩ : ∃ x, bey[pk]? = some x := ⟨_, List.getElem?_eq_getElem h1⟩
  have hat : atA eb pi = int x := by simp only [ee]; exact hat0 x hx
  rw [hx] at hpm
  by_cases h2 : x = n
  · have hb2 : iEq x n = true := by simp [ee]; exact h2
    have hnm : n ∈ bey := hpm.2 (by rw [h2])
    have hand : bAnd true true = true := by simp [ee]
    refine go rfl hX 0 (by conv => lhs; cbv; try simp only [hb0, hb1, hat, hb2, hand]; cbv; try simp only [hb0, hb1, hat, hb2, hand]; cbv; try simp only [hb0, hb1, hat, hb2, hand]; cbv; try simp only [hb0, hb1, hat, hb2, hand]; cbv) ?_ ?_
    · first | exact trivial | (simp only [Cd.ok, ee]; and_intros <;> first | omega | rfl | (simp <;> omega))
    refine go rfl hX 60 (by conv => lhs; cbv) ?_ ?_
    · first | exact trivial | (simp only [Cd.ok, ee]; and_intros <;> first | omega | rfl | (simp <;> omega))
    refine on_pcall (args := [AV.isl 1 eb, int n]) rfl rfl rfl P42c (by simp [AV.closedL, closed_v, closed_agg, hcb]) ?_
    refine go rfl hX 0 (by conv => lhs; cbv; try simp only [hb0, hb1, hat, hb2, hand]; cbv; try simp only [hb0, hb1, hat, hb2, hand]; cbv; try simp only [hb0, hb1, hat, hb2, hand]; cbv; try simp only [hb0, hb1, hat, hb2, hand]; cbv) ?_ ?_
    · first | exact trivial | (simp only [Cd.ok, ee]; and_intros <;> first | omega | rfl | (simp <;> omega))
    refine fn_ret rfl rfl (.val ?_)
    simp [hnm]
  · have hb2 : iEq x n = false := by simp [ee]; exact h2
    have hnm : n ∉ bey := fun h => h2 (by have := hpm.1 h; simpa using this)
    have hand : bAnd true false = false := by simp [ee]
    refine go rfl hX 0 (by conv => lhs; cbv; try simp only [hb0, hb1, hat, hb2, hand]; cbv; try simp only [hb0, hb1, hat, hb2, hand]; cbv; try simp only [hb0, hb1, hat, hb2, hand]; cbv; try simp only [hb0, hb1, hat, hb2, hand]; cbv) ?_ ?_
    · first | exact trivial | (simp only [Cd.ok, ee]; and_intros <;> first | omega | rfl | (simp <;> omega))
    refine go rfl hX 60 (by conv => lhs; cbv) ?_ ?_
    · first | exact trivial | (simp only [Cd.ok, ee]; and_intros <;> first | omega | rfl | (simp <;> omega))
    refine on_pcall (args := [AV.isl 1 eb, int n]) rfl rfl rfl P42c (by simp [AV.closedL, closed_v, closed_agg, hcb]) ?_
    refine go rfl hX 0 (by conv => lhs; cbv; try simp only [hb0, hb1, hat, hb2, hand]; cbv; try simp only [hb0, hb1, hat, hb2, hand]; cbv; try simp only [hb0, hb1, hat, hb2, hand]; cbv; try simp only [hb0, hb1, hat, hb2, hand]; cbv) ?_ ?_
    · first | exact trivial | (simp only [Cd.ok, ee]; and_intros <;> first | omega | rfl | (simp <;> omega))
    refine fn_ret rfl rfl (.val ?_)
    simp [hnm]

theorem P26 (t : Trk) (n : Int) (hf : t.Fine) : PCall EE 26 [t.enc, int n] (.tup [.val (.bool (hasT t n).1), int (hasT t n).2]) := by
  have P15c := P15 t hf
  have P31c := fun h => P31 t n hf h
  have hcl := Trk.closed t
  unfold hasT
  unfold Trk.enc at *
  generalize checkT t = ck at *
  generalize contF t n = cf at *
  generalize mapE int t.bey = eb at *
  generalize mapE Pt.enc t.pts = ep at *
  generalize t.next = tn at *
  generalize t.mark = tk at *
  refine words fun iLt iLe iEq iNe iAdd iSub iMul iQuo iRem iShr iNeg iCvt iMax iMin bNot bEq bNe bAnd bOr sEq sNe sLen sCat sCut sAt lenA lenN iOf natOf atA atN cutA partA dropA catA setA repA putA idxN addN subN minN lenCut hX e_iLt e_iLe e_iEq e_iNe e_iAdd e_iSub e_iMul e_iQuo e_iRem e_iShr e_iNeg e_iCvt e_iMax e_iMin e_bNot e_bEq e_bNe e_bAnd e_bOr e_sEq e_sNe e_sLen e_sCat e_sCut e_sAt e_lenA e_lenN e_iOf e_natOf e_atA e_atN e_cutA e_partA e_dropA e_catA e_setA e_repA e_putA e_idxN e_addN e_subN e_minN e_lenCut ee => ?_
  refine fn_body (fn := Try.f26) (n := 15) (ac := Tryc26) (rvs := [.t 4, .t 5]) rfl (by decide) Tryp26 rfl rfl rfl ?_
  by_cases h0 : ck = 0
  · have P31d := P31c h0
    clear P31c
    subst h0
    rw [if_neg (by simp)]
    have hb : iNe 0 0 = false := by simp [ee]
    refine go rfl hX 60 (by conv => lhs; cbv) ?_ ?_
    · first | exact trivial | (simp only [Cd.ok, ee]; and_intros <;> first | omega | rfl | (simp <;> omega))
    refine on_pcall (args := [AV.agg [int tn, AV.isl 1 eb, AV.isl 2 ep, int tk]]) rfl rfl rfl P15c (by simp [AV.closedL, closed_v, closed_agg, hcl]) ?_
    refine go rfl hX 0 (by conv => lhs; cbv; try simp only [hb]; cbv; try simp only [hb]; cbv; try simp only [hb]; cbv; try simp only [hb]; cbv) ?_ ?_
    · first | exact trivial | (simp only [Cd.ok, ee]; and_intros <;> first | omega | rfl | (simp <;> omega))
    refine go rfl hX 60 (by conv => lhs; cbv) ?_ ?_
    · first | exact trivial | (simp only [Cd.ok, ee]; and_intros <;> first | omega | rfl | (simp <;> omega))
    refine on_pcall (args := [AV.agg [int tn, AV.isl 1 eb, AV.isl 2 ep, int tk], int n]) rfl rfl rfl P31d (by simp [AV.closedL, closed_v, closed_agg, hcl]) ?_
    refine go rfl hX 60 (by conv => lhs; cbv) ?_ ?_
    · first | exact trivial | (simp only [Cd.ok, ee]; and_intros <;> first | omega | rfl | (simp <;> omega))
    refine fn_ret rfl rfl ?_
    exact Fz.none (.refl _)
  · rw [if_pos h0]
    have hb : iNe ck 0 = true := by simp [ee]; exact h0
    refine go rfl hX 60 (by conv => lhs; cbv) ?_ ?_
    · first | exact trivial | (simp only [Cd.ok, ee]; and_intros <;> first | omega | rfl | (simp <;> omega))
    refine on_pcall (args := [AV.agg [int tn, AV.isl 1 eb, AV.isl 2 ep, int tk]]) rfl rfl rfl P15c (by simp [AV.closedL, closed_v, closed_agg, hcl]) ?_
    refine go rfl hX 0 (by conv => lhs; cbv; try simp only [hb]; cbv; try simp only [hb]; cbv; try simp only [hb]; cbv; try simp only [hb]; cbv) ?_ ?_
    · first | exact trivial | (simp only [Cd.ok, ee]; and_intros <;> first | omega | rfl | (simp <;> omega))
    refine go rfl hX 60 (by conv => lhs; cbv) ?_ ?_
    · first | exact trivial | (simp only [Cd.ok, ee]; and_intros <;> first | omega | rfl | (simp <;> omega))
    refine fn_ret rfl rfl ?_
    exact Fz.none (.refl _)
end Go.Am
end
section
set_option linter.unusedVariables false
set_option linter.unusedSimpArgs false
set_option maxRecDepth 20000
namespace Go.Am
open Go.Proofs

theorem ins_place (n : Int) : ∀ l : List Int, l.Pairwise (· < ·) → n ∉ l → insF n l = l.take (placeK n l) ++ n :: l.drop (placeK n l)
  | [], _, _ => by simp [insF, placeK]
  | a :: r, hp, hn => by
    obtain ⟨h1, h2⟩ := List.pairwise_cons.1 hp
    have hna : n ≠ a := fun h => hn (by simp [h])
    have hnr : n ∉ r := fun h => hn (by simp [h])
    unfold insF
    by_cases ha : n < a
    · rw [if_pos ha]
      have hk : placeK n (a :: r) = 0 := by
        unfold placeK
        rw [List.length_eq_zero_iff]
        exact List.filter_eq_nil_iff.2 fun m hm => by
          rcases List.mem_cons.1 hm with rfl | hm
          · simp; omega
          · have := h1 m hm; simp; omega
      rw [hk]; rfl
    · rw [if_neg ha]
      have hk : placeK n (a :: r) = placeK n r + 1 := by
        unfold placeK
        rw [List.filter_cons_of_pos (by simp; omega)]; rfl
      rw [hk, ins_place n r h2 hnr]; rfl
theorem add_gt {t : Trk} {n : Int} (h : checkT t = 0) (hc : contF t n = false) (hn : t.next < n) : addT t n = ⟨t.next, t.bey.take (placeK n t.bey) ++ n :: t.bey.drop (placeK n t.bey), t.pts, t.mark⟩ := by
  obtain ⟨h1, h2⟩ := ord_asc _ _ (check_ok h).2.2.2
  have hnm : n ∉ t.bey := by
    unfold contF at hc
    rw [if_neg (by omega)] at hc
    simpa using hc
  have hcol : collF t.next (insF n t.bey) = (t.next, insF n t.bey) := by
    cases hb : t.bey with
    | nil => simp [insF, collF]; omega
    | cons a r =>
      have := h2 a (by simp [hb])
      unfold insF
      split
      · rw [collF, if_neg (by omega)]
      · rw [collF, if_neg (by omega)]
  unfold addT
  rw [hcol, ins_place n _ h1 hnm]
theorem add_eq {t : Trk} {n : Int} (h : checkT t = 0) (hn : n = t.next) : addT t n = ⟨(collF (t.next + 1) t.bey).1, (collF (t.next + 1) t.bey).2, t.pts, t.mark⟩ := by
  obtain ⟨h1, h2⟩ := ord_asc _ _ (check_ok h).2.2.2
  have hi : insF n t.bey = n :: t.bey := by
    cases hb : t.bey with
    | nil => rfl
    | cons a r => have := h2 a (by simp [hb]); unfold insF; rw [if_pos (by omega)]
  unfold addT
  rw [hi, collF, if_pos hn]
theorem enters42 : Enters EE.P 42 := enters_of (fn := Try.f42) (n := 9) (ac := Tryc42) rfl (by decide) Tryp42
theorem enters43 : Enters EE.P 43 := enters_of (fn := Try.f43) (n := 95) (ac := Tryc43) rfl (by decide) Tryp43

set_option maxHeartbeats 4000000 in
theorem P34 (t : Trk) (n : Int) (hf : t.Fine) (hk : checkT t = 0) (hct : contF t n = false) (hn : 0 ≤ n) (hpl : t.pts.length < 500000000000) : PCall EE 34 [t.enc, int n] (addT t n).enc := by
  have hok := check_ok hk
  obtain ⟨hasc, hgt⟩ := ord_asc _ _ hok.2.2.2
  have hge : t.next ≤ n := by
    unfold contF at hct
    by_cases h : n < t.next
    · rw [if_pos h] at hct; simp at hct; omega
    · omega
  have P32c := P32 t.bey (by omega)
  have P33c := P33 t.pts hpl
  have P42c := P42 t.bey n hf.bey hasc
  have hag := fun h => add_gt hk hct h
  have hae := fun h => add_eq (n := n) hk h
  have hcl := Trk.closed t
  have hpk := place_le n t.bey
  obtain ⟨ad, had⟩ : ∃ ad, addT t n = ad := ⟨_, rfl⟩
  rw [had] at hag hae ⊢
  unfold Trk.enc at hcl
  have he1 : t.enc = .agg [int t.next, .isl 1 (mapE int t.bey), .isl 2 (mapE Pt.enc t.pts), int t.mark] := rfl
  have he2 : ad.enc = .agg [int ad.next, .isl 1 (mapE int ad.bey), .isl 2 (mapE Pt.enc ad.pts), int ad.mark] := rfl
  rw [he1, he2]
  clear he1 he2 had
  obtain ⟨tn, bey, pts, tk⟩ := t
  dsimp only at *
  have hcb := closedI bey
  have hcp := closedP pts
  have hceb : AV.closedL (mapE int bey) = true := closed_mapE int_closed _
  have hcep : AV.closedL (mapE Pt.enc pts) = true := closed_mapE Pt.closed _
  have hpl2 : (mapE Pt.enc pts).length = pts.length := mapE_len _ _
  have hbl : (mapE int bey).length = bey.length := mapE_len _ _
  have P43c := P43 (mapE int bey) (int n) (placeK n bey) (by rw [hbl]; exact hpk) (by rw [hbl]; omega) hceb rfl (fitL (k := 1) (enc := int) fitI bey) rfl
  have hA : (mapE int bey).take (placeK n bey) ++ int n :: (mapE int bey).drop (placeK n bey) = mapE int (bey.take (placeK n bey) ++ n :: bey.drop (placeK n bey)) := by
    rw [mapE_eq, mapE_eq, List.map_append, List.map_cons, List.map_take, List.map_drop]
  rw [hA] at P43c
  rw [hbl] at P43c
  refine words fun iLt iLe iEq iNe iAdd iSub iMul iQuo iRem iShr iNeg iCvt iMax iMin bNot bEq bNe bAnd bOr sEq sNe sLen sCat sCut sAt lenA lenN iOf natOf atA atN cutA partA dropA catA setA repA putA idxN addN subN minN lenCut hX e_iLt e_iLe e_iEq e_iNe e_iAdd e_iSub e_iMul e_iQuo e_iRem e_iShr e_iNeg e_iCvt e_iMax e_iMin e_bNot e_bEq e_bNe e_bAnd e_bOr e_sEq e_sNe e_sLen e_sCat e_sCut e_sAt e_lenA e_lenN e_iOf e_natOf e_atA e_atN e_cutA e_partA e_dropA e_catA e_setA e_repA e_putA e_idxN e_addN e_subN e_minN e_lenCut ee => ?_
  generalize heb : mapE int bey = eb at *
  generalize hep : mapE Pt.enc pts = ep at *
  generalize hbn : bey.length = bn at *
  generalize hpn : pts.length = pn at *
  generalize placeK n bey = pk at *
  refine fn_body (fn := Try.f34) (n := 54) (ac := Tryc34) (rvs := [.cell 4 4 true]) rfl (by decide) Tryp34 rfl rfl rfl ?_
  refine go rfl hX 60 (by conv => lhs; cbv) ?_ ?_
  · first | exact trivial | (simp only [Cd.ok, ee]; and_intros <;> first | omega | rfl | (simp <;> omega))
  refine tr_drawB rfl (by conv => lhs; cbv) rfl ?_
  refine tr_go hX (by conv => lhs; cbv) ?_ ?_
  · first | exact trivial | (simp only [Cd.ok, ee]; and_intros <;> first | omega | rfl | (simp <;> omega))
  refine tr_ocall (args := [.isl 1 eb]) (v' := .sl 2 1 0 bn) (H' := [.arr 1 eb]) rfl rfl rfl P32c (by simp [AV.closedL, hcb]) rfl (by simp [AObj.sub, subL_closed _ hceb]) ?_
  refine tr_go hX (by conv => lhs; cbv) ?_ ?_
  · first | exact trivial | (simp only [Cd.ok, ee]; and_intros <;> first | omega | rfl | (simp <;> omega))
  refine tr_ocall (args := [.isl 2 ep]) (v' := .sl 3 2 0 pn) (H' := [.arr 2 ep]) rfl rfl rfl P33c (by simp [AV.closedL, hcp]) rfl (by simp [AObj.sub, subL_closed _ hcep]) ?_
  refine tr_go hX (by conv => lhs; cbv) ?_ ?_
  · first | exact trivial | (simp only [Cd.ok, ee]; and_intros <;> first | omega | rfl | (simp <;> omega))
  refine tr_nil ⟨rfl, ?_, ?_⟩
  · simp only [LooksL, lookAll, List.append, List.cons_append, List.nil_append, List.append_nil]; and_intros <;> first | trivial | (intro hp; first | rfl | exact absurd (show false = true from hp) Bool.false_ne_true)
  refine go rfl hX 0 (by conv => lhs; cbv) ?_ ?_
  · first | exact trivial | (simp only [Cd.ok, ee]; and_intros <;> first | omega | rfl | (simp <;> omega))
  by_cases h0 : tn < n
  · have hb : iLt tn n = true := by simp [ee]; omega
    refine go rfl hX 1 (by conv => lhs; cbv; try simp only [hb]; cbv; try simp only [hb]; cbv; try simp only [hb]; cbv; try simp only [hb]; cbv) ?_ ?_
    · first | exact trivial | (simp only [Cd.ok, ee]; and_intros <;> first | omega | rfl | (simp <;> omega))
    have hag := hag h0
    generalize hal : bey.take pk ++ n :: bey.drop pk = al at *
    have hall : (mapE int al).length = bn + 1 := by
      rw [mapE_len, ← hal, ← hbn, List.length_append, List.length_cons, List.length_take, List.length_drop]; omega
    subst hag
    dsimp only
    rw [hep]
    have hcal : AV.closedL (mapE int al) = true := closed_mapE int_closed _
    generalize mapE int al = ea at *
    generalize bn + 1 = m at *
    generalize (pk : Int) = pI at *
    refine trp_drawE [5, 7, 8, 10] [[5, 7, 8, 10], [7, 5, 8, 10]] [(4, .ptr 1 0), (2, .ptr 0 0)] [.cells [int tn, .sl 2 1 0 m, .sl 3 2 0 pn, int tk], .cells [int 0, .val (.slice none 0 0), .val (.slice none 0 0), int 0], .arr 1 ea, .arr 2 ep] rfl rfl rfl (by decide) rfl ?_ ⟨⟨[0, 1, 2, 3, 4, 5, 6, 7, 8, 9, 10], rfl, ?_⟩, ⟨[6, 7, 0, 1, 2, 3, 4, 5, 8, 9, 10], rfl, ?_⟩, trivial⟩
    · refine go rfl hX 60 (by conv => lhs; cbv) ?_ ?_
      · first | exact trivial | (simp only [Cd.ok, ee]; and_intros <;> first | omega | rfl | (simp <;> omega))
      refine fn_ret rfl rfl ?_
      exact ⟨[.gone, .gone, .isl 1 ea, .isl 2 ep], ⟨trivial, trivial, ⟨ea, rfl, (subL_closed _ hcal).symm⟩, ⟨ep, rfl, (subL_closed _ hcep).symm⟩, trivial⟩, .agg' ⟨.refl _, .of (sub_whole rfl hall.symm), .of (sub_whole rfl hpl2.symm), .refl _, trivial⟩⟩
    · refine tr_go hX (by conv => lhs; cbv) ?_ ?_
      · first | exact trivial | (simp only [Cd.ok, ee]; and_intros <;> first | omega | rfl | (simp <;> omega))
      refine tr_ecall (args := [.sl 2 1 0 bn, int n]) (v := int pI) (H1 := [.cells [int tn, .sl 2 1 0 bn, .sl 3 2 0 pn, int tk], .cells [int 0, .val (.slice none 0 0), .val (.slice none 0 0), int 0], .arr 1 eb, .arr 2 ep]) rfl rfl rfl enters42 (PCall.lend (args' := [.isl 1 eb, int n]) [.gone, .gone, .isl 1 eb, .isl 2 ep] ⟨trivial, trivial, ⟨eb, rfl, (subL_closed _ hceb).symm⟩, ⟨ep, rfl, (subL_closed _ hcep).symm⟩, trivial⟩ (by show [AV.sub _ (.sl 2 1 0 bn), _] = _; rw [sub_whole (es := eb) rfl hbl.symm]; rfl) P42c rfl) ?_
      refine tr_go hX (by conv => lhs; cbv) ?_ ?_
      · first | exact trivial | (simp only [Cd.ok, ee]; and_intros <;> first | omega | rfl | (simp <;> omega))
      refine tr_ecall (args := [.sl 2 1 0 bn, int pI, .sl 4 1 0 1]) (v := .sl 5 1 0 m) (H1 := [.cells [int tn, .sl 2 1 0 bn, .sl 3 2 0 pn, int tk], .cells [int 0, .val (.slice none 0 0), .val (.slice none 0 0), int 0], .dead, .arr 2 ep, .dead, .arr 1 ea]) rfl rfl rfl enters43 (ACall.at [2, 4] P43c (by decide) (by simp) (by show _ = [AObj.arr 1 (AV.subL _ eb), AObj.arr 1 _]; rw [subL_closed _ hceb]; rfl) rfl rfl (by show [_, _, _, _, _, AObj.arr 1 (AV.subL _ ea)] = _; rw [subL_closed _ hcal]; rfl)) ?_
      refine tr_go hX (by conv => lhs; cbv) ?_ ?_
      · first | exact trivial | (simp only [Cd.ok, ee]; and_intros <;> first | omega | rfl | (simp <;> omega))
      refine tr_nil ⟨by simp [effLab], ?_, ?_⟩
      · simp only [LooksP, lookAll, List.append, List.cons_append, List.nil_append, List.append_nil]; and_intros <;> first | trivial | (intro hp; first | rfl | exact absurd (show false = true from hp) Bool.false_ne_true)
      exact (ent_sub [.to 0, .to 1, .gone, .to 3, .gone, .to 2] [some 0, some 1, some 5, some 3] ⟨⟨by simp, rfl⟩, ⟨by simp, rfl⟩, trivial, ⟨by simp, rfl⟩, trivial, ⟨by simp, rfl⟩, trivial⟩ ⟨osrc_cells (b := 0) rfl rfl rfl ⟨.refl _, .refl _, .refl _, .refl _, trivial⟩, osrc_cells (b := 1) rfl rfl rfl ⟨.refl _, .refl _, .refl _, .refl _, trivial⟩, osrc_arr (b := 5) rfl rfl rfl rfl hcal, osrc_arr (b := 3) rfl rfl rfl rfl hcep, trivial⟩ ⟨.refl _, .refl _, trivial⟩)
    · refine tr_go hX (by conv => lhs; cbv) ?_ ?_
      · first | exact trivial | (simp only [Cd.ok, ee]; and_intros <;> first | omega | rfl | (simp <;> omega))
      refine tr_ecall (args := [.sl 2 1 0 bn, int n]) (v := int pI) (H1 := [.cells [int tn, .sl 2 1 0 bn, .sl 3 2 0 pn, int tk], .cells [int 0, .val (.slice none 0 0), .val (.slice none 0 0), int 0], .arr 1 eb, .arr 2 ep, .arr 1 [int n]]) rfl rfl rfl enters42 (PCall.lend (args' := [.isl 1 eb, int n]) [.gone, .gone, .isl 1 eb, .isl 2 ep, .gone] ⟨trivial, trivial, ⟨eb, rfl, (subL_closed _ hceb).symm⟩, ⟨ep, rfl, (subL_closed _ hcep).symm⟩, trivial, trivial⟩ (by show [AV.sub _ (.sl 2 1 0 bn), _] = _; rw [sub_whole (es := eb) rfl hbl.symm]; rfl) P42c rfl) ?_
      refine tr_go hX (by conv => lhs; cbv) ?_ ?_
      · first | exact trivial | (simp only [Cd.ok, ee]; and_intros <;> first | omega | rfl | (simp <;> omega))
      refine tr_ecall (args := [.sl 2 1 0 bn, int pI, .sl 4 1 0 1]) (v := .sl 5 1 0 m) (H1 := [.cells [int tn, .sl 2 1 0 bn, .sl 3 2 0 pn, int tk], .cells [int 0, .val (.slice none 0 0), .val (.slice none 0 0), int 0], .dead, .arr 2 ep, .dead, .arr 1 ea]) rfl rfl rfl enters43 (ACall.at [2, 4] P43c (by decide) (by simp) (by show _ = [AObj.arr 1 (AV.subL _ eb), AObj.arr 1 _]; rw [subL_closed _ hceb]; rfl) rfl rfl (by show [_, _, _, _, _, AObj.arr 1 (AV.subL _ ea)] = _; rw [subL_closed _ hcal]; rfl)) ?_
      refine tr_go hX (by conv => lhs; cbv) ?_ ?_
      · first | exact trivial | (simp only [Cd.ok, ee]; and_intros <;> first | omega | rfl | (simp <;> omega))
      refine tr_nil ⟨by simp [effLab], ?_, ?_⟩
      · simp only [LooksP, lookAll, List.append, List.cons_append, List.nil_append, List.append_nil]; and_intros <;> first | trivial | (intro hp; first | rfl | exact absurd (show false = true from hp) Bool.false_ne_true)
      exact (ent_sub [.to 0, .to 1, .gone, .to 3, .gone, .to 2] [some 0, some 1, some 5, some 3] ⟨⟨by simp, rfl⟩, ⟨by simp, rfl⟩, trivial, ⟨by simp, rfl⟩, trivial, ⟨by simp, rfl⟩, trivial⟩ ⟨osrc_cells (b := 0) rfl rfl rfl ⟨.refl _, .refl _, .refl _, .refl _, trivial⟩, osrc_cells (b := 1) rfl rfl rfl ⟨.refl _, .refl _, .refl _, .refl _, trivial⟩, osrc_arr (b := 5) rfl rfl rfl rfl hcal, osrc_arr (b := 3) rfl rfl rfl rfl hcep, trivial⟩ ⟨.refl _, .refl _, trivial⟩)
  · have hb : iLt tn n = false := by simp [ee]; omega
    have hnt : n = tn := by omega
    refine go rfl hX 1 (by conv => lhs; cbv; try simp only [hb]; cbv; try simp only [hb]; cbv; try simp only [hb]; cbv; try simp only [hb]; cbv) ?_ ?_
    · first | exact trivial | (simp only [Cd.ok, ee]; and_intros <;> first | omega | rfl | (simp <;> omega))
    have hae := hae hnt
    have ha0 : iAdd .i64 tn 1 = tn + 1 := by simp only [ee]; exact wrap64 (by omega) (by omega)
    generalize hcR : collF (tn + 1) bey = cR at *
    subst hae
    dsimp only
    rw [hep]
    refine on_loopP (ι := List Int × List Int × Int × Nat × Nat)
      (fun p => ([(2, .ptr 1 0), (4, .ptr 0 0)], [.cells [int 0, .val (.slice none 0 0), .val (.slice none 0 0), int 0], .cells [int p.2.2.1, .sl 2 1 p.2.2.2.1 p.2.2.2.2, .sl 3 2 0 pn, int tk], .arr 1 eb, .arr 2 ep]))
      (fun p => bey = p.1 ++ p.2.1 ∧ p.2.2.2.1 = p.1.length ∧ p.2.2.2.2 = p.2.1.length ∧ cR = collF p.2.2.1 p.2.1 ∧ tn + 1 ≤ p.2.2.1 ∧ p.2.2.1 ≤ tn + 1 + p.2.2.2.1) (fun p => p.2.1.length) ([], bey, tn + 1, 0, bn) ⟨rfl, rfl, hbn.symm, hcR.symm, by simp, by simp⟩
      (ent_sub [.to 1, .to 0, .to 2, .to 3] [some 1, some 0, some 2, some 3] ⟨⟨by simp, rfl⟩, ⟨by simp, rfl⟩, ⟨by simp, rfl⟩, ⟨by simp, rfl⟩, trivial⟩ ⟨osrc_cells (b := 1) rfl rfl rfl ⟨.refl _, .refl _, .refl _, .refl _, trivial⟩, osrc_cells (b := 0) rfl rfl rfl ⟨.of (congrArg int ha0), .refl _, .refl _, .refl _, trivial⟩, osrc_arr (b := 2) rfl rfl rfl rfl hceb, osrc_arr (b := 3) rfl rfl rfl rfl hcep, trivial⟩ ⟨.refl _, .refl _, trivial⟩) ?_
    rintro ⟨d2, r2, nx, k, m⟩ ⟨j1, hk, hm, hco, hx1, hx2⟩
    dsimp only at j1 hk hm hco hx1 hx2 ⊢
    have hsplit : eb.drop k = mapE int r2 := by rw [← heb, j1, mapE_eq, List.map_append, hk, ← List.length_map (f := int), List.drop_left, ← mapE_eq]
    have hkm : k + m = eb.length := by rw [hbl, ← hbn, j1, List.length_append, hk, hm]
    cases r2 with
    | nil =>
      have hm0 : m = 0 := by simpa using hm
      have hb2 : iLt 0 (iOf m) = false := by simp [ee]; omega
      subst hm0
      rw [hco, collF]
      have hix : idxN k 0 = k := by simp [ee]
      have hatu : atN eb k = .undef := by
        simp only [ee]
        rw [List.getD_eq_getElem?_getD, List.getElem?_eq_none (by omega)]; rfl
      refine go rfl hX 0 (by conv => lhs; cbv; try simp only [hb2, hix, hatu]; cbv; try simp only [hb2, hix, hatu]; cbv; try simp only [hb2, hix, hatu]; cbv; try simp only [hb2, hix, hatu]; cbv) ?_ ?_
      · first | exact trivial | (simp only [Cd.ok, ee]; and_intros <;> first | omega | rfl | (simp <;> omega))
      refine tr_drawB rfl (by conv => lhs; cbv) rfl ?_
      refine tr_go hX (by conv => lhs; cbv; simp only [hb2, hix, hatu]; cbv) ?_ ?_
      · first | exact trivial | (simp only [Cd.ok, ee]; and_intros <;> first | omega | rfl | (simp <;> omega))
      refine tr_skip rfl ?_
      refine tr_skip rfl ?_
      refine tr_skip rfl ?_
      refine tr_skip rfl ?_
      refine tr_skip rfl ?_
      refine tr_skip rfl ?_
      refine tr_skip rfl ?_
      refine tr_go hX (by conv => lhs; cbv) ?_ ?_
      · first | exact trivial | (simp only [Cd.ok, ee]; and_intros <;> first | omega | rfl | (simp <;> omega))
      refine tr_nil ⟨rfl, by simp [LooksL, lookAll], ?_⟩
      refine go rfl hX 60 (by conv => lhs; cbv) ?_ ?_
      · first | exact trivial | (simp only [Cd.ok, ee]; and_intros <;> first | omega | rfl | (simp <;> omega))
      refine loopP_exit ?_
      refine go rfl hX 60 (by conv => lhs; cbv) ?_ ?_
      · first | exact trivial | (simp only [Cd.ok, ee]; and_intros <;> first | omega | rfl | (simp <;> omega))
      refine fn_ret rfl rfl ?_
      exact ⟨[.gone, .gone, .isl 1 eb, .isl 2 ep], ⟨trivial, trivial, ⟨eb, rfl, (subL_closed _ hceb).symm⟩, ⟨ep, rfl, (subL_closed _ hcep).symm⟩, trivial⟩, .agg' ⟨.refl _, .of (sub_part rfl (Nat.le_of_eq hkm) (by simp [mapE_eq])), .of (sub_whole rfl hpl2.symm), .refl _, trivial⟩⟩
    | cons b r2 =>
      have hm0 : m = r2.length + 1 := by simpa using hm
      have hb2 : iLt 0 (iOf m) = true := by simp [ee]; omega
      have hix : idxN k 0 = k := by simp [ee]
      have hat2 : atN eb k = int b := by
        simp only [ee]
        have := congrArg (fun l => l[0]?) hsplit
        simp [mapE_eq] at this
        rw [List.getD_eq_getElem?_getD, this]; rfl
      have hand : bAnd true true = true := by simp [ee]
      have ha1 : iAdd .i64 nx 1 = nx + 1 := by simp only [ee]; exact wrap64 (by omega) (by omega)
      have hs1 : idxN k 1 = k + 1 := by simp [ee]
      by_cases h4 : b = nx
      · have hb4 : iEq b nx = true := by simp [ee]; exact h4
        refine go rfl hX 0 (by conv => lhs; cbv; try simp only [hb2, hix, hat2, hb4, hand, ha1, hs1]; cbv; try simp only [hb2, hix, hat2, hb4, hand, ha1, hs1]; cbv; try simp only [hb2, hix, hat2, hb4, hand, ha1, hs1]; cbv; try simp only [hb2, hix, hat2, hb4, hand, ha1, hs1]; cbv) ?_ ?_
        · first | exact trivial | (simp only [Cd.ok, ee]; and_intros <;> first | omega | rfl | (simp <;> omega))
        refine go rfl hX 60 (by conv => lhs; cbv) ?_ ?_
        · first | exact trivial | (simp only [Cd.ok, ee]; and_intros <;> first | omega | rfl | (simp <;> omega))
        refine tr_drawB rfl (by conv => lhs; cbv) rfl ?_
        refine tr_go hX (by conv => lhs; cbv) ?_ ?_
        · first | exact trivial | (simp only [Cd.ok, ee]; and_intros <;> first | omega | rfl | (simp <;> omega))
        refine tr_nil ⟨rfl, ?_, ?_⟩
        · simp only [LooksL, lookAll, List.append, List.cons_append, List.nil_append, List.append_nil]; and_intros <;> first | trivial | (intro hp; first | rfl | exact absurd (show false = true from hp) Bool.false_ne_true)
        refine go rfl hX 60 (by conv => lhs; cbv) ?_ ?_
        · first | exact trivial | (simp only [Cd.ok, ee]; and_intros <;> first | omega | rfl | (simp <;> omega))
        refine loopP_next (d2 ++ [b], r2, nx + 1, k + 1, r2.length) ⟨by simp [j1], by simp [hk], rfl, by rw [hco, collF, if_pos h4], by show tn + 1 ≤ nx + 1; omega, by show nx + 1 ≤ tn + 1 + ((k + 1 : Nat) : Int); omega⟩ (by simp) (ent_sub [.to 0, .to 1, .to 2, .to 3] [some 0, some 1, some 2, some 3] ⟨⟨by simp, rfl⟩, ⟨by simp, rfl⟩, ⟨by simp, rfl⟩, ⟨by simp, rfl⟩, trivial⟩ ⟨osrc_cells (b := 0) rfl rfl rfl ⟨.refl _, .refl _, .refl _, .refl _, trivial⟩, osrc_cells (b := 1) rfl rfl rfl ⟨.of (congrArg int ha1), .of (by subst hm0; simp only [ee]; rfl), .refl _, .refl _, trivial⟩, osrc_arr rfl rfl rfl rfl hceb, osrc_arr rfl rfl rfl rfl hcep, trivial⟩ ⟨.refl _, .refl _, trivial⟩)
      · have hb4 : iEq b nx = false := by simp [ee]; exact h4
        have hcol : collF nx (b :: r2) = (nx, b :: r2) := by rw [collF, if_neg h4]
        rw [hco, hcol]
        dsimp only
        have htk : (eb.drop k).take m = mapE int (b :: r2) := by
          rw [hsplit]; exact List.take_of_length_le (by rw [mapE_len]; omega)
        have hkm2 : k + m ≤ eb.length := by omega
        refine go rfl hX 0 (by conv => lhs; cbv; try simp only [hb2, hix, hat2, hb4, hand, ha1, hs1]; cbv; try simp only [hb2, hix, hat2, hb4, hand, ha1, hs1]; cbv; try simp only [hb2, hix, hat2, hb4, hand, ha1, hs1]; cbv; try simp only [hb2, hix, hat2, hb4, hand, ha1, hs1]; cbv) ?_ ?_
        · first | exact trivial | (simp only [Cd.ok, ee]; and_intros <;> first | omega | rfl | (simp <;> omega))
        refine on_cond rfl (fun c1 => ?_) (fun c1 => ?_)
        ·
          simp [ee, decide_eq_true_eq, decide_eq_false_iff_not, Bool.and_eq_true, Bool.or_eq_true, Bool.not_eq_true', Bool.not_eq_false', Bool.and_eq_false_iff, Bool.or_eq_false_iff, bne_iff_ne, beq_iff_eq, beq_eq_false_iff_ne, bne_eq_false_iff_eq, ne_eq, Int.not_lt, Int.not_le, Decidable.not_not] at c1
        ·
          simp [ee, decide_eq_true_eq, decide_eq_false_iff_not, Bool.and_eq_true, Bool.or_eq_true, Bool.not_eq_true', Bool.not_eq_false', Bool.and_eq_false_iff, Bool.or_eq_false_iff, bne_iff_ne, beq_iff_eq, beq_eq_false_iff_ne, bne_eq_false_iff_eq, ne_eq, Int.not_lt, Int.not_le, Decidable.not_not] at c1
          refine go rfl hX 60 (by conv => lhs; cbv) ?_ ?_
          · first | exact trivial | (simp only [Cd.ok, ee]; and_intros <;> first | omega | rfl | (simp <;> omega))
          refine loopP_exit ?_
          refine go rfl hX 60 (by conv => lhs; cbv) ?_ ?_
          · first | exact trivial | (simp only [Cd.ok, ee]; and_intros <;> first | omega | rfl | (simp <;> omega))
          refine fn_ret rfl rfl ?_
          exact ⟨[.gone, .gone, .isl 1 eb, .isl 2 ep], ⟨trivial, trivial, ⟨eb, rfl, (subL_closed _ hceb).symm⟩, ⟨ep, rfl, (subL_closed _ hcep).symm⟩, trivial⟩, .agg' ⟨.refl _, .of (sub_part rfl hkm2 htk), .of (sub_whole rfl hpl2.symm), .refl _, trivial⟩⟩
end Go.Am
end
section
set_option linter.unusedVariables false
set_option linter.unusedSimpArgs false
set_option maxRecDepth 20000
namespace Go.Am
open Go.Proofs

set_option maxHeartbeats 1000000 in
theorem P12 (t : Trk) (n : Int) (hf : t.Fine) (hpl : t.pts.length < 500000000000) : PCall EE 12 [t.enc, int n] (.tup [(recvT t n).1.enc, .val (.bool (recvT t n).2.1), int (recvT t n).2.2]) := by
  have P16c := P15 t hf
  have P35c := fun h : checkT t = 0 => P31 t n hf h
  have P36c := fun (h : checkT t = 0) (h2 : contF t n = false) (h3 : 0 ≤ n) => P34 t n hf h h2 h3 hpl
  have P32c := fun h : checkT t = 0 => P32 t.bey (by have := check_ok h; omega)
  have P33c := P33 t.pts hpl
  have hbl : (mapE int t.bey).length = t.bey.length := mapE_len _ _
  have hpl2 : (mapE Pt.enc t.pts).length = t.pts.length := mapE_len _ _
  have hceb : AV.closedL (mapE int t.bey) = true := closed_mapE int_closed _
  have hcep : AV.closedL (mapE Pt.enc t.pts) = true := closed_mapE Pt.closed _
  have hcb := closedI t.bey
  have hcp := closedP t.pts
  have hcl := Trk.closed t
  have hca := Trk.closed (addT t n)
  unfold recvT
  have he1 : t.enc = .agg [int t.next, .isl 1 (mapE int t.bey), .isl 2 (mapE Pt.enc t.pts), int t.mark] := rfl
  have he2 : (addT t n).enc = .agg [int (addT t n).next, .isl 1 (mapE int (addT t n).bey), .isl 2 (mapE Pt.enc (addT t n).pts), int (addT t n).mark] := rfl
  have hll : (mapE int (addT t n).bey).length = (addT t n).bey.length := mapE_len _ _
  generalize checkT t = ck at *
  generalize contF t n = cf at *
  by_cases h0 : ck = 0
  rotate_left
  · rw [if_pos h0]
    clear P36c P35c P32c P33c
    rw [he1] at P16c hcl ⊢
    clear he1 he2 hca hll
    generalize mapE int t.bey = eb at *
    generalize mapE Pt.enc t.pts = ep at *
    generalize t.next = tn at *
    generalize t.mark = tk at *
    refine words fun iLt iLe iEq iNe iAdd iSub iMul iQuo iRem iShr iNeg iCvt iMax iMin bNot bEq bNe bAnd bOr sEq sNe sLen sCat sCut sAt lenA lenN iOf natOf atA atN cutA partA dropA catA setA repA putA idxN addN subN minN lenCut hX e_iLt e_iLe e_iEq e_iNe e_iAdd e_iSub e_iMul e_iQuo e_iRem e_iShr e_iNeg e_iCvt e_iMax e_iMin e_bNot e_bEq e_bNe e_bAnd e_bOr e_sEq e_sNe e_sLen e_sCat e_sCut e_sAt e_lenA e_lenN e_iOf e_natOf e_atA e_atN e_cutA e_partA e_dropA e_catA e_setA e_repA e_putA e_idxN e_addN e_subN e_minN e_lenCut ee => ?_
    have hb : iNe ck 0 = true := by simp [ee]; exact h0
    refine fn_body (fn := Try.f12) (n := 43) (ac := Tryc12) (rvs := [.cell 4 4 true, .t 5, .t 6]) rfl (by decide) Tryp12 rfl rfl rfl ?_
    refine go rfl hX 60 (by conv => lhs; cbv) ?_ ?_
    · first | exact trivial | (simp only [Cd.ok, ee]; and_intros <;> first | omega | rfl | (simp <;> omega))
    refine on_pcall (args := [AV.agg [int tn, AV.isl 1 eb, AV.isl 2 ep, int tk]]) rfl rfl rfl P16c (by simp [AV.closedL, closed_v, closed_agg, hcl]) ?_
    refine go rfl hX 0 (by conv => lhs; cbv; try simp only [hb]; cbv; try simp only [hb]; cbv; try simp only [hb]; cbv; try simp only [hb]; cbv) ?_ ?_
    · first | exact trivial | (simp only [Cd.ok, ee]; and_intros <;> first | omega | rfl | (simp <;> omega))
    refine go rfl hX 60 (by conv => lhs; cbv) ?_ ?_
    · first | exact trivial | (simp only [Cd.ok, ee]; and_intros <;> first | omega | rfl | (simp <;> omega))
    refine fn_ret rfl rfl ?_
    exact fz_recv0 _ _
  rw [if_neg (by simp [h0])]
  replace P36c := P36c h0
  replace P35c := P35c h0
  replace P32c := P32c h0
  subst h0
  by_cases h1 : n < 0 ∨ 1099511627776 < n
  · rw [if_pos h1]
    clear P36c
    rw [he1] at P16c P35c hcl ⊢
    clear he1 he2 hca hll
    generalize mapE int t.bey = eb at *
    generalize mapE Pt.enc t.pts = ep at *
    generalize t.next = tn at *
    generalize t.mark = tk at *
    refine words fun iLt iLe iEq iNe iAdd iSub iMul iQuo iRem iShr iNeg iCvt iMax iMin bNot bEq bNe bAnd bOr sEq sNe sLen sCat sCut sAt lenA lenN iOf natOf atA atN cutA partA dropA catA setA repA putA idxN addN subN minN lenCut hX e_iLt e_iLe e_iEq e_iNe e_iAdd e_iSub e_iMul e_iQuo e_iRem e_iShr e_iNeg e_iCvt e_iMax e_iMin e_bNot e_bEq e_bNe e_bAnd e_bOr e_sEq e_sNe e_sLen e_sCat e_sCut e_sAt e_lenA e_lenN e_iOf e_natOf e_atA e_atN e_cutA e_partA e_dropA e_catA e_setA e_repA e_putA e_idxN e_addN e_subN e_minN e_lenCut ee => ?_
    have hb0 : iNe 0 0 = false := by simp [ee]
    have hb : bOr (iLt n 0) (iLt 1099511627776 n) = true := by simp [ee]; omega
    refine fn_body (fn := Try.f12) (n := 43) (ac := Tryc12) (rvs := [.cell 4 4 true, .t 5, .t 6]) rfl (by decide) Tryp12 rfl rfl rfl ?_
    refine go rfl hX 60 (by conv => lhs; cbv) ?_ ?_
    · first | exact trivial | (simp only [Cd.ok, ee]; and_intros <;> first | omega | rfl | (simp <;> omega))
    refine on_pcall (args := [AV.agg [int tn, AV.isl 1 eb, AV.isl 2 ep, int tk]]) rfl rfl rfl P16c (by simp [AV.closedL, closed_v, closed_agg, hcl]) ?_
    refine go rfl hX 0 (by conv => lhs; cbv; try simp only [hb0, hb]; cbv; try simp only [hb0, hb]; cbv; try simp only [hb0, hb]; cbv; try simp only [hb0, hb]; cbv) ?_ ?_
    · first | exact trivial | (simp only [Cd.ok, ee]; and_intros <;> first | omega | rfl | (simp <;> omega))
    refine go rfl hX 1 (by conv => lhs; cbv; try simp only [hb0, hb]; cbv; try simp only [hb0, hb]; cbv; try simp only [hb0, hb]; cbv; try simp only [hb0, hb]; cbv) ?_ ?_
    · first | exact trivial | (simp only [Cd.ok, ee]; and_intros <;> first | omega | rfl | (simp <;> omega))
    refine go rfl hX 60 (by conv => lhs; cbv) ?_ ?_
    · first | exact trivial | (simp only [Cd.ok, ee]; and_intros <;> first | omega | rfl | (simp <;> omega))
    refine fn_ret rfl rfl ?_
    exact fz_recv0 _ _
  rw [if_neg h1]
  cases cf with
  | true =>
    rw [if_pos rfl]
    clear P36c
    rw [he1] at P16c P35c hcl ⊢
    clear he1 he2 hca hll
    have hct : ∀ b k, (AV.tup [AV.agg [int t.next, .isl 1 (mapE int t.bey), .isl 2 (mapE Pt.enc t.pts), int t.mark], .val (.bool b), int k]).closed = true := by
      intro b k; show AV.closedL [_, _, _] = true; simp only [AV.closedL, hcl, closed_v]; rfl
    generalize hbn : t.bey.length = bn at *
    generalize hpn : t.pts.length = pn at *
    generalize mapE int t.bey = eb at *
    generalize mapE Pt.enc t.pts = ep at *
    generalize t.next = tn at *
    generalize t.mark = tk at *
    refine words fun iLt iLe iEq iNe iAdd iSub iMul iQuo iRem iShr iNeg iCvt iMax iMin bNot bEq bNe bAnd bOr sEq sNe sLen sCat sCut sAt lenA lenN iOf natOf atA atN cutA partA dropA catA setA repA putA idxN addN subN minN lenCut hX e_iLt e_iLe e_iEq e_iNe e_iAdd e_iSub e_iMul e_iQuo e_iRem e_iShr e_iNeg e_iCvt e_iMax e_iMin e_bNot e_bEq e_bNe e_bAnd e_bOr e_sEq e_sNe e_sLen e_sCat e_sCut e_sAt e_lenA e_lenN e_iOf e_natOf e_atA e_atN e_cutA e_partA e_dropA e_catA e_setA e_repA e_putA e_idxN e_addN e_subN e_minN e_lenCut ee => ?_
    have hb0 : iNe 0 0 = false := by simp [ee]
    have hb : bOr (iLt n 0) (iLt 1099511627776 n) = false := by simp [ee]; omega
    refine fn_body (fn := Try.f12) (n := 43) (ac := Tryc12) (rvs := [.cell 4 4 true, .t 5, .t 6]) rfl (by decide) Tryp12 rfl rfl rfl ?_
    refine go rfl hX 60 (by conv => lhs; cbv) ?_ ?_
    · first | exact trivial | (simp only [Cd.ok, ee]; and_intros <;> first | omega | rfl | (simp <;> omega))
    refine on_pcall (args := [AV.agg [int tn, AV.isl 1 eb, AV.isl 2 ep, int tk]]) rfl rfl rfl P16c (by simp [AV.closedL, closed_v, closed_agg, hcl]) ?_
    refine go rfl hX 0 (by conv => lhs; cbv; try simp only [hb0, hb]; cbv; try simp only [hb0, hb]; cbv; try simp only [hb0, hb]; cbv; try simp only [hb0, hb]; cbv) ?_ ?_
    · first | exact trivial | (simp only [Cd.ok, ee]; and_intros <;> first | omega | rfl | (simp <;> omega))
    refine go rfl hX 1 (by conv => lhs; cbv; try simp only [hb0, hb]; cbv; try simp only [hb0, hb]; cbv; try simp only [hb0, hb]; cbv; try simp only [hb0, hb]; cbv) ?_ ?_
    · first | exact trivial | (simp only [Cd.ok, ee]; and_intros <;> first | omega | rfl | (simp <;> omega))
    refine go rfl hX 60 (by conv => lhs; cbv) ?_ ?_
    · first | exact trivial | (simp only [Cd.ok, ee]; and_intros <;> first | omega | rfl | (simp <;> omega))
    refine on_pcall (args := [AV.agg [int tn, AV.isl 1 eb, AV.isl 2 ep, int tk], int n]) rfl rfl rfl P35c (by simp [AV.closedL, closed_v, closed_agg, hcl]) ?_
    refine go rfl hX 60 (by conv => lhs; cbv) ?_ ?_
    · first | exact trivial | (simp only [Cd.ok, ee]; and_intros <;> first | omega | rfl | (simp <;> omega))
    refine tr_drawB rfl (by conv => lhs; cbv) rfl ?_
    refine tr_go hX (by conv => lhs; cbv) ?_ ?_
    · first | exact trivial | (simp only [Cd.ok, ee]; and_intros <;> first | omega | rfl | (simp <;> omega))
    refine tr_ocall (args := [.isl 1 eb]) (v' := .sl 2 1 0 bn) (H' := [.arr 1 eb]) rfl rfl rfl P32c (by simp [AV.closedL, hcb]) rfl (by simp [AObj.sub, subL_closed _ hceb]) ?_
    refine tr_go hX (by conv => lhs; cbv) ?_ ?_
    · first | exact trivial | (simp only [Cd.ok, ee]; and_intros <;> first | omega | rfl | (simp <;> omega))
    refine tr_ocall (args := [.isl 2 ep]) (v' := .sl 3 2 0 pn) (H' := [.arr 2 ep]) rfl rfl rfl P33c (by simp [AV.closedL, hcp]) rfl (by simp [AObj.sub, subL_closed _ hcep]) ?_
    refine tr_go hX (by conv => lhs; cbv) ?_ ?_
    · first | exact trivial | (simp only [Cd.ok, ee]; and_intros <;> first | omega | rfl | (simp <;> omega))
    refine tr_nil ⟨rfl, ?_, ?_⟩
    · simp only [LooksL, lookAll, List.append, List.cons_append, List.nil_append, List.append_nil]; and_intros <;> first | trivial | (intro hp; first | rfl | exact absurd (show false = true from hp) Bool.false_ne_true)
    refine go rfl hX 60 (by conv => lhs; cbv) ?_ ?_
    · first | exact trivial | (simp only [Cd.ok, ee]; and_intros <;> first | omega | rfl | (simp <;> omega))
    refine fn_ret rfl rfl ?_
    exact ⟨[.gone, .gone, .isl 1 eb, .isl 2 ep], ⟨trivial, trivial, ⟨eb, rfl, (subL_closed _ hceb).symm⟩, ⟨ep, rfl, (subL_closed _ hcep).symm⟩, trivial⟩, .tup' ⟨.agg' ⟨.refl _, .of (sub_whole rfl hbl.symm), .of (sub_whole rfl hpl2.symm), .refl _, trivial⟩, .refl _, .refl _, trivial⟩⟩
  | false =>
    rw [if_neg (by simp)]
    replace P36c := P36c rfl (by omega)
    rw [he1] at P16c P35c hcl P36c ⊢
    rw [he2] at P36c hca
    clear he1
    have hct : ∀ b k, (AV.tup [AV.agg [int (addT t n).next, .isl 1 (mapE int (addT t n).bey), .isl 2 (mapE Pt.enc (addT t n).pts), int (addT t n).mark], .val (.bool b), int k]).closed = true := by
      intro b k; show AV.closedL [_, _, _] = true; simp only [AV.closedL, hca, closed_v]; rfl
    generalize mapE int t.bey = eb at *
    generalize mapE Pt.enc t.pts = ep at *
    generalize t.next = tn at *
    generalize t.mark = tk at *
    generalize hab : mapE int (addT t n).bey = ab at *
    generalize mapE Pt.enc (addT t n).pts = ap at *
    generalize (addT t n).next = an at *
    generalize (addT t n).mark = ak at *
    refine words fun iLt iLe iEq iNe iAdd iSub iMul iQuo iRem iShr iNeg iCvt iMax iMin bNot bEq bNe bAnd bOr sEq sNe sLen sCat sCut sAt lenA lenN iOf natOf atA atN cutA partA dropA catA setA repA putA idxN addN subN minN lenCut hX e_iLt e_iLe e_iEq e_iNe e_iAdd e_iSub e_iMul e_iQuo e_iRem e_iShr e_iNeg e_iCvt e_iMax e_iMin e_bNot e_bEq e_bNe e_bAnd e_bOr e_sEq e_sNe e_sLen e_sCat e_sCut e_sAt e_lenA e_lenN e_iOf e_natOf e_atA e_atN e_cutA e_partA e_dropA e_catA e_setA e_repA e_putA e_idxN e_addN e_subN e_minN e_lenCut ee => ?_
    have hb0 : iNe 0 0 = false := by simp [ee]
    have hb : bOr (iLt n 0) (iLt 1099511627776 n) = false := by simp [ee]; omega
    refine fn_body (fn := Try.f12) (n := 43) (ac := Tryc12) (rvs := [.cell 4 4 true, .t 5, .t 6]) rfl (by decide) Tryp12 rfl rfl rfl ?_
    by_cases h2 : 256 < (addT t n).bey.length
    · rw [if_pos h2]
      have hb2 : iLt 256 (lenA ab) = true := by simp [ee]; omega
      refine go rfl hX 60 (by conv => lhs; cbv) ?_ ?_
      · first | exact trivial | (simp only [Cd.ok, ee]; and_intros <;> first | omega | rfl | (simp <;> omega))
      refine on_pcall (args := [AV.agg [int tn, AV.isl 1 eb, AV.isl 2 ep, int tk]]) rfl rfl rfl P16c (by simp [AV.closedL, closed_v, closed_agg, hcl]) ?_
      refine go rfl hX 0 (by conv => lhs; cbv; try simp only [hb0, hb, hb2]; cbv; try simp only [hb0, hb, hb2]; cbv; try simp only [hb0, hb, hb2]; cbv; try simp only [hb0, hb, hb2]; cbv) ?_ ?_
      · first | exact trivial | (simp only [Cd.ok, ee]; and_intros <;> first | omega | rfl | (simp <;> omega))
      refine go rfl hX 1 (by conv => lhs; cbv; try simp only [hb0, hb, hb2]; cbv; try simp only [hb0, hb, hb2]; cbv; try simp only [hb0, hb, hb2]; cbv; try simp only [hb0, hb, hb2]; cbv) ?_ ?_
      · first | exact trivial | (simp only [Cd.ok, ee]; and_intros <;> first | omega | rfl | (simp <;> omega))
      refine go rfl hX 60 (by conv => lhs; cbv) ?_ ?_
      · first | exact trivial | (simp only [Cd.ok, ee]; and_intros <;> first | omega | rfl | (simp <;> omega))
      refine on_pcall (args := [AV.agg [int tn, AV.isl 1 eb, AV.isl 2 ep, int tk], int n]) rfl rfl rfl P35c (by simp [AV.closedL, closed_v, closed_agg, hcl]) ?_
      refine go rfl hX 60 (by conv => lhs; cbv) ?_ ?_
      · first | exact trivial | (simp only [Cd.ok, ee]; and_intros <;> first | omega | rfl | (simp <;> omega))
      refine on_pcall (args := [AV.agg [int tn, AV.isl 1 eb, AV.isl 2 ep, int tk], int n]) rfl rfl rfl P36c (by simp [AV.closedL, closed_v, closed_agg, hcl]) ?_
      refine go rfl hX 0 (by conv => lhs; cbv; try simp only [hb0, hb, hb2]; cbv; try simp only [hb0, hb, hb2]; cbv; try simp only [hb0, hb, hb2]; cbv; try simp only [hb0, hb, hb2]; cbv) ?_ ?_
      · first | exact trivial | (simp only [Cd.ok, ee]; and_intros <;> first | omega | rfl | (simp <;> omega))
      refine go rfl hX 60 (by conv => lhs; cbv) ?_ ?_
      · first | exact trivial | (simp only [Cd.ok, ee]; and_intros <;> first | omega | rfl | (simp <;> omega))
      refine fn_ret rfl rfl ?_
      exact fz_recv0 _ _
    · rw [if_neg h2]
      dsimp only
      rw [he2]
      have hb2 : iLt 256 (lenA ab) = false := by simp [ee]; omega
      refine go rfl hX 60 (by conv => lhs; cbv) ?_ ?_
      · first | exact trivial | (simp only [Cd.ok, ee]; and_intros <;> first | omega | rfl | (simp <;> omega))
      refine on_pcall (args := [AV.agg [int tn, AV.isl 1 eb, AV.isl 2 ep, int tk]]) rfl rfl rfl P16c (by simp [AV.closedL, closed_v, closed_agg, hcl]) ?_
      refine go rfl hX 0 (by conv => lhs; cbv; try simp only [hb0, hb, hb2]; cbv; try simp only [hb0, hb, hb2]; cbv; try simp only [hb0, hb, hb2]; cbv; try simp only [hb0, hb, hb2]; cbv) ?_ ?_
      · first | exact trivial | (simp only [Cd.ok, ee]; and_intros <;> first | omega | rfl | (simp <;> omega))
      refine go rfl hX 1 (by conv => lhs; cbv; try simp only [hb0, hb, hb2]; cbv; try simp only [hb0, hb, hb2]; cbv; try simp only [hb0, hb, hb2]; cbv; try simp only [hb0, hb, hb2]; cbv) ?_ ?_
      · first | exact trivial | (simp only [Cd.ok, ee]; and_intros <;> first | omega | rfl | (simp <;> omega))
      refine go rfl hX 60 (by conv => lhs; cbv) ?_ ?_
      · first | exact trivial | (simp only [Cd.ok, ee]; and_intros <;> first | omega | rfl | (simp <;> omega))
      refine on_pcall (args := [AV.agg [int tn, AV.isl 1 eb, AV.isl 2 ep, int tk], int n]) rfl rfl rfl P35c (by simp [AV.closedL, closed_v, closed_agg, hcl]) ?_
      refine go rfl hX 60 (by conv => lhs; cbv) ?_ ?_
      · first | exact trivial | (simp only [Cd.ok, ee]; and_intros <;> first | omega | rfl | (simp <;> omega))
      refine on_pcall (args := [AV.agg [int tn, AV.isl 1 eb, AV.isl 2 ep, int tk], int n]) rfl rfl rfl P36c (by simp [AV.closedL, closed_v, closed_agg, hcl]) ?_
      refine go rfl hX 0 (by conv => lhs; cbv; try simp only [hb0, hb, hb2]; cbv; try simp only [hb0, hb, hb2]; cbv; try simp only [hb0, hb, hb2]; cbv; try simp only [hb0, hb, hb2]; cbv) ?_ ?_
      · first | exact trivial | (simp only [Cd.ok, ee]; and_intros <;> first | omega | rfl | (simp <;> omega))
      refine go rfl hX 60 (by conv => lhs; cbv) ?_ ?_
      · first | exact trivial | (simp only [Cd.ok, ee]; and_intros <;> first | omega | rfl | (simp <;> omega))
      refine fn_ret rfl rfl ?_
      exact fz_cl rfl (hct _ _)
end Go.Am
end
section
set_option linter.unusedVariables false
set_option linter.unusedSimpArgs false
set_option maxRecDepth 20000
namespace Go.Am
open Go.Proofs

theorem on_gcallv {E : Env} {n N : Nat} {Q : AExit → AFr → AHeap → Prop} {k : List KI} {F : AFr} {H : AHeap} {o : AOper} {l : List AOper} {x : Opd} {xs : List Opd} {fv : AV} {args : List AV} {R : AV → AHeap → Prop} {d : Nat} {b : Bool} (hg : o.guard = some (d, b)) (hd : F.get d = .val (.bool b)) (ho : o.op = .callv x xs) (hf : x.ev E.G F = fv) (ha : xs.map (·.ev E.G F) = args) (hc : ACallV E fv args H R)
    (h : ∀ v H1, R v H1 → Holds E n N Q (.ops l) k (F.set o.dst v) H1) : Holds E n N Q (.ops (o :: l)) k F H :=
  aops_callv (by rw [hg]; simp only [wantA, hd]; cases b <;> rfl) ho hf ha hc h
theorem closed2 {v u : AV} (h : v.closed = true) (h2 : u.closed = true) : AV.closedL [v, u] = true := by simp [AV.closedL, h, h2]
noncomputable def Trk.cs (t : Trk) : List AV := [int t.next, .isl 1 (mapE int t.bey), .isl 2 (mapE Pt.enc t.pts), int t.mark]
theorem Trk.cs_closed (t : Trk) : AV.closedL t.cs = true := Trk.closed t
theorem mapP_nil : mapE Pt.enc [] = [] := by simp [mapE_eq]

theorem P38 (t : Trk) : PCall EE 38 [t.enc] (.fn 45 [.iptr t.cs]) := by
  refine words fun iLt iLe iEq iNe iAdd iSub iMul iQuo iRem iShr iNeg iCvt iMax iMin bNot bEq bNe bAnd bOr sEq sNe sLen sCat sCut sAt lenA lenN iOf natOf atA atN cutA partA dropA catA setA repA putA idxN addN subN minN lenCut hX e_iLt e_iLe e_iEq e_iNe e_iAdd e_iSub e_iMul e_iQuo e_iRem e_iShr e_iNeg e_iCvt e_iMax e_iMin e_bNot e_bEq e_bNe e_bAnd e_bOr e_sEq e_sNe e_sLen e_sCat e_sCut e_sAt e_lenA e_lenN e_iOf e_natOf e_atA e_atN e_cutA e_partA e_dropA e_catA e_setA e_repA e_putA e_idxN e_addN e_subN e_minN e_lenCut ee => ?_
  have hcl := t.cs_closed
  have hcb := closedI t.bey
  have hcp := closedP t.pts
  unfold Trk.enc
  unfold Trk.cs at *
  generalize mapE int t.bey = eb at *
  generalize mapE Pt.enc t.pts = ep at *
  generalize t.next = tn at *
  generalize t.mark = tk at *
  refine fn_body (fn := Try.f38) (n := 4) (ac := Tryc38) (rvs := [.t 2]) rfl (by decide) Tryp38 rfl rfl rfl ?_
  refine go rfl hX 0 (by conv => lhs; cbv) ?_ ?_
  · first | exact trivial | (simp only [Cd.ok, ee]; and_intros <;> first | omega | rfl | (simp <;> omega))
  refine fn_ret rfl rfl ⟨[.icells [int tn, .isl 1 eb, .isl 2 ep, int tk]], ⟨⟨_, rfl, ?_⟩, trivial⟩, .refl _⟩
  exact (subL_closed _ hcl).symm

theorem P45 (t : Trk) (hk : checkT t = 0) (A B C : List Pt → AObj) (Lp : AObj) (H0 : AHeap) (hN : H0.length = 3) (h0 : HEnt EE 3 2 H0 [A [], B [], Lp, C []])
    (hy : ∀ d c r, holesF t.next t.bey = d ++ c :: r → AYield EE 2 [c.enc] [A d, B d, Lp, C d] (fun v H' => v = .val (.bool true) ∧ HEnt EE 3 2 H' [A (d ++ [c]), B (d ++ [c]), Lp, C (d ++ [c])])) :
    ACall EE 45 [.yld 2, .iptr t.cs] H0 (fun _ H' => H' = [A (holesF t.next t.bey), B (holesF t.next t.bey), Lp, C (holesF t.next t.bey)]) := by
  have hok := check_ok hk
  have hall := ord_all _ _ hok.2.2.2
  refine words fun iLt iLe iEq iNe iAdd iSub iMul iQuo iRem iShr iNeg iCvt iMax iMin bNot bEq bNe bAnd bOr sEq sNe sLen sCat sCut sAt lenA lenN iOf natOf atA atN cutA partA dropA catA setA repA putA idxN addN subN minN lenCut hX e_iLt e_iLe e_iEq e_iNe e_iAdd e_iSub e_iMul e_iQuo e_iRem e_iShr e_iNeg e_iCvt e_iMax e_iMin e_bNot e_bEq e_bNe e_bAnd e_bOr e_sEq e_sNe e_sLen e_sCat e_sCut e_sAt e_lenA e_lenN e_iOf e_natOf e_atA e_atN e_cutA e_partA e_dropA e_catA e_setA e_repA e_putA e_idxN e_addN e_subN e_minN e_lenCut ee => ?_
  have hcl1 : (AV.iptr t.cs).closed = true := t.cs_closed
  have hcb := closedI t.bey
  unfold Trk.cs at *
  obtain ⟨tn, bey, pts, tk⟩ := t
  dsimp only at *
  generalize heb : mapE int bey = eb at *
  generalize mapE Pt.enc pts = ep at *
  have hbl : eb.length = bey.length := by rw [← heb, mapE_len]
  have hbt : bNot true = false := by rw [e_bNot]; rfl
  have hand : bAnd true false = false := by simp [ee]
  refine rcall_body (fn := Try.f45) (n := 30) (ac := Tryc45) (rvs := []) rfl Tryp45 rfl rfl rfl ?_
  rw [hN]
  refine on_ent (h0.ent (F' := [(0, .yld 2), (1, .iptr [int tn, .isl 1 eb, .isl 2 ep, int tk])]) ⟨.refl _, .cl hcl1, trivial⟩) ?_
  refine go rfl hX 0 (by conv => lhs; cbv) ?_ ?_
  · first | exact trivial | (simp only [Cd.ok, ee]; and_intros <;> first | omega | rfl | (simp <;> omega))
  refine on_loopP (ι := List Int × List Int × Int × Int × List Pt)
    (fun p => ([(11, int p.2.2.1), (10, int (lenA eb)), (9, .isl 1 eb), (3, int p.2.2.2.1), (0, .yld 2)], [A p.2.2.2.2, B p.2.2.2.2, Lp, C p.2.2.2.2]))
    (fun p => bey = p.1 ++ p.2.1 ∧ p.2.2.1 = p.1.length ∧ (0 ≤ p.2.2.2.1 ∧ p.2.2.2.1 ≤ 1099511627777) ∧ holesF tn bey = p.2.2.2.2 ++ holesF p.2.2.2.1 p.2.1) (fun p => p.2.1.length) ([], bey, 0, tn, []) ⟨rfl, rfl, ⟨hok.1, hok.2.1⟩, rfl⟩ (ent_fw ⟨.refl _, .refl _, .refl _, .refl _, .refl _, trivial⟩) ?_
  rintro ⟨d, r, i, f, x⟩ ⟨k1, hi, hf, h2⟩
  dsimp only at k1 hi hf h2 ⊢
  cases r with
  | nil =>
    have L1 := len_split k1
    try simp only [List.length_cons, List.length_nil] at L1
    have hc : iLt i (lenA eb) = false := lt_f e_iLt e_lenA (by omega)
    refine go rfl hX 1 (by conv => lhs; cbv; simp only [hc]; cbv) ?_ ?_
    · first | exact trivial | (simp only [Cd.ok, ee]; and_intros <;> first | omega | rfl | (simp <;> omega))
    refine loopP_exit ?_
    refine go rfl hX 0 (by conv => lhs; cbv) ?_ ?_
    · first | exact trivial | (simp only [Cd.ok, ee]; and_intros <;> first | omega | rfl | (simp <;> omega))
    simp only [holesF, List.append_nil] at h2
    exact o_norm (.refl _ _ _ _ _) rfl (by rw [h2])
  | cons n r =>
    have L1 := len_split k1
    try simp only [List.length_cons, List.length_nil] at L1
    have hc : iLt i (lenA eb) = true := lt_t e_iLt e_lenA (by omega)
    have hat := el_at e_atA heb k1 hi
    have hn := hall n (by rw [k1]; simp)
    have hi' : iAdd .i64 i 1 = ((d ++ [n] : List Int).length : Int) := by
      simp only [List.length_append, List.length_cons, List.length_nil]; exact inc_w e_iAdd hi (by omega)
    have hs1 : iSub .i64 n 1 = n - 1 := by simp only [ee]; exact wrap64 (by omega) (by omega)
    have ha1 : iAdd .i64 n 1 = n + 1 := by simp only [ee]; exact wrap64 (by omega) (by omega)
    have hf2 : 0 ≤ n + 1 ∧ n + 1 ≤ 1099511627777 := by omega
    rw [holesF] at h2
    by_cases h3 : f < n
    · rw [if_pos h3] at h2
      have hyc := hy x ⟨f, n - 1⟩ (holesF (n + 1) r) (by rw [h2]; simp)
      rw [← List.singleton_append, ← List.append_assoc] at h2
      simp only [List.singleton_append, List.append_nil] at h2
      have hb : iLt f n = true := by simp [ee]; omega
      generalize hxx : x ++ [(⟨f, n - 1⟩ : Pt)] = x2 at *
      dsimp only [Pt.enc] at hyc
      refine go rfl hX 0 (by conv => lhs; cbv; try simp only [hc, hat, hb, hs1, ha1]; cbv; try simp only [hc, hat, hb, hs1, ha1]; cbv; try simp only [hc, hat, hb, hs1, ha1]; cbv; try simp only [hc, hat, hb, hs1, ha1]; cbv) ?_ ?_
      · first | exact trivial | (simp only [Cd.ok, ee]; and_intros <;> first | omega | rfl | (simp <;> omega))
      refine go rfl hX 1 (by conv => lhs; cbv; try simp only [hc, hat, hb, hs1, ha1]; cbv; try simp only [hc, hat, hb, hs1, ha1]; cbv; try simp only [hc, hat, hb, hs1, ha1]; cbv; try simp only [hc, hat, hb, hs1, ha1]; cbv) ?_ ?_
      · first | exact trivial | (simp only [Cd.ok, ee]; and_intros <;> first | omega | rfl | (simp <;> omega))
      refine go rfl hX 5 (by conv => lhs; cbv; try simp only [hc, hat, hb, hs1, ha1]; cbv; try simp only [hc, hat, hb, hs1, ha1]; cbv; try simp only [hc, hat, hb, hs1, ha1]; cbv; try simp only [hc, hat, hb, hs1, ha1]; cbv) ?_ ?_
      · first | exact trivial | (simp only [Cd.ok, ee]; and_intros <;> first | omega | rfl | (simp <;> omega))
      refine on_gcallv rfl rfl rfl rfl rfl hyc ?_
      rintro v H1 ⟨rfl, he⟩
      refine on_entO (he.ent (F' := [(24, .val (.bool true)), (18, .val (.bool true)), (11, int i), (10, int (lenA eb)), (9, .isl 1 eb), (5, int n), (3, int f), (0, .yld 2)]) ⟨.refl _, .refl _, .refl _, .refl _, .cl hcb, .refl _, .refl _, .refl _, trivial⟩) ?_
      refine go rfl hX 1 (by conv => lhs; cbv; try simp only [hbt, ha1, hand]; cbv; try simp only [hbt, ha1, hand]; cbv; try simp only [hbt, ha1, hand]; cbv; try simp only [hbt, ha1, hand]; cbv) ?_ ?_
      · first | exact trivial | (simp only [Cd.ok, ee]; and_intros <;> first | omega | rfl | (simp <;> omega))
      refine loopP_next (d ++ [n], r, iAdd .i64 i 1, n + 1, x2) ⟨by simp [k1], hi', hf2, h2⟩ (by simp) (ent_fw ⟨.refl _, .refl _, .refl _, .refl _, .refl _, trivial⟩)
    · rw [if_neg h3, List.nil_append] at h2
      have hb : iLt f n = false := by simp [ee]; omega
      refine go rfl hX 0 (by conv => lhs; cbv; try simp only [hc, hat, hb, ha1]; cbv; try simp only [hc, hat, hb, ha1]; cbv; try simp only [hc, hat, hb, ha1]; cbv; try simp only [hc, hat, hb, ha1]; cbv) ?_ ?_
      · first | exact trivial | (simp only [Cd.ok, ee]; and_intros <;> first | omega | rfl | (simp <;> omega))
      refine go rfl hX 1 (by conv => lhs; cbv; try simp only [hc, hat, hb, ha1]; cbv; try simp only [hc, hat, hb, ha1]; cbv; try simp only [hc, hat, hb, ha1]; cbv; try simp only [hc, hat, hb, ha1]; cbv) ?_ ?_
      · first | exact trivial | (simp only [Cd.ok, ee]; and_intros <;> first | omega | rfl | (simp <;> omega))
      refine on_gskip rfl rfl ?_
      refine on_gskip rfl rfl ?_
      refine on_gskip rfl rfl ?_
      refine on_gskip rfl rfl ?_
      refine on_gskip rfl rfl ?_
      refine on_gskip rfl rfl ?_
      refine on_gskip rfl rfl ?_
      refine go rfl hX 1 (by conv => lhs; cbv; try simp only [ha1]; cbv; try simp only [ha1]; cbv; try simp only [ha1]; cbv; try simp only [ha1]; cbv) ?_ ?_
      · first | exact trivial | (simp only [Cd.ok, ee]; and_intros <;> first | omega | rfl | (simp <;> omega))
      refine loopP_next (d ++ [n], r, iAdd .i64 i 1, n + 1, x) ⟨by simp [k1], hi', hf2, h2⟩ (by simp) (ent_fw ⟨.refl _, .refl _, .refl _, .refl _, .refl _, trivial⟩)
theorem enters45 : Enters EE.P 45 := enters_of (fn := Try.f45) (n := 30) (ac := Tryc45) rfl (by decide) Tryp45

theorem holes_le : ∀ (l : List Int) (f : Int), (holesF f l).length ≤ l.length
  | [], f => by simp [holesF]
  | n :: r, f => by
    have := holes_le r (n + 1)
    unfold holesF
    split <;> simp <;> omega

set_option maxHeartbeats 1000000 in
theorem P44 (t : Trk) (hk : checkT t = 0) : PCall EE 44 [.val (.slice none 0 0), .fn 45 [.iptr t.cs]] (.isl 2 (mapE Pt.enc (holesF t.next t.bey))) := by
  have P45c := P45 t hk
  have hok := check_ok hk
  have hhl : (holesF t.next t.bey).length ≤ 256 := Nat.le_trans (holes_le _ _) hok.2.2.1
  have hcl := t.cs_closed
  refine words fun iLt iLe iEq iNe iAdd iSub iMul iQuo iRem iShr iNeg iCvt iMax iMin bNot bEq bNe bAnd bOr sEq sNe sLen sCat sCut sAt lenA lenN iOf natOf atA atN cutA partA dropA catA setA repA putA idxN addN subN minN lenCut hX e_iLt e_iLe e_iEq e_iNe e_iAdd e_iSub e_iMul e_iQuo e_iRem e_iShr e_iNeg e_iCvt e_iMax e_iMin e_bNot e_bEq e_bNe e_bAnd e_bOr e_sEq e_sNe e_sLen e_sCat e_sCut e_sAt e_lenA e_lenN e_iOf e_natOf e_atA e_atN e_cutA e_partA e_dropA e_catA e_setA e_repA e_putA e_idxN e_addN e_subN e_minN e_lenCut ee => ?_
  generalize t.cs = cs at *
  generalize holesF t.next t.bey = hs at *
  have hfn : (AV.fn 45 [.iptr cs]).closed = true := closed1 (v := .iptr cs) hcl
  refine fn_body (fn := Try.f44) (n := 13) (ac := Tryc44) (rvs := [.t 4]) rfl (by decide) Tryp44 rfl rfl rfl ?_
  refine go rfl hX 0 (by conv => lhs; cbv) ?_ ?_
  · first | exact trivial | (simp only [Cd.ok, ee]; and_intros <;> first | omega | rfl | (simp <;> omega))
  refine on_ent (F' := [(6, .fn 45 [.iptr cs]), (2, .ptr 0 0)]) (H' := [.cells [.val (.slice none 0 0)], .dead]) (ent_sub [.to 0] [some 0, none] ⟨⟨by simp, rfl⟩, trivial⟩ ⟨osrc_cells (b := 0) rfl rfl rfl ⟨.refl _, trivial⟩, .dead, trivial⟩ ⟨.cl hfn, .refl _, trivial⟩) ?_
  refine on_rfun (g := 45) (cs := [.iptr cs]) rfl enters45 ?_
  generalize hasg : ACode.reg [{ dst := some 5, op := AOp.box (Opd.c (AV.agg [AV.val (Value.int IntKind.i64 0), AV.val (Value.int IntKind.i64 0)])), after := [], guard := none }, { dst := none, op := AOp.st 2 (Opd.t 5) (Opd.t 7), after := [0, 0], guard := none }] = asg
  generalize hbody : ACode.block 1 _ = body
  generalize hFF : ([(6, .fn 45 [.iptr cs]), (2, .ptr 0 0)] : AFr) = FF
  have hFs : ∀ σ, σ 0 = .to 0 → AFr.sub σ FF = FF := by
    intro σ h0
    subst hFF
    have h2 := sub_closed σ _ _ (Nat.le_refl _) hfn
    have h4 : (AV.ptr 0 0).sub σ = .ptr 0 0 := by simp only [AV.sub, h0]
    simp only [AFr.sub, List.map, h2, h4]
  have hfwk : ∀ M σ, σ 0 = .to 0 → FWk M σ FF FF := by
    intro M σ h0
    subst hFF
    have h4 : (AV.ptr 0 0).sub σ = .ptr 0 0 := by simp only [AV.sub, h0]
    exact ⟨.cl hfn, .of h4, trivial⟩
  refine ACall.mono (P45c (fun d => .cells [.sl 3 2 0 d.length]) (fun _ => .dead) (fun d => .arr 2 (mapE Pt.enc d)) (.loop FF 13 [7] asg body .ready none) _ rfl ?_ ?_) ?_
  · refine hent_sub [.to 0, .gone, .to 2] [some 0, some 1, some 2, none] rfl ⟨rfl, rfl, rfl, trivial⟩ (by simp) (by simp) ⟨⟨by simp, rfl⟩, trivial, ⟨by simp, rfl⟩, trivial⟩
      ⟨osrc_cells (b := 0) rfl rfl rfl ⟨.nilS 3 2 0 (by simp), trivial⟩, .dead, .some 2 _ _ rfl rfl rfl (.loop _ _ _ _ _ _ _ _ (hfwk _ _ rfl)), ?_, trivial⟩
    rw [mapP_nil]
    exact .none 2 rfl
  · intro d c r hd
    have hl := congrArg List.length hd
    simp only [List.length_append, List.length_cons] at hl
    have hcc := Pt.closed c
    have hcenc : c.enc = .agg [int c.a, int c.b] := rfl
    have hln : (d ++ [c]).length = d.length + 1 := by simp
    have hsn : mapE Pt.enc (d ++ [c]) = mapE Pt.enc d ++ [c.enc] := by simp [mapE_eq]
    rw [hsn, hln]
    have hces : AV.closedL (mapE Pt.enc d) = true := closed_mapE Pt.closed _
    have hesl : (mapE Pt.enc d).length = d.length := mapE_len _ _
    have hnb : d.length < 500000000000 := by omega
    rw [hcenc] at hcc ⊢
    generalize mapE Pt.enc d = es at hces hesl ⊢
    generalize d.length = n at hesl hnb ⊢
    generalize c.a = sg at hcc ⊢
    generalize c.b = qu at hcc ⊢
    subst hFF
    refine yield_round (l := 2) rfl rfl ?_
    rw [← hasg]
    refine go rfl hX 0 (by conv => lhs; cbv) ?_ ?_
    · first | exact trivial | (simp only [Cd.ok, ee]; and_intros <;> first | omega | rfl | (simp <;> omega))
    refine ⟨rfl, none, rfl, ?_⟩
    rw [← hbody]
    refine go rfl hX 0 (by conv => lhs; cbv) ?_ ?_
    · first | exact trivial | (simp only [Cd.ok, ee]; and_intros <;> first | omega | rfl | (simp <;> omega))
    refine ⟨none, rfl, rfl, ?_⟩
    refine hent_sub [.to 0, .gone, .to 2, .gone, .gone, .gone, .to 3] [some 0, some 1, some 2, some 6] rfl ⟨rfl, rfl, rfl, trivial⟩ (by simp) (by simp) ⟨⟨by simp, rfl⟩, trivial, ⟨by simp, rfl⟩, trivial, trivial, trivial, ⟨by simp, rfl⟩, trivial⟩
      ⟨osrc_cells (b := 0) rfl rfl rfl ⟨.of ?_, trivial⟩, .dead, .some 2 _ _ rfl rfl rfl (.loop _ _ _ _ _ _ _ _ (hfwk _ _ rfl)), osrc_arr (b := 6) rfl rfl rfl ?_ (closedL_append hces (closed1 hcc)), trivial⟩
    · simp only [ee]; rfl
    · simp only [ee]; rfl
  · rintro v H1 rfl
    refine ⟨.ready, none, rfl, by simp, ?_⟩
    have hces : AV.closedL (mapE Pt.enc hs) = true := closed_mapE Pt.closed _
    have hesl : (mapE Pt.enc hs).length = hs.length := mapE_len _ _
    generalize mapE Pt.enc hs = es at hces hesl ⊢
    generalize hs.length = n at hesl ⊢
    subst hFF
    show Holds EE 13 0 _ (.out .normal) _ _ _
    refine go rfl hX 0 (by conv => lhs; cbv) ?_ ?_
    · first | exact trivial | (simp only [Cd.ok, ee]; and_intros <;> first | omega | rfl | (simp <;> omega))
    refine fn_ret rfl rfl ⟨[.gone, .gone, .gone, .isl 2 es], ⟨trivial, trivial, trivial, ⟨es, rfl, (subL_closed _ hces).symm⟩, trivial⟩, ?_⟩
    exact .of (sub_whole rfl hesl.symm)
theorem P37 (t : Trk) (hk : checkT t = 0) : PCall EE 37 [.fn 45 [.iptr t.cs]] (.isl 2 (mapE Pt.enc (holesF t.next t.bey))) := by
  have P44c := P44 t hk
  have hcl := t.cs_closed
  have hcp := closedP (holesF t.next t.bey)
  refine words fun iLt iLe iEq iNe iAdd iSub iMul iQuo iRem iShr iNeg iCvt iMax iMin bNot bEq bNe bAnd bOr sEq sNe sLen sCat sCut sAt lenA lenN iOf natOf atA atN cutA partA dropA catA setA repA putA idxN addN subN minN lenCut hX e_iLt e_iLe e_iEq e_iNe e_iAdd e_iSub e_iMul e_iQuo e_iRem e_iShr e_iNeg e_iCvt e_iMax e_iMin e_bNot e_bEq e_bNe e_bAnd e_bOr e_sEq e_sNe e_sLen e_sCat e_sCut e_sAt e_lenA e_lenN e_iOf e_natOf e_atA e_atN e_cutA e_partA e_dropA e_catA e_setA e_repA e_putA e_idxN e_addN e_subN e_minN e_lenCut ee => ?_
  generalize t.cs = cs at *
  generalize mapE Pt.enc (holesF t.next t.bey) = es at *
  have hfn : (AV.fn 45 [.iptr cs]).closed = true := closed1 (v := .iptr cs) hcl
  refine fn_body (fn := Try.f37) (n := 5) (ac := Tryc37) (rvs := [.t 2]) rfl (by decide) Tryp37 rfl rfl rfl ?_
  refine go rfl hX 0 (by conv => lhs; cbv) ?_ ?_
  · first | exact trivial | (simp only [Cd.ok, ee]; and_intros <;> first | omega | rfl | (simp <;> omega))
  refine on_pcall rfl rfl rfl P44c (closed2 rfl hfn) ?_
  refine go rfl hX 0 (by conv => lhs; cbv) ?_ ?_
  · first | exact trivial | (simp only [Cd.ok, ee]; and_intros <;> first | omega | rfl | (simp <;> omega))
  exact fn_ret rfl rfl (.none (.cl hcp))
theorem P19 (t : Trk) (hf : t.Fine) : PCall EE 19 [t.enc] (.tup [.isl 2 (mapE Pt.enc (gapsT t).1), int (gapsT t).2]) := by
  have P15c := P15 t hf
  have P37c := fun h => P37 t h
  have P38c := P38 t
  have hcl := Trk.closed t
  have hcs := t.cs_closed
  have hcg := closedP (holesF t.next t.bey)
  have hm0 : mapE Pt.enc ([] : List Pt) = [] := by simp [mapE_eq]
  unfold gapsT
  unfold Trk.enc at *
  generalize t.cs = cs at *
  generalize checkT t = ck at *
  generalize hge : mapE Pt.enc (holesF t.next t.bey) = eg at *
  generalize mapE int t.bey = eb at *
  generalize mapE Pt.enc t.pts = ep at *
  by_cases h0 : ck = 0
  · rw [if_neg (by simp [h0])]
    replace P37c := P37c h0
    subst h0
    dsimp only
    rw [hge]
    clear hge
    generalize t.next = tn at *
    generalize t.mark = tk at *
    have hfn : (AV.fn 45 [.iptr cs]).closed = true := closed1 (v := .iptr cs) hcs
    refine words fun iLt iLe iEq iNe iAdd iSub iMul iQuo iRem iShr iNeg iCvt iMax iMin bNot bEq bNe bAnd bOr sEq sNe sLen sCat sCut sAt lenA lenN iOf natOf atA atN cutA partA dropA catA setA repA putA idxN addN subN minN lenCut hX e_iLt e_iLe e_iEq e_iNe e_iAdd e_iSub e_iMul e_iQuo e_iRem e_iShr e_iNeg e_iCvt e_iMax e_iMin e_bNot e_bEq e_bNe e_bAnd e_bOr e_sEq e_sNe e_sLen e_sCat e_sCut e_sAt e_lenA e_lenN e_iOf e_natOf e_atA e_atN e_cutA e_partA e_dropA e_catA e_setA e_repA e_putA e_idxN e_addN e_subN e_minN e_lenCut ee => ?_
    refine fn_body (fn := Try.f19) (n := 13) (ac := Tryc19) (rvs := [.t 2, .t 3]) rfl (by decide) Tryp19 rfl rfl rfl ?_
    have hb : iNe 0 0 = false := by simp [ee]
    have hct : (AV.tup [.isl 2 eg, int 0]).closed = true := by
      show AV.closedL [.isl 2 eg, int 0] = true
      simp [AV.closedL, closed_v, hcg]
    refine go rfl hX 60 (by conv => lhs; cbv) ?_ ?_
    · first | exact trivial | (simp only [Cd.ok, ee]; and_intros <;> first | omega | rfl | (simp <;> omega))
    refine on_pcall (args := [AV.agg [int tn, AV.isl 1 eb, AV.isl 2 ep, int tk]]) rfl rfl rfl P15c (by simp [AV.closedL, closed_v, closed_agg, hcl]) ?_
    refine go rfl hX 0 (by conv => lhs; cbv; try simp only [hb]; cbv; try simp only [hb]; cbv; try simp only [hb]; cbv; try simp only [hb]; cbv) ?_ ?_
    · first | exact trivial | (simp only [Cd.ok, ee]; and_intros <;> first | omega | rfl | (simp <;> omega))
    refine go rfl hX 60 (by conv => lhs; cbv) ?_ ?_
    · first | exact trivial | (simp only [Cd.ok, ee]; and_intros <;> first | omega | rfl | (simp <;> omega))
    refine on_pcall (args := [AV.agg [int tn, AV.isl 1 eb, AV.isl 2 ep, int tk]]) rfl rfl rfl P38c (by simp [AV.closedL, closed_v, closed_agg, hcl]) ?_
    refine go rfl hX 0 (by conv => lhs; cbv) ?_ ?_
    · first | exact trivial | (simp only [Cd.ok, ee]; and_intros <;> first | omega | rfl | (simp <;> omega))
    refine on_pcall rfl rfl rfl P37c (closed1 hfn) ?_
    refine go rfl hX 60 (by conv => lhs; cbv) ?_ ?_
    · first | exact trivial | (simp only [Cd.ok, ee]; and_intros <;> first | omega | rfl | (simp <;> omega))
    refine fn_ret rfl rfl ?_
    exact fz_cl (show packRV _ = AV.tup [.isl 2 eg, int 0] from rfl) hct
  · rw [if_pos h0]
    clear P37c P38c hge
    dsimp only
    rw [hm0]
    generalize t.next = tn at *
    generalize t.mark = tk at *
    refine words fun iLt iLe iEq iNe iAdd iSub iMul iQuo iRem iShr iNeg iCvt iMax iMin bNot bEq bNe bAnd bOr sEq sNe sLen sCat sCut sAt lenA lenN iOf natOf atA atN cutA partA dropA catA setA repA putA idxN addN subN minN lenCut hX e_iLt e_iLe e_iEq e_iNe e_iAdd e_iSub e_iMul e_iQuo e_iRem e_iShr e_iNeg e_iCvt e_iMax e_iMin e_bNot e_bEq e_bNe e_bAnd e_bOr e_sEq e_sNe e_sLen e_sCat e_sCut e_sAt e_lenA e_lenN e_iOf e_natOf e_atA e_atN e_cutA e_partA e_dropA e_catA e_setA e_repA e_putA e_idxN e_addN e_subN e_minN e_lenCut ee => ?_
    refine fn_body (fn := Try.f19) (n := 13) (ac := Tryc19) (rvs := [.t 2, .t 3]) rfl (by decide) Tryp19 rfl rfl rfl ?_
    have hb : iNe ck 0 = true := by simp [ee]; exact h0
    refine go rfl hX 60 (by conv => lhs; cbv) ?_ ?_
    · first | exact trivial | (simp only [Cd.ok, ee]; and_intros <;> first | omega | rfl | (simp <;> omega))
    refine on_pcall (args := [AV.agg [int tn, AV.isl 1 eb, AV.isl 2 ep, int tk]]) rfl rfl rfl P15c (by simp [AV.closedL, closed_v, closed_agg, hcl]) ?_
    refine go rfl hX 0 (by conv => lhs; cbv; try simp only [hb]; cbv; try simp only [hb]; cbv; try simp only [hb]; cbv; try simp only [hb]; cbv) ?_ ?_
    · first | exact trivial | (simp only [Cd.ok, ee]; and_intros <;> first | omega | rfl | (simp <;> omega))
    refine go rfl hX 60 (by conv => lhs; cbv) ?_ ?_
    · first | exact trivial | (simp only [Cd.ok, ee]; and_intros <;> first | omega | rfl | (simp <;> omega))
    refine fn_ret rfl rfl ?_
    exact Fz.none (show Wk 0 (.tup [.val (.slice none 0 0), int ck]) (.tup [.isl 2 [], int ck]) from wk_tupn _)
end Go.Am
end
section
/-
  DERIVED: THE SHELF's CONTRACTS AT THIS DUMP, IN PLAIN WORDS (tools/lay-plain.mjs out of 'TryShelf.lean', which tools/lay-shelf.mjs wrote): THE SAME DECLARATIONS UNDER THE SAME NAMES: 'import', 'namespace', 'open', 'def', 'theorem' AND NOTHING ELSE: no command of the shelf's: FOR A HAND-IN. Each laying: the table of numbers ('.._ren') and one theorem, a field a fact of the dump's own or the kernel's comparison; each contract: ONE APPLICATION.
-/
namespace Go.Proofs
open Go.Shelf
def Try.lays189_ren : Go.Shelf.Ren := ⟨fun | 189 => 40 | 125 => 47 | 257 => 46 | 128 => 61 | 129 => 62 | 294 => 52 | 295 => 53 | 296 => 54 | 297 => 55 | 298 => 56 | 299 => 57 | 216 => 58 | 300 => 59 | 301 => 60 | 328 => 64 | 329 => 65 | 330 => 66 | 331 => 67 | 332 => 68 | 215 => 69 | 343 => 71 | n => n, fun | 28 => 22 | 3 => 3 | 46 => 85 | 0 => 0 | 51 => 99 | 53 => 101 | 4 => 4 | 183 => 91 | 182 => 90 | 131 => 96 | 5 => 5 | 9 => 9 | 218 => 102 | 222 => 106 | 228 => 108 | 229 => 60 | n => n, fun | n => n⟩
theorem Try.lays189 : Go.Proofs.Lays.n189 Try.prog Try.lays189_ren := {
  mixed := by kernel_rfl
  f125 := Try.func47.trans (congrArg some (by kernel_rfl))
  f128 := Try.func61.trans (congrArg some (by kernel_rfl))
  f129 := Try.func62.trans (congrArg some (by kernel_rfl))
  f189 := Try.func40.trans (congrArg some (by kernel_rfl))
  f215 := Try.func69.trans (congrArg some (by kernel_rfl))
  f216 := Try.func58.trans (congrArg some (by kernel_rfl))
  f257 := Try.func46.trans (congrArg some (by kernel_rfl))
  f294 := Try.func52.trans (congrArg some (by kernel_rfl))
  f295 := Try.func53.trans (congrArg some (by kernel_rfl))
  f296 := Try.func54.trans (congrArg some (by kernel_rfl))
  f297 := Try.func55.trans (congrArg some (by kernel_rfl))
  f298 := Try.func56.trans (congrArg some (by kernel_rfl))
  f299 := Try.func57.trans (congrArg some (by kernel_rfl))
  f300 := Try.func59.trans (congrArg some (by kernel_rfl))
  f301 := Try.func60.trans (congrArg some (by kernel_rfl))
  f328 := Try.func64.trans (congrArg some (by kernel_rfl))
  f329 := Try.func65.trans (congrArg some (by kernel_rfl))
  f330 := Try.func66.trans (congrArg some (by kernel_rfl))
  f331 := Try.func67.trans (congrArg some (by kernel_rfl))
  f332 := Try.func68.trans (congrArg some (by kernel_rfl))
  f343 := Try.func71.trans (congrArg some (by kernel_rfl))
  t0 := Try.underlying0
  a0 := Try.isAgg0
  z0 := Try.sizeOf0
  v0 := Try.zeroValue0
  t3 := Try.underlying3
  a3 := Try.isAgg3
  z3 := Try.sizeOf3
  v3 := Try.zeroValue3
  t4 := Try.underlying4
  a4 := Try.isAgg4
  z4 := Try.sizeOf4
  v4 := Try.zeroValue4
  t5 := Try.underlying5
  a5 := Try.isAgg5
  z5 := Try.sizeOf5
  v5 := Try.zeroValue5
  t9 := Try.underlying9
  a9 := Try.isAgg9
  z9 := Try.sizeOf9
  v9 := Try.zeroValue9
  t28 := Try.underlying22
  a28 := Try.isAgg22
  z28 := Try.sizeOf22
  v28 := Try.zeroValue22
  t46 := Try.underlying85
  a46 := Try.isAgg85
  z46 := Try.sizeOf85
  v46 := Try.zeroValue85
  t51 := Try.underlying99
  a51 := Try.isAgg99
  z51 := Try.sizeOf99
  v51 := Try.zeroValue99
  t53 := Try.underlying101
  a53 := Try.isAgg101
  z53 := Try.sizeOf101
  v53 := Try.zeroValue101
  t131 := Try.underlying96
  a131 := Try.isAgg96
  z131 := Try.sizeOf96
  v131 := Try.zeroValue96
  t182 := Try.underlying90
  a182 := Try.isAgg90
  z182 := Try.sizeOf90
  v182 := Try.zeroValue90
  t183 := Try.underlying91
  a183 := Try.isAgg91
  z183 := Try.sizeOf91
  v183 := Try.zeroValue91
  t218 := Try.underlying102
  a218 := Try.isAgg102
  z218 := Try.sizeOf102
  v218 := Try.zeroValue102
  t222 := Try.underlying106
  a222 := Try.isAgg106
  z222 := Try.sizeOf106
  v222 := Try.zeroValue106
  t228 := Try.underlying108
  a228 := Try.isAgg108
  z228 := Try.sizeOf108
  v228 := Try.zeroValue108
  t229 := Try.underlying60
  a229 := Try.isAgg60
  z229 := Try.sizeOf60
  v229 := Try.zeroValue60 }
def Try.laysNm220_ren : Go.Shelf.Ren := ⟨fun | 20 => 41 | n => n, fun | 22 => 22 | 3 => 3 | 4 => 4 | 0 => 0 | n => n, fun | n => n⟩
theorem Try.laysNm220 : Go.Proofs.Lays2.n20 Try.prog Try.laysNm220_ren := {
  mixed := by kernel_rfl
  f20 := Try.func41.trans (congrArg some (by kernel_rfl))
  t0 := Try.underlying0
  a0 := Try.isAgg0
  z0 := Try.sizeOf0
  v0 := Try.zeroValue0
  t3 := Try.underlying3
  a3 := Try.isAgg3
  z3 := Try.sizeOf3
  v3 := Try.zeroValue3
  t4 := Try.underlying4
  a4 := Try.isAgg4
  z4 := Try.sizeOf4
  v4 := Try.zeroValue4
  t22 := Try.underlying22
  a22 := Try.isAgg22
  z22 := Try.sizeOf22
  v22 := Try.zeroValue22
  i3 := by kernel_rfl }
end Go.Proofs
end
section
set_option linter.unusedVariables false
set_option linter.unusedSimpArgs false
set_option maxRecDepth 20000
namespace Go.Am
open Go.Proofs

def sweepF (x : Int) : List Int → Int × List Int
  | [] => (x, [])
  | n :: r => if n = x then sweepF (x + 1) r else if x < n then ((sweepF x r).1, n :: (sweepF x r).2) else sweepF x r
noncomputable def mrgT (a b : Trk) : Trk := ⟨(sweepF (max a.next b.next) (Lib.compact (sortI (a.bey ++ b.bey)))).1, (sweepF (max a.next b.next) (Lib.compact (sortI (a.bey ++ b.bey)))).2, a.pts, a.mark⟩
noncomputable def mergeT (a b : Trk) : Trk × Int :=
  if checkT a ≠ 0 then (T0, checkT a) else if checkT b ≠ 0 then (T0, checkT b) else if 256 < (mrgT a b).bey.length then (T0, 5) else (mrgT a b, 0)
theorem enters40 : Enters EE.P 40 := enters_of (fn := Try.f40) (n := 11) (ac := Tryc40) rfl (by decide) Tryp40
theorem enters41 : Enters EE.P 41 := enters_of (fn := Try.f41) (n := 61) (ac := Tryc41) rfl (by decide) Tryp41
theorem P40 (l : List Int) (hl : l.length < 4611686018427387904) : ACall EE 40 [.sl 0 1 0 l.length] [.arr 1 (mapE int l)] fun v H' => v = .tup [] ∧ H' = [.arr 1 (mapE int (sortI l))] := by
  have := sort_acall (E := EE) Try.lays189 l hl
  rw [mapE_eq, mapE_eq]
  exact this
theorem P41 (l : List Int) (hl : l.length < 4611686018427387904) : ACall EE 41 [.sl 0 1 0 l.length] [.arr 1 (mapE int l)] fun v H' => v = .sl 0 1 0 (Lib.compact l).length ∧ H' = [.arr 1 (mapE int (compI l))] := by
  have := comp_acall (E := EE) Try.laysNm220 l (by omega)
  rw [mapE_eq, mapE_eq]
  exact this
theorem sort_len (l : List Int) : (sortI l).length = l.length := by simp [sortI, List.length_mergeSort]
theorem sweep_len : ∀ (l : List Int) (x : Int), (sweepF x l).2.length ≤ l.length
  | [], x => by simp [sweepF]
  | n :: r, x => by
    have h1 := sweep_len r x
    have h2 := sweep_len r (x + 1)
    unfold sweepF
    split
    · simp; omega
    · split <;> simp <;> omega
theorem fz_merge0 {H : AHeap} (k : Int) : Fz H (.tup [.agg [int 0, .val (.slice none 0 0), .val (.slice none 0 0), int 0], int k]) (.tup [T0.enc, int k]) := by
  rw [T0_enc]
  exact Fz.none (.tup' ⟨wk_nilt _ _, .refl _, trivial⟩)

set_option maxHeartbeats 4000000 in
theorem P22 (a b : Trk) (hfa : a.Fine) (hfb : b.Fine) (hpl : a.pts.length < 500000000000) : PCall EE 22 [a.enc, b.enc] (.tup [(mergeT a b).1.enc, int (mergeT a b).2]) := by
  have P15a := P15 a hfa
  have P15b := P15 b hfb
  have hoka := fun h : checkT a = 0 => check_ok h
  have hokb := fun h : checkT b = 0 => check_ok h
  have P32c := fun h : checkT a = 0 => P32 a.bey (by have := hoka h; omega)
  have P33c := P33 a.pts hpl
  have hcla := Trk.closed a
  have hclb := Trk.closed b
  have hcba := closedI a.bey
  have hcpa := closedP a.pts
  have hcpb := closedP b.pts
  have hceb : AV.closedL (mapE int a.bey) = true := closed_mapE int_closed _
  have hcbb : AV.closedL (mapE int b.bey) = true := closed_mapE int_closed _
  have hcep : AV.closedL (mapE Pt.enc a.pts) = true := closed_mapE Pt.closed _
  have hla : (mapE int a.bey).length = a.bey.length := mapE_len _ _
  have hlb : (mapE int b.bey).length = b.bey.length := mapE_len _ _
  have hpl2 : (mapE Pt.enc a.pts).length = a.pts.length := mapE_len _ _
  have hea : a.enc = .agg [int a.next, .isl 1 (mapE int a.bey), .isl 2 (mapE Pt.enc a.pts), int a.mark] := rfl
  have heb : b.enc = .agg [int b.next, .isl 1 (mapE int b.bey), .isl 2 (mapE Pt.enc b.pts), int b.mark] := rfl
  have hme : (mrgT a b).enc = .agg [int (mrgT a b).next, .isl 1 (mapE int (mrgT a b).bey), .isl 2 (mapE Pt.enc a.pts), int a.mark] := rfl
  have hm1 : (mrgT a b).next = (sweepF (max a.next b.next) (Lib.compact (sortI (a.bey ++ b.bey)))).1 := rfl
  have hm2 : (mrgT a b).bey = (sweepF (max a.next b.next) (Lib.compact (sortI (a.bey ++ b.bey)))).2 := rfl
  have happ : mapE int a.bey ++ mapE int b.bey = mapE int (a.bey ++ b.bey) := by simp [mapE_eq]
  have hfitb : fitB 1 (mapE int b.bey) = true := fitL (k := 1) (enc := int) fitI b.bey
  have hlab : (a.bey ++ b.bey).length = a.bey.length + b.bey.length := List.length_append
  unfold mergeT
  rw [hea] at P15a hcla ⊢
  rw [heb] at P15b hclb ⊢
  clear hea heb
  generalize mrgT a b = mr at *
  obtain ⟨an, ab, ap, ak⟩ := a
  obtain ⟨bn, bb, bp, bk⟩ := b
  dsimp only at *
  generalize hcka : checkT ⟨an, ab, ap, ak⟩ = cka at *
  generalize hckb : checkT ⟨bn, bb, bp, bk⟩ = ckb at *
  generalize hal : ab ++ bb = al at *
  have P40c := fun h => P40 al h
  have P41c := fun h => P41 (sortI al) h
  have hsl := sort_len al
  have hcl := compact_le (sortI al)
  have hcpl := compI_len (sortI al)
  rw [hsl] at hcl hcpl P41c
  have hcomp : compI (sortI al) = Lib.compact (sortI al) ++ List.replicate ((sortI al).length - (Lib.compact (sortI al)).length) 0 := rfl
  generalize Lib.compact (sortI al) = cz at *
  generalize compI (sortI al) = ci at *
  generalize sortI al = so at *
  have hcea : AV.closedL (mapE int al) = true := closed_mapE int_closed _
  have hceo : AV.closedL (mapE int so) = true := closed_mapE int_closed _
  have hcec : AV.closedL (mapE int ci) = true := closed_mapE int_closed _
  generalize hes : mapE int ab = ea at *
  generalize hes2 : mapE int bb = eb at *
  generalize hes3 : mapE Pt.enc ap = epa at *
  generalize mapE Pt.enc bp = epb at *
  generalize hes4 : mapE int al = eal at *
  generalize hes5 : mapE int so = eso at *
  generalize hes6 : mapE int ci = eci at *
  refine words fun iLt iLe iEq iNe iAdd iSub iMul iQuo iRem iShr iNeg iCvt iMax iMin bNot bEq bNe bAnd bOr sEq sNe sLen sCat sCut sAt lenA lenN iOf natOf atA atN cutA partA dropA catA setA repA putA idxN addN subN minN lenCut hX e_iLt e_iLe e_iEq e_iNe e_iAdd e_iSub e_iMul e_iQuo e_iRem e_iShr e_iNeg e_iCvt e_iMax e_iMin e_bNot e_bEq e_bNe e_bAnd e_bOr e_sEq e_sNe e_sLen e_sCat e_sCut e_sAt e_lenA e_lenN e_iOf e_natOf e_atA e_atN e_cutA e_partA e_dropA e_catA e_setA e_repA e_putA e_idxN e_addN e_subN e_minN e_lenCut ee => ?_
  have hg0 : iLt 0 2 = true := by simp [ee]
  have hg1 : iLt 1 2 = true := by simp [ee]
  have hg2 : iLt 2 2 = false := by simp [ee]
  have ha01 : iAdd .i64 0 1 = 1 := by simp [ee, IntKind.wrap_i64]
  have ha11 : iAdd .i64 1 1 = 2 := by simp [ee, IntKind.wrap_i64]
  refine fn_body (fn := Try.f22) (n := 82) (ac := Tryc22) (rvs := [.cell 4 4 true, .t 5]) rfl (by decide) Tryp22 rfl rfl rfl ?_
  refine go rfl hX 60 (by conv => lhs; cbv) ?_ ?_
  · first | exact trivial | (simp only [Cd.ok, ee]; and_intros <;> first | omega | rfl | (simp <;> omega))
  obtain ⟨TT, hTT⟩ : ∃ TT, [AV.agg [int an, AV.isl 1 ea, AV.isl 2 epa, int ak], AV.agg [int bn, AV.isl 1 eb, AV.isl 2 epb, int bk]] = TT := ⟨_, rfl⟩
  have hT0 : atN TT 0 = AV.agg [int an, AV.isl 1 ea, AV.isl 2 epa, int ak] := by rw [← hTT]; simp only [ee]; rfl
  have hT1 : atN TT 1 = AV.agg [int bn, AV.isl 1 eb, AV.isl 2 epb, int bk] := by rw [← hTT]; simp only [ee]; rfl
  have hcT : AV.closedL TT = true := by rw [← hTT]; exact by simp [AV.closedL, hcla, hclb]
  have hTl : TT.length = 2 := by rw [← hTT]; rfl
  have hi00 : idxN 0 0 = 0 := by simp [ee]
  have hi01 : idxN 0 1 = 1 := by simp [ee]
  have hio : iOf 2 = 2 := by simp [ee]
  refine on_loopP (ι := Int)
    (fun p => ([(17, int p), (16, int 2), (15, .sl 3 4 0 2), (5, int 0), (4, .ptr 2 0), (3, .ptr 1 0), (2, .ptr 0 0)], [.cells [int an, .isl 1 ea, .isl 2 epa, int ak], .cells [int bn, .isl 1 eb, .isl 2 epb, int bk], .cells [int 0, .val (.slice none 0 0), .val (.slice none 0 0), int 0], .arr 4 TT]))
    (fun p => p = 0 ∨ (p = 1 ∧ cka = 0) ∨ (p = 2 ∧ cka = 0 ∧ ckb = 0)) (fun p => (2 - p).toNat) 0 (.inl rfl)
    (ent_sub [.to 0, .to 1, .to 2, .to 3] [some 0, some 1, some 2, some 3] ⟨⟨by simp, rfl⟩, ⟨by simp, rfl⟩, ⟨by simp, rfl⟩, ⟨by simp, rfl⟩, trivial⟩ ⟨osrc_cells (b := 0) rfl rfl rfl ⟨.refl _, .cl hcba, .cl hcpa, .refl _, trivial⟩, osrc_cells (b := 1) rfl rfl rfl ⟨.refl _, .cl hcbb, .cl hcpb, .refl _, trivial⟩, osrc_cells (b := 2) rfl rfl rfl ⟨.refl _, .refl _, .refl _, .refl _, trivial⟩, osrc_arr (b := 3) rfl rfl rfl hTT hcT, trivial⟩ ⟨.refl _, .of (congrArg int hio), .refl _, .refl _, .refl _, .refl _, .refl _, trivial⟩) ?_
  rintro i hgd
  dsimp only at hgd ⊢
  rcases hgd with rfl | ⟨rfl, h0⟩ | ⟨rfl, h0, h1⟩
  · by_cases h0 : cka = 0
    · have hb : iNe cka 0 = false := by simp [ee]; exact h0
      refine go rfl hX 0 (by conv => lhs; cbv; try simp only [hg0, hi00, hT0, hb, ha01]; cbv; try simp only [hg0, hi00, hT0, hb, ha01]; cbv; try simp only [hg0, hi00, hT0, hb, ha01]; cbv; try simp only [hg0, hi00, hT0, hb, ha01]; cbv) ?_ ?_
      · first | exact trivial | (simp only [Cd.ok, ee]; and_intros <;> first | omega | rfl | (simp <;> omega))
      refine go rfl hX 1 (by conv => lhs; cbv; try simp only [hg0, hi00, hT0, hb, ha01]; cbv; try simp only [hg0, hi00, hT0, hb, ha01]; cbv; try simp only [hg0, hi00, hT0, hb, ha01]; cbv; try simp only [hg0, hi00, hT0, hb, ha01]; cbv) ?_ ?_
      · first | exact trivial | (simp only [Cd.ok, ee]; and_intros <;> first | omega | rfl | (simp <;> omega))
      refine on_pcall (args := [AV.agg [int an, AV.isl 1 ea, AV.isl 2 epa, int ak]]) rfl rfl rfl P15a (by simp [AV.closedL, closed_v, closed_agg, hcla]) ?_
      refine go rfl hX 0 (by conv => lhs; cbv; try simp only [hg0, hi00, hT0, hb, ha01]; cbv; try simp only [hg0, hi00, hT0, hb, ha01]; cbv; try simp only [hg0, hi00, hT0, hb, ha01]; cbv; try simp only [hg0, hi00, hT0, hb, ha01]; cbv) ?_ ?_
      · first | exact trivial | (simp only [Cd.ok, ee]; and_intros <;> first | omega | rfl | (simp <;> omega))
      refine go rfl hX 60 (by conv => lhs; cbv) ?_ ?_
      · first | exact trivial | (simp only [Cd.ok, ee]; and_intros <;> first | omega | rfl | (simp <;> omega))
      refine loopP_next 1 (.inr (.inl ⟨rfl, h0⟩)) (by simp) (ent_sub [.to 0, .to 1, .to 2, .to 3, .gone] [some 0, some 1, some 2, some 3] ⟨⟨by simp, rfl⟩, ⟨by simp, rfl⟩, ⟨by simp, rfl⟩, ⟨by simp, rfl⟩, trivial, trivial⟩ ⟨osrc_cells (b := 0) rfl rfl rfl ⟨.refl _, .cl hcba, .cl hcpa, .refl _, trivial⟩, osrc_cells (b := 1) rfl rfl rfl ⟨.refl _, .cl hcbb, .cl hcpb, .refl _, trivial⟩, osrc_cells (b := 2) rfl rfl rfl ⟨.refl _, .refl _, .refl _, .refl _, trivial⟩, osrc_arr (b := 3) rfl rfl rfl rfl hcT, trivial⟩ ⟨.of (congrArg int ha01), .refl _, .refl _, .refl _, .refl _, .refl _, .refl _, trivial⟩)
    · have hb : iNe cka 0 = true := by simp [ee]; exact h0
      rw [if_pos h0]
      refine go rfl hX 0 (by conv => lhs; cbv; try simp only [hg0, hi00, hT0, hb]; cbv; try simp only [hg0, hi00, hT0, hb]; cbv; try simp only [hg0, hi00, hT0, hb]; cbv; try simp only [hg0, hi00, hT0, hb]; cbv) ?_ ?_
      · first | exact trivial | (simp only [Cd.ok, ee]; and_intros <;> first | omega | rfl | (simp <;> omega))
      refine go rfl hX 1 (by conv => lhs; cbv; try simp only [hg0, hi00, hT0, hb]; cbv; try simp only [hg0, hi00, hT0, hb]; cbv; try simp only [hg0, hi00, hT0, hb]; cbv; try simp only [hg0, hi00, hT0, hb]; cbv) ?_ ?_
      · first | exact trivial | (simp only [Cd.ok, ee]; and_intros <;> first | omega | rfl | (simp <;> omega))
      refine on_pcall (args := [AV.agg [int an, AV.isl 1 ea, AV.isl 2 epa, int ak]]) rfl rfl rfl P15a (by simp [AV.closedL, closed_v, closed_agg, hcla]) ?_
      refine go rfl hX 0 (by conv => lhs; cbv; try simp only [hg0, hi00, hT0, hb]; cbv; try simp only [hg0, hi00, hT0, hb]; cbv; try simp only [hg0, hi00, hT0, hb]; cbv; try simp only [hg0, hi00, hT0, hb]; cbv) ?_ ?_
      · first | exact trivial | (simp only [Cd.ok, ee]; and_intros <;> first | omega | rfl | (simp <;> omega))
      refine go rfl hX 60 (by conv => lhs; cbv) ?_ ?_
      · first | exact trivial | (simp only [Cd.ok, ee]; and_intros <;> first | omega | rfl | (simp <;> omega))
      refine loopP_ret ?_
      refine go rfl hX 60 (by conv => lhs; cbv) ?_ ?_
      · first | exact trivial | (simp only [Cd.ok, ee]; and_intros <;> first | omega | rfl | (simp <;> omega))
      refine fn_ret rfl rfl ?_
      exact fz_merge0 _
  · rw [if_neg (by simp [h0])]
    by_cases h1 : ckb = 0
    · have hb : iNe ckb 0 = false := by simp [ee]; exact h1
      refine go rfl hX 0 (by conv => lhs; cbv; try simp only [hg1, hi01, hT1, hb, ha11]; cbv; try simp only [hg1, hi01, hT1, hb, ha11]; cbv; try simp only [hg1, hi01, hT1, hb, ha11]; cbv; try simp only [hg1, hi01, hT1, hb, ha11]; cbv) ?_ ?_
      · first | exact trivial | (simp only [Cd.ok, ee]; and_intros <;> first | omega | rfl | (simp <;> omega))
      refine go rfl hX 1 (by conv => lhs; cbv; try simp only [hg1, hi01, hT1, hb, ha11]; cbv; try simp only [hg1, hi01, hT1, hb, ha11]; cbv; try simp only [hg1, hi01, hT1, hb, ha11]; cbv; try simp only [hg1, hi01, hT1, hb, ha11]; cbv) ?_ ?_
      · first | exact trivial | (simp only [Cd.ok, ee]; and_intros <;> first | omega | rfl | (simp <;> omega))
      refine on_pcall (args := [AV.agg [int bn, AV.isl 1 eb, AV.isl 2 epb, int bk]]) rfl rfl rfl P15b (by simp [AV.closedL, closed_v, closed_agg, hclb]) ?_
      refine go rfl hX 0 (by conv => lhs; cbv; try simp only [hg1, hi01, hT1, hb, ha11]; cbv; try simp only [hg1, hi01, hT1, hb, ha11]; cbv; try simp only [hg1, hi01, hT1, hb, ha11]; cbv; try simp only [hg1, hi01, hT1, hb, ha11]; cbv) ?_ ?_
      · first | exact trivial | (simp only [Cd.ok, ee]; and_intros <;> first | omega | rfl | (simp <;> omega))
      refine go rfl hX 60 (by conv => lhs; cbv) ?_ ?_
      · first | exact trivial | (simp only [Cd.ok, ee]; and_intros <;> first | omega | rfl | (simp <;> omega))
      refine loopP_next 2 (.inr (.inr ⟨rfl, h0, h1⟩)) (by simp) (ent_sub [.to 0, .to 1, .to 2, .to 3, .gone] [some 0, some 1, some 2, some 3] ⟨⟨by simp, rfl⟩, ⟨by simp, rfl⟩, ⟨by simp, rfl⟩, ⟨by simp, rfl⟩, trivial, trivial⟩ ⟨osrc_cells (b := 0) rfl rfl rfl ⟨.refl _, .cl hcba, .cl hcpa, .refl _, trivial⟩, osrc_cells (b := 1) rfl rfl rfl ⟨.refl _, .cl hcbb, .cl hcpb, .refl _, trivial⟩, osrc_cells (b := 2) rfl rfl rfl ⟨.refl _, .refl _, .refl _, .refl _, trivial⟩, osrc_arr (b := 3) rfl rfl rfl rfl hcT, trivial⟩ ⟨.of (congrArg int ha11), .refl _, .refl _, .refl _, .refl _, .refl _, .refl _, trivial⟩)
    · have hb : iNe ckb 0 = true := by simp [ee]; exact h1
      rw [if_pos h1]
      refine go rfl hX 0 (by conv => lhs; cbv; try simp only [hg1, hi01, hT1, hb]; cbv; try simp only [hg1, hi01, hT1, hb]; cbv; try simp only [hg1, hi01, hT1, hb]; cbv; try simp only [hg1, hi01, hT1, hb]; cbv) ?_ ?_
      · first | exact trivial | (simp only [Cd.ok, ee]; and_intros <;> first | omega | rfl | (simp <;> omega))
      refine go rfl hX 1 (by conv => lhs; cbv; try simp only [hg1, hi01, hT1, hb]; cbv; try simp only [hg1, hi01, hT1, hb]; cbv; try simp only [hg1, hi01, hT1, hb]; cbv; try simp only [hg1, hi01, hT1, hb]; cbv) ?_ ?_
      · first | exact trivial | (simp only [Cd.ok, ee]; and_intros <;> first | omega | rfl | (simp <;> omega))
      refine on_pcall (args := [AV.agg [int bn, AV.isl 1 eb, AV.isl 2 epb, int bk]]) rfl rfl rfl P15b (by simp [AV.closedL, closed_v, closed_agg, hclb]) ?_
      refine go rfl hX 0 (by conv => lhs; cbv; try simp only [hg1, hi01, hT1, hb]; cbv; try simp only [hg1, hi01, hT1, hb]; cbv; try simp only [hg1, hi01, hT1, hb]; cbv; try simp only [hg1, hi01, hT1, hb]; cbv) ?_ ?_
      · first | exact trivial | (simp only [Cd.ok, ee]; and_intros <;> first | omega | rfl | (simp <;> omega))
      refine go rfl hX 60 (by conv => lhs; cbv) ?_ ?_
      · first | exact trivial | (simp only [Cd.ok, ee]; and_intros <;> first | omega | rfl | (simp <;> omega))
      refine loopP_ret ?_
      refine go rfl hX 60 (by conv => lhs; cbv) ?_ ?_
      · first | exact trivial | (simp only [Cd.ok, ee]; and_intros <;> first | omega | rfl | (simp <;> omega))
      refine fn_ret rfl rfl ?_
      exact fz_merge0 _
  rw [if_neg (by simp [h0]), if_neg (by simp [h1])]
  have hoka := hoka h0
  have hokb := hokb h1
  replace P32c := P32c h0
  have hall : al.length < 4611686018427387904 := by omega
  replace P40c := P40c hall
  replace P41c := P41c (by omega)
  refine go rfl hX 0 (by conv => lhs; cbv; try simp only [hg2]; cbv; try simp only [hg2]; cbv; try simp only [hg2]; cbv; try simp only [hg2]; cbv) ?_ ?_
  · first | exact trivial | (simp only [Cd.ok, ee]; and_intros <;> first | omega | rfl | (simp <;> omega))
  refine go rfl hX 60 (by conv => lhs; cbv) ?_ ?_
  · first | exact trivial | (simp only [Cd.ok, ee]; and_intros <;> first | omega | rfl | (simp <;> omega))
  refine loopP_exit ?_
  refine go rfl hX 60 (by conv => lhs; cbv) ?_ ?_
  · first | exact trivial | (simp only [Cd.ok, ee]; and_intros <;> first | omega | rfl | (simp <;> omega))
  refine on_ent (F' := [(5, int 0), (4, .ptr 2 0), (3, .ptr 1 0), (2, .ptr 0 0)]) (H' := [.cells [int an, .isl 1 ea, .isl 2 epa, int ak], .cells [int bn, .isl 1 eb, .isl 2 epb, int bk], .cells [int 0, .val (.slice none 0 0), .val (.slice none 0 0), int 0]]) (ent_sub [.to 0, .to 1, .to 2, .gone] [some 0, some 1, some 2] ⟨⟨by simp, rfl⟩, ⟨by simp, rfl⟩, ⟨by simp, rfl⟩, trivial, trivial⟩ ⟨osrc_cells (b := 0) rfl rfl rfl ⟨.refl _, .cl hcba, .cl hcpa, .refl _, trivial⟩, osrc_cells (b := 1) rfl rfl rfl ⟨.refl _, .cl hcbb, .cl hcpb, .refl _, trivial⟩, osrc_cells (b := 2) rfl rfl rfl ⟨.refl _, .refl _, .refl _, .refl _, trivial⟩, trivial⟩ ⟨.refl _, .refl _, .refl _, .refl _, trivial⟩) ?_
  generalize hna : ab.length = na at *
  generalize hpn : ap.length = pn at *
  generalize hln : al.length = ln at *
  have hcat : catA ea eb = eal := by simp only [ee]; exact happ
  have hdr : dropA ea 0 = ea := by simp only [ee]; rfl
  have hlnb : addN na (lenN eb) = ln := by simp only [ee]; omega
  refine tr_drawB rfl (by conv => lhs; cbv) rfl ?_
  refine tr_go hX (by conv => lhs; cbv) ?_ ?_
  · first | exact trivial | (simp only [Cd.ok, ee]; and_intros <;> first | omega | rfl | (simp <;> omega))
  refine tr_ocall (args := [.isl 1 ea]) (v' := .sl 3 1 0 na) (H' := [.arr 1 ea]) rfl rfl rfl P32c (by simp [AV.closedL, hcba]) rfl (by simp [AObj.sub, subL_closed _ hceb]) ?_
  refine tr_go hX (by conv => lhs; cbv; simp only [hdr, hcat, hlnb,hdr, hcat, hlnb]; cbv; simp only [hdr, hcat, hlnb,hdr, hcat, hlnb]; cbv) ?_ ?_
  · simp only [Cd.ok, ee]; (and_intros <;> first | omega | rfl | exact hfitb)
  refine tr_nil ⟨rfl, ?_, ?_⟩
  · simp only [LooksL, lookAll, List.append, List.cons_append, List.nil_append, List.append_nil]; and_intros <;> first | trivial | (intro hp; first | rfl | exact absurd (show false = true from hp) Bool.false_ne_true)
  refine go rfl hX 60 (by conv => lhs; cbv) ?_ ?_
  · first | exact trivial | (simp only [Cd.ok, ee]; and_intros <;> first | omega | rfl | (simp <;> omega))
  refine on_fcall [4] rfl rfl enters40 P40c (by decide) (by simp) (by show _ = [AObj.arr 1 (AV.subL _ eal)]; rw [subL_closed _ hcea]) rfl ?_
  rintro v0 H1 ⟨rfl, rfl⟩ -
  refine on_entO (F' := [(9, .sl 3 1 0 ln), (5, int 0), (4, .ptr 2 0), (3, .ptr 1 0), (2, .ptr 0 0)]) (H' := [.cells [int an, .isl 1 ea, .isl 2 epa, int ak], .cells [int bn, .isl 1 eb, .isl 2 epb, int bk], .cells [int 0, .val (.slice none 0 0), .val (.slice none 0 0), int 0], .arr 1 eso]) (ent_sub [.to 0, .to 1, .to 2, .gone, .to 3] [some 0, some 1, some 2, some 4] ⟨⟨by simp, rfl⟩, ⟨by simp, rfl⟩, ⟨by simp, rfl⟩, trivial, ⟨by simp, rfl⟩, trivial⟩ ⟨osrc_cells (b := 0) rfl rfl rfl ⟨.refl _, .cl hcba, .cl hcpa, .refl _, trivial⟩, osrc_cells (b := 1) rfl rfl rfl ⟨.refl _, .cl hcbb, .cl hcpb, .refl _, trivial⟩, osrc_cells (b := 2) rfl rfl rfl ⟨.refl _, .refl _, .refl _, .refl _, trivial⟩, osrc_arr (b := 4) rfl rfl rfl (subL_closed _ hceo) hceo, trivial⟩ ⟨.refl _, .refl _, .refl _, .refl _, .refl _, trivial⟩) ?_
  refine go rfl hX 60 (by conv => lhs; cbv) ?_ ?_
  · first | exact trivial | (simp only [Cd.ok, ee]; and_intros <;> first | omega | rfl | (simp <;> omega))
  have hmx : iMax an bn = max an bn := by simp only [ee]; split <;> omega
  have hmxb : 0 ≤ max an bn ∧ max an bn ≤ 1099511627777 := by omega
  generalize max an bn = mx at *
  refine trp_drawE [4, 7, 9, 11, 13] [[4, 7, 9, 11, 13], [7, 4, 9, 11, 13]] [(9, .sl 2 1 0 ln), (10, .ptr 1 0), (4, .ptr 0 0)] [.cells [int 0, .val (.slice none 0 0), .val (.slice none 0 0), int 0], .cells [int mx, .val (.slice none 0 0), .sl 3 2 0 pn, int ak], .arr 1 eso, .arr 2 epa] rfl rfl rfl (by decide) rfl ?_ ⟨⟨[0, 1, 2, 3, 4, 5, 6, 7, 8, 9, 10, 11, 12, 13], rfl, ?_⟩, ⟨[5, 6, 7, 0, 1, 2, 3, 4, 8, 9, 10, 11, 12, 13], rfl, ?_⟩, trivial⟩
  rotate_left
  · refine tr_go hX (by conv => lhs; cbv) ?_ ?_
    · first | exact trivial | (simp only [Cd.ok, ee]; and_intros <;> first | omega | rfl | (simp <;> omega))
    refine tr_ocall (args := [.isl 2 epa]) (v' := .sl 5 2 0 pn) (H' := [.arr 2 epa]) rfl rfl rfl P33c (by simp [AV.closedL, hcpa]) rfl (by simp [AObj.sub, subL_closed _ hcep]) ?_
    refine tr_go hX (by conv => lhs; cbv) ?_ ?_
    · first | exact trivial | (simp only [Cd.ok, ee]; and_intros <;> first | omega | rfl | (simp <;> omega))
    refine tr_nil ⟨by simp [effLab], ?_, ?_⟩
    · simp only [LooksP, lookAll, List.append, List.cons_append, List.nil_append, List.append_nil]; and_intros <;> first | trivial | (intro hp; first | rfl | exact absurd (show false = true from hp) Bool.false_ne_true)
    exact (ent_sub [.gone, .gone, .to 0, .to 2, .to 1, .to 3] [some 2, some 4, some 3, some 5] ⟨trivial, trivial, ⟨by simp, rfl⟩, ⟨by simp, rfl⟩, ⟨by simp, rfl⟩, ⟨by simp, rfl⟩, trivial⟩ ⟨osrc_cells (b := 2) rfl rfl rfl ⟨.refl _, .refl _, .refl _, .refl _, trivial⟩, osrc_cells (b := 4) rfl rfl rfl ⟨.of (congrArg int hmx), .refl _, .refl _, .refl _, trivial⟩, osrc_arr (b := 3) rfl rfl rfl rfl hceo, osrc_arr (b := 5) rfl rfl rfl rfl hcep, trivial⟩ ⟨.refl _, .refl _, .refl _, trivial⟩)
  · refine tr_go hX (by conv => lhs; cbv) ?_ ?_
    · first | exact trivial | (simp only [Cd.ok, ee]; and_intros <;> first | omega | rfl | (simp <;> omega))
    refine tr_ocall (args := [.isl 2 epa]) (v' := .sl 5 2 0 pn) (H' := [.arr 2 epa]) rfl rfl rfl P33c (by simp [AV.closedL, hcpa]) rfl (by simp [AObj.sub, subL_closed _ hcep]) ?_
    refine tr_go hX (by conv => lhs; cbv) ?_ ?_
    · first | exact trivial | (simp only [Cd.ok, ee]; and_intros <;> first | omega | rfl | (simp <;> omega))
    refine tr_nil ⟨by simp [effLab], ?_, ?_⟩
    · simp only [LooksP, lookAll, List.append, List.cons_append, List.nil_append, List.append_nil]; and_intros <;> first | trivial | (intro hp; first | rfl | exact absurd (show false = true from hp) Bool.false_ne_true)
    exact (ent_sub [.gone, .gone, .to 0, .to 2, .to 1, .to 3] [some 2, some 4, some 3, some 5] ⟨trivial, trivial, ⟨by simp, rfl⟩, ⟨by simp, rfl⟩, ⟨by simp, rfl⟩, ⟨by simp, rfl⟩, trivial⟩ ⟨osrc_cells (b := 2) rfl rfl rfl ⟨.refl _, .refl _, .refl _, .refl _, trivial⟩, osrc_cells (b := 4) rfl rfl rfl ⟨.of (congrArg int hmx), .refl _, .refl _, .refl _, trivial⟩, osrc_arr (b := 3) rfl rfl rfl rfl hceo, osrc_arr (b := 5) rfl rfl rfl rfl hcep, trivial⟩ ⟨.refl _, .refl _, .refl _, trivial⟩)
  refine go rfl hX 60 (by conv => lhs; cbv) ?_ ?_
  · first | exact trivial | (simp only [Cd.ok, ee]; and_intros <;> first | omega | rfl | (simp <;> omega))
  refine on_fcall [2] rfl rfl enters41 P41c (by decide) (by simp) (by show _ = [AObj.arr 1 (AV.subL _ eso)]; rw [subL_closed _ hceo]) rfl ?_
  rintro v0 H1 ⟨rfl, rfl⟩ -
  refine on_entO (F' := [(49, .sl 2 1 0 cz.length), (10, .ptr 1 0), (4, .ptr 0 0)]) (H' := [.cells [int 0, .val (.slice none 0 0), .val (.slice none 0 0), int 0], .cells [int mx, .val (.slice none 0 0), .sl 3 2 0 pn, int ak], .arr 1 eci, .arr 2 epa]) (ent_sub [.to 0, .to 1, .to 2, .to 3] [some 0, some 1, some 2, some 3] ⟨⟨by simp, rfl⟩, ⟨by simp, rfl⟩, ⟨by simp, rfl⟩, ⟨by simp, rfl⟩, trivial⟩ ⟨osrc_cells (b := 0) rfl rfl rfl ⟨.refl _, .refl _, .refl _, .refl _, trivial⟩, osrc_cells (b := 1) rfl rfl rfl ⟨.refl _, .refl _, .refl _, .refl _, trivial⟩, osrc_arr (b := 2) rfl rfl rfl (subL_closed _ hcec) hcec, osrc_arr (b := 3) rfl rfl rfl rfl hcep, trivial⟩ ⟨.refl _, .refl _, .refl _, trivial⟩) ?_
  generalize hczn : cz.length = czn at *
  obtain ⟨rest, hrest⟩ : ∃ rest, eci = mapE int cz ++ rest := ⟨mapE int (List.replicate (so.length - czn) 0), by rw [← hes6, hcomp]; simp [mapE_eq]⟩
  obtain ⟨sw, hsw⟩ : ∃ sw, sweepF mx cz = sw := ⟨_, rfl⟩
  rw [hsw] at hm1 hm2
  refine go rfl hX 60 (by conv => lhs; cbv) ?_ ?_
  · first | exact trivial | (simp only [Cd.ok, ee]; and_intros <;> first | omega | rfl | (simp <;> omega))
  refine on_loopP (ι := List Int × List Int × Int × Int × Nat × List AV × List Int)
    (fun p => ([(51, int p.2.2.1), (50, int (iOf czn)), (49, .sl 2 1 0 czn), (10, .ptr 1 0), (4, .ptr 0 0)], [.cells [int 0, .val (.slice none 0 0), .val (.slice none 0 0), int 0], .cells [int p.2.2.2.1, .sl 4 1 0 p.2.2.2.2.1, .sl 3 2 0 pn, int ak], .arr 1 eci, .arr 2 epa, .arr 1 p.2.2.2.2.2.1]))
    (fun p => cz = p.1 ++ p.2.1 ∧ p.2.2.1 = p.1.length ∧ (0 ≤ p.2.2.2.1 ∧ p.2.2.2.1 ≤ 1099511627777 + p.1.length) ∧ p.2.2.2.2.1 = p.2.2.2.2.2.1.length ∧ p.2.2.2.2.2.1 = mapE int p.2.2.2.2.2.2 ∧ p.2.2.2.2.2.2.length ≤ p.1.length ∧ sw = ((sweepF p.2.2.2.1 p.2.1).1, p.2.2.2.2.2.2 ++ (sweepF p.2.2.2.1 p.2.1).2)) (fun p => p.2.1.length) ([], cz, 0, mx, 0, [], []) ⟨rfl, rfl, by show 0 ≤ mx ∧ mx ≤ 1099511627777 + ((0 : Nat) : Int); omega, rfl, by simp [mapE_eq], by simp, by rw [← hsw]; rfl⟩
    (ent_sub [.to 0, .to 1, .to 2, .to 3] [some 0, some 1, some 2, some 3, none] ⟨⟨by simp, rfl⟩, ⟨by simp, rfl⟩, ⟨by simp, rfl⟩, ⟨by simp, rfl⟩, trivial⟩ ⟨osrc_cells (b := 0) rfl rfl rfl ⟨.refl _, .refl _, .refl _, .refl _, trivial⟩, osrc_cells (b := 1) rfl rfl rfl ⟨.refl _, .nilS 4 1 0 (by simp), .refl _, .refl _, trivial⟩, osrc_arr (b := 2) rfl rfl rfl rfl hcec, osrc_arr (b := 3) rfl rfl rfl rfl hcep, .none 1 rfl, trivial⟩ ⟨.refl _, .refl _, .refl _, .refl _, .refl _, trivial⟩) ?_
  rintro ⟨d, r, i, nx, k, w, x⟩ ⟨j1, hi, hnx, kn, kw, kx, hco⟩
  dsimp only at j1 hi hnx kn kw kx hco ⊢
  have hcw : AV.closedL w = true := by rw [kw]; exact closed_mapE int_closed _
  have hwl : w.length = x.length := by rw [kw, mapE_len]
  obtain ⟨dn, hdn⟩ : ∃ dn, d.length = dn := ⟨_, rfl⟩
  have hcil : eci.length = ln := by rw [← hes6, mapE_len]; exact hcpl
  cases r with
  | nil =>
    have L1 := len_split j1
    try simp only [List.length_cons, List.length_nil] at L1
    have hc : iLt i (iOf czn) = false := by simp only [ee]; simp; omega
    simp only [sweepF, List.append_nil] at hco
    have hmb : mr.bey = x := by rw [hm2, hco]
    have hmn : mr.next = nx := by rw [hm1, hco]
    have hmk : mr.bey.length = k := by rw [hmb, kn, hwl]
    rw [hmk]
    by_cases hq : 256 < k
    · rw [if_pos hq]
      have hb : iLt 256 (iOf k) = true := by simp [ee]; omega
      refine go rfl hX 0 (by conv => lhs; cbv; try simp only [hc, hb]; cbv; try simp only [hc, hb]; cbv; try simp only [hc, hb]; cbv; try simp only [hc, hb]; cbv) ?_ ?_
      · first | exact trivial | (simp only [Cd.ok, ee]; and_intros <;> first | omega | rfl | (simp <;> omega))
      refine go rfl hX 60 (by conv => lhs; cbv) ?_ ?_
      · first | exact trivial | (simp only [Cd.ok, ee]; and_intros <;> first | omega | rfl | (simp <;> omega))
      refine loopP_exit ?_
      refine go rfl hX 0 (by conv => lhs; cbv; try simp only [hc, hb]; cbv; try simp only [hc, hb]; cbv; try simp only [hc, hb]; cbv; try simp only [hc, hb]; cbv) ?_ ?_
      · first | exact trivial | (simp only [Cd.ok, ee]; and_intros <;> first | omega | rfl | (simp <;> omega))
      refine go rfl hX 60 (by conv => lhs; cbv) ?_ ?_
      · first | exact trivial | (simp only [Cd.ok, ee]; and_intros <;> first | omega | rfl | (simp <;> omega))
      refine fn_ret rfl rfl ?_
      exact fz_merge0 _
    · rw [if_neg hq]
      dsimp only
      rw [hme, hmb, hmn, ← kw]
      have hb : iLt 256 (iOf k) = false := by simp [ee]; omega
      refine go rfl hX 0 (by conv => lhs; cbv; try simp only [hc, hb]; cbv; try simp only [hc, hb]; cbv; try simp only [hc, hb]; cbv; try simp only [hc, hb]; cbv) ?_ ?_
      · first | exact trivial | (simp only [Cd.ok, ee]; and_intros <;> first | omega | rfl | (simp <;> omega))
      refine go rfl hX 60 (by conv => lhs; cbv) ?_ ?_
      · first | exact trivial | (simp only [Cd.ok, ee]; and_intros <;> first | omega | rfl | (simp <;> omega))
      refine loopP_exit ?_
      refine go rfl hX 0 (by conv => lhs; cbv; try simp only [hc, hb]; cbv; try simp only [hc, hb]; cbv; try simp only [hc, hb]; cbv; try simp only [hc, hb]; cbv) ?_ ?_
      · first | exact trivial | (simp only [Cd.ok, ee]; and_intros <;> first | omega | rfl | (simp <;> omega))
      refine go rfl hX 60 (by conv => lhs; cbv) ?_ ?_
      · first | exact trivial | (simp only [Cd.ok, ee]; and_intros <;> first | omega | rfl | (simp <;> omega))
      refine fn_ret rfl rfl ?_
      exact ⟨[.gone, .gone, .isl 1 eci, .isl 2 epa, .isl 1 w], ⟨trivial, trivial, ⟨eci, rfl, (subL_closed _ hcec).symm⟩, ⟨epa, rfl, (subL_closed _ hcep).symm⟩, ⟨w, rfl, (subL_closed _ hcw).symm⟩, trivial⟩, .tup' ⟨.agg' ⟨.refl _, .of (sub_whole rfl kn), .of (sub_whole rfl hpl2.symm), .refl _, trivial⟩, .refl _, trivial⟩⟩
  | cons n r =>
    have L1 := len_split j1
    try simp only [List.length_cons, List.length_nil] at L1
    have hc : iLt i (iOf czn) = true := by simp only [ee]; simp; omega
    have hix : idxN 0 i = dn := by simp [ee]; omega
    have hat : atN eci dn = int n := by
      simp only [ee]
      rw [hrest, j1, ← hdn, mapE_eq]; simp [List.getD_eq_getElem?_getD]
    have hi' : iAdd .i64 i 1 = ((d ++ [n] : List Int).length : Int) := by
      simp only [List.length_append, List.length_cons, List.length_nil]; exact inc_w e_iAdd hi (by omega)
    have hx2 : x.length ≤ (d ++ [n]).length := by simp; omega
    have hx3 : (x ++ [n]).length ≤ (d ++ [n]).length := by simp; omega
    have hnx1 : 0 ≤ nx ∧ nx ≤ 1099511627777 + ((d ++ [n]).length : Nat) := by simp; omega
    have hnx2 : 0 ≤ nx + 1 ∧ nx + 1 ≤ 1099511627777 + ((d ++ [n]).length : Nat) := by simp; omega
    have ha1 : iAdd .i64 nx 1 = nx + 1 := by simp only [ee]; exact wrap64 (by omega) (by omega)
    have kw2 : w ++ [int n] = mapE int (x ++ [n]) := by rw [kw, mapI_snoc]
    have hcw2 : AV.closedL (w ++ [int n]) = true := closedL_append hcw rfl
    rw [sweepF] at hco
    by_cases h3 : n = nx
    · rw [if_pos h3] at hco
      have hb : iEq n nx = true := by simp [ee]; exact h3
      refine go rfl hX 0 (by conv => lhs; cbv; try simp only [hc, hix, hat, hb]; cbv; try simp only [hc, hix, hat, hb]; cbv; try simp only [hc, hix, hat, hb]; cbv; try simp only [hc, hix, hat, hb]; cbv) ?_ ?_
      · first | exact trivial | (simp only [Cd.ok, ee]; and_intros <;> first | omega | rfl | (simp <;> omega))
      refine go rfl hX 1 (by conv => lhs; cbv; try simp only [hc, hix, hat, hb]; cbv; try simp only [hc, hix, hat, hb]; cbv; try simp only [hc, hix, hat, hb]; cbv; try simp only [hc, hix, hat, hb]; cbv) ?_ ?_
      · first | exact trivial | (simp only [Cd.ok, ee]; and_intros <;> first | omega | rfl | (simp <;> omega))
      refine go rfl hX 60 (by conv => lhs; cbv) ?_ ?_
      · first | exact trivial | (simp only [Cd.ok, ee]; and_intros <;> first | omega | rfl | (simp <;> omega))
      refine loopP_next (d ++ [n], r, iAdd .i64 i 1, nx + 1, k, w, x) ⟨by simp [j1], hi', hnx2, kn, kw, hx2, hco⟩ (by simp) (ent_sub [.to 0, .to 1, .to 2, .to 3, .to 4] [some 0, some 1, some 2, some 3, some 4] ⟨⟨by simp, rfl⟩, ⟨by simp, rfl⟩, ⟨by simp, rfl⟩, ⟨by simp, rfl⟩, ⟨by simp, rfl⟩, trivial⟩ ⟨osrc_cells (b := 0) rfl rfl rfl ⟨.refl _, .refl _, .refl _, .refl _, trivial⟩, osrc_cells (b := 1) rfl rfl rfl ⟨.of (congrArg int ha1), .refl _, .refl _, .refl _, trivial⟩, osrc_arr (b := 2) rfl rfl rfl rfl hcec, osrc_arr (b := 3) rfl rfl rfl rfl hcep, osrc_arr (b := 4) rfl rfl rfl rfl hcw, trivial⟩ ⟨.refl _, .refl _, .refl _, .refl _, .refl _, trivial⟩)
    · rw [if_neg h3] at hco
      have hb : iEq n nx = false := by simp [ee]; exact h3
      by_cases h4 : nx < n
      · rw [if_pos h4] at hco
        have hb2 : iLt nx n = true := by simp [ee]; omega
        refine go rfl hX 0 (by conv => lhs; cbv; try simp only [hc, hix, hat, hb, hb2]; cbv; try simp only [hc, hix, hat, hb, hb2]; cbv; try simp only [hc, hix, hat, hb, hb2]; cbv; try simp only [hc, hix, hat, hb, hb2]; cbv) ?_ ?_
        · first | exact trivial | (simp only [Cd.ok, ee]; and_intros <;> first | omega | rfl | (simp <;> omega))
        refine go rfl hX 1 (by conv => lhs; cbv; try simp only [hc, hix, hat, hb, hb2]; cbv; try simp only [hc, hix, hat, hb, hb2]; cbv; try simp only [hc, hix, hat, hb, hb2]; cbv; try simp only [hc, hix, hat, hb, hb2]; cbv) ?_ ?_
        · first | exact trivial | (simp only [Cd.ok, ee]; and_intros <;> first | omega | rfl | (simp <;> omega))
        refine go rfl hX 1 (by conv => lhs; cbv; try simp only [hc, hix, hat, hb, hb2]; cbv; try simp only [hc, hix, hat, hb, hb2]; cbv; try simp only [hc, hix, hat, hb, hb2]; cbv; try simp only [hc, hix, hat, hb, hb2]; cbv) ?_ ?_
        · first | exact trivial | (simp only [Cd.ok, ee]; and_intros <;> first | omega | rfl | (simp <;> omega))
        refine go rfl hX 60 (by conv => lhs; cbv) ?_ ?_
        · first | exact trivial | (simp only [Cd.ok, ee]; and_intros <;> first | omega | rfl | (simp <;> omega))
        refine loopP_next (d ++ [n], r, iAdd .i64 i 1, nx, k + 1, w ++ [int n], x ++ [n]) ⟨by simp [j1], hi', hnx1, by simp [kn], kw2, hx3, by rw [hco]; simp⟩ (by simp) (ent_sub [.to 0, .to 1, .to 2, .to 3, .gone, .gone, .to 4] [some 0, some 1, some 2, some 3, some 6] ⟨⟨by simp, rfl⟩, ⟨by simp, rfl⟩, ⟨by simp, rfl⟩, ⟨by simp, rfl⟩, trivial, trivial, ⟨by simp, rfl⟩, trivial⟩ ⟨osrc_cells (b := 0) rfl rfl rfl ⟨.refl _, .refl _, .refl _, .refl _, trivial⟩, osrc_cells (b := 1) rfl rfl rfl ⟨.refl _, .of (by simp only [ee]; rfl), .refl _, .refl _, trivial⟩, osrc_arr (b := 2) rfl rfl rfl rfl hcec, osrc_arr (b := 3) rfl rfl rfl rfl hcep, osrc_arr (b := 6) rfl rfl rfl (by simp [ee, kn]) hcw2, trivial⟩ ⟨.refl _, .refl _, .refl _, .refl _, .refl _, trivial⟩)
      · rw [if_neg h4] at hco
        have hb2 : iLt nx n = false := by simp [ee]; omega
        refine go rfl hX 0 (by conv => lhs; cbv; try simp only [hc, hix, hat, hb, hb2]; cbv; try simp only [hc, hix, hat, hb, hb2]; cbv; try simp only [hc, hix, hat, hb, hb2]; cbv; try simp only [hc, hix, hat, hb, hb2]; cbv) ?_ ?_
        · first | exact trivial | (simp only [Cd.ok, ee]; and_intros <;> first | omega | rfl | (simp <;> omega))
        refine go rfl hX 1 (by conv => lhs; cbv; try simp only [hc, hix, hat, hb, hb2]; cbv; try simp only [hc, hix, hat, hb, hb2]; cbv; try simp only [hc, hix, hat, hb, hb2]; cbv; try simp only [hc, hix, hat, hb, hb2]; cbv) ?_ ?_
        · first | exact trivial | (simp only [Cd.ok, ee]; and_intros <;> first | omega | rfl | (simp <;> omega))
        refine go rfl hX 1 (by conv => lhs; cbv; try simp only [hc, hix, hat, hb, hb2]; cbv; try simp only [hc, hix, hat, hb, hb2]; cbv; try simp only [hc, hix, hat, hb, hb2]; cbv; try simp only [hc, hix, hat, hb, hb2]; cbv) ?_ ?_
        · first | exact trivial | (simp only [Cd.ok, ee]; and_intros <;> first | omega | rfl | (simp <;> omega))
        refine go rfl hX 60 (by conv => lhs; cbv) ?_ ?_
        · first | exact trivial | (simp only [Cd.ok, ee]; and_intros <;> first | omega | rfl | (simp <;> omega))
        refine loopP_next (d ++ [n], r, iAdd .i64 i 1, nx, k, w, x) ⟨by simp [j1], hi', hnx1, kn, kw, hx2, hco⟩ (by simp) (ent_sub [.to 0, .to 1, .to 2, .to 3, .to 4] [some 0, some 1, some 2, some 3, some 4] ⟨⟨by simp, rfl⟩, ⟨by simp, rfl⟩, ⟨by simp, rfl⟩, ⟨by simp, rfl⟩, ⟨by simp, rfl⟩, trivial⟩ ⟨osrc_cells (b := 0) rfl rfl rfl ⟨.refl _, .refl _, .refl _, .refl _, trivial⟩, osrc_cells (b := 1) rfl rfl rfl ⟨.refl _, .refl _, .refl _, .refl _, trivial⟩, osrc_arr (b := 2) rfl rfl rfl rfl hcec, osrc_arr (b := 3) rfl rfl rfl rfl hcep, osrc_arr (b := 4) rfl rfl rfl rfl hcw, trivial⟩ ⟨.refl _, .refl _, .refl _, .refl _, .refl _, trivial⟩)
end Go.Am
end
