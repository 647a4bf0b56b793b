/- Contracts of the program's functions, for every argument that meets the conditions that each theorem names. -/
import Derived.Test.YteahddjeanhnlaaDoorAm6
import Derived.Test.YteahddjeanhnlaaDoorCt3
import Derived.Test.YteahddjeanhnlaaDoorAm5
section
set_option maxHeartbeats 16000000
set_option maxRecDepth 100000
namespace Go.Am
open Go.Proofs
theorem enters_ref03_begin : Enters EE.P 44 := enters_of (fn := Tryd.f44) (n := 36) (ac := Trydc44) rfl (by decide) Trydp44
theorem C_rbegin (l : List Sch) (w : Bs) (hl : l.length ≤ 16) (hw : w.length < 1152921504606846976) (lv : AV) (LH : AHeap) (hO : (l = [] ∧ lv = .val (.slice none 0 0) ∧ LH = []) ∨ (l ≠ [] ∧ lv = .sl 0 2 0 l.length ∧ LH = [.arr 2 (mapE Sch.enc l)])) :
 ACall EK 44 [lv, str (ba w)] LH fun v H' => (begE l w ≠ 0 ∧ v = .tup [lv, int (begE l w)] ∧ H' = LH) ∨ (begE l w = 0 ∧ ((l = [] ∧ v = .tup [.sl 0 2 0 1, int 0] ∧ H' = [.arr 2 [.agg [str (ba w), .val (.slice none 0 0)]]]) ∨ (l ≠ [] ∧ v = .tup [.sl 1 2 0 (l.length + 1), int 0] ∧ H' = [.dead, .arr 2 (mapE Sch.enc l ++ [.agg [str (ba w), .val (.slice none 0 0)]])]))) := by
 have hsz := ba_size w
 have hget := fun d c r h => ba_get w d r c h
 have pn := (P_refName w hw).toK
 have pw := (P_Where l w (by omega)).toK
 have kcl := Sch.closedI l
 have kcL := Sch.closedL l
 obtain ⟨E, hE⟩ : ∃ E, E = begE l w := ⟨_, rfl⟩
 rw [← hE]
 rw [begE] at hE
 generalize Sch.wh l w = P at *
 generalize nameB w = bn at *
 generalize ba w = s at *
 refine wordsN ?_; unhygienic intros
 have hn : sLen s = (w.length : Int) := by simp only [ee]; rw [hsz]
 have hat : ∀ d c r, w = d ++ c :: r → ∀ i : Int, i = d.length → sAt s i = ch c := fun d c r h i hi => by
  subst hi; simp only [ee, ch]; rw [Int.toNat_natCast, hget d c r h]
 generalize hes : mapE Sch.enc l = es at *
 have hel : es.length = l.length := by rw [← hes, mapE_len]
 have n0 : bNot false = true := by simp only [ee]; rfl
 have n1 : bNot true = false := by simp only [ee]; rfl
 have hlv : ∀ σ : Nat → Sub, True := fun _ => trivial
 refine rcall_body (fn := Tryd.f44) (n := 36) (ac := Trydc44) (rvs := [.t 4, .t 5]) rfl Trydp44 rfl rfl rfl ?_
 refine goA 60 ?_
 refine on_loopP (ι := Bs × Bs × Int) (fun p => ([(6, int p.2.2), (1, str s), (0, lv)], LH)) (fun p => w = p.1 ++ p.2.1 ∧ p.2.2 = p.1.length ∧ (58 : UInt8) ∉ p.1) (fun p => p.2.1.length) ([], w, 0) ⟨rfl, rfl, by simp⟩ ?_ ?_
 · exact ent_fw ⟨.refl _, .refl _, .refl _, trivial⟩
 rintro ⟨d, r, i⟩ ⟨g1, gi, gd⟩
 dsimp only at g1 gi gd ⊢
 cases r with
 | cons c r =>
  have L1 := len_split g1
  try simp only [List.length] at L1
  have hc : iLt i (sLen s) = true := by rw [hn]; simp only [ee]; simp; omega
  have hb : i < sLen s := by rw [hn]; omega
  have hb0 : 0 ≤ i := by omega
  have hi2 : iAdd .i64 i 1 = ((d ++ [c]).length : Int) := by rw [List.length_append]; exact inc_w e_iAdd gi (by omega)
  have ht := hat d c r g1 i gi
  clear hget hat
  by_cases n : c = 58
  · have k : iEq (ch c) 58 = true := by subst n; simp only [ee]; rfl
    have e1 : E = 4 := by rw [hE, if_pos (by rw [g1, n]; simp)]
    subst e1
    rcases hO with ⟨rfl, rfl, rfl⟩ | ⟨hne, rfl, rfl⟩
    ·
     refine goB hX 0 (by conv => lhs; cbv; try simp only [hc, ht, k]; cbv; try simp only [hc, ht, k]; cbv; try simp only [hc, ht, k]; cbv; try simp only [hc, ht, k]; cbv) ?_
     refine goB hX 1 (by conv => lhs; cbv; try simp only [hc, ht, k]; cbv; try simp only [hc, ht, k]; cbv; try simp only [hc, ht, k]; cbv; try simp only [hc, ht, k]; cbv) ?_
     refine goA 60 ?_
     refine loopP_ret ?_
     refine goA 60 ?_
     (exact o_ret (.refl _ _ _ _ _) rfl (.inl ⟨by decide, rfl, rfl⟩))
    · generalize l.length = n8 at *
      refine goB hX 0 (by conv => lhs; cbv; try simp only [hc, ht, k]; cbv; try simp only [hc, ht, k]; cbv; try simp only [hc, ht, k]; cbv; try simp only [hc, ht, k]; cbv) ?_
      refine goB hX 1 (by conv => lhs; cbv; try simp only [hc, ht, k]; cbv; try simp only [hc, ht, k]; cbv; try simp only [hc, ht, k]; cbv; try simp only [hc, ht, k]; cbv) ?_
      refine goA 60 ?_
      refine loopP_ret ?_
      refine goA 60 ?_
      (exact o_ret (.refl _ _ _ _ _) rfl (.inl ⟨by decide, rfl, rfl⟩))
  · have k : iEq (ch c) 58 = false := by simp only [ee]; exact beq_eq_false_iff_ne.2 fun h => n (ch_inj (b := 58) (h.trans rfl))
    have g2 : (58 : UInt8) ∉ d ++ [c] := by simp [gd, Ne.symm n]
    refine goB hX 0 (by conv => lhs; cbv; try simp only [hc, ht, k]; cbv; try simp only [hc, ht, k]; cbv; try simp only [hc, ht, k]; cbv; try simp only [hc, ht, k]; cbv) ?_
    refine goB hX 1 (by conv => lhs; cbv; try simp only [hc, ht, k]; cbv; try simp only [hc, ht, k]; cbv; try simp only [hc, ht, k]; cbv; try simp only [hc, ht, k]; cbv) ?_
    refine goA 60 ?_
    refine loopP_next (d ++ [c], r, iAdd .i64 i 1) ⟨by simp [g1], hi2, g2⟩ (by simp) (ent_fw ⟨.refl _, .refl _, .refl _, trivial⟩)
 | nil =>
  have hc : iLt i (sLen s) = false := by rw [hn, g1]; simp only [ee]; simp; omega
  rw [List.append_nil] at g1
  rw [g1, if_neg gd] at hE
  clear hget hat
  rcases hO with ⟨rfl, rfl, rfl⟩ | ⟨hne, rfl, rfl⟩
  · rw [mapE_nil] at hes
    subst hes
    have k2 : iLe 16 0 = false := by simp only [ee]; rfl
    rw [if_neg (by decide)] at hE
    cases bn with
    | false =>
     rw [if_pos rfl] at hE
     subst hE
     refine goB hX 0 (by conv => lhs; cbv; try simp only [hc, k2, n0]; cbv; try simp only [hc, k2, n0]; cbv; try simp only [hc, k2, n0]; cbv; try simp only [hc, k2, n0]; cbv) ?_
     refine goA 60 ?_
     refine loopP_exit ?_
     refine goB hX 0 (by conv => lhs; cbv; try simp only [hc, k2, n0]; cbv; try simp only [hc, k2, n0]; cbv; try simp only [hc, k2, n0]; cbv; try simp only [hc, k2, n0]; cbv) ?_
     refine on_cond rfl (fun c1 => ?_) (fun c1 => ?_)
     ·
      simp [ee] at c1
     ·
      simp [ee] at c1
      refine goA 60 ?_
      refine oPA pn ?_
      refine goB hX 0 (by conv => lhs; cbv; try simp only [hc, k2, n0]; cbv; try simp only [hc, k2, n0]; cbv; try simp only [hc, k2, n0]; cbv; try simp only [hc, k2, n0]; cbv) ?_
      refine goA 60 ?_
      (exact o_ret (.refl _ _ _ _ _) rfl (.inl ⟨by decide, rfl, rfl⟩))
    | true =>
    rw [if_neg (by decide)] at hE
    by_cases h3 : 0 ≤ P
    · have k3 : iLe 0 P = true := by simp only [ee]; simpa using h3
      rw [if_pos h3] at hE
      subst hE
      refine goB hX 0 (by conv => lhs; cbv; try simp only [hc, k2, k3, n1]; cbv; try simp only [hc, k2, k3, n1]; cbv; try simp only [hc, k2, k3, n1]; cbv; try simp only [hc, k2, k3, n1]; cbv) ?_
      refine goA 60 ?_
      refine loopP_exit ?_
      refine goB hX 0 (by conv => lhs; cbv; try simp only [hc, k2, k3, n1]; cbv; try simp only [hc, k2, k3, n1]; cbv; try simp only [hc, k2, k3, n1]; cbv; try simp only [hc, k2, k3, n1]; cbv) ?_
      refine on_cond rfl (fun c1 => ?_) (fun c1 => ?_)
      ·
       simp [ee] at c1
      ·
       simp [ee] at c1
       refine goA 60 ?_
       refine oPA pn ?_
       refine goB hX 0 (by conv => lhs; cbv; try simp only [hc, k2, k3, n1]; cbv; try simp only [hc, k2, k3, n1]; cbv; try simp only [hc, k2, k3, n1]; cbv; try simp only [hc, k2, k3, n1]; cbv) ?_
       refine goA 60 ?_
       refine on_lend rfl rfl pw rfl ⟨[], trivial, ⟨.nilI _, .refl _, trivial⟩⟩ ?_
       refine goB hX 0 (by conv => lhs; cbv; try simp only [hc, k2, k3, n1]; cbv; try simp only [hc, k2, k3, n1]; cbv; try simp only [hc, k2, k3, n1]; cbv; try simp only [hc, k2, k3, n1]; cbv) ?_
       refine goA 60 ?_
       (exact o_ret (.refl _ _ _ _ _) rfl (.inl ⟨by decide, rfl, rfl⟩))
    have k3 : iLe 0 P = false := by simp only [ee]; simpa using h3
    rw [if_neg h3] at hE
    subst hE
    have ke1 : lenN (partA [AV.agg [str s, .val (.slice none 0 0)]] 0 1) = 1 := by simp only [ee]; rfl
    have ke2 : partA [AV.agg [str s, .val (.slice none 0 0)]] 0 1 = [.agg [str s, .val (.slice none 0 0)]] := by simp only [ee]; rfl
    refine goB hX 0 (by conv => lhs; cbv; try simp only [hc, k2, k3, n1]; cbv; try simp only [hc, k2, k3, n1]; cbv; try simp only [hc, k2, k3, n1]; cbv; try simp only [hc, k2, k3, n1]; cbv) ?_
    refine goA 60 ?_
    refine loopP_exit ?_
    refine goB hX 0 (by conv => lhs; cbv; try simp only [hc, k2, k3, n1]; cbv; try simp only [hc, k2, k3, n1]; cbv; try simp only [hc, k2, k3, n1]; cbv; try simp only [hc, k2, k3, n1]; cbv) ?_
    refine on_cond rfl (fun c1 => ?_) (fun c1 => ?_)
    ·
     simp [ee] at c1
    ·
     simp [ee] at c1
     refine goA 60 ?_
     refine oPA pn ?_
     refine goB hX 0 (by conv => lhs; cbv; try simp only [hc, k2, k3, n1]; cbv; try simp only [hc, k2, k3, n1]; cbv; try simp only [hc, k2, k3, n1]; cbv; try simp only [hc, k2, k3, n1]; cbv) ?_
     refine goA 60 ?_
     refine on_lend rfl rfl pw rfl ⟨[], trivial, ⟨.nilI _, .refl _, trivial⟩⟩ ?_
     refine goB hX 0 (by conv => lhs; cbv; try simp only [hc, k2, k3, n1]; cbv; try simp only [hc, k2, k3, n1]; cbv; try simp only [hc, k2, k3, n1]; cbv; try simp only [hc, k2, k3, n1]; cbv) ?_
     refine goA 60 ?_
     (rw [ke1, ke2]; exact o_ret (F2 := [(5, int 0), (4, .sl 0 2 0 1)]) (H2 := [.arr 2 [.agg [str s, .val (.slice none 0 0)]]]) (ent_subN [.gone, .to 0] [some 1] trivial (by simp) (by simp) ⟨trivial, ⟨by simp, rfl⟩, trivial⟩ ⟨osrc_arr (b := 1) rfl rfl rfl rfl rfl, trivial⟩ ⟨.refl _, .refl _, trivial⟩) rfl (.inr ⟨rfl, .inl ⟨rfl, rfl, rfl⟩⟩))
  · obtain ⟨n8, hn8⟩ : ∃ n8, n8 = l.length := ⟨_, rfl⟩
    have kz : AV.closedL (es ++ [.agg [str s, .val (.slice none 0 0)]]) = true := closedL_append kcL rfl
    have ke1 : addN n8 (lenN (partA [AV.agg [str s, .val (.slice none 0 0)]] 0 1)) = n8 + 1 := by simp only [ee]; rfl
    have ke2 : catA (dropA es 0) (partA [AV.agg [str s, .val (.slice none 0 0)]] 0 1) = es ++ [.agg [str s, .val (.slice none 0 0)]] := by simp only [ee]; rfl
    rw [← hn8] at hel hE hl ⊢
    by_cases h2 : n8 = 16
    · have k2 : iLe 16 (iOf n8) = true := by simp only [ee]; simp; omega
      rw [if_pos h2] at hE
      subst hE
      refine goB hX 0 (by conv => lhs; cbv; try simp only [hc, k2]; cbv; try simp only [hc, k2]; cbv; try simp only [hc, k2]; cbv; try simp only [hc, k2]; cbv) ?_
      refine goA 60 ?_
      refine loopP_exit ?_
      refine goB hX 0 (by conv => lhs; cbv; try simp only [hc, k2]; cbv; try simp only [hc, k2]; cbv; try simp only [hc, k2]; cbv; try simp only [hc, k2]; cbv) ?_
      refine goA 60 ?_
      (exact o_ret (.refl _ _ _ _ _) rfl (.inl ⟨by decide, rfl, rfl⟩))
    have k2 : iLe 16 (iOf n8) = false := by simp only [ee]; simp; omega
    rw [if_neg h2] at hE
    cases bn with
    | false =>
     rw [if_pos rfl] at hE
     subst hE
     refine goB hX 0 (by conv => lhs; cbv; try simp only [hc, k2, n0]; cbv; try simp only [hc, k2, n0]; cbv; try simp only [hc, k2, n0]; cbv; try simp only [hc, k2, n0]; cbv) ?_
     refine goA 60 ?_
     refine loopP_exit ?_
     refine goB hX 0 (by conv => lhs; cbv; try simp only [hc, k2, n0]; cbv; try simp only [hc, k2, n0]; cbv; try simp only [hc, k2, n0]; cbv; try simp only [hc, k2, n0]; cbv) ?_
     refine goA 60 ?_
     refine oPA pn ?_
     refine goB hX 0 (by conv => lhs; cbv; try simp only [hc, k2, n0]; cbv; try simp only [hc, k2, n0]; cbv; try simp only [hc, k2, n0]; cbv; try simp only [hc, k2, n0]; cbv) ?_
     refine goA 60 ?_
     (exact o_ret (.refl _ _ _ _ _) rfl (.inl ⟨by decide, rfl, rfl⟩))
    | true =>
    rw [if_neg (by decide)] at hE
    by_cases h3 : 0 ≤ P
    · have k3 : iLe 0 P = true := by simp only [ee]; simpa using h3
      rw [if_pos h3] at hE
      subst hE
      refine goB hX 0 (by conv => lhs; cbv; try simp only [hc, k2, k3, n1]; cbv; try simp only [hc, k2, k3, n1]; cbv; try simp only [hc, k2, k3, n1]; cbv; try simp only [hc, k2, k3, n1]; cbv) ?_
      refine goA 60 ?_
      refine loopP_exit ?_
      refine goB hX 0 (by conv => lhs; cbv; try simp only [hc, k2, k3, n1]; cbv; try simp only [hc, k2, k3, n1]; cbv; try simp only [hc, k2, k3, n1]; cbv; try simp only [hc, k2, k3, n1]; cbv) ?_
      refine goA 60 ?_
      refine oPA pn ?_
      refine goB hX 0 (by conv => lhs; cbv; try simp only [hc, k2, k3, n1]; cbv; try simp only [hc, k2, k3, n1]; cbv; try simp only [hc, k2, k3, n1]; cbv; try simp only [hc, k2, k3, n1]; cbv) ?_
      refine goA 60 ?_
      refine on_lend rfl rfl pw rfl ⟨[.isl 2 (es)], ⟨⟨_, rfl, (subL_closed _ kcL).symm⟩, trivial⟩, ⟨.of (sub_whole rfl (by omega)), .refl _, trivial⟩⟩ ?_
      refine goB hX 0 (by conv => lhs; cbv; try simp only [hc, k2, k3, n1]; cbv; try simp only [hc, k2, k3, n1]; cbv; try simp only [hc, k2, k3, n1]; cbv; try simp only [hc, k2, k3, n1]; cbv) ?_
      refine goA 60 ?_
      (exact o_ret (.refl _ _ _ _ _) rfl (.inl ⟨by decide, rfl, rfl⟩))
    have k3 : iLe 0 P = false := by simp only [ee]; simpa using h3
    rw [if_neg h3] at hE
    subst hE
    refine goB hX 0 (by conv => lhs; cbv; try simp only [hc, k2, k3, n1]; cbv; try simp only [hc, k2, k3, n1]; cbv; try simp only [hc, k2, k3, n1]; cbv; try simp only [hc, k2, k3, n1]; cbv) ?_
    refine goA 60 ?_
    refine loopP_exit ?_
    refine goB hX 0 (by conv => lhs; cbv; try simp only [hc, k2, k3, n1]; cbv; try simp only [hc, k2, k3, n1]; cbv; try simp only [hc, k2, k3, n1]; cbv; try simp only [hc, k2, k3, n1]; cbv) ?_
    refine goA 60 ?_
    refine oPA pn ?_
    refine goB hX 0 (by conv => lhs; cbv; try simp only [hc, k2, k3, n1]; cbv; try simp only [hc, k2, k3, n1]; cbv; try simp only [hc, k2, k3, n1]; cbv; try simp only [hc, k2, k3, n1]; cbv) ?_
    refine goA 60 ?_
    refine on_lend rfl rfl pw rfl ⟨[.isl 2 (es)], ⟨⟨_, rfl, (subL_closed _ kcL).symm⟩, trivial⟩, ⟨.of (sub_whole rfl (by omega)), .refl _, trivial⟩⟩ ?_
    refine goB hX 0 (by conv => lhs; cbv; try simp only [hc, k2, k3, n1]; cbv; try simp only [hc, k2, k3, n1]; cbv; try simp only [hc, k2, k3, n1]; cbv; try simp only [hc, k2, k3, n1]; cbv) ?_
    refine goA 60 ?_
    (rw [ke1, ke2]; exact o_ret (F2 := [(5, int 0), (4, .sl 1 2 0 (n8 + 1))]) (H2 := [.dead, .arr 2 (es ++ [.agg [str s, .val (.slice none 0 0)]])]) (ent_subN [.gone, .gone, .to 1] [some 0, some 2] ⟨rfl, trivial⟩ (by simp) (by simp) ⟨trivial, trivial, ⟨by simp, rfl⟩, trivial⟩ ⟨.dead, osrc_arr (b := 2) rfl rfl rfl rfl kz, trivial⟩ ⟨.refl _, .refl _, trivial⟩) rfl (.inr ⟨rfl, .inr ⟨hne, rfl, rfl⟩⟩))
theorem enters_ref03_field : Enters EE.P 45 := enters_of (fn := Tryd.f45) (n := 55) (ac := Trydc45) rfl (by decide) Trydp45
theorem colA_cases (w : Bs) : (colA w = -1 ∧ kdOf (cutR 58 w) < 0) ∨ ∃ r, w = cutL 58 w ++ 58 :: r ∧ r = cutR 58 w ∧ colA w = (cutL 58 w).length := by
 have hk : ∀ r : Bs, (58 : UInt8) ∈ r → kdOf r < 0 := fun r h => by
  rw [kdOf, if_neg, if_neg, if_neg]
  · decide
  all_goals rintro rfl; revert h; decide
 by_cases h : (58 : UInt8) ∈ w
 · obtain ⟨d, r, e, hd⟩ := first_of h
   have e1 : cutL 58 w = d := by rw [e]; exact cutL_app r hd
   have e2 : cutR 58 w = r := by rw [e]; exact cutR_app r hd
   by_cases h2 : (58 : UInt8) ∈ cutR 58 w
   · exact .inl ⟨by rw [colA, if_neg (fun q => q.2 h2)], hk _ h2⟩
   · exact .inr ⟨r, by rw [e1]; exact e, e2.symm, by rw [colA, if_pos ⟨h, h2⟩]⟩
 · refine .inl ⟨by rw [colA, if_neg (fun q => h q.1)], ?_⟩
   rw [cutR_free h]; decide
theorem kd_lt3 (w : Bs) : kdOf w < 3 := by
 rw [kdOf]; split
 · decide
 · split
   · decide
   · split <;> decide
theorem C_rfield (qn : ByteArray) (fs : List Fld) (w : Bs) (hl : fs.length ≤ 8) (hw : w.length < 4294967281) (fv : AV) (LH : AHeap) (hO : (fs = [] ∧ fv = .val (.slice none 0 0) ∧ LH = []) ∨ (fs ≠ [] ∧ fv = .sl 0 2 0 fs.length ∧ LH = [.arr 2 (mapE Fld.enc fs)])) :
 ACall EK 45 [.agg [str qn, fv], str (ba w)] LH fun v H' => (fldE fs w ≠ 0 ∧ v = .tup [.agg [str qn, fv], int (fldE fs w)] ∧ H' = LH ++ [.cells [str qn, fv]]) ∨ (fldE fs w = 0 ∧ ((fs = [] ∧ v = .tup [.agg [str qn, .sl 0 2 0 1], int 0] ∧ H' = [.arr 2 [Fld.enc (newF w)], .cells [str qn, .sl 0 2 0 1]]) ∨ (fs ≠ [] ∧ v = .tup [.agg [str qn, .sl 1 2 0 (fs.length + 1)], int 0] ∧ H' = [.dead, .arr 2 (mapE Fld.enc fs ++ [Fld.enc (newF w)]), .cells [str qn, .sl 1 2 0 (fs.length + 1)]]))) := by
 have hsz := ba_size w
 have hcut := fun i j => ba_cut w i j
 have pcol := (P_colon w (by omega)).toK
 have hcl := cut_len 58 w
 have pn := (P_refName (cutL 58 w) (by omega)).toK
 have pp := (P_refPosition ⟨qn.data.toList, fs⟩ (cutL 58 w) (by show fs.length < _; omega)).toK
 rw [Sch.enc_eq] at pp
 dsimp only at pp
 rw [← ba_of] at pp
 have pk := P_kind (cutR 58 w)
 have kcl := Fld.closedI fs
 have kcL := Fld.closedL fs
 obtain ⟨E, hE⟩ : ∃ E, E = fldE fs w := ⟨_, rfl⟩
 rw [← hE]
 rw [fldE] at hE
 rw [newF_enc]
 have hk3 := kd_lt3 (cutR 58 w)
 have et : ((ba (cutL 58 w)).toList == (ByteArray.mk #[116, 105, 109, 101]).toList) = decide (cutL 58 w = bTime) := by
  rw [show (ByteArray.mk #[116, 105, 109, 101]) = ba bTime from ba_lit bTime, ba_eqB]
 have hff : fnameB (cutL 58 w) = (nameB (cutL 58 w) && !decide (cutL 58 w = bTime)) := by rw [fnameB]; simp
 rw [hff] at hE
 refine wordsN ?_; unhygienic intros
 have hn : sLen (ba w) = (w.length : Int) := by simp only [ee]; rw [hsz]
 have hct : ∀ (i j : Nat), ∀ ii jj : Int, ii = i → jj = j → sCut (ba w) ii jj = ba ((w.take j).drop i) := fun i j ii jj h1 h2 => by
  subst h1 h2; simp only [ee]; rw [Int.toNat_natCast, Int.toNat_natCast, hcut]
 have kt : sEq (ba (cutL 58 w)) ⟨#[116, 105, 109, 101]⟩ = decide (cutL 58 w = bTime) := by simp only [ee]; exact et
 have n0 : bNot false = true := by simp only [ee]; rfl
 have n1 : bNot true = false := by simp only [ee]; rfl
 clear et hff hcut
 rcases colA_cases w with ⟨a1, a2⟩ | ⟨rr, a1, a2, a3⟩
 · rw [if_pos a2] at hE
   subst hE
   have kA : iLt (-1) 0 = true := by simp only [ee]; rfl
   rw [a1] at pcol
   generalize ba w = s at *
   clear hct kt pn pp pk
   rcases hO with ⟨rfl, rfl, rfl⟩ | ⟨hne, rfl, rfl⟩
   · refine rcall_body (fn := Tryd.f45) (n := 55) (ac := Trydc45) (rvs := [.cell 4 2 true, .t 5]) rfl Trydp45 rfl rfl rfl ?_
     refine goA 60 ?_
     refine oPA pcol ?_
     refine goB hX 0 (by conv => lhs; cbv; try simp only [kA]; cbv; try simp only [kA]; cbv; try simp only [kA]; cbv; try simp only [kA]; cbv) ?_
     refine goA 60 ?_
     refine on_gskip rfl rfl ?_
     refine goA 60 ?_
     (exact o_ret (F2 := [(4, .ptr 0 0), (5, int _)]) (H2 := [.cells [str qn, .val (.slice none 0 0)]]) (ent_subN [.gone, .to 0] [some 1] trivial (by simp) (by simp) ⟨trivial, ⟨by simp, rfl⟩, trivial⟩ ⟨osrc_cells (b := 1) rfl rfl rfl ⟨.refl _, .refl _, trivial⟩, trivial⟩ ⟨.refl _, .refl _, trivial⟩) rfl (.inl ⟨by decide, rfl, rfl⟩))
   · generalize mapE Fld.enc fs = fe at *
     obtain ⟨m, hm⟩ : ∃ m, m = fs.length := ⟨_, rfl⟩
     rw [← hm]
     refine rcall_body (fn := Tryd.f45) (n := 55) (ac := Trydc45) (rvs := [.cell 4 2 true, .t 5]) rfl Trydp45 rfl rfl rfl ?_
     refine goA 60 ?_
     refine oPA pcol ?_
     refine goB hX 0 (by conv => lhs; cbv; try simp only [kA]; cbv; try simp only [kA]; cbv; try simp only [kA]; cbv; try simp only [kA]; cbv) ?_
     refine goA 60 ?_
     refine on_gskip rfl rfl ?_
     refine goA 60 ?_
     (exact o_ret (F2 := [(4, .ptr 1 0), (5, int _)]) (H2 := [.arr 2 fe, .cells [str qn, .sl 0 2 0 m]]) (ent_subN [.to 0, .gone, .to 1] [some 0, some 2] ⟨rfl, trivial⟩ (by simp) (by simp) ⟨⟨by simp, rfl⟩, trivial, ⟨by simp, rfl⟩, trivial⟩ ⟨osrc_arr (b := 0) rfl rfl rfl rfl kcL, osrc_cells (b := 2) rfl rfl rfl ⟨.refl _, .refl _, trivial⟩, trivial⟩ ⟨.refl _, .refl _, trivial⟩) rfl (.inl ⟨by decide, rfl, rfl⟩))
 rw [← a2] at pk hE hk3
 obtain ⟨A, hA⟩ : ∃ A : Int, A = (cutL 58 w).length := ⟨_, rfl⟩
 obtain ⟨B, hB⟩ : ∃ B : Int, B = ((cutL 58 w).length + 1 : Nat) := ⟨_, rfl⟩
 have hwl : w.length = (cutL 58 w).length + 1 + rr.length := by
  have := congrArg List.length a1
  rw [List.length_append, List.length_cons] at this; omega
 have kc1 : sCut (ba w) B (sLen (ba w)) = ba rr := by
  rw [hct ((cutL 58 w).length + 1) w.length B _ hB hn]
  congr 1
  rw [List.take_of_length_le (Nat.le_refl _)]
  generalize cutL 58 w = x at *
  rw [a1, show x ++ 58 :: rr = (x ++ [58]) ++ rr by simp, List.drop_left' (by simp)]
 have kc2 : sCut (ba w) 0 A = ba (cutL 58 w) := by
  rw [hct 0 (cutL 58 w).length 0 A rfl hA]
  congr 1
  generalize cutL 58 w = x at *
  rw [a1, List.take_left' rfl, List.drop_zero]
 have kA : iLt A 0 = false := by simp only [ee]; simp; omega
 have kAB : iAdd .i64 A 1 = B := by rw [hB]; exact inc_w e_iAdd hA (by omega)
 have hwB : IntKind.i64.wrap (A + 1) = B := by rw [← kAB, e_iAdd]; rfl
 have hA0 : 0 ≤ A := by omega
 have hB0 : 0 ≤ B := by omega
 have hAw : A ≤ sLen (ba w) := by rw [hn]; omega
 have hBw : B ≤ sLen (ba w) := by rw [hn]; omega
 rw [a3, ← hA] at pcol
 obtain ⟨K, hK⟩ : ∃ K, K = kdOf rr := ⟨_, rfl⟩
 rw [← a2, ← hK]
 rw [← hK] at pk hE hk3
 clear hct hwl a1 a2 a3
 generalize nameB (cutL 58 w) = bn at *
 generalize decide (cutL 58 w = bTime) = bt at *
 generalize Fld.pos fs (cutL 58 w) = P at *
 generalize ba (cutL 58 w) = sl at *
 generalize ba rr = sr at *
 generalize ba w = s at *
 have hsn : ∀ x : Int, x ≤ sLen s → x ≤ (s.size : Int) := fun x h => by simp only [ee] at h; exact h
 have hAz := hsn A hAw
 have hBz := hsn B hBw
 rcases hO with ⟨rfl, rfl, rfl⟩ | ⟨hne, rfl, rfl⟩
 · rw [mapE_nil] at pp
   clear kcl kcL
   have k2 : iLe 8 0 = false := by simp only [ee]; rfl
   by_cases h1 : K < 0
   · have k1 : iLt K 0 = true := by simp only [ee]; simpa using h1
     rw [if_pos h1] at hE
     subst hE
     refine rcall_body (fn := Tryd.f45) (n := 55) (ac := Trydc45) (rvs := [.cell 4 2 true, .t 5]) rfl Trydp45 rfl rfl rfl ?_
     refine goA 60 ?_
     refine oPA pcol ?_
     refine goB hX 0 (by conv => lhs; cbv; try simp only [kA, kAB, kc1, k1]; cbv; try simp only [kA, kAB, kc1, k1]; cbv; try simp only [kA, kAB, kc1, k1]; cbv; try simp only [kA, kAB, kc1, k1]; cbv) ?_
     refine goA 60 ?_
     refine on_lend rfl rfl pk rfl ⟨[.gone, .gone], ⟨trivial, trivial, trivial⟩, ⟨.of (by simp only [kAB, kc1]; rfl), trivial⟩⟩ ?_
     refine goB hX 0 (by conv => lhs; cbv; try simp only [kA, kAB, kc1, k1]; cbv; try simp only [kA, kAB, kc1, k1]; cbv; try simp only [kA, kAB, kc1, k1]; cbv; try simp only [kA, kAB, kc1, k1]; cbv) ?_
     refine on_cond rfl (fun c1 => ?_) (fun c1 => ?_)
     ·
      simp [ee] at c1
      refine goA 60 ?_
      (exact o_ret (F2 := [(4, .ptr 0 0), (5, int _)]) (H2 := [.cells [str qn, .val (.slice none 0 0)]]) (ent_subN [.gone, .to 0] [some 1] trivial (by simp) (by simp) ⟨trivial, ⟨by simp, rfl⟩, trivial⟩ ⟨osrc_cells (b := 1) rfl rfl rfl ⟨.refl _, .refl _, trivial⟩, trivial⟩ ⟨.refl _, .refl _, trivial⟩) rfl (.inl ⟨by decide, rfl, rfl⟩))
     ·
      simp [ee] at c1
   have k1 : iLt K 0 = false := by simp only [ee]; simpa using h1
   rw [if_neg h1, if_neg (by decide)] at hE
   cases bn with
   | false =>
    rw [if_pos (by simp)] at hE
    subst hE
    refine rcall_body (fn := Tryd.f45) (n := 55) (ac := Trydc45) (rvs := [.cell 4 2 true, .t 5]) rfl Trydp45 rfl rfl rfl ?_
    refine goA 60 ?_
    refine oPA pcol ?_
    refine goB hX 0 (by conv => lhs; cbv; try simp only [kA, kAB, kc1, kc2, k1, k2, n0]; cbv; try simp only [kA, kAB, kc1, kc2, k1, k2, n0]; cbv; try simp only [kA, kAB, kc1, kc2, k1, k2, n0]; cbv; try simp only [kA, kAB, kc1, kc2, k1, k2, n0]; cbv) ?_
    refine goA 60 ?_
    refine on_lend rfl rfl pk rfl ⟨[.gone, .gone], ⟨trivial, trivial, trivial⟩, ⟨.of (by simp only [kAB, kc1]; rfl), trivial⟩⟩ ?_
    refine goB hX 0 (by conv => lhs; cbv; try simp only [kA, kAB, kc1, kc2, k1, k2, n0]; cbv; try simp only [kA, kAB, kc1, kc2, k1, k2, n0]; cbv; try simp only [kA, kAB, kc1, kc2, k1, k2, n0]; cbv; try simp only [kA, kAB, kc1, kc2, k1, k2, n0]; cbv) ?_
    refine on_cond rfl (fun c1 => ?_) (fun c1 => ?_)
    ·
     simp [ee] at c1
    ·
     simp [ee] at c1
     refine goB hX 0 (by conv => lhs; cbv; try simp only [kA, kAB, kc1, kc2, k1, k2, n0]; cbv; try simp only [kA, kAB, kc1, kc2, k1, k2, n0]; cbv; try simp only [kA, kAB, kc1, kc2, k1, k2, n0]; cbv; try simp only [kA, kAB, kc1, kc2, k1, k2, n0]; cbv) ?_
     refine on_cond rfl (fun c2 => ?_) (fun c2 => ?_)
     ·
      simp [ee] at c2
     ·
      simp [ee] at c2
      refine goA 60 ?_
      refine on_lend rfl rfl pn rfl ⟨[.gone, .gone], ⟨trivial, trivial, trivial⟩, ⟨.of (by simp only [kc2]; rfl), trivial⟩⟩ ?_
      refine goB hX 0 (by conv => lhs; cbv; try simp only [kA, kAB, kc1, kc2, k1, k2, n0]; cbv; try simp only [kA, kAB, kc1, kc2, k1, k2, n0]; cbv; try simp only [kA, kAB, kc1, kc2, k1, k2, n0]; cbv; try simp only [kA, kAB, kc1, kc2, k1, k2, n0]; cbv) ?_
      refine on_cond rfl (fun c3 => ?_) (fun c3 => ?_)
      ·
       simp [ee] at c3
       refine goA 60 ?_
       (exact o_ret (F2 := [(4, .ptr 0 0), (5, int _)]) (H2 := [.cells [str qn, .val (.slice none 0 0)]]) (ent_subN [.gone, .to 0] [some 1] trivial (by simp) (by simp) ⟨trivial, ⟨by simp, rfl⟩, trivial⟩ ⟨osrc_cells (b := 1) rfl rfl rfl ⟨.refl _, .refl _, trivial⟩, trivial⟩ ⟨.refl _, .refl _, trivial⟩) rfl (.inl ⟨by decide, rfl, rfl⟩))
      ·
       simp [ee] at c3
   | true =>
   cases bt with
   | true =>
    rw [if_pos (by decide)] at hE
    subst hE
    refine rcall_body (fn := Tryd.f45) (n := 55) (ac := Trydc45) (rvs := [.cell 4 2 true, .t 5]) rfl Trydp45 rfl rfl rfl ?_
    refine goA 60 ?_
    refine oPA pcol ?_
    refine goB hX 0 (by conv => lhs; cbv; try simp only [kA, kAB, kc1, kc2, k1, k2, n1, kt]; cbv; try simp only [kA, kAB, kc1, kc2, k1, k2, n1, kt]; cbv; try simp only [kA, kAB, kc1, kc2, k1, k2, n1, kt]; cbv; try simp only [kA, kAB, kc1, kc2, k1, k2, n1, kt]; cbv) ?_
    refine goA 60 ?_
    refine on_lend rfl rfl pk rfl ⟨[.gone, .gone], ⟨trivial, trivial, trivial⟩, ⟨.of (by simp only [kAB, kc1]; rfl), trivial⟩⟩ ?_
    refine goB hX 0 (by conv => lhs; cbv; try simp only [kA, kAB, kc1, kc2, k1, k2, n1, kt]; cbv; try simp only [kA, kAB, kc1, kc2, k1, k2, n1, kt]; cbv; try simp only [kA, kAB, kc1, kc2, k1, k2, n1, kt]; cbv; try simp only [kA, kAB, kc1, kc2, k1, k2, n1, kt]; cbv) ?_
    refine on_cond rfl (fun c1 => ?_) (fun c1 => ?_)
    ·
     simp [ee] at c1
    ·
     simp [ee] at c1
     refine goB hX 0 (by conv => lhs; cbv; try simp only [kA, kAB, kc1, kc2, k1, k2, n1, kt]; cbv; try simp only [kA, kAB, kc1, kc2, k1, k2, n1, kt]; cbv; try simp only [kA, kAB, kc1, kc2, k1, k2, n1, kt]; cbv; try simp only [kA, kAB, kc1, kc2, k1, k2, n1, kt]; cbv) ?_
     refine on_cond rfl (fun c2 => ?_) (fun c2 => ?_)
     ·
      simp [ee] at c2
     ·
      simp [ee] at c2
      refine goA 60 ?_
      refine on_lend rfl rfl pn rfl ⟨[.gone, .gone], ⟨trivial, trivial, trivial⟩, ⟨.of (by simp only [kc2]; rfl), trivial⟩⟩ ?_
      refine goB hX 0 (by conv => lhs; cbv; try simp only [kA, kAB, kc1, kc2, k1, k2, n1, kt]; cbv; try simp only [kA, kAB, kc1, kc2, k1, k2, n1, kt]; cbv; try simp only [kA, kAB, kc1, kc2, k1, k2, n1, kt]; cbv; try simp only [kA, kAB, kc1, kc2, k1, k2, n1, kt]; cbv) ?_
      refine on_cond rfl (fun c3 => ?_) (fun c3 => ?_)
      ·
       simp [ee] at c3
       refine goA 60 ?_
       (exact o_ret (F2 := [(4, .ptr 0 0), (5, int _)]) (H2 := [.cells [str qn, .val (.slice none 0 0)]]) (ent_subN [.gone, .to 0] [some 1] trivial (by simp) (by simp) ⟨trivial, ⟨by simp, rfl⟩, trivial⟩ ⟨osrc_cells (b := 1) rfl rfl rfl ⟨.refl _, .refl _, trivial⟩, trivial⟩ ⟨.refl _, .refl _, trivial⟩) rfl (.inl ⟨by decide, rfl, rfl⟩))
      ·
       simp [ee] at c3
   | false =>
   rw [if_neg (by decide)] at hE
   by_cases h3 : 0 ≤ P
   · have k3 : iLe 0 P = true := by simp only [ee]; simpa using h3
     rw [if_pos h3] at hE
     subst hE
     refine rcall_body (fn := Tryd.f45) (n := 55) (ac := Trydc45) (rvs := [.cell 4 2 true, .t 5]) rfl Trydp45 rfl rfl rfl ?_
     refine goA 60 ?_
     refine oPA pcol ?_
     refine goB hX 0 (by conv => lhs; cbv; try simp only [kA, kAB, kc1, kc2, k1, k2, n1, kt, k3]; cbv; try simp only [kA, kAB, kc1, kc2, k1, k2, n1, kt, k3]; cbv; try simp only [kA, kAB, kc1, kc2, k1, k2, n1, kt, k3]; cbv; try simp only [kA, kAB, kc1, kc2, k1, k2, n1, kt, k3]; cbv) ?_
     refine goA 60 ?_
     refine on_lend rfl rfl pk rfl ⟨[.gone, .gone], ⟨trivial, trivial, trivial⟩, ⟨.of (by simp only [kAB, kc1]; rfl), trivial⟩⟩ ?_
     refine goB hX 0 (by conv => lhs; cbv; try simp only [kA, kAB, kc1, kc2, k1, k2, n1, kt, k3]; cbv; try simp only [kA, kAB, kc1, kc2, k1, k2, n1, kt, k3]; cbv; try simp only [kA, kAB, kc1, kc2, k1, k2, n1, kt, k3]; cbv; try simp only [kA, kAB, kc1, kc2, k1, k2, n1, kt, k3]; cbv) ?_
     refine on_cond rfl (fun c1 => ?_) (fun c1 => ?_)
     ·
      simp [ee] at c1
     ·
      simp [ee] at c1
      refine goB hX 0 (by conv => lhs; cbv; try simp only [kA, kAB, kc1, kc2, k1, k2, n1, kt, k3]; cbv; try simp only [kA, kAB, kc1, kc2, k1, k2, n1, kt, k3]; cbv; try simp only [kA, kAB, kc1, kc2, k1, k2, n1, kt, k3]; cbv; try simp only [kA, kAB, kc1, kc2, k1, k2, n1, kt, k3]; cbv) ?_
      refine on_cond rfl (fun c2 => ?_) (fun c2 => ?_)
      ·
       simp [ee] at c2
      ·
       simp [ee] at c2
       refine goA 60 ?_
       refine on_lend rfl rfl pn rfl ⟨[.gone, .gone], ⟨trivial, trivial, trivial⟩, ⟨.of (by simp only [kc2]; rfl), trivial⟩⟩ ?_
       refine goB hX 0 (by conv => lhs; cbv; try simp only [kA, kAB, kc1, kc2, k1, k2, n1, kt, k3]; cbv; try simp only [kA, kAB, kc1, kc2, k1, k2, n1, kt, k3]; cbv; try simp only [kA, kAB, kc1, kc2, k1, k2, n1, kt, k3]; cbv; try simp only [kA, kAB, kc1, kc2, k1, k2, n1, kt, k3]; cbv) ?_
       refine on_cond rfl (fun c3 => ?_) (fun c3 => ?_)
       ·
        simp [ee] at c3
       ·
        simp [ee] at c3
        refine goA 60 ?_
        refine on_lend rfl rfl pp rfl ⟨[.gone, .gone], ⟨trivial, trivial, trivial⟩, ⟨.agg' ⟨.refl _, .nilI _, trivial⟩, .refl _, trivial⟩⟩ ?_
        refine goB hX 0 (by conv => lhs; cbv; try simp only [kA, kAB, kc1, kc2, k1, k2, n1, kt, k3]; cbv; try simp only [kA, kAB, kc1, kc2, k1, k2, n1, kt, k3]; cbv; try simp only [kA, kAB, kc1, kc2, k1, k2, n1, kt, k3]; cbv; try simp only [kA, kAB, kc1, kc2, k1, k2, n1, kt, k3]; cbv) ?_
        refine goA 60 ?_
        (exact o_ret (F2 := [(4, .ptr 0 0), (5, int _)]) (H2 := [.cells [str qn, .val (.slice none 0 0)]]) (ent_subN [.gone, .to 0] [some 1] trivial (by simp) (by simp) ⟨trivial, ⟨by simp, rfl⟩, trivial⟩ ⟨osrc_cells (b := 1) rfl rfl rfl ⟨.refl _, .refl _, trivial⟩, trivial⟩ ⟨.refl _, .refl _, trivial⟩) rfl (.inl ⟨by decide, rfl, rfl⟩))
   have k3 : iLe 0 P = false := by simp only [ee]; simpa using h3
   rw [if_neg h3] at hE
   subst hE
   have kcS : AV.closedL [AV.agg [str sl, int K]] = true := by simp [AV.closedL, closed_agg, closed_v]
   have ke1 : lenN (partA [AV.agg [str sl, int K]] 0 1) = 1 := by simp only [ee]; rfl
   have ke2 : partA [AV.agg [str sl, int K]] 0 1 = [.agg [str sl, int K]] := by simp only [ee]; rfl
   refine rcall_body (fn := Tryd.f45) (n := 55) (ac := Trydc45) (rvs := [.cell 4 2 true, .t 5]) rfl Trydp45 rfl rfl rfl ?_
   refine goA 60 ?_
   refine oPA pcol ?_
   refine goB hX 0 (by conv => lhs; cbv; try simp only [kA, kAB, kc1, kc2, k1, k2, n1, kt, k3]; cbv; try simp only [kA, kAB, kc1, kc2, k1, k2, n1, kt, k3]; cbv; try simp only [kA, kAB, kc1, kc2, k1, k2, n1, kt, k3]; cbv; try simp only [kA, kAB, kc1, kc2, k1, k2, n1, kt, k3]; cbv) ?_
   refine goA 60 ?_
   refine on_lend rfl rfl pk rfl ⟨[.gone, .gone], ⟨trivial, trivial, trivial⟩, ⟨.of (by simp only [kAB, kc1]; rfl), trivial⟩⟩ ?_
   refine goB hX 0 (by conv => lhs; cbv; try simp only [kA, kAB, kc1, kc2, k1, k2, n1, kt, k3]; cbv; try simp only [kA, kAB, kc1, kc2, k1, k2, n1, kt, k3]; cbv; try simp only [kA, kAB, kc1, kc2, k1, k2, n1, kt, k3]; cbv; try simp only [kA, kAB, kc1, kc2, k1, k2, n1, kt, k3]; cbv) ?_
   refine on_cond rfl (fun c1 => ?_) (fun c1 => ?_)
   ·
    simp [ee] at c1
   ·
    simp [ee] at c1
    refine goB hX 0 (by conv => lhs; cbv; try simp only [kA, kAB, kc1, kc2, k1, k2, n1, kt, k3]; cbv; try simp only [kA, kAB, kc1, kc2, k1, k2, n1, kt, k3]; cbv; try simp only [kA, kAB, kc1, kc2, k1, k2, n1, kt, k3]; cbv; try simp only [kA, kAB, kc1, kc2, k1, k2, n1, kt, k3]; cbv) ?_
    refine on_cond rfl (fun c2 => ?_) (fun c2 => ?_)
    ·
     simp [ee] at c2
    ·
     simp [ee] at c2
     refine goA 60 ?_
     refine on_lend rfl rfl pn rfl ⟨[.gone, .gone], ⟨trivial, trivial, trivial⟩, ⟨.of (by simp only [kc2]; rfl), trivial⟩⟩ ?_
     refine goB hX 0 (by conv => lhs; cbv; try simp only [kA, kAB, kc1, kc2, k1, k2, n1, kt, k3]; cbv; try simp only [kA, kAB, kc1, kc2, k1, k2, n1, kt, k3]; cbv; try simp only [kA, kAB, kc1, kc2, k1, k2, n1, kt, k3]; cbv; try simp only [kA, kAB, kc1, kc2, k1, k2, n1, kt, k3]; cbv) ?_
     refine on_cond rfl (fun c3 => ?_) (fun c3 => ?_)
     ·
      simp [ee] at c3
     ·
      simp [ee] at c3
      refine goA 60 ?_
      refine on_lend rfl rfl pp rfl ⟨[.gone, .gone], ⟨trivial, trivial, trivial⟩, ⟨.agg' ⟨.refl _, .nilI _, trivial⟩, .refl _, trivial⟩⟩ ?_
      refine goB hX 0 (by conv => lhs; cbv; try simp only [kA, kAB, kc1, kc2, k1, k2, n1, kt, k3]; cbv; try simp only [kA, kAB, kc1, kc2, k1, k2, n1, kt, k3]; cbv; try simp only [kA, kAB, kc1, kc2, k1, k2, n1, kt, k3]; cbv; try simp only [kA, kAB, kc1, kc2, k1, k2, n1, kt, k3]; cbv) ?_
      refine goA 60 ?_
      refine tr_drawB rfl (by conv => lhs; cbv) rfl ?_
      refine tgB hX (by conv => lhs; cbv; try simp only [kAB, kc1]; cbv; try simp only [kAB, kc1]; cbv; try simp only [kAB, kc1]; cbv; try simp only [kAB, kc1]; cbv) ?_
      refine oPT pk ?_
      refine tgA ?_
      refine tr_nil ⟨rfl, ?_, ?_⟩
      · simp only [LooksL, lookAll, List.cons_append, List.nil_append, List.append_nil]; and_intros <;> first | trivial | (intro hp; first | rfl | exact absurd (show false = true from hp) Bool.false_ne_true)
      refine goA 60 ?_
      (rw [ke1, ke2]; exact o_ret (F2 := [(4, .ptr 1 0), (5, int 0)]) (H2 := [.arr 2 [.agg [str sl, int K]], .cells [str qn, .sl 0 2 0 1]]) (ent_subN [.gone, .to 1, .gone, .to 0] [some 3, some 1] trivial (by simp) (by simp) ⟨trivial, ⟨by simp, rfl⟩, trivial, ⟨by simp, rfl⟩, trivial⟩ ⟨osrc_arr (b := 3) rfl rfl rfl rfl kcS, osrc_cells (b := 1) rfl rfl rfl ⟨.refl _, .refl _, trivial⟩, trivial⟩ ⟨.refl _, .refl _, trivial⟩) rfl (.inr ⟨rfl, .inl ⟨rfl, rfl, rfl⟩⟩))
 · have hfe := mapE_len Fld.enc fs
   generalize mapE Fld.enc fs = fe at *
   obtain ⟨m, hm⟩ : ∃ m, m = fs.length := ⟨_, rfl⟩
   rw [← hm] at hE hl hfe ⊢
   by_cases h1 : K < 0
   · have k1 : iLt K 0 = true := by simp only [ee]; simpa using h1
     rw [if_pos h1] at hE
     subst hE
     refine rcall_body (fn := Tryd.f45) (n := 55) (ac := Trydc45) (rvs := [.cell 4 2 true, .t 5]) rfl Trydp45 rfl rfl rfl ?_
     refine goA 60 ?_
     refine oPA pcol ?_
     refine goB hX 0 (by conv => lhs; cbv; try simp only [kA, kAB, kc1, k1]; cbv; try simp only [kA, kAB, kc1, k1]; cbv; try simp only [kA, kAB, kc1, k1]; cbv; try simp only [kA, kAB, kc1, k1]; cbv) ?_
     refine goA 60 ?_
     refine on_lend rfl rfl pk rfl ⟨[.gone, .gone, .gone], ⟨trivial, trivial, trivial, trivial⟩, ⟨.of (by simp only [kAB, kc1]; rfl), trivial⟩⟩ ?_
     refine goB hX 0 (by conv => lhs; cbv; try simp only [kA, kAB, kc1, k1]; cbv; try simp only [kA, kAB, kc1, k1]; cbv; try simp only [kA, kAB, kc1, k1]; cbv; try simp only [kA, kAB, kc1, k1]; cbv) ?_
     refine on_cond rfl (fun c1 => ?_) (fun c1 => ?_)
     ·
      simp [ee] at c1
      refine goA 60 ?_
      (exact o_ret (F2 := [(4, .ptr 1 0), (5, int _)]) (H2 := [.arr 2 fe, .cells [str qn, .sl 0 2 0 m]]) (ent_subN [.to 0, .gone, .to 1] [some 0, some 2] ⟨rfl, trivial⟩ (by simp) (by simp) ⟨⟨by simp, rfl⟩, trivial, ⟨by simp, rfl⟩, trivial⟩ ⟨osrc_arr (b := 0) rfl rfl rfl rfl kcL, osrc_cells (b := 2) rfl rfl rfl ⟨.refl _, .refl _, trivial⟩, trivial⟩ ⟨.refl _, .refl _, trivial⟩) rfl (.inl ⟨by decide, rfl, rfl⟩))
     ·
      simp [ee] at c1
   have k1 : iLt K 0 = false := by simp only [ee]; simpa using h1
   rw [if_neg h1] at hE
   by_cases h2 : m = 8
   · have k2 : iLe 8 (iOf m) = true := by simp only [ee]; simp; omega
     rw [if_pos h2] at hE
     subst hE
     refine rcall_body (fn := Tryd.f45) (n := 55) (ac := Trydc45) (rvs := [.cell 4 2 true, .t 5]) rfl Trydp45 rfl rfl rfl ?_
     refine goA 60 ?_
     refine oPA pcol ?_
     refine goB hX 0 (by conv => lhs; cbv; try simp only [kA, kAB, kc1, k1, k2]; cbv; try simp only [kA, kAB, kc1, k1, k2]; cbv; try simp only [kA, kAB, kc1, k1, k2]; cbv; try simp only [kA, kAB, kc1, k1, k2]; cbv) ?_
     refine goA 60 ?_
     refine on_lend rfl rfl pk rfl ⟨[.gone, .gone, .gone], ⟨trivial, trivial, trivial, trivial⟩, ⟨.of (by simp only [kAB, kc1]; rfl), trivial⟩⟩ ?_
     refine goB hX 0 (by conv => lhs; cbv; try simp only [kA, kAB, kc1, k1, k2]; cbv; try simp only [kA, kAB, kc1, k1, k2]; cbv; try simp only [kA, kAB, kc1, k1, k2]; cbv; try simp only [kA, kAB, kc1, k1, k2]; cbv) ?_
     refine on_cond rfl (fun c1 => ?_) (fun c1 => ?_)
     ·
      simp [ee] at c1
     ·
      simp [ee] at c1
      refine goB hX 0 (by conv => lhs; cbv; try simp only [kA, kAB, kc1, k1, k2]; cbv; try simp only [kA, kAB, kc1, k1, k2]; cbv; try simp only [kA, kAB, kc1, k1, k2]; cbv; try simp only [kA, kAB, kc1, k1, k2]; cbv) ?_
      refine goA 60 ?_
      (exact o_ret (F2 := [(4, .ptr 1 0), (5, int _)]) (H2 := [.arr 2 fe, .cells [str qn, .sl 0 2 0 m]]) (ent_subN [.to 0, .gone, .to 1] [some 0, some 2] ⟨rfl, trivial⟩ (by simp) (by simp) ⟨⟨by simp, rfl⟩, trivial, ⟨by simp, rfl⟩, trivial⟩ ⟨osrc_arr (b := 0) rfl rfl rfl rfl kcL, osrc_cells (b := 2) rfl rfl rfl ⟨.refl _, .refl _, trivial⟩, trivial⟩ ⟨.refl _, .refl _, trivial⟩) rfl (.inl ⟨by decide, rfl, rfl⟩))
   have k2 : iLe 8 (iOf m) = false := by simp only [ee]; simp; omega
   rw [if_neg h2] at hE
   cases bn with
   | false =>
    rw [if_pos (by simp)] at hE
    subst hE
    refine rcall_body (fn := Tryd.f45) (n := 55) (ac := Trydc45) (rvs := [.cell 4 2 true, .t 5]) rfl Trydp45 rfl rfl rfl ?_
    refine goA 60 ?_
    refine oPA pcol ?_
    refine goB hX 0 (by conv => lhs; cbv; try simp only [kA, kAB, kc1, kc2, k1, k2, n0]; cbv; try simp only [kA, kAB, kc1, kc2, k1, k2, n0]; cbv; try simp only [kA, kAB, kc1, kc2, k1, k2, n0]; cbv; try simp only [kA, kAB, kc1, kc2, k1, k2, n0]; cbv) ?_
    refine goA 60 ?_
    refine on_lend rfl rfl pk rfl ⟨[.gone, .gone, .gone], ⟨trivial, trivial, trivial, trivial⟩, ⟨.of (by simp only [kAB, kc1]; rfl), trivial⟩⟩ ?_
    refine goB hX 0 (by conv => lhs; cbv; try simp only [kA, kAB, kc1, kc2, k1, k2, n0]; cbv; try simp only [kA, kAB, kc1, kc2, k1, k2, n0]; cbv; try simp only [kA, kAB, kc1, kc2, k1, k2, n0]; cbv; try simp only [kA, kAB, kc1, kc2, k1, k2, n0]; cbv) ?_
    refine on_cond rfl (fun c1 => ?_) (fun c1 => ?_)
    ·
     simp [ee] at c1
    ·
     simp [ee] at c1
     refine goB hX 0 (by conv => lhs; cbv; try simp only [kA, kAB, kc1, kc2, k1, k2, n0]; cbv; try simp only [kA, kAB, kc1, kc2, k1, k2, n0]; cbv; try simp only [kA, kAB, kc1, kc2, k1, k2, n0]; cbv; try simp only [kA, kAB, kc1, kc2, k1, k2, n0]; cbv) ?_
     refine goA 60 ?_
     refine on_lend rfl rfl pn rfl ⟨[.gone, .gone, .gone], ⟨trivial, trivial, trivial, trivial⟩, ⟨.of (by simp only [kc2]; rfl), trivial⟩⟩ ?_
     refine goB hX 0 (by conv => lhs; cbv; try simp only [kA, kAB, kc1, kc2, k1, k2, n0]; cbv; try simp only [kA, kAB, kc1, kc2, k1, k2, n0]; cbv; try simp only [kA, kAB, kc1, kc2, k1, k2, n0]; cbv; try simp only [kA, kAB, kc1, kc2, k1, k2, n0]; cbv) ?_
     refine on_cond rfl (fun c2 => ?_) (fun c2 => ?_)
     ·
      simp [ee] at c2
      refine goA 60 ?_
      (exact o_ret (F2 := [(4, .ptr 1 0), (5, int _)]) (H2 := [.arr 2 fe, .cells [str qn, .sl 0 2 0 m]]) (ent_subN [.to 0, .gone, .to 1] [some 0, some 2] ⟨rfl, trivial⟩ (by simp) (by simp) ⟨⟨by simp, rfl⟩, trivial, ⟨by simp, rfl⟩, trivial⟩ ⟨osrc_arr (b := 0) rfl rfl rfl rfl kcL, osrc_cells (b := 2) rfl rfl rfl ⟨.refl _, .refl _, trivial⟩, trivial⟩ ⟨.refl _, .refl _, trivial⟩) rfl (.inl ⟨by decide, rfl, rfl⟩))
     ·
      simp [ee] at c2
   | true =>
   cases bt with
   | true =>
    rw [if_pos (by decide)] at hE
    subst hE
    refine rcall_body (fn := Tryd.f45) (n := 55) (ac := Trydc45) (rvs := [.cell 4 2 true, .t 5]) rfl Trydp45 rfl rfl rfl ?_
    refine goA 60 ?_
    refine oPA pcol ?_
    refine goB hX 0 (by conv => lhs; cbv; try simp only [kA, kAB, kc1, kc2, k1, k2, n1, kt]; cbv; try simp only [kA, kAB, kc1, kc2, k1, k2, n1, kt]; cbv; try simp only [kA, kAB, kc1, kc2, k1, k2, n1, kt]; cbv; try simp only [kA, kAB, kc1, kc2, k1, k2, n1, kt]; cbv) ?_
    refine goA 60 ?_
    refine on_lend rfl rfl pk rfl ⟨[.gone, .gone, .gone], ⟨trivial, trivial, trivial, trivial⟩, ⟨.of (by simp only [kAB, kc1]; rfl), trivial⟩⟩ ?_
    refine goB hX 0 (by conv => lhs; cbv; try simp only [kA, kAB, kc1, kc2, k1, k2, n1, kt]; cbv; try simp only [kA, kAB, kc1, kc2, k1, k2, n1, kt]; cbv; try simp only [kA, kAB, kc1, kc2, k1, k2, n1, kt]; cbv; try simp only [kA, kAB, kc1, kc2, k1, k2, n1, kt]; cbv) ?_
    refine on_cond rfl (fun c1 => ?_) (fun c1 => ?_)
    ·
     simp [ee] at c1
    ·
     simp [ee] at c1
     refine goB hX 0 (by conv => lhs; cbv; try simp only [kA, kAB, kc1, kc2, k1, k2, n1, kt]; cbv; try simp only [kA, kAB, kc1, kc2, k1, k2, n1, kt]; cbv; try simp only [kA, kAB, kc1, kc2, k1, k2, n1, kt]; cbv; try simp only [kA, kAB, kc1, kc2, k1, k2, n1, kt]; cbv) ?_
     refine goA 60 ?_
     refine on_lend rfl rfl pn rfl ⟨[.gone, .gone, .gone], ⟨trivial, trivial, trivial, trivial⟩, ⟨.of (by simp only [kc2]; rfl), trivial⟩⟩ ?_
     refine goB hX 0 (by conv => lhs; cbv; try simp only [kA, kAB, kc1, kc2, k1, k2, n1, kt]; cbv; try simp only [kA, kAB, kc1, kc2, k1, k2, n1, kt]; cbv; try simp only [kA, kAB, kc1, kc2, k1, k2, n1, kt]; cbv; try simp only [kA, kAB, kc1, kc2, k1, k2, n1, kt]; cbv) ?_
     refine on_cond rfl (fun c2 => ?_) (fun c2 => ?_)
     ·
      simp [ee] at c2
      refine goA 60 ?_
      (exact o_ret (F2 := [(4, .ptr 1 0), (5, int _)]) (H2 := [.arr 2 fe, .cells [str qn, .sl 0 2 0 m]]) (ent_subN [.to 0, .gone, .to 1] [some 0, some 2] ⟨rfl, trivial⟩ (by simp) (by simp) ⟨⟨by simp, rfl⟩, trivial, ⟨by simp, rfl⟩, trivial⟩ ⟨osrc_arr (b := 0) rfl rfl rfl rfl kcL, osrc_cells (b := 2) rfl rfl rfl ⟨.refl _, .refl _, trivial⟩, trivial⟩ ⟨.refl _, .refl _, trivial⟩) rfl (.inl ⟨by decide, rfl, rfl⟩))
     ·
      simp [ee] at c2
   | false =>
   rw [if_neg (by decide)] at hE
   by_cases h3 : 0 ≤ P
   · have k3 : iLe 0 P = true := by simp only [ee]; simpa using h3
     rw [if_pos h3] at hE
     subst hE
     refine rcall_body (fn := Tryd.f45) (n := 55) (ac := Trydc45) (rvs := [.cell 4 2 true, .t 5]) rfl Trydp45 rfl rfl rfl ?_
     refine goA 60 ?_
     refine oPA pcol ?_
     refine goB hX 0 (by conv => lhs; cbv; try simp only [kA, kAB, kc1, kc2, k1, k2, n1, kt, k3]; cbv; try simp only [kA, kAB, kc1, kc2, k1, k2, n1, kt, k3]; cbv; try simp only [kA, kAB, kc1, kc2, k1, k2, n1, kt, k3]; cbv; try simp only [kA, kAB, kc1, kc2, k1, k2, n1, kt, k3]; cbv) ?_
     refine goA 60 ?_
     refine on_lend rfl rfl pk rfl ⟨[.gone, .gone, .gone], ⟨trivial, trivial, trivial, trivial⟩, ⟨.of (by simp only [kAB, kc1]; rfl), trivial⟩⟩ ?_
     refine goB hX 0 (by conv => lhs; cbv; try simp only [kA, kAB, kc1, kc2, k1, k2, n1, kt, k3]; cbv; try simp only [kA, kAB, kc1, kc2, k1, k2, n1, kt, k3]; cbv; try simp only [kA, kAB, kc1, kc2, k1, k2, n1, kt, k3]; cbv; try simp only [kA, kAB, kc1, kc2, k1, k2, n1, kt, k3]; cbv) ?_
     refine on_cond rfl (fun c1 => ?_) (fun c1 => ?_)
     ·
      simp [ee] at c1
     ·
      simp [ee] at c1
      refine goB hX 0 (by conv => lhs; cbv; try simp only [kA, kAB, kc1, kc2, k1, k2, n1, kt, k3]; cbv; try simp only [kA, kAB, kc1, kc2, k1, k2, n1, kt, k3]; cbv; try simp only [kA, kAB, kc1, kc2, k1, k2, n1, kt, k3]; cbv; try simp only [kA, kAB, kc1, kc2, k1, k2, n1, kt, k3]; cbv) ?_
      refine goA 60 ?_
      refine on_lend rfl rfl pn rfl ⟨[.gone, .gone, .gone], ⟨trivial, trivial, trivial, trivial⟩, ⟨.of (by simp only [kc2]; rfl), trivial⟩⟩ ?_
      refine goB hX 0 (by conv => lhs; cbv; try simp only [kA, kAB, kc1, kc2, k1, k2, n1, kt, k3]; cbv; try simp only [kA, kAB, kc1, kc2, k1, k2, n1, kt, k3]; cbv; try simp only [kA, kAB, kc1, kc2, k1, k2, n1, kt, k3]; cbv; try simp only [kA, kAB, kc1, kc2, k1, k2, n1, kt, k3]; cbv) ?_
      refine on_cond rfl (fun c2 => ?_) (fun c2 => ?_)
      ·
       simp [ee] at c2
      ·
       simp [ee] at c2
       refine goA 60 ?_
       refine on_lend rfl rfl pp rfl ⟨[.isl 2 (fe), .gone, .gone], ⟨⟨_, rfl, (subL_closed _ kcL).symm⟩, trivial, trivial, trivial⟩, ⟨.agg' ⟨.refl _, .of (sub_whole rfl (by omega)), trivial⟩, .refl _, trivial⟩⟩ ?_
       refine goB hX 0 (by conv => lhs; cbv; try simp only [kA, kAB, kc1, kc2, k1, k2, n1, kt, k3]; cbv; try simp only [kA, kAB, kc1, kc2, k1, k2, n1, kt, k3]; cbv; try simp only [kA, kAB, kc1, kc2, k1, k2, n1, kt, k3]; cbv; try simp only [kA, kAB, kc1, kc2, k1, k2, n1, kt, k3]; cbv) ?_
       refine goA 60 ?_
       (exact o_ret (F2 := [(4, .ptr 1 0), (5, int _)]) (H2 := [.arr 2 fe, .cells [str qn, .sl 0 2 0 m]]) (ent_subN [.to 0, .gone, .to 1] [some 0, some 2] ⟨rfl, trivial⟩ (by simp) (by simp) ⟨⟨by simp, rfl⟩, trivial, ⟨by simp, rfl⟩, trivial⟩ ⟨osrc_arr (b := 0) rfl rfl rfl rfl kcL, osrc_cells (b := 2) rfl rfl rfl ⟨.refl _, .refl _, trivial⟩, trivial⟩ ⟨.refl _, .refl _, trivial⟩) rfl (.inl ⟨by decide, rfl, rfl⟩))
   have k3 : iLe 0 P = false := by simp only [ee]; simpa using h3
   rw [if_neg h3] at hE
   subst hE
   have kcS : AV.closedL [AV.agg [str sl, int K]] = true := by simp [AV.closedL, closed_agg, closed_v]
   have ke1 : addN m (lenN (partA [AV.agg [str sl, int K]] 0 1)) = m + 1 := by simp only [ee]; rfl
   have ke2 : catA (dropA fe 0) (partA [AV.agg [str sl, int K]] 0 1) = fe ++ [.agg [str sl, int K]] := by simp only [ee]; rfl
   have kz : AV.closedL (fe ++ [AV.agg [str sl, int K]]) = true := closedL_append kcL kcS
   refine rcall_body (fn := Tryd.f45) (n := 55) (ac := Trydc45) (rvs := [.cell 4 2 true, .t 5]) rfl Trydp45 rfl rfl rfl ?_
   refine goA 60 ?_
   refine oPA pcol ?_
   refine goB hX 0 (by conv => lhs; cbv; try simp only [kA, kAB, kc1, kc2, k1, k2, n1, kt, k3]; cbv; try simp only [kA, kAB, kc1, kc2, k1, k2, n1, kt, k3]; cbv; try simp only [kA, kAB, kc1, kc2, k1, k2, n1, kt, k3]; cbv; try simp only [kA, kAB, kc1, kc2, k1, k2, n1, kt, k3]; cbv) ?_
   refine goA 60 ?_
   refine on_lend rfl rfl pk rfl ⟨[.gone, .gone, .gone], ⟨trivial, trivial, trivial, trivial⟩, ⟨.of (by simp only [kAB, kc1]; rfl), trivial⟩⟩ ?_
   refine goB hX 0 (by conv => lhs; cbv; try simp only [kA, kAB, kc1, kc2, k1, k2, n1, kt, k3]; cbv; try simp only [kA, kAB, kc1, kc2, k1, k2, n1, kt, k3]; cbv; try simp only [kA, kAB, kc1, kc2, k1, k2, n1, kt, k3]; cbv; try simp only [kA, kAB, kc1, kc2, k1, k2, n1, kt, k3]; cbv) ?_
   refine on_cond rfl (fun c1 => ?_) (fun c1 => ?_)
   ·
    simp [ee] at c1
   ·
    simp [ee] at c1
    refine goB hX 0 (by conv => lhs; cbv; try simp only [kA, kAB, kc1, kc2, k1, k2, n1, kt, k3]; cbv; try simp only [kA, kAB, kc1, kc2, k1, k2, n1, kt, k3]; cbv; try simp only [kA, kAB, kc1, kc2, k1, k2, n1, kt, k3]; cbv; try simp only [kA, kAB, kc1, kc2, k1, k2, n1, kt, k3]; cbv) ?_
    refine goA 60 ?_
    refine on_lend rfl rfl pn rfl ⟨[.gone, .gone, .gone], ⟨trivial, trivial, trivial, trivial⟩, ⟨.of (by simp only [kc2]; rfl), trivial⟩⟩ ?_
    refine goB hX 0 (by conv => lhs; cbv; try simp only [kA, kAB, kc1, kc2, k1, k2, n1, kt, k3]; cbv; try simp only [kA, kAB, kc1, kc2, k1, k2, n1, kt, k3]; cbv; try simp only [kA, kAB, kc1, kc2, k1, k2, n1, kt, k3]; cbv; try simp only [kA, kAB, kc1, kc2, k1, k2, n1, kt, k3]; cbv) ?_
    refine on_cond rfl (fun c2 => ?_) (fun c2 => ?_)
    ·
     simp [ee] at c2
    ·
     simp [ee] at c2
     refine goA 60 ?_
     refine on_lend rfl rfl pp rfl ⟨[.isl 2 (fe), .gone, .gone], ⟨⟨_, rfl, (subL_closed _ kcL).symm⟩, trivial, trivial, trivial⟩, ⟨.agg' ⟨.refl _, .of (sub_whole rfl (by omega)), trivial⟩, .refl _, trivial⟩⟩ ?_
     refine goB hX 0 (by conv => lhs; cbv; try simp only [kA, kAB, kc1, kc2, k1, k2, n1, kt, k3]; cbv; try simp only [kA, kAB, kc1, kc2, k1, k2, n1, kt, k3]; cbv; try simp only [kA, kAB, kc1, kc2, k1, k2, n1, kt, k3]; cbv; try simp only [kA, kAB, kc1, kc2, k1, k2, n1, kt, k3]; cbv) ?_
     refine goA 60 ?_
     refine tr_drawB rfl (by conv => lhs; cbv) rfl ?_
     refine tgB hX (by conv => lhs; cbv; try simp only [kAB, kc1]; cbv; try simp only [kAB, kc1]; cbv; try simp only [kAB, kc1]; cbv; try simp only [kAB, kc1]; cbv) ?_
     refine oPT pk ?_
     refine tgA ?_
     refine tr_nil ⟨rfl, ?_, ?_⟩
     · simp only [LooksL, lookAll, List.cons_append, List.nil_append, List.append_nil]; and_intros <;> first | trivial | (intro hp; first | rfl | exact absurd (show false = true from hp) Bool.false_ne_true)
     refine goA 60 ?_
     (rw [ke1, ke2]; exact o_ret (F2 := [(4, .ptr 2 0), (5, int 0)]) (H2 := [.dead, .arr 2 (fe ++ [.agg [str sl, int K]]), .cells [str qn, .sl 1 2 0 (m + 1)]]) (ent_subN [.gone, .gone, .to 2, .gone, .to 1] [some 0, some 4, some 2] ⟨rfl, trivial⟩ (by simp) (by simp) ⟨trivial, trivial, ⟨by simp, rfl⟩, trivial, ⟨by simp, rfl⟩, trivial⟩ ⟨.dead, osrc_arr (b := 4) rfl rfl rfl rfl kz, osrc_cells (b := 2) rfl rfl rfl ⟨.refl _, .refl _, trivial⟩, trivial⟩ ⟨.refl _, .refl _, trivial⟩) rfl (.inr ⟨rfl, .inr ⟨hne, rfl, rfl⟩⟩))
def gV (fs : List Fld) : AV := match fs with
 | [] => .val (.slice none 0 0)
 | _ :: r => .sl 1 2 0 (r.length + 1)
theorem gV_nil : gV [] = .val (.slice none 0 0) := rfl
theorem gV_cons (f : Fld) (r : List Fld) : gV (f :: r) = .sl 1 2 0 (r.length + 1) := rfl
def PV (l : List Sch) (lv : AV) (o0 o1 : AObj) : Prop := (l = [] ∧ lv = .val (.slice none 0 0) ∧ o0 = .dead ∧ o1 = .dead) ∨ ∃ a q, l = a ++ [q] ∧ lv = .sl 0 2 0 (a.length + 1) ∧ o0 = .arr 2 (mapE Sch.enc a ++ [.agg [str (ba q.nm), gV q.fs]]) ∧ o1 = fA q.fs
theorem P_refParse (s : Bs) (hs : s.length < 4294967281) : PCall EK 18 [str (ba s)] (.tup [.isl 2 (mapE Sch.enc (prs s).1), int (prs s).2.1, int (prs s).2.2]) := by
 have hsz := ba_size s
 by_cases h16 : 65536 < s.length
 · have e : prs s = ([], 0, 13) := if_pos h16
   rw [e]
   dsimp only
   rw [mapE_eq, List.map_nil]
   generalize ba s = b at *
   refine wordsN ?_; unhygienic intros
   have k : iLt 65536 (sLen b) = true := by simp only [ee]; simp; omega
   refine fn_body (fn := Tryd.f18) (n := 71) (ac := Trydc18) (rvs := [.t 2, .t 3, .t 4]) rfl (by decide) Trydp18 rfl rfl rfl ?_
   refine goB hX 0 (by conv => lhs; cbv; try simp only [k]; cbv; try simp only [k]; cbv; try simp only [k]; cbv; try simp only [k]; cbv) ?_
   refine goA 60 ?_
   refine fn_ret rfl rfl ?_
   exact ⟨[], trivial, .tup' ⟨.nilI _, .refl _, .refl _, trivial⟩⟩
 have e : prs s = rdT (toks s 0 true) [] := by rw [prs, if_neg h16]
 rw [e]
 clear e
 obtain ⟨R, hR⟩ : ∃ R, R = rdT (toks s 0 true) [] := ⟨_, rfl⟩
 rw [← hR]
 have hget := fun d c r h => ba_get s d r c h
 have hcut := fun i j => ba_cut s i j
 have pend := fun d w r h1 h2 h3 h4 a0 h5 a1 h6 => (P_end s d w r h1 h2 h3 h4 a0 h5 a1 h6).toK
 generalize ba s = b at *
 refine wordsN ?_; unhygienic intros
 have k : iLt 65536 (sLen b) = false := by simp only [ee]; simp; omega
 have hn : sLen b = (s.length : Int) := by simp only [ee]; rw [hsz]
 have hat : ∀ d c r, s = d ++ c :: r → ∀ i : Int, i = d.length → sAt b i = ch c := fun d c r h i hi => by
  subst hi; simp only [ee, ch]; rw [Int.toNat_natCast, hget d c r h]
 have hct : ∀ x w y, s = x ++ (w ++ y) → ∀ i j : Int, i = x.length → j = (x.length + w.length : Nat) → sCut b i j = ba w := fun x w y h i j hi hj => by
  subst hi hj; simp only [ee]; rw [Int.toNat_natCast, Int.toNat_natCast, hcut, h]
  congr 1
  rw [← List.append_assoc, List.take_left' (by simp), List.drop_left' rfl]
 clear hget hcut
 refine fn_body (fn := Tryd.f18) (n := 71) (ac := Trydc18) (rvs := [.t 2, .t 3, .t 4]) rfl (by decide) Trydp18 rfl rfl rfl ?_
 refine goB hX 0 (by conv => lhs; cbv; try simp only [k]; cbv; try simp only [k]; cbv; try simp only [k]; cbv; try simp only [k]; cbv) ?_
 refine goA 60 ?_
 refine on_loopP (ι := Bs × Bs × Int × Bool × List Sch × AV × AObj × AObj) (fun p => ([(7, int p.2.2.1), (6, bool p.2.2.2.1), (5, p.2.2.2.2.2.1), (0, str b)], [p.2.2.2.2.2.2.1, p.2.2.2.2.2.2.2])) (fun p => s = p.1 ++ p.2.1 ∧ p.2.2.1 = p.1.length ∧ R = rdT (toks p.2.1 p.1.length p.2.2.2.1) p.2.2.2.2.1 ∧ chkAll p.2.2.2.2.1 = 0 ∧ (p.2.2.2.1 = false → p.2.2.2.2.1 ≠ []) ∧ PV p.2.2.2.2.1 p.2.2.2.2.2.1 p.2.2.2.2.2.2.1 p.2.2.2.2.2.2.2) (fun p => p.2.1.length) ([], s, 0, true, [], .val (.slice none 0 0), .dead, .dead) ⟨rfl, rfl, hR, rfl, (fun h => by cases h), .inl ⟨rfl, rfl, rfl, rfl⟩⟩ ?_ ?_
 · exact (ent_sub [] [none, none] trivial ⟨.dead, .dead, trivial⟩ ⟨.refl _, .refl _, .refl _, .refl _, trivial⟩)
 rintro ⟨x, y, i, f, l, lv, o0, o1⟩ ⟨g1, gi, gR, gc, gf, gP⟩
 dsimp only at g1 gi gR gc gf gP ⊢
 have L1 := congrArg List.length g1
 rw [List.length_append] at L1
 rcases toks_cases y with rfl | ⟨y, rfl⟩ | ⟨y, rfl⟩ | ⟨w, y, rfl, q0, q1, q2⟩
 · have hc : iLt i (sLen b) = false := by rw [hn]; simp only [ee]; simp at L1 ⊢; omega
   rw [toks_nil] at gR
   have gR2 : R = (l, 0, 0) := gR
   rw [gR2]
   dsimp only
   clear pend hat hct
   rcases gP with ⟨rfl, rfl, rfl, rfl⟩ | ⟨a, q, rfl, rfl, rfl, rfl⟩
   · rw [mapE_nil]
     refine goB hX 0 (by conv => lhs; cbv; try simp only [hc]; cbv; try simp only [hc]; cbv; try simp only [hc]; cbv; try simp only [hc]; cbv) ?_
     refine goA 60 ?_
     refine loopP_exit ?_
     refine goA 60 ?_
     refine fn_ret rfl rfl ?_
     exact ⟨[.gone, .gone], ⟨trivial, trivial, trivial⟩, .tup' ⟨.nilI _, .refl _, .refl _, trivial⟩⟩
   · have kes := Sch.closedL a
     have hse : mapE Sch.enc (a ++ [q]) = mapE Sch.enc a ++ [.agg [str (ba q.nm), .isl 2 (mapE Fld.enc q.fs)]] := by rw [mapE_snoc, Sch.enc_eq q]
     have kan := mapE_len Sch.enc a
     have kcz := Sch.closedL (a ++ [q])
     have hkl : (mapE Sch.enc (a ++ [q])).length = a.length + 1 := by rw [mapE_len]; simp
     have hc2 := Sch.cells2 (a ++ [q])
     have hc3 : ∀ v : AV, ∀ e ∈ mapE Sch.enc a ++ [.agg [str (ba q.nm), v]], e.cells.length = 2 := fun v e he => by
      rcases List.mem_append.1 he with he | he
      · exact Sch.cells2 a e he
      · simp at he; subst he; rfl
     rcases hfs : q.fs with _ | ⟨fd, fr⟩
     · rw [gV_nil, fA_nil]
       rw [hfs, mapE_nil] at hse
       obtain ⟨L8, hL8⟩ : ∃ L8, L8 = mapE Sch.enc a ++ [.agg [str (ba q.nm), .val (.slice none 0 0)]] := ⟨_, rfl⟩
       have hW : ∀ (M : Nat) (σ : Nat → Sub), WkL M (AV.subL σ L8) (mapE Sch.enc (a ++ [q])) := fun M σ => by
        rw [hL8, subL_append, subL_closed _ kes, hse]
        exact wkL_app (WkL.refl _ _) ⟨.agg' ⟨.refl _, .nilI 2, trivial⟩, trivial⟩
       have hc4 := hc3 (.val (.slice none 0 0))
       rw [← hL8] at hc4 ⊢
       generalize mapE Sch.enc (a ++ [q]) = el at *
       generalize a.length + 1 = n8 at *
       refine on_ent (F' := [(7, int i), (6, bool f), (5, .sl 0 2 0 n8), (0, str b)]) (H' := [.arr 2 el]) (ent_sub [.to 0] [some 0] ⟨⟨by simp, rfl⟩, trivial⟩ ⟨osrc_arrW (b := 0) rfl rfl rfl (hW _ _) hc4 hc2, trivial⟩ ⟨.refl _, .refl _, .refl _, .refl _, trivial⟩) ?_
       have kcI : (AV.isl 2 el).closed = true := by simp only [AV.closed]; exact kcz
       refine goB hX 0 (by conv => lhs; cbv; try simp only [hc]; cbv; try simp only [hc]; cbv; try simp only [hc]; cbv; try simp only [hc]; cbv) ?_
       refine goA 60 ?_
       refine loopP_exit ?_
       refine goA 60 ?_
       refine fn_ret rfl rfl ?_
       exact ⟨[.isl 2 (el)], ⟨⟨_, rfl, (subL_closed _ kcz).symm⟩, trivial⟩, .tup' ⟨.of (sub_whole rfl (by omega)), .refl _, .refl _, trivial⟩⟩
     · rw [gV_cons, fA_cons]
       rw [hfs] at hse
       have kfe := Fld.closedL (fd :: fr)
       have hfn : (mapE Fld.enc (fd :: fr)).length = fr.length + 1 := by rw [mapE_len]; rfl
       generalize mapE Fld.enc (fd :: fr) = fe at *
       generalize fr.length + 1 = m at *
       obtain ⟨L8, hL8⟩ : ∃ L8, L8 = mapE Sch.enc a ++ [.agg [str (ba q.nm), .sl 1 2 0 m]] := ⟨_, rfl⟩
       have hW : ∀ (M : Nat) (σ : Nat → Sub), σ 1 = .isl 2 fe → WkL M (AV.subL σ L8) (mapE Sch.enc (a ++ [q])) := fun M σ hs9 => by
        rw [hL8, subL_append, subL_closed _ kes, hse]
        refine wkL_app (WkL.refl _ _) ⟨.agg' ⟨.refl _, .of ?_, trivial⟩, trivial⟩
        exact sub_whole hs9 (by omega)
       have hc4 := hc3 (.sl 1 2 0 m)
       rw [← hL8] at hc4 ⊢
       generalize mapE Sch.enc (a ++ [q]) = el at *
       generalize a.length + 1 = n8 at *
       refine on_ent (F' := [(7, int i), (6, bool f), (5, .sl 0 2 0 n8), (0, str b)]) (H' := [.arr 2 el]) (ent_sub [.to 0, .isl 2 fe] [some 0] ⟨⟨by simp, rfl⟩, ⟨_, rfl, (subL_closed _ kfe).symm⟩, trivial⟩ ⟨osrc_arrW (b := 0) rfl rfl rfl (hW _ _ rfl) hc4 hc2, trivial⟩ ⟨.refl _, .refl _, .refl _, .refl _, trivial⟩) ?_
       have kcI : (AV.isl 2 el).closed = true := by simp only [AV.closed]; exact kcz
       refine goB hX 0 (by conv => lhs; cbv; try simp only [hc]; cbv; try simp only [hc]; cbv; try simp only [hc]; cbv; try simp only [hc]; cbv) ?_
       refine goA 60 ?_
       refine loopP_exit ?_
       refine goA 60 ?_
       refine fn_ret rfl rfl ?_
       exact ⟨[.isl 2 (el)], ⟨⟨_, rfl, (subL_closed _ kcz).symm⟩, trivial⟩, .tup' ⟨.of (sub_whole rfl (by omega)), .refl _, .refl _, trivial⟩⟩
 · have hc : iLt i (sLen b) = true := by rw [hn]; simp only [ee]; simp at L1 ⊢; omega
   have hb : i < sLen b := by rw [hn]; simp at L1; omega
   have hb0 : 0 ≤ i := by omega
   have ht := hat x 10 y g1 i gi
   have kk : iEq (ch 10) 10 = true := by simp only [ee]; rfl
   have hi2 : iAdd .i64 i 1 = ((x ++ [10]).length : Int) := by rw [List.length_append]; exact inc_w e_iAdd gi (by omega)
   rw [toks_nl] at gR
   clear pend hat hct
   refine goB hX 0 (by conv => lhs; cbv; try simp only [hc, ht, kk]; cbv; try simp only [hc, ht, kk]; cbv; try simp only [hc, ht, kk]; cbv; try simp only [hc, ht, kk]; cbv) ?_
   refine goB hX 1 (by conv => lhs; cbv; try simp only [hc, ht, kk]; cbv; try simp only [hc, ht, kk]; cbv; try simp only [hc, ht, kk]; cbv; try simp only [hc, ht, kk]; cbv) ?_
   refine goB hX 1 (by conv => lhs; cbv; try simp only [hc, ht, kk]; cbv; try simp only [hc, ht, kk]; cbv; try simp only [hc, ht, kk]; cbv; try simp only [hc, ht, kk]; cbv) ?_
   refine on_cond rfl (fun c1 => ?_) (fun c1 => ?_)
   ·
    simp [ee] at c1
    refine goA 60 ?_
    refine loopP_next (x ++ [10], y, iAdd .i64 i 1, true, l, lv, o0, o1) ⟨by simp [g1], hi2, by rw [gR]; simp, gc, (fun h => by cases h), gP⟩ (by simp) (ent_fw ⟨.refl _, .refl _, .refl _, .refl _, trivial⟩)
   ·
    simp [ee] at c1
 · have hc : iLt i (sLen b) = true := by rw [hn]; simp only [ee]; simp at L1 ⊢; omega
   have hb : i < sLen b := by rw [hn]; simp at L1; omega
   have hb0 : 0 ≤ i := by omega
   have ht := hat x 32 y g1 i gi
   have kk : iEq (ch 32) 10 = false := by simp only [ee]; rfl
   have kk2 : iEq (ch 32) 32 = true := by simp only [ee]; rfl
   have hi2 : iAdd .i64 i 1 = ((x ++ [32]).length : Int) := by rw [List.length_append]; exact inc_w e_iAdd gi (by omega)
   rw [toks_sp] at gR
   clear pend hat hct
   refine goB hX 0 (by conv => lhs; cbv; try simp only [hc, ht, kk, kk2]; cbv; try simp only [hc, ht, kk, kk2]; cbv; try simp only [hc, ht, kk, kk2]; cbv; try simp only [hc, ht, kk, kk2]; cbv) ?_
   refine goB hX 1 (by conv => lhs; cbv; try simp only [hc, ht, kk, kk2]; cbv; try simp only [hc, ht, kk, kk2]; cbv; try simp only [hc, ht, kk, kk2]; cbv; try simp only [hc, ht, kk, kk2]; cbv) ?_
   refine goB hX 1 (by conv => lhs; cbv; try simp only [hc, ht, kk, kk2]; cbv; try simp only [hc, ht, kk, kk2]; cbv; try simp only [hc, ht, kk, kk2]; cbv; try simp only [hc, ht, kk, kk2]; cbv) ?_
   refine on_cond rfl (fun c1 => ?_) (fun c1 => ?_)
   ·
    simp [ee] at c1
    refine goA 60 ?_
    refine loopP_next (x ++ [32], y, iAdd .i64 i 1, f, l, lv, o0, o1) ⟨by simp [g1], hi2, by rw [gR]; simp, gc, gf, gP⟩ (by simp) (ent_fw ⟨.refl _, .refl _, .refl _, .refl _, trivial⟩)
   ·
    simp [ee] at c1
 · have hwp := List.length_pos_iff.2 q0
   have hc : iLt i (sLen b) = true := by rw [hn]; simp only [ee]; simp at L1 ⊢; omega
   have hb : i < sLen b := by rw [hn]; simp at L1; omega
   have hb0 : 0 ≤ i := by omega
   obtain ⟨j, hj⟩ : ∃ j : Int, j = (x.length + w.length : Nat) := ⟨_, rfl⟩
   have pe := pend x w y g1 q1 q2 (by omega) i gi j hj
   have hcu := hct x w y g1 i j gi hj
   rw [toks_word x.length f q0 q1 q2, rdT] at gR
   dsimp only at gR
   obtain ⟨c0, w0, hw0⟩ : ∃ c0 w0, w = c0 :: w0 := by
    cases w with
    | nil => exact absurd rfl q0
    | cons c w => exact ⟨c, w, rfl⟩
   have ht := hat x c0 (w0 ++ y) (by rw [g1, hw0]; simp) i gi
   have k1 : iEq (ch c0) 10 = false := by simp only [ee]; exact beq_eq_false_iff_ne.2 (nsp_ne (q1 c0 (by simp [hw0]))).2
   have k2 : iEq (ch c0) 32 = false := by simp only [ee]; exact beq_eq_false_iff_ne.2 (nsp_ne (q1 c0 (by simp [hw0]))).1
   have hjx : j = ((x ++ w).length : Int) := by rw [hj]; simp
   have hwl : w.length < 4294967281 := by simp at L1; omega
   have hij : i ≤ j := by omega
   have hjs : j ≤ sLen b := by rw [hn, hj]; simp at L1; omega
   have hjz : j ≤ (b.size : Int) := by simp only [ee] at hjs; exact hjs
   have hlt : y.length < (w ++ y).length := by simp; omega
   have g3 : s = (x ++ w) ++ y := by rw [g1]; simp
   rw [show x.length + w.length = (x ++ w).length by simp] at gR
   rw [← gi] at gR
   clear pend hat hct hw0 L1 hsz h16 hs
   have hl16 := (chk_len gc).1
   cases f with
   | true =>
    by_cases he : begE l w = 0
    · have gR2 : R = rdT (toks y (x ++ w).length false) (l ++ [⟨w, []⟩]) := by rw [gR, if_neg (by rw [stepE_t, he]; simp), stepL_t]
      have gs := (step_ok (b := true) (w := w) gc (.inl rfl) he).1
      rw [stepL_t] at gs
      have kE0 : iNe 0 0 = false := by simp only [ee]; rfl
      clear gR gf
      rcases gP with ⟨rfl, rfl, rfl, rfl⟩ | ⟨a, q, rfl, rfl, rfl, rfl⟩
      · have hB : ACall EK 44 [.val (.slice none 0 0), str (ba w)] [] fun v H' => v = .tup [.sl 0 2 0 1, int 0] ∧ H' = [.arr 2 [.agg [str (ba w), .val (.slice none 0 0)]]] := ACall.mono (C_rbegin [] w (by decide) (by omega) _ _ (.inl ⟨rfl, rfl, rfl⟩)) (by
         rintro v H' (⟨h, _⟩ | ⟨_, ⟨_, h1, h2⟩ | ⟨h, _⟩⟩)
         · exact absurd he h
         · exact ⟨h1, h2⟩
         · exact absurd rfl h)
        have gP2 : PV ([] ++ [⟨w, []⟩]) (.sl 0 2 0 1) (.arr 2 [.agg [str (ba w), .val (.slice none 0 0)]]) .dead := .inr ⟨[], ⟨w, []⟩, rfl, rfl, by rw [mapE_nil]; rfl, rfl⟩
        generalize ba w = wb at *
        refine goB hX 0 (by conv => lhs; cbv; try simp only [hc, ht, k1, k2, hcu]; cbv; try simp only [hc, ht, k1, k2, hcu]; cbv; try simp only [hc, ht, k1, k2, hcu]; cbv; try simp only [hc, ht, k1, k2, hcu]; cbv) ?_
        refine goB hX 1 (by conv => lhs; cbv; try simp only [hc, ht, k1, k2, hcu]; cbv; try simp only [hc, ht, k1, k2, hcu]; cbv; try simp only [hc, ht, k1, k2, hcu]; cbv; try simp only [hc, ht, k1, k2, hcu]; cbv) ?_
        refine goB hX 1 (by conv => lhs; cbv; try simp only [hc, ht, k1, k2, hcu]; cbv; try simp only [hc, ht, k1, k2, hcu]; cbv; try simp only [hc, ht, k1, k2, hcu]; cbv; try simp only [hc, ht, k1, k2, hcu]; cbv) ?_
        refine on_cond rfl (fun c1 => ?_) (fun c1 => ?_)
        ·
         simp [ee] at c1
        simp [ee] at c1
        clear c1
        refine goA 60 ?_
        refine oPA pe ?_
        refine goA 60 ?_
        refine on_fcall [] rfl rfl enters_ref03_begin hB (by decide) (by simp) rfl (by simp only [hcu]; rfl) ?_
        rintro v0 H1 ⟨rfl, rfl⟩ -
        refine goB hX 0 (by conv => lhs; cbv; try simp only [kE0]; cbv; try simp only [kE0]; cbv; try simp only [kE0]; cbv; try simp only [kE0]; cbv) ?_
        refine goB hX 1 (by conv => lhs; cbv; try simp only [kE0]; cbv; try simp only [kE0]; cbv; try simp only [kE0]; cbv; try simp only [kE0]; cbv) ?_
        refine goA 60 ?_
        exact loopP_next (x ++ w, y, j, false, [] ++ [⟨w, []⟩], .sl 0 2 0 1, .arr 2 [.agg [str wb, .val (.slice none 0 0)]], .dead) ⟨g3, hjx, gR2, gs, (fun _ => by simp), gP2⟩ hlt (ent_sub [.gone, .gone, .to 0] [some 2, none] ⟨trivial, trivial, ⟨by simp, rfl⟩, trivial⟩ ⟨osrc_arr (b := 2) rfl rfl rfl rfl rfl, .dead, trivial⟩ ⟨.refl _, .refl _, .refl _, .refl _, trivial⟩)
      · have hse : mapE Sch.enc (a ++ [q]) = mapE Sch.enc a ++ [.agg [str (ba q.nm), .isl 2 (mapE Fld.enc q.fs)]] := by rw [mapE_snoc, Sch.enc_eq q]
        have kes := Sch.closedL a
        have kcz := Sch.closedL (a ++ [q])
        have hc2 := Sch.cells2 (a ++ [q])
        have hc3 : ∀ v : AV, ∀ e ∈ mapE Sch.enc a ++ [.agg [str (ba q.nm), v]], e.cells.length = 2 := fun v e he => by
         rcases List.mem_append.1 he with he | he
         · exact Sch.cells2 a e he
         · simp at he; subst he; rfl
        have hB : ACall EK 44 [.sl 0 2 0 (a.length + 1), str (ba w)] [.arr 2 (mapE Sch.enc (a ++ [q]))] fun v H' => v = .tup [.sl 1 2 0 (a.length + 2), int 0] ∧ H' = [.dead, .arr 2 (mapE Sch.enc (a ++ [q]) ++ [.agg [str (ba w), .val (.slice none 0 0)]])] := ACall.mono (C_rbegin (a ++ [q]) w hl16 (by omega) _ _ (.inr ⟨by simp, by rw [len_snocS], rfl⟩)) (by
         rintro v H' (⟨h, _⟩ | ⟨_, ⟨h, _⟩ | ⟨_, h1, h2⟩⟩)
         · exact absurd he h
         · exact absurd h (by simp)
         · rw [len_snocS] at h1; exact ⟨h1, h2⟩)
        have gP2 : PV ((a ++ [q]) ++ [⟨w, []⟩]) (.sl 0 2 0 (a.length + 2)) (.arr 2 (mapE Sch.enc (a ++ [q]) ++ [.agg [str (ba w), .val (.slice none 0 0)]])) .dead := .inr ⟨a ++ [q], ⟨w, []⟩, rfl, by rw [len_snocS], rfl, rfl⟩
        have kez : AV.closedL (mapE Sch.enc (a ++ [q]) ++ [.agg [str (ba w), .val (.slice none 0 0)]]) = true := closedL_append kcz rfl
        have hm := subL_closed (subIn [0] 1) kez
        obtain ⟨LZ, hLZ⟩ : ∃ LZ, LZ = mapE Sch.enc (a ++ [q]) ++ [.agg [str (ba w), .val (.slice none 0 0)]] := ⟨_, rfl⟩
        rw [← hLZ] at hm kez hB gP2
        obtain ⟨n2, hn2⟩ : ∃ n2, n2 = a.length + 2 := ⟨_, rfl⟩
        rw [← hn2] at hB gP2
        generalize ba w = wb at *
        rcases hfs : q.fs with _ | ⟨fd, fr⟩
        · rw [gV_nil, fA_nil]
          rw [hfs, mapE_nil] at hse
          obtain ⟨L8, hL8⟩ : ∃ L8, L8 = mapE Sch.enc a ++ [.agg [str (ba q.nm), .val (.slice none 0 0)]] := ⟨_, rfl⟩
          have hW : ∀ (M : Nat) (σ : Nat → Sub), WkL M (AV.subL σ L8) (mapE Sch.enc (a ++ [q])) := fun M σ => by
           rw [hL8, subL_append, subL_closed _ kes, hse]
           exact wkL_app (WkL.refl _ _) ⟨.agg' ⟨.refl _, .nilI 2, trivial⟩, trivial⟩
          have hc4 := hc3 (.val (.slice none 0 0))
          rw [← hL8] at hc4 ⊢
          generalize mapE Sch.enc (a ++ [q]) = el at *
          generalize a.length + 1 = n8 at *
          refine on_ent (F' := [(7, int i), (6, bool true), (5, .sl 0 2 0 n8), (0, str b)]) (H' := [.arr 2 el]) (ent_sub [.to 0] [some 0] ⟨⟨by simp, rfl⟩, trivial⟩ ⟨osrc_arrW (b := 0) rfl rfl rfl (hW _ _) hc4 hc2, trivial⟩ ⟨.refl _, .refl _, .refl _, .refl _, trivial⟩) ?_
          refine goB hX 0 (by conv => lhs; cbv; try simp only [hc, ht, k1, k2, hcu]; cbv; try simp only [hc, ht, k1, k2, hcu]; cbv; try simp only [hc, ht, k1, k2, hcu]; cbv; try simp only [hc, ht, k1, k2, hcu]; cbv) ?_
          refine goB hX 1 (by conv => lhs; cbv; try simp only [hc, ht, k1, k2, hcu]; cbv; try simp only [hc, ht, k1, k2, hcu]; cbv; try simp only [hc, ht, k1, k2, hcu]; cbv; try simp only [hc, ht, k1, k2, hcu]; cbv) ?_
          refine goB hX 1 (by conv => lhs; cbv; try simp only [hc, ht, k1, k2, hcu]; cbv; try simp only [hc, ht, k1, k2, hcu]; cbv; try simp only [hc, ht, k1, k2, hcu]; cbv; try simp only [hc, ht, k1, k2, hcu]; cbv) ?_
          refine on_cond rfl (fun c1 => ?_) (fun c1 => ?_)
          ·
           simp [ee] at c1
          simp [ee] at c1
          clear c1
          refine goA 60 ?_
          refine oPA pe ?_
          refine goA 60 ?_
          refine on_fcall [0] rfl rfl enters_ref03_begin hB (by decide) (by simp) (by show _ = [AObj.arr 2 (AV.subL _ el)]; rw [subL_closed _ kcz]) (by simp only [hcu]; rfl) ?_
          rintro v0 H1 ⟨rfl, rfl⟩ -
          refine on_eqH (by change [AObj.dead, AObj.arr 2 (AV.subL (subIn [0] 1) LZ)] = _; rw [hm]) ?_
          refine goB hX 0 (by conv => lhs; cbv; try simp only [kE0]; cbv; try simp only [kE0]; cbv; try simp only [kE0]; cbv; try simp only [kE0]; cbv) ?_
          refine goB hX 1 (by conv => lhs; cbv; try simp only [kE0]; cbv; try simp only [kE0]; cbv; try simp only [kE0]; cbv; try simp only [kE0]; cbv) ?_
          refine goA 60 ?_
          exact loopP_next (x ++ w, y, j, false, (a ++ [q]) ++ [⟨w, []⟩], .sl 0 2 0 n2, .arr 2 LZ, .dead) ⟨g3, hjx, gR2, gs, (fun _ => by simp), gP2⟩ hlt (ent_sub [.gone, .to 0] [some 1, none] ⟨trivial, ⟨by simp, rfl⟩, trivial⟩ ⟨osrc_arr (b := 1) rfl rfl rfl rfl kez, .dead, trivial⟩ ⟨.refl _, .refl _, .refl _, .refl _, trivial⟩)
        · rw [gV_cons, fA_cons]
          rw [hfs] at hse
          have kfe := Fld.closedL (fd :: fr)
          have hfn : (mapE Fld.enc (fd :: fr)).length = fr.length + 1 := by rw [mapE_len]; rfl
          generalize mapE Fld.enc (fd :: fr) = fe at *
          generalize fr.length + 1 = m at *
          obtain ⟨L8, hL8⟩ : ∃ L8, L8 = mapE Sch.enc a ++ [.agg [str (ba q.nm), .sl 1 2 0 m]] := ⟨_, rfl⟩
          have hW : ∀ (M : Nat) (σ : Nat → Sub), σ 1 = .isl 2 fe → WkL M (AV.subL σ L8) (mapE Sch.enc (a ++ [q])) := fun M σ hs9 => by
           rw [hL8, subL_append, subL_closed _ kes, hse]
           refine wkL_app (WkL.refl _ _) ⟨.agg' ⟨.refl _, .of ?_, trivial⟩, trivial⟩
           exact sub_whole hs9 (by omega)
          have hc4 := hc3 (.sl 1 2 0 m)
          rw [← hL8] at hc4 ⊢
          generalize mapE Sch.enc (a ++ [q]) = el at *
          generalize a.length + 1 = n8 at *
          refine on_ent (F' := [(7, int i), (6, bool true), (5, .sl 0 2 0 n8), (0, str b)]) (H' := [.arr 2 el]) (ent_sub [.to 0, .isl 2 fe] [some 0] ⟨⟨by simp, rfl⟩, ⟨_, rfl, (subL_closed _ kfe).symm⟩, trivial⟩ ⟨osrc_arrW (b := 0) rfl rfl rfl (hW _ _ rfl) hc4 hc2, trivial⟩ ⟨.refl _, .refl _, .refl _, .refl _, trivial⟩) ?_
          refine goB hX 0 (by conv => lhs; cbv; try simp only [hc, ht, k1, k2, hcu]; cbv; try simp only [hc, ht, k1, k2, hcu]; cbv; try simp only [hc, ht, k1, k2, hcu]; cbv; try simp only [hc, ht, k1, k2, hcu]; cbv) ?_
          refine goB hX 1 (by conv => lhs; cbv; try simp only [hc, ht, k1, k2, hcu]; cbv; try simp only [hc, ht, k1, k2, hcu]; cbv; try simp only [hc, ht, k1, k2, hcu]; cbv; try simp only [hc, ht, k1, k2, hcu]; cbv) ?_
          refine goB hX 1 (by conv => lhs; cbv; try simp only [hc, ht, k1, k2, hcu]; cbv; try simp only [hc, ht, k1, k2, hcu]; cbv; try simp only [hc, ht, k1, k2, hcu]; cbv; try simp only [hc, ht, k1, k2, hcu]; cbv) ?_
          refine on_cond rfl (fun c1 => ?_) (fun c1 => ?_)
          ·
           simp [ee] at c1
          simp [ee] at c1
          clear c1
          refine goA 60 ?_
          refine oPA pe ?_
          refine goA 60 ?_
          refine on_fcall [0] rfl rfl enters_ref03_begin hB (by decide) (by simp) (by show _ = [AObj.arr 2 (AV.subL _ el)]; rw [subL_closed _ kcz]) (by simp only [hcu]; rfl) ?_
          rintro v0 H1 ⟨rfl, rfl⟩ -
          refine on_eqH (by change [AObj.dead, AObj.arr 2 (AV.subL (subIn [0] 1) LZ)] = _; rw [hm]) ?_
          refine goB hX 0 (by conv => lhs; cbv; try simp only [kE0]; cbv; try simp only [kE0]; cbv; try simp only [kE0]; cbv; try simp only [kE0]; cbv) ?_
          refine goB hX 1 (by conv => lhs; cbv; try simp only [kE0]; cbv; try simp only [kE0]; cbv; try simp only [kE0]; cbv; try simp only [kE0]; cbv) ?_
          refine goA 60 ?_
          exact loopP_next (x ++ w, y, j, false, (a ++ [q]) ++ [⟨w, []⟩], .sl 0 2 0 n2, .arr 2 LZ, .dead) ⟨g3, hjx, gR2, gs, (fun _ => by simp), gP2⟩ hlt (ent_sub [.gone, .to 0] [some 1, none] ⟨trivial, ⟨by simp, rfl⟩, trivial⟩ ⟨osrc_arr (b := 1) rfl rfl rfl rfl kez, .dead, trivial⟩ ⟨.refl _, .refl _, .refl _, .refl _, trivial⟩)
    · have gR2 : R = ([], i, begE l w) := by rw [gR, if_pos (by rw [stepE_t]; exact he), stepE_t]
      rw [gR2]
      simp only [mapE_nil]
      obtain ⟨E, hE⟩ : ∃ E, E = begE l w := ⟨_, rfl⟩
      have hR := C_rbegin l w hl16 (by omega)
      rw [← hE] at he hR ⊢
      have kE : iNe E 0 = true := by simp only [ee]; simpa using he
      clear gR gf gR2 hE
      rcases gP with ⟨rfl, rfl, rfl, rfl⟩ | ⟨a, q, rfl, rfl, rfl, rfl⟩
      · have hB : ACall EK 44 [.val (.slice none 0 0), str (ba w)] [] fun v H' => v = .tup [.val (.slice none 0 0), int E] ∧ H' = [] := ACall.mono (hR _ _ (.inl ⟨rfl, rfl, rfl⟩)) (by
         rintro v H' (⟨_, h1, h2⟩ | ⟨h, _⟩)
         · exact ⟨h1, h2⟩
         · exact absurd h he)
        clear hR
        generalize ba w = wb at *
        refine goB hX 0 (by conv => lhs; cbv; try simp only [hc, ht, k1, k2, hcu]; cbv; try simp only [hc, ht, k1, k2, hcu]; cbv; try simp only [hc, ht, k1, k2, hcu]; cbv; try simp only [hc, ht, k1, k2, hcu]; cbv) ?_
        refine goB hX 1 (by conv => lhs; cbv; try simp only [hc, ht, k1, k2, hcu]; cbv; try simp only [hc, ht, k1, k2, hcu]; cbv; try simp only [hc, ht, k1, k2, hcu]; cbv; try simp only [hc, ht, k1, k2, hcu]; cbv) ?_
        refine goB hX 1 (by conv => lhs; cbv; try simp only [hc, ht, k1, k2, hcu]; cbv; try simp only [hc, ht, k1, k2, hcu]; cbv; try simp only [hc, ht, k1, k2, hcu]; cbv; try simp only [hc, ht, k1, k2, hcu]; cbv) ?_
        refine on_cond rfl (fun c1 => ?_) (fun c1 => ?_)
        ·
         simp [ee] at c1
        simp [ee] at c1
        clear c1
        refine goA 60 ?_
        refine oPA pe ?_
        refine goA 60 ?_
        refine on_fcall [] rfl rfl enters_ref03_begin hB (by decide) (by simp) rfl (by simp only [hcu]; rfl) ?_
        rintro v0 H1 ⟨rfl, rfl⟩ -
        refine goB hX 0 (by conv => lhs; cbv; try simp only [kE]; cbv; try simp only [kE]; cbv; try simp only [kE]; cbv; try simp only [kE]; cbv) ?_
        refine goA 60 ?_
        refine loopP_ret ?_
        refine goA 60 ?_
        refine fn_ret rfl rfl ?_
        exact ⟨[.gone, .gone], ⟨trivial, trivial, trivial⟩, .tup' ⟨.nilI _, .refl _, .refl _, trivial⟩⟩
      · have hB : ACall EK 44 [.sl 0 2 0 (a.length + 1), str (ba w)] [.arr 2 (mapE Sch.enc (a ++ [q]))] fun v H' => v = .tup [.sl 0 2 0 (a.length + 1), int E] ∧ H' = [.arr 2 (mapE Sch.enc (a ++ [q]))] := ACall.mono (hR _ _ (.inr ⟨by simp, by rw [len_snocS], rfl⟩)) (by
         rintro v H' (⟨_, h1, h2⟩ | ⟨h, _⟩)
         · exact ⟨h1, h2⟩
         · exact absurd h he)
        clear hR
        have hse : mapE Sch.enc (a ++ [q]) = mapE Sch.enc a ++ [.agg [str (ba q.nm), .isl 2 (mapE Fld.enc q.fs)]] := by rw [mapE_snoc, Sch.enc_eq q]
        have kes := Sch.closedL a
        have kcz := Sch.closedL (a ++ [q])
        have hc2 := Sch.cells2 (a ++ [q])
        have hc3 : ∀ v : AV, ∀ e ∈ mapE Sch.enc a ++ [.agg [str (ba q.nm), v]], e.cells.length = 2 := fun v e he => by
         rcases List.mem_append.1 he with he | he
         · exact Sch.cells2 a e he
         · simp at he; subst he; rfl
        have hm := subL_closed (subIn [0] 1) kcz
        generalize ba w = wb at *
        rcases hfs : q.fs with _ | ⟨fd, fr⟩
        · rw [gV_nil, fA_nil]
          rw [hfs, mapE_nil] at hse
          obtain ⟨L8, hL8⟩ : ∃ L8, L8 = mapE Sch.enc a ++ [.agg [str (ba q.nm), .val (.slice none 0 0)]] := ⟨_, rfl⟩
          have hW : ∀ (M : Nat) (σ : Nat → Sub), WkL M (AV.subL σ L8) (mapE Sch.enc (a ++ [q])) := fun M σ => by
           rw [hL8, subL_append, subL_closed _ kes, hse]
           exact wkL_app (WkL.refl _ _) ⟨.agg' ⟨.refl _, .nilI 2, trivial⟩, trivial⟩
          have hc4 := hc3 (.val (.slice none 0 0))
          rw [← hL8] at hc4 ⊢
          generalize mapE Sch.enc (a ++ [q]) = el at *
          generalize a.length + 1 = n8 at *
          refine on_ent (F' := [(7, int i), (6, bool true), (5, .sl 0 2 0 n8), (0, str b)]) (H' := [.arr 2 el]) (ent_sub [.to 0] [some 0] ⟨⟨by simp, rfl⟩, trivial⟩ ⟨osrc_arrW (b := 0) rfl rfl rfl (hW _ _) hc4 hc2, trivial⟩ ⟨.refl _, .refl _, .refl _, .refl _, trivial⟩) ?_
          refine goB hX 0 (by conv => lhs; cbv; try simp only [hc, ht, k1, k2, hcu]; cbv; try simp only [hc, ht, k1, k2, hcu]; cbv; try simp only [hc, ht, k1, k2, hcu]; cbv; try simp only [hc, ht, k1, k2, hcu]; cbv) ?_
          refine goB hX 1 (by conv => lhs; cbv; try simp only [hc, ht, k1, k2, hcu]; cbv; try simp only [hc, ht, k1, k2, hcu]; cbv; try simp only [hc, ht, k1, k2, hcu]; cbv; try simp only [hc, ht, k1, k2, hcu]; cbv) ?_
          refine goB hX 1 (by conv => lhs; cbv; try simp only [hc, ht, k1, k2, hcu]; cbv; try simp only [hc, ht, k1, k2, hcu]; cbv; try simp only [hc, ht, k1, k2, hcu]; cbv; try simp only [hc, ht, k1, k2, hcu]; cbv) ?_
          refine on_cond rfl (fun c1 => ?_) (fun c1 => ?_)
          ·
           simp [ee] at c1
          simp [ee] at c1
          clear c1
          refine goA 60 ?_
          refine oPA pe ?_
          refine goA 60 ?_
          refine on_fcall [0] rfl rfl enters_ref03_begin hB (by decide) (by simp) (by show _ = [AObj.arr 2 (AV.subL _ el)]; rw [subL_closed _ kcz]) (by simp only [hcu]; rfl) ?_
          rintro v0 H1 ⟨rfl, rfl⟩ -
          refine on_eqH (by change [AObj.arr 2 (AV.subL (subIn [0] 1) el)] = _; rw [hm]) ?_
          refine goB hX 0 (by conv => lhs; cbv; try simp only [kE]; cbv; try simp only [kE]; cbv; try simp only [kE]; cbv; try simp only [kE]; cbv) ?_
          refine goA 60 ?_
          refine loopP_ret ?_
          refine goA 60 ?_
          refine fn_ret rfl rfl ?_
          exact ⟨[.gone], ⟨trivial, trivial⟩, .tup' ⟨.nilI _, .refl _, .refl _, trivial⟩⟩
        · rw [gV_cons, fA_cons]
          rw [hfs] at hse
          have kfe := Fld.closedL (fd :: fr)
          have hfn : (mapE Fld.enc (fd :: fr)).length = fr.length + 1 := by rw [mapE_len]; rfl
          generalize mapE Fld.enc (fd :: fr) = fe at *
          generalize fr.length + 1 = m at *
          obtain ⟨L8, hL8⟩ : ∃ L8, L8 = mapE Sch.enc a ++ [.agg [str (ba q.nm), .sl 1 2 0 m]] := ⟨_, rfl⟩
          have hW : ∀ (M : Nat) (σ : Nat → Sub), σ 1 = .isl 2 fe → WkL M (AV.subL σ L8) (mapE Sch.enc (a ++ [q])) := fun M σ hs9 => by
           rw [hL8, subL_append, subL_closed _ kes, hse]
           refine wkL_app (WkL.refl _ _) ⟨.agg' ⟨.refl _, .of ?_, trivial⟩, trivial⟩
           exact sub_whole hs9 (by omega)
          have hc4 := hc3 (.sl 1 2 0 m)
          rw [← hL8] at hc4 ⊢
          generalize mapE Sch.enc (a ++ [q]) = el at *
          generalize a.length + 1 = n8 at *
          refine on_ent (F' := [(7, int i), (6, bool true), (5, .sl 0 2 0 n8), (0, str b)]) (H' := [.arr 2 el]) (ent_sub [.to 0, .isl 2 fe] [some 0] ⟨⟨by simp, rfl⟩, ⟨_, rfl, (subL_closed _ kfe).symm⟩, trivial⟩ ⟨osrc_arrW (b := 0) rfl rfl rfl (hW _ _ rfl) hc4 hc2, trivial⟩ ⟨.refl _, .refl _, .refl _, .refl _, trivial⟩) ?_
          refine goB hX 0 (by conv => lhs; cbv; try simp only [hc, ht, k1, k2, hcu]; cbv; try simp only [hc, ht, k1, k2, hcu]; cbv; try simp only [hc, ht, k1, k2, hcu]; cbv; try simp only [hc, ht, k1, k2, hcu]; cbv) ?_
          refine goB hX 1 (by conv => lhs; cbv; try simp only [hc, ht, k1, k2, hcu]; cbv; try simp only [hc, ht, k1, k2, hcu]; cbv; try simp only [hc, ht, k1, k2, hcu]; cbv; try simp only [hc, ht, k1, k2, hcu]; cbv) ?_
          refine goB hX 1 (by conv => lhs; cbv; try simp only [hc, ht, k1, k2, hcu]; cbv; try simp only [hc, ht, k1, k2, hcu]; cbv; try simp only [hc, ht, k1, k2, hcu]; cbv; try simp only [hc, ht, k1, k2, hcu]; cbv) ?_
          refine on_cond rfl (fun c1 => ?_) (fun c1 => ?_)
          ·
           simp [ee] at c1
          simp [ee] at c1
          clear c1
          refine goA 60 ?_
          refine oPA pe ?_
          refine goA 60 ?_
          refine on_fcall [0] rfl rfl enters_ref03_begin hB (by decide) (by simp) (by show _ = [AObj.arr 2 (AV.subL _ el)]; rw [subL_closed _ kcz]) (by simp only [hcu]; rfl) ?_
          rintro v0 H1 ⟨rfl, rfl⟩ -
          refine on_eqH (by change [AObj.arr 2 (AV.subL (subIn [0] 1) el)] = _; rw [hm]) ?_
          refine goB hX 0 (by conv => lhs; cbv; try simp only [kE]; cbv; try simp only [kE]; cbv; try simp only [kE]; cbv; try simp only [kE]; cbv) ?_
          refine goA 60 ?_
          refine loopP_ret ?_
          refine goA 60 ?_
          refine fn_ret rfl rfl ?_
          exact ⟨[.gone], ⟨trivial, trivial⟩, .tup' ⟨.nilI _, .refl _, .refl _, trivial⟩⟩
   | false =>
    rcases gP with ⟨rfl, rfl, rfl, rfl⟩ | ⟨a, q, rfl, rfl, rfl, rfl⟩
    · exact absurd rfl (gf rfl)
    rw [stepE_f, stepL_f] at gR
    have h8 : q.fs.length ≤ 8 := (chk_len gc).2 q (by simp)
    rw [len_snocS] at hl16
    have hst := fun h => step_ok (b := false) (w := w) gc (.inr (by simp)) h
    rw [stepE_f, stepL_f] at hst
    have hR := C_rfield (ba q.nm) q.fs w h8 hwl
    have kes := Sch.closedL a
    have kem := mapE_len Sch.enc a
    obtain ⟨el, hel⟩ : ∃ el, el = mapE Sch.enc a := ⟨_, rfl⟩
    rw [← hel] at kes kem ⊢
    obtain ⟨n, hnn⟩ : ∃ n, n = el.length := ⟨_, rfl⟩
    obtain ⟨m1, hm1⟩ : ∃ m1, m1 = a.length + 1 := ⟨_, rfl⟩
    obtain ⟨J, hJ⟩ : ∃ J : Int, J = (n : Int) := ⟨_, rfl⟩
    rw [← hm1]
    have kJ : iSub .i64 (iOf m1) 1 = J := by
     have e1 : iOf m1 = ((n + 1 : Nat) : Int) := by simp only [ee]; rw [hm1, hnn, kem]
     rw [e1, e_iSub]
     show IntKind.i64.wrap _ = _
     rw [wrap64 (by omega) (by omega), hJ]; omega
    have kx : idxN 0 J = n := by simp only [ee]; rw [hJ]; simp
    have hJ0 : 0 ≤ J := by omega
    have hJ1 : J < iOf m1 := by simp only [ee]; omega
    obtain ⟨E, hE⟩ : ∃ E, E = fldE q.fs w := ⟨_, rfl⟩
    rw [← hE] at gR hst hR
    have kF := Fld.closed (newF w)
    have kE0 : iNe 0 0 = false := by simp only [ee]; rfl
    have hwr : IntKind.i64.wrap ((m1 : Int) - 1) = J := by rw [← kJ, e_iSub, e_iOf]; rfl
    have hfe0 : ∃ fe, fe = Fld.enc (newF w) := ⟨_, rfl⟩
    obtain ⟨fe, hfe⟩ := hfe0
    rcases hfs : q.fs with _ | ⟨fd, fr⟩
    · rw [hfs] at hR
      rw [gV_nil, fA_nil]
      have gP2 : PV (a ++ [⟨q.nm, q.fs ++ [newF w]⟩]) (.sl 0 2 0 m1) (.arr 2 (el ++ [.agg [str (ba q.nm), .sl 1 2 0 1]])) (.arr 2 [fe]) := .inr ⟨a, _, rfl, by rw [hm1], by rw [hel, hfs]; rfl, by rw [hfs, hfe]; show _ = AObj.arr 2 (mapE Fld.enc [newF w]); rw [mapE_eq]; rfl⟩
      rw [← hfe] at hR kF
      generalize ba q.nm = nb at *
      obtain ⟨L8, hL8⟩ : ∃ L8, L8 = el ++ [.agg [str nb, .val (.slice none 0 0)]] := ⟨_, rfl⟩
      have hat8 : atN L8 n = .agg [str nb, .val (.slice none 0 0)] := by simp only [ee]; rw [hL8, hnn]; simp
      have hln : n < L8.length := by rw [hL8, hnn]; simp
      have hset : ∀ x, setA L8 n x = el ++ [x] := fun x => by simp only [ee]; rw [hL8, hnn]; simp
      rw [← hL8]
      by_cases he : E = 0
      · have gR2 := gR
        rw [if_neg (by rw [he]; simp)] at gR2
        have gs := (hst he).1
        have hB : ACall EK 45 [.agg [str nb, .val (.slice none 0 0)], str (ba w)] [] fun v H' => v = .tup [.agg [str nb, .sl 0 2 0 1], int 0] ∧ H' = [.arr 2 [fe], .cells [str nb, .sl 0 2 0 1]] := ACall.mono (hR _ _ (.inl ⟨rfl, rfl, rfl⟩)) (by
         rintro v H' (⟨h, _⟩ | ⟨_, ⟨_, h1, h2⟩ | ⟨h, _⟩⟩)
         · exact absurd he h
         · exact ⟨h1, h2⟩
         · exact absurd rfl h)
        have kfz : AV.closedL [fe] = true := by simp [AV.closedL, kF]
        have hmF := subL_closed (subIn [] 2) kfz
        have hmT : ∀ σ : Nat → Sub, σ 2 = .to 1 → AV.subL σ (setA L8 n (.agg [str nb, .sl 2 2 0 1])) = el ++ [.agg [str nb, .sl 1 2 0 1]] := fun σ hσ => by rw [hset, subL_append, subL_closed _ kes]; simp [AV.subL, AV.sub, hσ]
        clear hR hst gR
        generalize ba w = wb at *
        refine goB hX 0 (by conv => lhs; cbv; try simp only [hc, ht, k1, k2, hcu]; cbv; try simp only [hc, ht, k1, k2, hcu]; cbv; try simp only [hc, ht, k1, k2, hcu]; cbv; try simp only [hc, ht, k1, k2, hcu]; cbv) ?_
        refine goB hX 1 (by conv => lhs; cbv; try simp only [hc, ht, k1, k2, hcu]; cbv; try simp only [hc, ht, k1, k2, hcu]; cbv; try simp only [hc, ht, k1, k2, hcu]; cbv; try simp only [hc, ht, k1, k2, hcu]; cbv) ?_
        refine goB hX 1 (by conv => lhs; cbv; try simp only [hc, ht, k1, k2, hcu]; cbv; try simp only [hc, ht, k1, k2, hcu]; cbv; try simp only [hc, ht, k1, k2, hcu]; cbv; try simp only [hc, ht, k1, k2, hcu]; cbv) ?_
        refine on_cond rfl (fun c1 => ?_) (fun c1 => ?_)
        ·
         simp [ee] at c1
        simp [ee] at c1
        clear c1
        refine goA 60 ?_
        refine oPA pe ?_
        refine goB hX 0 (by conv => lhs; cbv; try simp only [kJ, kx, hat8, hcu]; cbv; try simp only [kJ, kx, hat8, hcu]; cbv; try simp only [kJ, kx, hat8, hcu]; cbv; try simp only [kJ, kx, hat8, hcu]; cbv) ?_
        refine goB hX 1 (by conv => lhs; cbv; try simp only [kJ, kx, hat8, hcu]; cbv; try simp only [kJ, kx, hat8, hcu]; cbv; try simp only [kJ, kx, hat8, hcu]; cbv; try simp only [kJ, kx, hat8, hcu]; cbv) ?_
        refine tr_drawB rfl (by conv => lhs; cbv) rfl ?_
        refine tgB hX (by conv => lhs; cbv; try simp only [kJ, kx, hcu, hat8]; cbv; try simp only [kJ, kx, hcu, hat8]; cbv; try simp only [kJ, kx, hcu, hat8]; cbv; try simp only [kJ, kx, hcu, hat8]; cbv) ?_
        refine tr_ecall (args := [.agg [str nb, .val (.slice none 0 0)], str wb]) (v := .tup [.agg [str nb, .sl 2 2 0 1], int 0]) (H1 := [.arr 2 L8, .dead, .arr 2 [fe], .cells [str nb, .sl 2 2 0 1]]) rfl rfl rfl enters_ref03_field (ACall.at [] hB (by decide) (by simp) rfl rfl rfl (by show [_, _, AObj.arr 2 (AV.subL (subIn [] 2) [fe]), _] = _; rw [hmF]; rfl)) ?_
        refine tgB hX (by conv => lhs; cbv; try simp only [kJ, kx]; cbv; try simp only [kJ, kx]; cbv; try simp only [kJ, kx]; cbv; try simp only [kJ, kx]; cbv) ?_
        refine tr_nil ⟨rfl, ?_, ?_⟩
        · simp only [LooksL, lookAll, List.cons_append, List.nil_append, List.append_nil]; and_intros <;> first | trivial | (intro hp; first | rfl | exact absurd (show false = true from hp) Bool.false_ne_true)
        refine goB hX 0 (by conv => lhs; cbv; try simp only [kE0]; cbv; try simp only [kE0]; cbv; try simp only [kE0]; cbv; try simp only [kE0]; cbv) ?_
        refine goB hX 1 (by conv => lhs; cbv; try simp only [kE0]; cbv; try simp only [kE0]; cbv; try simp only [kE0]; cbv; try simp only [kE0]; cbv) ?_
        refine goA 60 ?_
        exact loopP_next (x ++ w, y, j, false, a ++ [⟨q.nm, q.fs ++ [newF w]⟩], .sl 0 2 0 m1, .arr 2 (el ++ [.agg [str nb, .sl 1 2 0 1]]), .arr 2 [fe]) ⟨g3, hjx, gR2, gs, (fun _ => by simp), gP2⟩ hlt (ent_sub [.to 0, .gone, .to 1] [some 0, some 2] ⟨⟨by simp, rfl⟩, trivial, ⟨by simp, rfl⟩, trivial⟩ ⟨osrc_arrS (b := 0) rfl rfl rfl (by exact hmT _ rfl), osrc_arr (b := 2) rfl rfl rfl rfl kfz, trivial⟩ ⟨.refl _, .refl _, .refl _, .refl _, trivial⟩)
      · have gR2 : R = ([], i, E) := by rw [gR, if_pos he]
        rw [gR2]
        simp only [mapE_nil]
        have kE : iNe E 0 = true := by simp only [ee]; simpa using he
        have hB : ACall EK 45 [.agg [str nb, .val (.slice none 0 0)], str (ba w)] [] fun v H' => v = .tup [.agg [str nb, .val (.slice none 0 0)], int E] ∧ H' = [.cells [str nb, .val (.slice none 0 0)]] := ACall.mono (hR _ _ (.inl ⟨rfl, rfl, rfl⟩)) (by
         rintro v H' (⟨_, h1, h2⟩ | ⟨h, _⟩)
         · exact ⟨h1, h2⟩
         · exact absurd h he)
        clear hR hst gR gR2
        generalize ba w = wb at *
        refine goB hX 0 (by conv => lhs; cbv; try simp only [hc, ht, k1, k2, hcu]; cbv; try simp only [hc, ht, k1, k2, hcu]; cbv; try simp only [hc, ht, k1, k2, hcu]; cbv; try simp only [hc, ht, k1, k2, hcu]; cbv) ?_
        refine goB hX 1 (by conv => lhs; cbv; try simp only [hc, ht, k1, k2, hcu]; cbv; try simp only [hc, ht, k1, k2, hcu]; cbv; try simp only [hc, ht, k1, k2, hcu]; cbv; try simp only [hc, ht, k1, k2, hcu]; cbv) ?_
        refine goB hX 1 (by conv => lhs; cbv; try simp only [hc, ht, k1, k2, hcu]; cbv; try simp only [hc, ht, k1, k2, hcu]; cbv; try simp only [hc, ht, k1, k2, hcu]; cbv; try simp only [hc, ht, k1, k2, hcu]; cbv) ?_
        refine on_cond rfl (fun c1 => ?_) (fun c1 => ?_)
        ·
         simp [ee] at c1
        simp [ee] at c1
        clear c1
        refine goA 60 ?_
        refine oPA pe ?_
        refine goB hX 0 (by conv => lhs; cbv; try simp only [kJ, kx, hat8, hcu]; cbv; try simp only [kJ, kx, hat8, hcu]; cbv; try simp only [kJ, kx, hat8, hcu]; cbv; try simp only [kJ, kx, hat8, hcu]; cbv) ?_
        refine goB hX 1 (by conv => lhs; cbv; try simp only [kJ, kx, hat8, hcu]; cbv; try simp only [kJ, kx, hat8, hcu]; cbv; try simp only [kJ, kx, hat8, hcu]; cbv; try simp only [kJ, kx, hat8, hcu]; cbv) ?_
        refine tr_drawB rfl (by conv => lhs; cbv) rfl ?_
        refine tgB hX (by conv => lhs; cbv; try simp only [kJ, kx, hcu, hat8]; cbv; try simp only [kJ, kx, hcu, hat8]; cbv; try simp only [kJ, kx, hcu, hat8]; cbv; try simp only [kJ, kx, hcu, hat8]; cbv) ?_
        refine tr_ecall (args := [.agg [str nb, .val (.slice none 0 0)], str wb]) (v := .tup [.agg [str nb, .val (.slice none 0 0)], int E]) (H1 := [.arr 2 L8, .dead, .cells [str nb, .val (.slice none 0 0)]]) rfl rfl rfl enters_ref03_field (ACall.at [] hB (by decide) (by simp) rfl rfl rfl rfl) ?_
        refine tgB hX (by conv => lhs; cbv; try simp only [kJ, kx]; cbv; try simp only [kJ, kx]; cbv; try simp only [kJ, kx]; cbv; try simp only [kJ, kx]; cbv) ?_
        refine tr_nil ⟨rfl, ?_, ?_⟩
        · simp only [LooksL, lookAll, List.cons_append, List.nil_append, List.append_nil]; and_intros <;> first | trivial | (intro hp; first | rfl | exact absurd (show false = true from hp) Bool.false_ne_true)
        refine goB hX 0 (by conv => lhs; cbv; try simp only [kE]; cbv; try simp only [kE]; cbv; try simp only [kE]; cbv; try simp only [kE]; cbv) ?_
        refine goA 60 ?_
        refine loopP_ret ?_
        refine goA 60 ?_
        refine fn_ret rfl rfl ?_
        exact ⟨[.gone, .gone, .gone], ⟨trivial, trivial, trivial, trivial⟩, .tup' ⟨.nilI _, .refl _, .refl _, trivial⟩⟩
    · rw [hfs] at hR
      rw [gV_cons, fA_cons]
      have hmm : (fd :: fr).length = fr.length + 1 := rfl
      have gP2 : PV (a ++ [⟨q.nm, q.fs ++ [newF w]⟩]) (.sl 0 2 0 m1) (.arr 2 (el ++ [.agg [str (ba q.nm), .sl 1 2 0 (fr.length + 1 + 1)]])) (.arr 2 (mapE Fld.enc (fd :: fr) ++ [fe])) := .inr ⟨a, _, rfl, by rw [hm1], by rw [hel, hfs]; simp [gV], by rw [hfs, hfe]; exact (fA_snoc _ _).symm⟩
      rw [hmm] at hR
      have kfs := Fld.closedL (fd :: fr)
      rw [← hfe] at hR kF
      generalize mapE Fld.enc (fd :: fr) = es at *
      generalize fr.length + 1 = m at *
      generalize ba q.nm = nb at *
      obtain ⟨LF, hLF⟩ : ∃ LF, LF = es ++ [fe] := ⟨_, rfl⟩
      have kfz : AV.closedL LF = true := by rw [hLF]; exact closedL_append kfs (by simp [AV.closedL, kF])
      rw [← hLF] at hR gP2
      obtain ⟨L8, hL8⟩ : ∃ L8, L8 = el ++ [.agg [str nb, .sl 1 2 0 m]] := ⟨_, rfl⟩
      have hat8 : atN L8 n = .agg [str nb, .sl 1 2 0 m] := by simp only [ee]; rw [hL8, hnn]; simp
      have hln : n < L8.length := by rw [hL8, hnn]; simp
      have hset : ∀ x, setA L8 n x = el ++ [x] := fun x => by simp only [ee]; rw [hL8, hnn]; simp
      have hargs : [AObj.arr 2 es] = [AObj.arr 2 (AV.subL (subOut [1]) es)] := by rw [subL_closed _ kfs]
      rw [← hL8]
      by_cases he : E = 0
      · have gR2 := gR
        rw [if_neg (by rw [he]; simp)] at gR2
        have gs := (hst he).1
        have hB : ACall EK 45 [.agg [str nb, .sl 0 2 0 m], str (ba w)] [.arr 2 es] fun v H' => v = .tup [.agg [str nb, .sl 1 2 0 (m + 1)], int 0] ∧ H' = [.dead, .arr 2 LF, .cells [str nb, .sl 1 2 0 (m + 1)]] := ACall.mono (hR _ _ (.inr ⟨by simp, rfl, rfl⟩)) (by
         rintro v H' (⟨h, _⟩ | ⟨_, ⟨h, _⟩ | ⟨_, h1, h2⟩⟩)
         · exact absurd he h
         · exact absurd h (by simp)
         · exact ⟨h1, h2⟩)
        have hmF := subL_closed (subIn [1] 2) kfz
        have hmT : ∀ σ : Nat → Sub, σ 2 = .to 1 → AV.subL σ (setA L8 n (.agg [str nb, .sl 2 2 0 (m + 1)])) = el ++ [.agg [str nb, .sl 1 2 0 (m + 1)]] := fun σ hσ => by rw [hset, subL_append, subL_closed _ kes]; simp [AV.subL, AV.sub, hσ]
        obtain ⟨m2, hm2⟩ : ∃ m2, m2 = m + 1 := ⟨_, rfl⟩
        rw [← hm2] at hB hmT gP2
        clear hR hst gR
        generalize ba w = wb at *
        refine goB hX 0 (by conv => lhs; cbv; try simp only [hc, ht, k1, k2, hcu]; cbv; try simp only [hc, ht, k1, k2, hcu]; cbv; try simp only [hc, ht, k1, k2, hcu]; cbv; try simp only [hc, ht, k1, k2, hcu]; cbv) ?_
        refine goB hX 1 (by conv => lhs; cbv; try simp only [hc, ht, k1, k2, hcu]; cbv; try simp only [hc, ht, k1, k2, hcu]; cbv; try simp only [hc, ht, k1, k2, hcu]; cbv; try simp only [hc, ht, k1, k2, hcu]; cbv) ?_
        refine goB hX 1 (by conv => lhs; cbv; try simp only [hc, ht, k1, k2, hcu]; cbv; try simp only [hc, ht, k1, k2, hcu]; cbv; try simp only [hc, ht, k1, k2, hcu]; cbv; try simp only [hc, ht, k1, k2, hcu]; cbv) ?_
        refine on_cond rfl (fun c1 => ?_) (fun c1 => ?_)
        ·
         simp [ee] at c1
        simp [ee] at c1
        clear c1
        refine goA 60 ?_
        refine oPA pe ?_
        refine goB hX 0 (by conv => lhs; cbv; try simp only [kJ, kx, hat8, hcu]; cbv; try simp only [kJ, kx, hat8, hcu]; cbv; try simp only [kJ, kx, hat8, hcu]; cbv; try simp only [kJ, kx, hat8, hcu]; cbv) ?_
        refine goB hX 1 (by conv => lhs; cbv; try simp only [kJ, kx, hat8, hcu]; cbv; try simp only [kJ, kx, hat8, hcu]; cbv; try simp only [kJ, kx, hat8, hcu]; cbv; try simp only [kJ, kx, hat8, hcu]; cbv) ?_
        refine tr_drawB rfl (by conv => lhs; cbv) rfl ?_
        refine tgB hX (by conv => lhs; cbv; try simp only [kJ, kx, hcu, hat8]; cbv; try simp only [kJ, kx, hcu, hat8]; cbv; try simp only [kJ, kx, hcu, hat8]; cbv; try simp only [kJ, kx, hcu, hat8]; cbv) ?_
        refine tr_ecall (args := [.agg [str nb, .sl 1 2 0 m], str wb]) (v := .tup [.agg [str nb, .sl 2 2 0 m2], int 0]) (H1 := [.arr 2 L8, .dead, .arr 2 LF, .cells [str nb, .sl 2 2 0 m2]]) rfl rfl rfl enters_ref03_field (ACall.at [1] hB (by decide) (by simp) hargs rfl rfl (by show [_, _, AObj.arr 2 (AV.subL (subIn [1] 2) LF), _] = _; rw [hmF]; rfl)) ?_
        refine tgB hX (by conv => lhs; cbv; try simp only [kJ, kx]; cbv; try simp only [kJ, kx]; cbv; try simp only [kJ, kx]; cbv; try simp only [kJ, kx]; cbv) ?_
        refine tr_nil ⟨rfl, ?_, ?_⟩
        · simp only [LooksL, lookAll, List.cons_append, List.nil_append, List.append_nil]; and_intros <;> first | trivial | (intro hp; first | rfl | exact absurd (show false = true from hp) Bool.false_ne_true)
        refine goB hX 0 (by conv => lhs; cbv; try simp only [kE0]; cbv; try simp only [kE0]; cbv; try simp only [kE0]; cbv; try simp only [kE0]; cbv) ?_
        refine goB hX 1 (by conv => lhs; cbv; try simp only [kE0]; cbv; try simp only [kE0]; cbv; try simp only [kE0]; cbv; try simp only [kE0]; cbv) ?_
        refine goA 60 ?_
        exact loopP_next (x ++ w, y, j, false, a ++ [⟨q.nm, q.fs ++ [newF w]⟩], .sl 0 2 0 m1, .arr 2 (el ++ [.agg [str nb, .sl 1 2 0 m2]]), .arr 2 LF) ⟨g3, hjx, gR2, gs, (fun _ => by simp), gP2⟩ hlt (ent_sub [.to 0, .gone, .to 1] [some 0, some 2] ⟨⟨by simp, rfl⟩, trivial, ⟨by simp, rfl⟩, trivial⟩ ⟨osrc_arrS (b := 0) rfl rfl rfl (by exact hmT _ rfl), osrc_arr (b := 2) rfl rfl rfl rfl kfz, trivial⟩ ⟨.refl _, .refl _, .refl _, .refl _, trivial⟩)
      · have gR2 : R = ([], i, E) := by rw [gR, if_pos he]
        rw [gR2]
        simp only [mapE_nil]
        have kE : iNe E 0 = true := by simp only [ee]; simpa using he
        have hB : ACall EK 45 [.agg [str nb, .sl 0 2 0 m], str (ba w)] [.arr 2 es] fun v H' => v = .tup [.agg [str nb, .sl 0 2 0 m], int E] ∧ H' = [.arr 2 es, .cells [str nb, .sl 0 2 0 m]] := ACall.mono (hR _ _ (.inr ⟨by simp, rfl, rfl⟩)) (by
         rintro v H' (⟨_, h1, h2⟩ | ⟨h, _⟩)
         · exact ⟨h1, h2⟩
         · exact absurd h he)
        have hmF := subL_closed (subIn [1] 2) kfs
        clear hR hst gR gR2
        generalize ba w = wb at *
        refine goB hX 0 (by conv => lhs; cbv; try simp only [hc, ht, k1, k2, hcu]; cbv; try simp only [hc, ht, k1, k2, hcu]; cbv; try simp only [hc, ht, k1, k2, hcu]; cbv; try simp only [hc, ht, k1, k2, hcu]; cbv) ?_
        refine goB hX 1 (by conv => lhs; cbv; try simp only [hc, ht, k1, k2, hcu]; cbv; try simp only [hc, ht, k1, k2, hcu]; cbv; try simp only [hc, ht, k1, k2, hcu]; cbv; try simp only [hc, ht, k1, k2, hcu]; cbv) ?_
        refine goB hX 1 (by conv => lhs; cbv; try simp only [hc, ht, k1, k2, hcu]; cbv; try simp only [hc, ht, k1, k2, hcu]; cbv; try simp only [hc, ht, k1, k2, hcu]; cbv; try simp only [hc, ht, k1, k2, hcu]; cbv) ?_
        refine on_cond rfl (fun c1 => ?_) (fun c1 => ?_)
        ·
         simp [ee] at c1
        simp [ee] at c1
        clear c1
        refine goA 60 ?_
        refine oPA pe ?_
        refine goB hX 0 (by conv => lhs; cbv; try simp only [kJ, kx, hat8, hcu]; cbv; try simp only [kJ, kx, hat8, hcu]; cbv; try simp only [kJ, kx, hat8, hcu]; cbv; try simp only [kJ, kx, hat8, hcu]; cbv) ?_
        refine goB hX 1 (by conv => lhs; cbv; try simp only [kJ, kx, hat8, hcu]; cbv; try simp only [kJ, kx, hat8, hcu]; cbv; try simp only [kJ, kx, hat8, hcu]; cbv; try simp only [kJ, kx, hat8, hcu]; cbv) ?_
        refine tr_drawB rfl (by conv => lhs; cbv) rfl ?_
        refine tgB hX (by conv => lhs; cbv; try simp only [kJ, kx, hcu, hat8]; cbv; try simp only [kJ, kx, hcu, hat8]; cbv; try simp only [kJ, kx, hcu, hat8]; cbv; try simp only [kJ, kx, hcu, hat8]; cbv) ?_
        refine tr_ecall (args := [.agg [str nb, .sl 1 2 0 m], str wb]) (v := .tup [.agg [str nb, .sl 1 2 0 m], int E]) (H1 := [.arr 2 L8, .arr 2 es, .cells [str nb, .sl 1 2 0 m]]) rfl rfl rfl enters_ref03_field (ACall.at [1] hB (by decide) (by simp) hargs rfl rfl (by show [_, AObj.arr 2 (AV.subL (subIn [1] 2) es), _] = _; rw [hmF]; rfl)) ?_
        refine tgB hX (by conv => lhs; cbv; try simp only [kJ, kx]; cbv; try simp only [kJ, kx]; cbv; try simp only [kJ, kx]; cbv; try simp only [kJ, kx]; cbv) ?_
        refine tr_nil ⟨rfl, ?_, ?_⟩
        · simp only [LooksL, lookAll, List.cons_append, List.nil_append, List.append_nil]; and_intros <;> first | trivial | (intro hp; first | rfl | exact absurd (show false = true from hp) Bool.false_ne_true)
        refine goB hX 0 (by conv => lhs; cbv; try simp only [kE]; cbv; try simp only [kE]; cbv; try simp only [kE]; cbv; try simp only [kE]; cbv) ?_
        refine goA 60 ?_
        refine loopP_ret ?_
        refine goA 60 ?_
        refine fn_ret rfl rfl ?_
        exact ⟨[.gone, .gone, .gone], ⟨trivial, trivial, trivial, trivial⟩, .tup' ⟨.nilI _, .refl _, .refl _, trivial⟩⟩
def OI (l : List Int) (ov : AV) (oa : AObj) : Prop := (l = [] ∧ ov = .val (.slice none 0 0) ∧ oa = .dead) ∨ (l ≠ [] ∧ ov = .sl 1 1 0 l.length ∧ oa = .arr 1 (mapE int l))
theorem cmp_step {a r : List Fld} {f : Fld} {acc : List Int} : (cmpL a (f :: r)).map (acc ++ ·) = if Fld.pos a f.nm < 0 then none else if (a[(Fld.pos a f.nm).toNat]?).map Fld.kd ≠ some f.kd then none else (cmpL a r).map ((acc ++ [Fld.pos a f.nm]) ++ ·) := by
 rw [cmpL]
 split
 · rfl
 · split
   · rfl
   · rw [Option.map_map]
     congr 1
     funext x; simp
theorem cmp_hit {a d r2 : List Fld} {g : Fld} (h : a = d ++ g :: r2) : (a[((d.length : Int)).toNat]?).map Fld.kd = some g.kd := by
 rw [Int.toNat_natCast, h]; simp
theorem P_Compatible (a b : Sch) (ha : a.Short) (hb : b.Short) : PCall EE 22 [a.enc, b.enc] (.tup [.isl 1 (mapE int ((cmpQ a b).getD [])), bool (cmpQ a b).isSome, int (cmpE a b)]) := by
 have pca := P_Check a ha
 have pcb := P_Check b hb
 have kfa := Fld.closedI a.fs
 have kfb := Fld.closedI b.fs
 have pp := fun nm => P_position a.fs nm ha.2.1
 have hbl := hb.2.1
 have hal := ha.2.1
 have hb8 : b.chk = 0 → b.fs.length ≤ 8 := fun h => ((Sch.chk_zero b).1 h).2.1
 rw [cmpQ, cmpE]
 rw [Sch.enc_eq] at pca pcb ⊢
 rw [Sch.enc_eq b]
 generalize a.chk = ea at *
 generalize b.chk = eb at *
 generalize a.fs = la at *
 generalize b.fs = lb at *
 generalize ba a.nm = an at *
 generalize ba b.nm = bn at *
 clear ha hb
 refine wordsN ?_; unhygienic intros
 generalize hfa : mapE Fld.enc la = fa at *
 generalize hes : mapE Fld.enc lb = es at *
 have hfl : fa.length = la.length := by rw [← hfa, mapE_len]
 have hel : es.length = lb.length := by rw [← hes, mapE_len]
 have kcA : AV.closedL [str an, .isl 2 fa] = true := by simp [AV.closedL, closed_v, kfa]
 have kcB : AV.closedL [str bn, .isl 2 es] = true := by simp [AV.closedL, closed_v, kfb]
 by_cases n1 : ea ≠ 0
 · have k1 : iNe ea 0 = true := by simp only [ee]; simpa using n1
   rw [if_pos n1, if_pos n1]
   simp only [Option.getD_none, Option.isSome_none]
   rw [mapE_nil]
   clear pp pcb
   refine fn_body (fn := Tryd.f22) (n := 52) (ac := Trydc22) (rvs := [.t 4, .t 5, .t 6]) rfl (by decide) Trydp22 rfl rfl rfl ?_
   refine goA 60 ?_
   refine oPA pca ?_
   refine goB hX 0 (by conv => lhs; cbv; try simp only [k1]; cbv; try simp only [k1]; cbv; try simp only [k1]; cbv; try simp only [k1]; cbv) ?_
   refine goA 60 ?_
   refine fn_ret rfl rfl ?_
   exact ⟨[.gone, .gone], ⟨trivial, trivial, trivial⟩, .tup' ⟨.nilI _, .refl _, .refl _, trivial⟩⟩
 have k1 : iNe ea 0 = false := by simp only [ee]; simpa using n1
 rw [if_neg n1]
 by_cases n2 : eb ≠ 0
 · have k2 : iNe eb 0 = true := by simp only [ee]; simpa using n2
   rw [if_pos n2]
   simp only [Option.getD_none, Option.isSome_none]
   rw [mapE_nil]
   clear pp
   refine fn_body (fn := Tryd.f22) (n := 52) (ac := Trydc22) (rvs := [.t 4, .t 5, .t 6]) rfl (by decide) Trydp22 rfl rfl rfl ?_
   refine goA 60 ?_
   refine oPA pca ?_
   refine goB hX 0 (by conv => lhs; cbv; try simp only [k1, k2]; cbv; try simp only [k1, k2]; cbv; try simp only [k1, k2]; cbv; try simp only [k1, k2]; cbv) ?_
   refine goA 60 ?_
   refine oPA pcb ?_
   refine goB hX 0 (by conv => lhs; cbv; try simp only [k1, k2]; cbv; try simp only [k1, k2]; cbv; try simp only [k1, k2]; cbv; try simp only [k1, k2]; cbv) ?_
   refine goA 60 ?_
   refine fn_ret rfl rfl ?_
   exact ⟨[.gone, .gone], ⟨trivial, trivial, trivial⟩, .tup' ⟨.nilI _, .refl _, .refl _, trivial⟩⟩
 have k2 : iNe eb 0 = false := by simp only [ee]; simpa using n2
 rw [if_neg n2]
 have e2 : eb = 0 := by simpa using n2
 have hb8 := hb8 e2
 subst e2
 obtain ⟨R, hR⟩ : ∃ R, R = cmpL la lb := ⟨_, rfl⟩
 rw [← hR]
 refine fn_body (fn := Tryd.f22) (n := 52) (ac := Trydc22) (rvs := [.t 4, .t 5, .t 6]) rfl (by decide) Trydp22 rfl rfl rfl ?_
 refine goA 60 ?_
 refine oPA pca ?_
 refine goB hX 0 (by conv => lhs; cbv; try simp only [k1, k2]; cbv; try simp only [k1, k2]; cbv; try simp only [k1, k2]; cbv; try simp only [k1, k2]; cbv) ?_
 refine goA 60 ?_
 refine oPA pcb ?_
 refine goB hX 0 (by conv => lhs; cbv; try simp only [k1, k2]; cbv; try simp only [k1, k2]; cbv; try simp only [k1, k2]; cbv; try simp only [k1, k2]; cbv) ?_
 refine goA 60 ?_
 refine on_loopP (ι := List Fld × List Fld × Int × List Int × AV × AObj) (fun p => ([(26, int p.2.2.1), (25, int (lenA es)), (24, .isl 2 es), (9, p.2.2.2.2.1), (2, .ptr 0 0)], [.cells [str an, .isl 2 fa], p.2.2.2.2.2])) (fun p => lb = p.1 ++ p.2.1 ∧ p.2.2.1 = p.1.length ∧ R = (cmpL la p.2.1).map (p.2.2.2.1 ++ ·) ∧ p.2.2.2.1.length = p.1.length ∧ OI p.2.2.2.1 p.2.2.2.2.1 p.2.2.2.2.2) (fun p => p.2.1.length) ([], lb, 0, [], .val (.slice none 0 0), .dead) ⟨rfl, rfl, by rw [hR]; cases cmpL la lb <;> rfl, rfl, .inl ⟨rfl, rfl, rfl⟩⟩ ?_ ?_
 · exact (ent_sub [.to 0] [some 0, none] ⟨⟨by simp, rfl⟩, trivial⟩ ⟨osrc_cells (b := 0) rfl rfl rfl ⟨.refl _, .cl kfa, trivial⟩, .dead, trivial⟩ ⟨.refl _, .refl _, .cl kfb, .refl _, .refl _, trivial⟩)
 rintro ⟨d, r, i, acc, ov, oa⟩ ⟨g1, gi, gR, gl, gO⟩
 dsimp only at g1 gi gR gl gO ⊢
 cases r with
 | nil =>
  have L1 := len_split g1
  try simp only [List.length] at L1
  have hc : iLt i (lenA es) = false := lt_f e_iLt e_lenA (by omega)
  have gR2 : R = some acc := by rw [gR]; simp [cmpL]
  rw [gR2]
  simp only [Option.getD_some, Option.isSome_some]
  rcases gO with ⟨rfl, rfl, rfl⟩ | ⟨hne, rfl, rfl⟩
  · rw [mapE_nil]
    refine goB hX 0 (by conv => lhs; cbv; try simp only [hc]; cbv; try simp only [hc]; cbv; try simp only [hc]; cbv; try simp only [hc]; cbv) ?_
    refine goA 60 ?_
    refine loopP_exit ?_
    refine goA 60 ?_
    refine fn_ret rfl rfl ?_
    exact ⟨[.gone, .gone], ⟨trivial, trivial, trivial⟩, .tup' ⟨.nilI _, .refl _, .refl _, trivial⟩⟩
  · have kcS := closedL_int acc
    have kcI := closedI_int acc
    have hll := mapE_len int acc
    generalize mapE int acc = el at *
    generalize acc.length = n0 at *
    refine goB hX 0 (by conv => lhs; cbv; try simp only [hc]; cbv; try simp only [hc]; cbv; try simp only [hc]; cbv; try simp only [hc]; cbv) ?_
    refine goA 60 ?_
    refine loopP_exit ?_
    refine goA 60 ?_
    refine fn_ret rfl rfl ?_
    exact ⟨[.gone, .isl 1 (el)], ⟨trivial, ⟨_, rfl, (subL_closed _ kcS).symm⟩, trivial⟩, .tup' ⟨.of (sub_whole rfl (by omega)), .refl _, .refl _, trivial⟩⟩
 | cons f r =>
  have L1 := len_split g1
  try simp only [List.length] at L1
  have hc : iLt i (lenA es) = true := lt_t e_iLt e_lenA (by omega)
  have hat := el_at e_atA hes g1 gi
  rw [Fld.enc_eq] at hat
  have hi2 : iAdd .i64 i 1 = ((d ++ [f]).length : Int) := by rw [List.length_append]; exact inc_w e_iAdd gi (by omega)
  have pq := pp f.nm
  rw [cmp_step] at gR
  clear pp pca pcb
  rcases pos_cases la f.nm with ⟨h1, h2⟩ | ⟨d2, g, r2, h1, h2, h3, h4⟩
  · obtain ⟨P, hP⟩ : ∃ P : Int, P = -1 := ⟨_, rfl⟩
    have kP : iLt P 0 = true := by simp only [ee]; rw [hP]; rfl
    rw [h1] at gR pq
    rw [← hP] at pq
    rw [if_pos (by decide)] at gR
    rw [gR]
    simp only [Option.getD_none, Option.isSome_none]
    rw [mapE_nil]
    generalize ba f.nm = fs at *
    generalize f.kd = fk at *
    cases la with
    | nil =>
     have hatP : atA fa P = .undef := by simp only [ee]; rw [← hfa, mapE_nil]; rfl
     rcases gO with ⟨rfl, rfl, rfl⟩ | ⟨hne, rfl, rfl⟩
     ·
      refine goB hX 0 (by conv => lhs; cbv; try simp only [hc, hat, kP, hatP]; cbv; try simp only [hc, hat, kP, hatP]; cbv; try simp only [hc, hat, kP, hatP]; cbv; try simp only [hc, hat, kP, hatP]; cbv) ?_
      refine goB hX 1 (by conv => lhs; cbv; try simp only [hc, hat, kP, hatP]; cbv; try simp only [hc, hat, kP, hatP]; cbv; try simp only [hc, hat, kP, hatP]; cbv; try simp only [hc, hat, kP, hatP]; cbv) ?_
      refine oPA pq ?_
      refine goB hX 0 (by conv => lhs; cbv; try simp only [hc, hat, kP, hatP]; cbv; try simp only [hc, hat, kP, hatP]; cbv; try simp only [hc, hat, kP, hatP]; cbv; try simp only [hc, hat, kP, hatP]; cbv) ?_
      refine tr_drawB rfl (by conv => lhs; cbv) rfl ?_
      refine tgA ?_
      refine tgB hX (by conv => lhs; cbv; try simp only [hc, hat, kP, hatP]; cbv; try simp only [hc, hat, kP, hatP]; cbv; try simp only [hc, hat, kP, hatP]; cbv; try simp only [hc, hat, kP, hatP]; cbv) ?_
      refine tr_skipq (.inl rfl) ?_
      refine tr_skipq (.inl rfl) ?_
      refine tr_skipq (.inl rfl) ?_
      refine tr_skipq (.inl rfl) ?_
      refine tr_skipq (.inl rfl) ?_
      refine tr_skipq (.inl rfl) ?_
      refine tr_skipq (.inl rfl) ?_
      refine tgA ?_
      refine tr_nil ⟨rfl, by simp [LooksL], ?_⟩
      refine goA 60 ?_
      refine loopP_ret ?_
      refine goA 60 ?_
      refine fn_ret rfl rfl ?_
      exact ⟨[.gone, .gone, .gone], ⟨trivial, trivial, trivial, trivial⟩, .tup' ⟨.nilI _, .refl _, .refl _, trivial⟩⟩
     · have kcS := closedL_int acc
       generalize mapE int acc = el at *
       generalize acc.length = n0 at *
       refine goB hX 0 (by conv => lhs; cbv; try simp only [hc, hat, kP, hatP]; cbv; try simp only [hc, hat, kP, hatP]; cbv; try simp only [hc, hat, kP, hatP]; cbv; try simp only [hc, hat, kP, hatP]; cbv) ?_
       refine goB hX 1 (by conv => lhs; cbv; try simp only [hc, hat, kP, hatP]; cbv; try simp only [hc, hat, kP, hatP]; cbv; try simp only [hc, hat, kP, hatP]; cbv; try simp only [hc, hat, kP, hatP]; cbv) ?_
       refine oPA pq ?_
       refine goB hX 0 (by conv => lhs; cbv; try simp only [hc, hat, kP, hatP]; cbv; try simp only [hc, hat, kP, hatP]; cbv; try simp only [hc, hat, kP, hatP]; cbv; try simp only [hc, hat, kP, hatP]; cbv) ?_
       refine tr_drawB rfl (by conv => lhs; cbv) rfl ?_
       refine tgA ?_
       refine tgB hX (by conv => lhs; cbv; try simp only [hc, hat, kP, hatP]; cbv; try simp only [hc, hat, kP, hatP]; cbv; try simp only [hc, hat, kP, hatP]; cbv; try simp only [hc, hat, kP, hatP]; cbv) ?_
       refine tr_skipq (.inl rfl) ?_
       refine tr_skipq (.inl rfl) ?_
       refine tr_skipq (.inl rfl) ?_
       refine tr_skipq (.inl rfl) ?_
       refine tr_skipq (.inl rfl) ?_
       refine tr_skipq (.inl rfl) ?_
       refine tr_skipq (.inl rfl) ?_
       refine tgA ?_
       refine tr_nil ⟨rfl, by simp [LooksL], ?_⟩
       refine goA 60 ?_
       refine loopP_ret ?_
       refine goA 60 ?_
       refine fn_ret rfl rfl ?_
       exact ⟨[.gone, .gone, .gone], ⟨trivial, trivial, trivial, trivial⟩, .tup' ⟨.nilI _, .refl _, .refl _, trivial⟩⟩
    | cons g0 la =>
     have hatP : atA fa P = .agg [str (ba g0.nm), int g0.kd] := by simp only [ee]; rw [← hfa, hP, mapE_eq, ← Fld.enc_eq]; rfl
     generalize ba g0.nm = gs at *
     generalize g0.kd = gk at *
     rcases gO with ⟨rfl, rfl, rfl⟩ | ⟨hne, rfl, rfl⟩
     ·
      refine goB hX 0 (by conv => lhs; cbv; try simp only [hc, hat, kP, hatP]; cbv; try simp only [hc, hat, kP, hatP]; cbv; try simp only [hc, hat, kP, hatP]; cbv; try simp only [hc, hat, kP, hatP]; cbv) ?_
      refine goB hX 1 (by conv => lhs; cbv; try simp only [hc, hat, kP, hatP]; cbv; try simp only [hc, hat, kP, hatP]; cbv; try simp only [hc, hat, kP, hatP]; cbv; try simp only [hc, hat, kP, hatP]; cbv) ?_
      refine oPA pq ?_
      refine goB hX 0 (by conv => lhs; cbv; try simp only [hc, hat, kP, hatP]; cbv; try simp only [hc, hat, kP, hatP]; cbv; try simp only [hc, hat, kP, hatP]; cbv; try simp only [hc, hat, kP, hatP]; cbv) ?_
      refine on_cond rfl (fun c1 => ?_) (fun c1 => ?_)
      ·
       simp [ee] at c1
       refine goA 60 ?_
       refine loopP_ret ?_
       refine goA 60 ?_
       refine fn_ret rfl rfl ?_
       exact ⟨[.gone, .gone, .gone], ⟨trivial, trivial, trivial, trivial⟩, .tup' ⟨.nilI _, .refl _, .refl _, trivial⟩⟩
      ·
       simp [ee] at c1
     · have kcS := closedL_int acc
       generalize mapE int acc = el at *
       generalize acc.length = n0 at *
       refine goB hX 0 (by conv => lhs; cbv; try simp only [hc, hat, kP, hatP]; cbv; try simp only [hc, hat, kP, hatP]; cbv; try simp only [hc, hat, kP, hatP]; cbv; try simp only [hc, hat, kP, hatP]; cbv) ?_
       refine goB hX 1 (by conv => lhs; cbv; try simp only [hc, hat, kP, hatP]; cbv; try simp only [hc, hat, kP, hatP]; cbv; try simp only [hc, hat, kP, hatP]; cbv; try simp only [hc, hat, kP, hatP]; cbv) ?_
       refine oPA pq ?_
       refine goB hX 0 (by conv => lhs; cbv; try simp only [hc, hat, kP, hatP]; cbv; try simp only [hc, hat, kP, hatP]; cbv; try simp only [hc, hat, kP, hatP]; cbv; try simp only [hc, hat, kP, hatP]; cbv) ?_
       refine on_cond rfl (fun c1 => ?_) (fun c1 => ?_)
       ·
        simp [ee] at c1
        refine goA 60 ?_
        refine loopP_ret ?_
        refine goA 60 ?_
        refine fn_ret rfl rfl ?_
        exact ⟨[.gone, .gone, .gone], ⟨trivial, trivial, trivial, trivial⟩, .tup' ⟨.nilI _, .refl _, .refl _, trivial⟩⟩
       ·
        simp [ee] at c1
  have hgk := cmp_hit h1
  rw [h4] at gR pq
  obtain ⟨P, hP⟩ : ∃ P : Int, P = (d2.length : Int) := ⟨_, rfl⟩
  have L2 := congrArg List.length h1
  rw [List.length_append, List.length_cons] at L2
  have kP : iLt P 0 = false := by simp only [ee]; simp; omega
  have hP0 : 0 ≤ P := by omega
  have hP1 : P < lenA fa := by simp only [ee]; omega
  have hatP := el_at e_atA hfa h1 hP
  rw [Fld.enc_eq, h2] at hatP
  rw [if_neg (by omega), hgk, ← hP] at gR
  rw [← hP] at pq
  have ksq : sEq (ba f.nm) (ba f.nm) = true := by simp only [ee]; simp
  generalize ba f.nm = fs at *
  by_cases hk : g.kd = f.kd
  · rw [if_neg (by simp [hk])] at gR
    rw [hk] at hatP
    generalize f.kd = fk at *
    have kkk : iEq fk fk = true := by simp only [ee]; simp
    rcases gO with ⟨rfl, rfl, rfl⟩ | ⟨hne, rfl, rfl⟩
    · have gO2 : OI ([] ++ [P]) (.sl 1 1 0 1) (.arr 1 [int P]) := .inr ⟨by simp, rfl, by rw [List.nil_append, mapE_eq]; rfl⟩
      refine goB hX 0 (by conv => lhs; cbv; try simp only [hc, hat, kP, hatP, ksq, kkk]; cbv; try simp only [hc, hat, kP, hatP, ksq, kkk]; cbv; try simp only [hc, hat, kP, hatP, ksq, kkk]; cbv; try simp only [hc, hat, kP, hatP, ksq, kkk]; cbv) ?_
      refine goB hX 1 (by conv => lhs; cbv; try simp only [hc, hat, kP, hatP, ksq, kkk]; cbv; try simp only [hc, hat, kP, hatP, ksq, kkk]; cbv; try simp only [hc, hat, kP, hatP, ksq, kkk]; cbv; try simp only [hc, hat, kP, hatP, ksq, kkk]; cbv) ?_
      refine oPA pq ?_
      refine goB hX 0 (by conv => lhs; cbv; try simp only [hc, hat, kP, hatP, ksq, kkk]; cbv; try simp only [hc, hat, kP, hatP, ksq, kkk]; cbv; try simp only [hc, hat, kP, hatP, ksq, kkk]; cbv; try simp only [hc, hat, kP, hatP, ksq, kkk]; cbv) ?_
      refine on_cond rfl (fun c1 => ?_) (fun c1 => ?_)
      ·
       simp [ee] at c1
      ·
       simp [ee] at c1
       refine goA 60 ?_
       refine loopP_next (d ++ [f], r, iAdd .i64 i 1, [] ++ [P], .sl 1 1 0 1, .arr 1 [int P]) ⟨by simp [g1], hi2, gR, by rw [List.length_append, List.length_append, gl]; rfl, gO2⟩ (by simp) (ent_sub [.to 0, .gone, .gone, .gone, .to 1] [some 0, some 4] ⟨⟨by simp, rfl⟩, trivial, trivial, trivial, ⟨by simp, rfl⟩, trivial⟩ ⟨osrc_cells (b := 0) rfl rfl rfl ⟨.refl _, .cl kfa, trivial⟩, osrc_arr (b := 4) rfl rfl rfl (by simp only [ee]; rfl) (by rfl), trivial⟩ ⟨.refl _, .refl _, .cl kfb, .of (by simp only [ee]; rfl), .refl _, trivial⟩)
    · have hl1 := mapE_len int acc
      have kcS := closedL_int acc
      have hz : mapE int (acc ++ [P]) = mapE int acc ++ [int P] := mapE_snoc int acc P
      obtain ⟨n0, hn0⟩ : ∃ n0, n0 = acc.length := ⟨_, rfl⟩
      have gO2 : OI (acc ++ [P]) (.sl 1 1 0 (n0 + 1)) (.arr 1 (mapE int acc ++ [int P])) := .inr ⟨by simp, by rw [hn0]; simp, by rw [hz]⟩
      have hn8 : n0 ≤ 8 := by omega
      rw [← hn0] at hl1 ⊢
      generalize mapE int acc = el at *
      have kz : AV.closedL (el ++ [int P]) = true := closedL_append kcS rfl
      have ke1 : addN n0 (lenN (partA [int P] 0 1)) = n0 + 1 := by simp only [ee]; rfl
      have ke2 : catA (dropA el 0) (partA [int P] 0 1) = el ++ [int P] := by simp only [ee]; rfl
      refine goB hX 0 (by conv => lhs; cbv; try simp only [hc, hat, kP, hatP, ksq, kkk]; cbv; try simp only [hc, hat, kP, hatP, ksq, kkk]; cbv; try simp only [hc, hat, kP, hatP, ksq, kkk]; cbv; try simp only [hc, hat, kP, hatP, ksq, kkk]; cbv) ?_
      refine goB hX 1 (by conv => lhs; cbv; try simp only [hc, hat, kP, hatP, ksq, kkk]; cbv; try simp only [hc, hat, kP, hatP, ksq, kkk]; cbv; try simp only [hc, hat, kP, hatP, ksq, kkk]; cbv; try simp only [hc, hat, kP, hatP, ksq, kkk]; cbv) ?_
      refine oPA pq ?_
      refine goB hX 0 (by conv => lhs; cbv; try simp only [hc, hat, kP, hatP, ksq, kkk]; cbv; try simp only [hc, hat, kP, hatP, ksq, kkk]; cbv; try simp only [hc, hat, kP, hatP, ksq, kkk]; cbv; try simp only [hc, hat, kP, hatP, ksq, kkk]; cbv) ?_
      refine on_cond rfl (fun c1 => ?_) (fun c1 => ?_)
      ·
       simp [ee] at c1
      ·
       simp [ee] at c1
       refine goA 60 ?_
       refine loopP_next (d ++ [f], r, iAdd .i64 i 1, acc ++ [P], .sl 1 1 0 (n0 + 1), .arr 1 (el ++ [int P])) ⟨by simp [g1], hi2, gR, by rw [List.length_append, List.length_append, gl]; rfl, gO2⟩ (by simp) (ent_sub [.to 0, .gone, .gone, .gone, .to 1] [some 0, some 4] ⟨⟨by simp, rfl⟩, trivial, trivial, trivial, ⟨by simp, rfl⟩, trivial⟩ ⟨osrc_cells (b := 0) rfl rfl rfl ⟨.refl _, .cl kfa, trivial⟩, osrc_arr (b := 4) rfl rfl rfl (by simp only [ee]; rfl) kz, trivial⟩ ⟨.refl _, .refl _, .cl kfb, .of (by simp only [ee]; rfl), .refl _, trivial⟩)
  · rw [if_pos (by simpa using hk)] at gR
    rw [gR]
    simp only [Option.getD_none, Option.isSome_none]
    rw [mapE_nil]
    generalize g.kd = gk at *
    generalize f.kd = fk at *
    have kkk : iEq gk fk = false := by simp only [ee]; simpa using hk
    rcases gO with ⟨rfl, rfl, rfl⟩ | ⟨hne, rfl, rfl⟩
    ·
     refine goB hX 0 (by conv => lhs; cbv; try simp only [hc, hat, kP, hatP, ksq, kkk]; cbv; try simp only [hc, hat, kP, hatP, ksq, kkk]; cbv; try simp only [hc, hat, kP, hatP, ksq, kkk]; cbv; try simp only [hc, hat, kP, hatP, ksq, kkk]; cbv) ?_
     refine goB hX 1 (by conv => lhs; cbv; try simp only [hc, hat, kP, hatP, ksq, kkk]; cbv; try simp only [hc, hat, kP, hatP, ksq, kkk]; cbv; try simp only [hc, hat, kP, hatP, ksq, kkk]; cbv; try simp only [hc, hat, kP, hatP, ksq, kkk]; cbv) ?_
     refine oPA pq ?_
     refine goB hX 0 (by conv => lhs; cbv; try simp only [hc, hat, kP, hatP, ksq, kkk]; cbv; try simp only [hc, hat, kP, hatP, ksq, kkk]; cbv; try simp only [hc, hat, kP, hatP, ksq, kkk]; cbv; try simp only [hc, hat, kP, hatP, ksq, kkk]; cbv) ?_
     refine on_cond rfl (fun c1 => ?_) (fun c1 => ?_)
     ·
      simp [ee] at c1
      refine goA 60 ?_
      refine loopP_ret ?_
      refine goA 60 ?_
      refine fn_ret rfl rfl ?_
      exact ⟨[.gone, .gone, .gone], ⟨trivial, trivial, trivial, trivial⟩, .tup' ⟨.nilI _, .refl _, .refl _, trivial⟩⟩
     ·
      simp [ee] at c1
    · have kcS := closedL_int acc
      generalize mapE int acc = el at *
      generalize acc.length = n0 at *
      refine goB hX 0 (by conv => lhs; cbv; try simp only [hc, hat, kP, hatP, ksq, kkk]; cbv; try simp only [hc, hat, kP, hatP, ksq, kkk]; cbv; try simp only [hc, hat, kP, hatP, ksq, kkk]; cbv; try simp only [hc, hat, kP, hatP, ksq, kkk]; cbv) ?_
      refine goB hX 1 (by conv => lhs; cbv; try simp only [hc, hat, kP, hatP, ksq, kkk]; cbv; try simp only [hc, hat, kP, hatP, ksq, kkk]; cbv; try simp only [hc, hat, kP, hatP, ksq, kkk]; cbv; try simp only [hc, hat, kP, hatP, ksq, kkk]; cbv) ?_
      refine oPA pq ?_
      refine goB hX 0 (by conv => lhs; cbv; try simp only [hc, hat, kP, hatP, ksq, kkk]; cbv; try simp only [hc, hat, kP, hatP, ksq, kkk]; cbv; try simp only [hc, hat, kP, hatP, ksq, kkk]; cbv; try simp only [hc, hat, kP, hatP, ksq, kkk]; cbv) ?_
      refine on_cond rfl (fun c1 => ?_) (fun c1 => ?_)
      ·
       simp [ee] at c1
       refine goA 60 ?_
       refine loopP_ret ?_
       refine goA 60 ?_
       refine fn_ret rfl rfl ?_
       exact ⟨[.gone, .gone, .gone], ⟨trivial, trivial, trivial, trivial⟩, .tup' ⟨.nilI _, .refl _, .refl _, trivial⟩⟩
      ·
       simp [ee] at c1
end Go.Am
end
