/- Contracts of the program's functions, for every argument that meets the conditions that each theorem names. -/
import Derived.Test.YtehpdnkachbakaaGreatDoorAm6
import Derived.Test.YtehpdnkachbakaaGreatDoorCt3
import Derived.Test.YtehpdnkachbakaaGreatDoorCt2
import Derived.Test.YtehpdnkachbakaaGreatDoorAm5
section
set_option maxHeartbeats 16000000
set_option maxRecDepth 100000
namespace Go.Am
open Go.Proofs
theorem sorted_ext : ∀ a b : List Int, a.Pairwise (· < ·) → b.Pairwise (· < ·) → (∀ n, n ∈ a ↔ n ∈ b) → a = b
 | [], [], _, _, _ => rfl
 | [], y :: b, _, _, h => by have := (h y).2 (by simp); cases this
 | x :: a, [], _, _, h => by have := (h x).1 (by simp); cases this
 | x :: a, y :: b, ha, hb, h => by
  have ha' := List.pairwise_cons.1 ha
  have hb' := List.pairwise_cons.1 hb
  have hxy : x = y := by
   rcases List.mem_cons.1 ((h x).1 (by simp)) with e | e
   · exact e
   · rcases List.mem_cons.1 ((h y).2 (by simp)) with e2 | e2
     · exact e2.symm
     · have := ha'.1 y e2; have := hb'.1 x e; omega
  subst hxy
  refine congrArg (x :: ·) (sorted_ext a b ha'.2 hb'.2 fun n => ⟨fun hn => ?_, fun hn => ?_⟩)
  · rcases List.mem_cons.1 ((h n).1 (by simp [hn])) with e | e
    · subst e; have := ha'.1 n hn; omega
    · exact e
  · rcases List.mem_cons.1 ((h n).2 (by simp [hn])) with e | e
    · subst e; have := hb'.1 n hn; omega
    · exact e
theorem ins_sorted {e u : List Int} {v : Int} (h : (e ++ u).Pairwise (· < ·)) (h1 : ∀ x ∈ e, x < v) (h2 : ∀ x ∈ u, v < x) : (e ++ v :: u).Pairwise (· < ·) := by
 rw [List.pairwise_append] at h ⊢
 refine ⟨h.1, List.pairwise_cons.2 ⟨h2, h.2.1⟩, fun a ha b hb => ?_⟩
 rcases List.mem_cons.1 hb with rfl | hb
 · exact h1 a ha
 · exact h.2.2 a ha b hb
theorem P_ref09_Bound (p : Pat) (hs : p.Sm) : PCall EE 36 [p.enc] (.isl 1 (mapE int p.bound)) := by
  have h1 := P_ref09_Nodes p hs
  have hcl := Pat.closed p
  have hnl := Pat.nodes_len p
  have hs1 := hs.1
  have hnc := Pat.closedI p.nodes
  have hnilI : mapE int [] = [] := by rw [mapE_eq]; rfl
  have hbm := fun n => Pat.bound_mem (p := p) n
  have hbp := Pat.bound_nodup p
  generalize p.bound = B at *
  generalize hnn : p.nodes = nl at *
  obtain ⟨pO, pA, pT, pV, pS, pN, pCo, pCa, pCv, pCf, pCk, pXk, pXn, pXt, hx⟩ := Pat.form p
  rw [hx] at h1 hcl ⊢
  refine wordsN ?_; unhygienic intros
  generalize hes : mapE Pat.enc nl = es at *
  have hel : es.length = nl.length := by rw [← hes, mapE_len]
  refine fn_body (fn := Tryz.f36) (n := 71) (ac := Tryzc36) (rvs := [.t 2]) rfl (by decide) Tryzp36 rfl rfl rfl ?_
  refine goA 60 ?_
  refine pcA h1 ?_
  refine goA 60 ?_
  refine on_loopP (ι := List Pat × List Pat × Int × List Int × AV × List AV × Nat) (fun p => ([(5, int p.2.2.1), (4, .isl 14 es), (3, p.2.2.2.2.1)], [.arr 1 p.2.2.2.2.2.1])) (fun p => nl = p.1 ++ p.2.1 ∧ p.2.2.1 = p.1.length ∧ p.2.2.2.1.Pairwise (· < ·) ∧ (∀ n, n ∈ p.2.2.2.1 ↔ n ∈ bndF p.1) ∧ p.2.2.2.2.2.1 = mapE int p.2.2.2.1 ∧ p.2.2.2.1.length ≤ p.1.length ∧ p.2.2.2.2.2.2 = p.2.2.2.2.2.1.length ∧ p.2.2.2.2.1 = (if p.2.2.2.1 = [] then .val (.slice none 0 0) else .sl 0 1 0 p.2.2.2.2.2.2)) (fun p => p.2.1.length) ([], nl, 0, [], .val (.slice none 0 0), [], 0) ⟨rfl, rfl, List.Pairwise.nil, fun n => Iff.rfl, hnilI.symm, Nat.le_refl _, rfl, rfl⟩ ?_ ?_
  · exact (ent_sub [.gone] [none] ⟨trivial, trivial⟩ ⟨.none _ rfl, trivial⟩ ⟨.refl _, .cl hnc, .refl _, trivial⟩)
  rintro ⟨d, r, i, l, ov, w, m⟩ ⟨g1, gi, gp, gm, gw, gl, gM, go2⟩
  dsimp only at g1 gi gp gm gw gl gM go2 ⊢
  have hcw : AV.closedL w = true := by rw [gw]; exact closedL_int _
  have hwl : w.length = l.length := by rw [gw, mapE_len]
  have hfw : fitB 1 w = true := by rw [gw]; exact fitInt _
  cases r with
  | nil =>
    have L1 := len_split g1
    try simp only [List.length_nil] at L1
    have hc : iLt i (lenA es) = false := lt_f e_iLt e_lenA (by omega)
    rw [List.append_nil] at g1
    have hB : B = l := sorted_ext B l hbp gp fun n => by rw [hbm, gm, g1]
    rw [hB]
    by_cases hl : l = []
    · rw [if_pos hl] at go2
      rw [go2, hl, hnilI]
      refine goB hX 0 (by conv => lhs; cbv; try simp only [hc]; cbv; try simp only [hc]; cbv; try simp only [hc]; cbv; try simp only [hc]; cbv) ?_
      refine goA 60 ?_
      refine loopP_exit ?_
      refine goA 60 ?_
      refine fn_ret rfl rfl ?_
      exact ⟨[.gone], ⟨trivial, trivial⟩, .nilI _⟩
    · rw [if_neg hl] at go2
      rw [go2, ← gw]
      refine goB hX 0 (by conv => lhs; cbv; try simp only [hc]; cbv; try simp only [hc]; cbv; try simp only [hc]; cbv; try simp only [hc]; cbv) ?_
      refine goA 60 ?_
      refine loopP_exit ?_
      refine goA 60 ?_
      refine fn_ret rfl rfl ?_
      exact ⟨[.isl 1 (w)], ⟨⟨_, rfl, (subL_closed _ hcw).symm⟩, trivial⟩, .of (sub_whole rfl (by assumption))⟩
  | cons q r =>
    have L1 := len_split g1
    try simp only [List.length_cons] at L1
    have hc : iLt i (lenA es) = true := lt_t e_iLt e_lenA (by omega)
    have hat := el_at e_atA hes g1 gi
    have hqc := Pat.closed q
    have hbs := bndF_snoc d q
    have hi2 : iAdd .i64 i 1 = ((d ++ [q]).length : Int) := by rw [List.length_append]; exact inc_w e_iAdd gi (by omega)
    have hdl : (d ++ [q]).length = d.length + 1 := by simp
    have hl2 : l.length ≤ (d ++ [q]).length := by omega
    obtain ⟨qO, qA, qT, qV, qS, qN, qCo, qCa, qCv, qCf, qCk, qXk, qXn, qXt, hy, hyc, hqO, hqA, hqT, hqV, hqS, hqN⟩ := Pat.form2 q
    rw [hy] at hat hqc
    rw [← hqV, ← hqO] at hbs
    clear hy hyc hqO hqA hqT hqV hqS hqN
    by_cases ho : qO = 0
    rotate_left
    · have k0 : iNe qO 0 = true := by simp only [ee]; simpa using ho
      rw [if_neg ho] at hbs
      by_cases hl : l = []
      · rw [if_pos hl] at go2
        rw [go2]
        refine goB hX 0 (by conv => lhs; cbv; try simp only [hc, hat, k0]; cbv; try simp only [hc, hat, k0]; cbv; try simp only [hc, hat, k0]; cbv; try simp only [hc, hat, k0]; cbv) ?_
        refine goB hX 1 (by conv => lhs; cbv; try simp only [hc, hat, k0]; cbv; try simp only [hc, hat, k0]; cbv; try simp only [hc, hat, k0]; cbv; try simp only [hc, hat, k0]; cbv) ?_
        refine goA 60 ?_
        refine loopP_next (d ++ [q], r, iAdd .i64 i 1, l, .val (.slice none 0 0), w, m) ⟨by simp [g1], hi2, gp, by rw [hbs]; exact gm, gw, hl2, gM, (if_pos hl).symm⟩ (by simp) (ent_sub [.to 0] [some 0] ⟨⟨by simp, rfl⟩, trivial⟩ ⟨osrc_arr (b := 0) rfl rfl rfl rfl hcw, trivial⟩ ⟨.refl _, .cl hnc, .refl _, trivial⟩)
      · rw [if_neg hl] at go2
        rw [go2]
        refine goB hX 0 (by conv => lhs; cbv; try simp only [hc, hat, k0]; cbv; try simp only [hc, hat, k0]; cbv; try simp only [hc, hat, k0]; cbv; try simp only [hc, hat, k0]; cbv) ?_
        refine goB hX 1 (by conv => lhs; cbv; try simp only [hc, hat, k0]; cbv; try simp only [hc, hat, k0]; cbv; try simp only [hc, hat, k0]; cbv; try simp only [hc, hat, k0]; cbv) ?_
        refine goA 60 ?_
        refine loopP_next (d ++ [q], r, iAdd .i64 i 1, l, .sl 0 1 0 m, w, m) ⟨by simp [g1], hi2, gp, by rw [hbs]; exact gm, gw, hl2, gM, (if_neg hl).symm⟩ (by simp) (ent_sub [.to 0] [some 0] ⟨⟨by simp, rfl⟩, trivial⟩ ⟨osrc_arr (b := 0) rfl rfl rfl rfl hcw, trivial⟩ ⟨.refl _, .cl hnc, .refl _, trivial⟩)
    have k0 : iNe qO 0 = false := by simp only [ee]; simpa using ho
    rw [if_pos ho] at hbs
    have n0 : bNot false = true := by simp only [ee]; rfl
    have n1 : bNot true = false := by simp only [ee]; rfl
    by_cases hl : l = []
    · rw [if_pos hl] at go2
      rw [go2]
      subst hl
      rw [hnilI] at gw
      subst gw
      have k1 : iLt 0 0 = false := by simp only [ee]; rfl
      refine goB hX 0 (by conv => lhs; cbv; try simp only [hc, hat, k0]; cbv; try simp only [hc, hat, k0]; cbv; try simp only [hc, hat, k0]; cbv; try simp only [hc, hat, k0]; cbv) ?_
      refine goB hX 1 (by conv => lhs; cbv; try simp only [hc, hat, k0]; cbv; try simp only [hc, hat, k0]; cbv; try simp only [hc, hat, k0]; cbv; try simp only [hc, hat, k0]; cbv) ?_
      refine goA 60 ?_
      refine on_loopP (ι := Int) (fun p => ([(7, bool false), (6, int p), (5, int i), (4, .isl 14 es), (3, .val (.slice none 0 0))], [])) (fun p => p = 0) (fun p => 0) 0 rfl ?_ ?_
      · exact (ent_sub [.gone] [] ⟨trivial, trivial⟩ trivial ⟨.refl _, .refl _, .refl _, .cl hnc, .refl _, trivial⟩)
      rintro j gj
      dsimp only at gj ⊢
      subst gj
      have hm2 : ∀ n, n ∈ [qV] ↔ n ∈ bndF (d ++ [q]) := fun n => by rw [hbs, List.mem_append, ← gm n]; simp
      have k2 : iLt 0 (Int.ofNat 0) = false := by simp only [ee]; rfl
      have u1 : catA (dropA [int qV] 0) [] = [int qV] := by simp only [ee]; rfl
      have u2 : partA [int qV] 0 (addN 1 (lenN [])) = [int qV] := by simp only [ee]; rfl
      have u3 : lenN [int qV] = 1 := by simp only [ee]; rfl
      refine goA 60 ?_
      refine tr_drawB rfl (by conv => lhs; cbv) rfl ?_
      refine tgA ?_
      refine tgB hX (by conv => lhs; cbv; try simp only [k1, k2, n0, hc, hat, u1, u2, u3]; cbv; try simp only [k1, k2, n0, hc, hat, u1, u2, u3]; cbv; try simp only [k1, k2, n0, hc, hat, u1, u2, u3]; cbv; try simp only [k1, k2, n0, hc, hat, u1, u2, u3]; cbv) ?_
      refine tr_skipq (.inl rfl) ?_
      refine tr_skipq (.inl rfl) ?_
      refine tr_skipq (.inl rfl) ?_
      refine tr_skipq (.inl rfl) ?_
      refine tr_skipq (.inl rfl) ?_
      refine tr_skipq (.inl rfl) ?_
      refine tr_skipq (.inl rfl) ?_
      refine tr_skipq (.inl rfl) ?_
      refine tr_skipq (.inl rfl) ?_
      refine tr_skipq (.inl rfl) ?_
      refine tgA ?_
      refine tr_nil ⟨rfl, by simp [LooksL], ?_⟩
      refine goA 60 ?_
      refine loopP_exit ?_
      refine goB hX 0 (by conv => lhs; cbv; try simp only [k1, k2, n0, hc, hat, u1, u2, u3]; cbv; try simp only [k1, k2, n0, hc, hat, u1, u2, u3]; cbv; try simp only [k1, k2, n0, hc, hat, u1, u2, u3]; cbv; try simp only [k1, k2, n0, hc, hat, u1, u2, u3]; cbv) ?_
      refine goA 60 ?_
      refine tr_drawX rfl (by conv => lhs; cbv) (by conv => lhs; cbv) (by decide) (by decide) (by conv => lhs; cbv) rfl ?_
      refine tgB hX (by conv => lhs; cbv; try simp only [k1, k2, n0, hc, hat, u1, u2, u3]; cbv; try simp only [k1, k2, n0, hc, hat, u1, u2, u3]; cbv; try simp only [k1, k2, n0, hc, hat, u1, u2, u3]; cbv; try simp only [k1, k2, n0, hc, hat, u1, u2, u3]; cbv) ?_
      refine tr_nil ⟨rfl, by simp [LooksL], ?_⟩
      refine goA 60 ?_
      refine loopP_next (d ++ [q], r, iAdd .i64 i 1, [qV], .sl 0 1 0 1, [int qV], 1) ⟨by simp [g1], hi2, List.pairwise_singleton _ _, hm2, by rw [mapE_eq]; rfl, by simp, rfl, rfl⟩ (by simp) (ent_sub [.gone, .gone, .to 0] [some 2] ⟨trivial, trivial, ⟨by simp, rfl⟩, trivial⟩ ⟨osrc_arr (b := 2) rfl rfl rfl rfl hcw, trivial⟩ ⟨.refl _, .cl hnc, .refl _, trivial⟩)
    rw [if_neg hl] at go2
    rw [go2]
    have hm0 : 0 < m := by rw [gM, hwl]; exact List.length_pos_iff.2 hl
    refine goB hX 0 (by conv => lhs; cbv; try simp only [hc, hat, k0]; cbv; try simp only [hc, hat, k0]; cbv; try simp only [hc, hat, k0]; cbv; try simp only [hc, hat, k0]; cbv) ?_
    refine goB hX 1 (by conv => lhs; cbv; try simp only [hc, hat, k0]; cbv; try simp only [hc, hat, k0]; cbv; try simp only [hc, hat, k0]; cbv; try simp only [hc, hat, k0]; cbv) ?_
    refine goA 60 ?_
    refine on_loopP (ι := List Int × List Int × Int × Bool) (fun p => ([(7, bool p.2.2.2), (6, int p.2.2.1), (5, int i), (4, .isl 14 es), (3, .sl 0 1 0 m)], [.arr 1 w])) (fun p => l = p.1 ++ p.2.1 ∧ p.2.2.1 = p.1.length ∧ p.2.2.2 = decide (qV ∈ p.1) ∧ (∀ x ∈ p.1, x ≤ qV)) (fun p => p.2.1.length) ([], l, 0, false) ⟨rfl, rfl, by simp, by simp⟩ ?_ ?_
    · exact (ent_sub [.to 0] [some 0] ⟨⟨by simp, rfl⟩, trivial⟩ ⟨osrc_arr (b := 0) rfl rfl rfl rfl hcw, trivial⟩ ⟨.refl _, .refl _, .refl _, .cl hnc, .refl _, trivial⟩)
    rintro ⟨e, u, j, tw⟩ ⟨v1, vj, vt, vl⟩
    dsimp only at v1 vj vt vl ⊢
    have hlen := congrArg List.length v1
    rw [List.length_append] at hlen
    -- what is put in
    have ins : (∀ x ∈ u, qV < x) → tw = false → (e ++ qV :: u).Pairwise (· < ·) ∧ (∀ n, n ∈ e ++ qV :: u ↔ n ∈ bndF (d ++ [q])) := fun hu ht => by
      rw [vt] at ht
      have hn : qV ∉ e := by simpa using ht
      rw [v1] at gp
      refine ⟨ins_sorted gp (fun x hx => ?_) hu, fun n => ?_⟩
      · have := vl x hx
        have : x ≠ qV := fun e2 => hn (e2 ▸ hx)
        omega
      · have hd2 : n ∈ bndF d ↔ n ∈ e ∨ n ∈ u := by rw [← gm n, v1, List.mem_append]
        rw [hbs]
        simp only [List.mem_append, List.mem_cons, List.not_mem_nil, or_false]
        rw [hd2]
        constructor
        · rintro (h | h | h)
          · exact .inl (.inl h)
          · exact .inr h
          · exact .inl (.inr h)
        · rintro ((h | h) | h)
          · exact .inl h
          · exact .inr (.inr h)
          · exact .inr (.inl h)
    have same : tw = true → ∀ n, n ∈ l ↔ n ∈ bndF (d ++ [q]) := fun ht n => by
      rw [vt] at ht
      have hn : qV ∈ e := by simpa using ht
      rw [hbs, List.mem_append, ← gm n]
      constructor
      · exact .inl
      · rintro (h | h)
        · exact h
        · simp at h; rw [h, v1]; exact List.mem_append.2 (.inl hn)
    obtain ⟨U, hU⟩ : ∃ z, z = mapE int u := ⟨_, rfl⟩
    obtain ⟨A, hA⟩ : ∃ z, z = mapE int e := ⟨_, rfl⟩
    have hUl : U.length = u.length := by rw [hU, mapE_len]
    have hAl : A.length = e.length := by rw [hA, mapE_len]
    have hwAU : w = A ++ U := by rw [gw, v1, hA, hU, mapE_eq, List.map_append, ← mapE_eq, ← mapE_eq]
    have hUf : fitB 1 U = true := by rw [hU]; exact fitInt _
    have hAf : fitB 1 A = true := by rw [hA]; exact fitInt _
    have hUc : AV.closedL U = true := by rw [hU]; exact closedL_int _
    have hAc : AV.closedL A = true := by rw [hA]; exact closedL_int _
    have f1 : partA w (idxN 0 j) (lenCut j (iOf m)) = U := by
      simp only [ee]
      rw [hwAU, show 0 + j.toNat = A.length by omega, List.drop_left, List.take_of_length_le (by omega)]
    have f5 : partA w 0 (natOf j) = A := by
      simp only [ee]
      rw [hwAU, List.drop_zero, show j.toNat = A.length by omega, List.take_left]
    obtain ⟨VU, hVU⟩ : ∃ z, z = int qV :: U := ⟨_, rfl⟩
    have hVf : fitB 1 VU = true := by rw [hVU, hU, ← show mapE int (qV :: u) = int qV :: mapE int u by rw [mapE_eq, mapE_eq]; rfl]; exact fitInt _
    have hVl : VU.length = u.length + 1 := by rw [hVU, List.length_cons, hUl]
    have f2 : catA (dropA [int qV] 0) U = VU := by rw [hVU]; simp only [ee]; rfl
    have f4 : partA VU 0 (addN 1 (lenN U)) = VU := by
      simp only [ee]
      rw [List.drop_zero, List.take_of_length_le (by omega)]
    obtain ⟨W, hW⟩ : ∃ z, z = A ++ VU := ⟨_, rfl⟩
    have f6 : catA A VU = W := by rw [hW]; simp only [ee]
    have hWe : W = mapE int (e ++ qV :: u) := by rw [hW, hVU, hA, hU, mapE_eq, mapE_eq, mapE_eq]; simp
    have hWc : AV.closedL W = true := by rw [hWe]; exact closedL_int _
    have hWl : addN (natOf j) (lenN VU) = W.length := by simp only [ee]; rw [hW, List.length_append]; omega
    have hel2 : (e ++ qV :: u).length ≤ (d ++ [q]).length := by simp; simp at hdl; omega
    have hne2 : ¬ (e ++ qV :: u = []) := by simp
    cases u with
    | nil =>
      have kc : iLt j (iOf m) = false := by simp only [ee]; simp at hlen ⊢; omega
      have hax : atN w (idxN 0 j) = .undef := by
        simp only [ee]
        rw [List.getD_eq_getElem?_getD, List.getElem?_eq_none (by simp at hlen; omega)]; rfl
      cases tw with
      | true =>
        have same := same rfl
        refine goB hX 0 (by conv => lhs; cbv; try simp only [kc, hax, n1, hc, hat]; cbv; try simp only [kc, hax, n1, hc, hat]; cbv; try simp only [kc, hax, n1, hc, hat]; cbv; try simp only [kc, hax, n1, hc, hat]; cbv) ?_
        refine tr_drawB rfl (by conv => lhs; cbv) rfl ?_
        refine tgA ?_
        refine tgB hX (by conv => lhs; cbv; try simp only [kc, hax, n1, hc, hat]; cbv; try simp only [kc, hax, n1, hc, hat]; cbv; try simp only [kc, hax, n1, hc, hat]; cbv; try simp only [kc, hax, n1, hc, hat]; cbv) ?_
        refine tr_skipq (.inl rfl) ?_
        refine tr_skipq (.inl rfl) ?_
        refine tr_skipq (.inl rfl) ?_
        refine tr_skipq (.inl rfl) ?_
        refine tr_skipq (.inl rfl) ?_
        refine tr_skipq (.inl rfl) ?_
        refine tr_skipq (.inl rfl) ?_
        refine tr_skipq (.inl rfl) ?_
        refine tr_skipq (.inl rfl) ?_
        refine tr_skipq (.inl rfl) ?_
        refine tgA ?_
        refine tr_nil ⟨rfl, by simp [LooksL], ?_⟩
        refine goA 60 ?_
        refine loopP_exit ?_
        refine goB hX 0 (by conv => lhs; cbv; try simp only [kc, hax, n1, hc, hat]; cbv; try simp only [kc, hax, n1, hc, hat]; cbv; try simp only [kc, hax, n1, hc, hat]; cbv; try simp only [kc, hax, n1, hc, hat]; cbv) ?_
        refine goA 60 ?_
        refine loopP_next (d ++ [q], r, iAdd .i64 i 1, l, .sl 0 1 0 m, w, m) ⟨by simp [g1], hi2, gp, same, gw, hl2, gM, (if_neg hl).symm⟩ (by simp) (ent_sub [.to 0] [some 0] ⟨⟨by simp, rfl⟩, trivial⟩ ⟨osrc_arr (b := 0) rfl rfl rfl rfl hcw, trivial⟩ ⟨.refl _, .cl hnc, .refl _, trivial⟩)
      | false =>
        obtain ⟨i1, i2⟩ := ins (by simp) rfl
        refine goB hX 0 (by conv => lhs; cbv; try simp only [kc, hax, n0, hc, hat, f1, f2, f4, f5, f6]; cbv; try simp only [kc, hax, n0, hc, hat, f1, f2, f4, f5, f6]; cbv; try simp only [kc, hax, n0, hc, hat, f1, f2, f4, f5, f6]; cbv; try simp only [kc, hax, n0, hc, hat, f1, f2, f4, f5, f6]; cbv) ?_
        refine tr_drawB rfl (by conv => lhs; cbv) rfl ?_
        refine tgA ?_
        refine tgB hX (by conv => lhs; cbv; try simp only [kc, hax, n0, hc, hat, f1, f2, f4, f5, f6]; cbv; try simp only [kc, hax, n0, hc, hat, f1, f2, f4, f5, f6]; cbv; try simp only [kc, hax, n0, hc, hat, f1, f2, f4, f5, f6]; cbv; try simp only [kc, hax, n0, hc, hat, f1, f2, f4, f5, f6]; cbv) ?_
        refine tr_skipq (.inl rfl) ?_
        refine tr_skipq (.inl rfl) ?_
        refine tr_skipq (.inl rfl) ?_
        refine tr_skipq (.inl rfl) ?_
        refine tr_skipq (.inl rfl) ?_
        refine tr_skipq (.inl rfl) ?_
        refine tr_skipq (.inl rfl) ?_
        refine tr_skipq (.inl rfl) ?_
        refine tr_skipq (.inl rfl) ?_
        refine tr_skipq (.inl rfl) ?_
        refine tgA ?_
        refine tr_nil ⟨rfl, by simp [LooksL], ?_⟩
        refine goA 60 ?_
        refine loopP_exit ?_
        refine goB hX 0 (by conv => lhs; cbv; try simp only [kc, hax, n0, hc, hat, f1, f2, f4, f5, f6]; cbv; try simp only [kc, hax, n0, hc, hat, f1, f2, f4, f5, f6]; cbv; try simp only [kc, hax, n0, hc, hat, f1, f2, f4, f5, f6]; cbv; try simp only [kc, hax, n0, hc, hat, f1, f2, f4, f5, f6]; cbv) ?_
        refine goA 60 ?_
        refine tr_drawX rfl (by conv => lhs; cbv) (by conv => lhs; cbv) (by decide) (by decide) (by conv => lhs; cbv) rfl ?_
        refine tgB hX (by conv => lhs; cbv; try simp only [kc, hax, n0, hc, hat, f1, f2, f4, f5, f6]; cbv; try simp only [kc, hax, n0, hc, hat, f1, f2, f4, f5, f6]; cbv; try simp only [kc, hax, n0, hc, hat, f1, f2, f4, f5, f6]; cbv; try simp only [kc, hax, n0, hc, hat, f1, f2, f4, f5, f6]; cbv) ?_
        refine tr_nil ⟨rfl, by simp [LooksL], ?_⟩
        refine goA 60 ?_
        refine loopP_next (d ++ [q], r, iAdd .i64 i 1, e ++ [qV], .sl 0 1 0 (addN (natOf j) (lenN VU)), W, addN (natOf j) (lenN VU)) ⟨by simp [g1], hi2, i1, i2, hWe, hel2, hWl, (if_neg hne2).symm⟩ (by simp) (ent_sub [.gone, .gone, .gone, .to 0] [some 3] ⟨trivial, trivial, trivial, ⟨by simp, rfl⟩, trivial⟩ ⟨osrc_arr (b := 3) rfl rfl rfl rfl hWc, trivial⟩ ⟨.refl _, .cl hnc, .refl _, trivial⟩)
    | cons x u =>
      have hlc : (x :: u).length = u.length + 1 := rfl
      have kc : iLt j (iOf m) = true := by simp only [ee]; simp at hlen ⊢; omega
      have hjx : idxN 0 j < w.length := by simp only [ee]; simp at hlen; omega
      have hax : atN w (idxN 0 j) = int x := by
        simp only [ee]
        rw [gw, v1, mapE_eq, List.getD_eq_getElem?_getD, List.getElem?_map, show 0 + j.toNat = e.length by omega]; simp
      by_cases hx : x ≤ qV
      · have kx : iLe x qV = true := by simp only [ee]; simpa using hx
        have hj2 : iAdd .i64 j 1 = ((e ++ [x]).length : Int) := by rw [List.length_append]; exact inc_w e_iAdd vj (by omega)
        have hvl : ∀ y ∈ e ++ [x], y ≤ qV := fun y hy => by
          rcases List.mem_append.1 hy with h | h
          · exact vl y h
          · simp at h; rw [h]; exact hx
        cases tw with
        | true =>
          have ht : true = decide (qV ∈ e ++ [x]) := by have : qV ∈ e := by simpa using vt.symm
                                                        simp [this]
          refine goB hX 0 (by conv => lhs; cbv; try simp only [kc, kx, hc, hat, hax]; cbv; try simp only [kc, kx, hc, hat, hax]; cbv; try simp only [kc, kx, hc, hat, hax]; cbv; try simp only [kc, kx, hc, hat, hax]; cbv) ?_
          refine on_cond rfl (fun c1 => ?_) (fun c1 => ?_)
          ·
            simp [ee] at c1
            refine goA 60 ?_
            refine tr_drawX rfl (by conv => lhs; cbv) (by conv => lhs; cbv) (by decide) (by decide) (by conv => lhs; cbv) rfl ?_
            refine tgA ?_
            refine tr_skipq (.inl rfl) ?_
            refine tr_skipq (.inl rfl) ?_
            refine tr_skipq (.inl rfl) ?_
            refine tr_skipq (.inl rfl) ?_
            refine tr_skipq (.inl rfl) ?_
            refine tr_skipq (.inl rfl) ?_
            refine tr_skipq (.inl rfl) ?_
            refine tr_skipq (.inl rfl) ?_
            refine tr_skipq (.inl rfl) ?_
            refine tr_skipq (.inl rfl) ?_
            refine tgA ?_
            refine tr_nil ⟨rfl, by simp [LooksL], ?_⟩
            refine goA 60 ?_
            refine loopP_next (e ++ [x], u, iAdd .i64 j 1, true) ⟨by simp [v1], hj2, ht, hvl⟩ (by simp) (ent_sub [.to 0] [some 0] ⟨⟨by simp, rfl⟩, trivial⟩ ⟨osrc_arr (b := 0) rfl rfl rfl rfl hcw, trivial⟩ ⟨.refl _, .refl _, .refl _, .cl hnc, .refl _, trivial⟩)
          ·
            simp [ee] at c1
        | false =>
          have ht : iEq x qV = decide (qV ∈ e ++ [x]) := by
            have : qV ∉ e := by simpa using vt.symm
            simp only [ee]
            rw [Bool.eq_iff_iff]; simp [this]; exact eq_comm
          refine goB hX 0 (by conv => lhs; cbv; try simp only [kc, kx, hc, hat, hax]; cbv; try simp only [kc, kx, hc, hat, hax]; cbv; try simp only [kc, kx, hc, hat, hax]; cbv; try simp only [kc, kx, hc, hat, hax]; cbv) ?_
          refine on_cond rfl (fun c1 => ?_) (fun c1 => ?_)
          ·
            simp [ee] at c1
            refine goA 60 ?_
            refine tr_drawX rfl (by conv => lhs; cbv) (by conv => lhs; cbv) (by decide) (by decide) (by conv => lhs; cbv) rfl ?_
            refine tgA ?_
            refine tr_ung rfl ?_
            refine tgA ?_
            refine tr_ung rfl ?_
            refine tgA ?_
            refine tr_ung rfl ?_
            refine tgA ?_
            refine tr_ung rfl ?_
            refine tgB hX (by conv => lhs; cbv; try simp only [kc, kx, hc, hat, hax]; cbv; try simp only [kc, kx, hc, hat, hax]; cbv; try simp only [kc, kx, hc, hat, hax]; cbv; try simp only [kc, kx, hc, hat, hax]; cbv) ?_
            refine tr_ung rfl ?_
            refine tgA ?_
            refine tr_ung rfl ?_
            refine tgA ?_
            refine tr_ung rfl ?_
            refine tgA ?_
            refine tr_ung rfl ?_
            refine tgA ?_
            refine tr_ung rfl ?_
            refine tgB hX (by conv => lhs; cbv; try simp only [kc, kx, hc, hat, hax]; cbv; try simp only [kc, kx, hc, hat, hax]; cbv; try simp only [kc, kx, hc, hat, hax]; cbv; try simp only [kc, kx, hc, hat, hax]; cbv) ?_
            refine tr_ung rfl ?_
            refine tgA ?_
            refine tr_nil ⟨rfl, by simp [LooksL, lookAll], ?_⟩
            refine goA 60 ?_
            refine loopP_next (e ++ [x], u, iAdd .i64 j 1, iEq x qV) ⟨by simp [v1], hj2, ht, hvl⟩ (by simp) (ent_sub [.to 0] [some 0] ⟨⟨by simp, rfl⟩, trivial⟩ ⟨osrc_arr (b := 0) rfl rfl rfl rfl hcw, trivial⟩ ⟨.refl _, .refl _, .refl _, .cl hnc, .refl _, trivial⟩)
          ·
            simp [ee] at c1
      · have kx : iLe x qV = false := by simp only [ee]; simpa using hx
        have hub : ∀ y ∈ x :: u, qV < y := fun y hy => by
          have hp2 : (x :: u).Pairwise (· < ·) := by rw [v1] at gp; exact (List.pairwise_append.1 gp).2.1
          rcases List.mem_cons.1 hy with rfl | h
          · omega
          · have := (List.pairwise_cons.1 hp2).1 y h; omega
        cases tw with
        | true =>
          have same := same rfl
          refine goB hX 0 (by conv => lhs; cbv; try simp only [kc, kx, n1, hc, hat, hax]; cbv; try simp only [kc, kx, n1, hc, hat, hax]; cbv; try simp only [kc, kx, n1, hc, hat, hax]; cbv; try simp only [kc, kx, n1, hc, hat, hax]; cbv) ?_
          refine on_cond rfl (fun c1 => ?_) (fun c1 => ?_)
          ·
            simp [ee] at c1
          ·
            simp [ee] at c1
            refine goA 60 ?_
            refine loopP_exit ?_
            refine goB hX 0 (by conv => lhs; cbv; try simp only [kc, kx, n1, hc, hat, hax]; cbv; try simp only [kc, kx, n1, hc, hat, hax]; cbv; try simp only [kc, kx, n1, hc, hat, hax]; cbv; try simp only [kc, kx, n1, hc, hat, hax]; cbv) ?_
            refine goA 60 ?_
            refine loopP_next (d ++ [q], r, iAdd .i64 i 1, l, .sl 0 1 0 m, w, m) ⟨by simp [g1], hi2, gp, same, gw, hl2, gM, (if_neg hl).symm⟩ (by simp) (ent_sub [.to 0] [some 0] ⟨⟨by simp, rfl⟩, trivial⟩ ⟨osrc_arr (b := 0) rfl rfl rfl rfl hcw, trivial⟩ ⟨.refl _, .cl hnc, .refl _, trivial⟩)
        | false =>
          obtain ⟨i1, i2⟩ := ins hub rfl
          refine goB hX 0 (by conv => lhs; cbv; try simp only [kc, kx, n0, hc, hat, hax, f1, f2, f4, f5, f6]; cbv; try simp only [kc, kx, n0, hc, hat, hax, f1, f2, f4, f5, f6]; cbv; try simp only [kc, kx, n0, hc, hat, hax, f1, f2, f4, f5, f6]; cbv; try simp only [kc, kx, n0, hc, hat, hax, f1, f2, f4, f5, f6]; cbv) ?_
          refine on_cond rfl (fun c1 => ?_) (fun c1 => ?_)
          ·
            simp [ee] at c1
          ·
            simp [ee] at c1
            refine goA 60 ?_
            refine loopP_exit ?_
            refine goB hX 0 (by conv => lhs; cbv; try simp only [kc, kx, n0, hc, hat, hax, f1, f2, f4, f5, f6]; cbv; try simp only [kc, kx, n0, hc, hat, hax, f1, f2, f4, f5, f6]; cbv; try simp only [kc, kx, n0, hc, hat, hax, f1, f2, f4, f5, f6]; cbv; try simp only [kc, kx, n0, hc, hat, hax, f1, f2, f4, f5, f6]; cbv) ?_
            refine goA 60 ?_
            refine tr_drawX rfl (by conv => lhs; cbv) (by conv => lhs; cbv) (by decide) (by decide) (by conv => lhs; cbv) rfl ?_
            refine tgB hX (by conv => lhs; cbv; try simp only [kc, kx, n0, hc, hat, hax, f1, f2, f4, f5, f6]; cbv; try simp only [kc, kx, n0, hc, hat, hax, f1, f2, f4, f5, f6]; cbv; try simp only [kc, kx, n0, hc, hat, hax, f1, f2, f4, f5, f6]; cbv; try simp only [kc, kx, n0, hc, hat, hax, f1, f2, f4, f5, f6]; cbv) ?_
            refine tr_nil ⟨rfl, by simp [LooksL], ?_⟩
            refine goA 60 ?_
            refine loopP_next (d ++ [q], r, iAdd .i64 i 1, e ++ qV :: x :: u, .sl 0 1 0 (addN (natOf j) (lenN VU)), W, addN (natOf j) (lenN VU)) ⟨by simp [g1], hi2, i1, i2, hWe, hel2, hWl, (if_neg hne2).symm⟩ (by simp) (ent_sub [.gone, .gone, .gone, .to 0] [some 3] ⟨trivial, trivial, trivial, ⟨by simp, rfl⟩, trivial⟩ ⟨osrc_arr (b := 3) rfl rfl rfl rfl hWc, trivial⟩ ⟨.refl _, .cl hnc, .refl _, trivial⟩)
structure Plc where
 us : List Int
 si : List Int
 fb : Int
noncomputable def Plc.enc (s : Plc) : AV := .agg [.isl 1 (mapE int s.us), .isl 1 (mapE int s.si), int s.fb]
def Plc0 : Plc := ⟨[], [], 0⟩
theorem Plc.closed (s : Plc) : s.enc.closed = true := by simp [Plc.enc, AV.closed, AV.closedL, closedL_int]
def uniI (a b : List Int) : List Int := Lib.compact (sortI (a ++ b))
theorem uni_mem (a b : List Int) (n : Int) : n ∈ uniI a b ↔ n ∈ a ∨ n ∈ b := by
 unfold uniI
 rw [(comp_ok _ (sort_sorted _)).2, sort_mem, List.mem_append]
theorem uni_sorted (a b : List Int) : (uniI a b).Pairwise (· < ·) := (comp_ok _ (sort_sorted _)).1
theorem uni_ext {a b c : List Int} (hc : c.Pairwise (· < ·)) (h : ∀ n, n ∈ c ↔ n ∈ a ∨ n ∈ b) : uniI a b = c :=
 sorted_ext _ _ (uni_sorted a b) hc fun n => by rw [uni_mem, h]
theorem uni_len (a b : List Int) : (uniI a b).length ≤ a.length + b.length := by
 unfold uniI
 have h1 : (Lib.compact (sortI (a ++ b))).length ≤ (sortI (a ++ b)).length := compact_le _
 rw [sort_len] at h1
 simpa using h1
theorem nodup_le : ∀ (n : Nat) (l : List Int), l.Nodup → (∀ v ∈ l, 0 ≤ v ∧ v < n) → l.length ≤ n
 | 0, l, _, h => by
  cases l with
  | nil => simp
  | cons x r => have := h x (by simp); omega
 | n + 1, l, hn, h => by
  by_cases hm : (n : Int) ∈ l
  · have h1 := nodup_le n (l.erase n) (hn.erase _) (fun v hv => by
     have := (List.Nodup.mem_erase_iff hn).1 hv
     have := h v this.2
     omega)
    rw [List.length_erase_of_mem hm] at h1
    omega
  · have := nodup_le n l hn (fun v hv => by
     have := h v hv
     have : v ≠ n := fun e => hm (e ▸ hv)
     omega)
    omega
def VR (l : List Int) : Prop := ∀ n ∈ l, 0 ≤ n ∧ n < 16
theorem VR.uni {a b : List Int} (ha : VR a) (hb : VR b) : VR (uniI a b) := fun n hn => by
 rcases (uni_mem a b n).1 hn with h | h
 · exact ha n h
 · exact hb n h
theorem VR.len {l : List Int} (h : VR l) (hs : l.Pairwise (· < ·)) : l.length ≤ 16 := nodup_le 16 l (hs.imp fun h => by omega) h
def keepsF (o : Int) : Bool := decide (o = 0 ∨ o = 1 ∨ o = 3 ∨ o = 5 ∨ o = 6 ∨ o = 7)
def testsF (o : Int) : Bool := decide (o = 0 ∨ o = 5 ∨ o = 7)
mutual
def Pat.ones : Pat → List Int
 | .mk o a _ v _ _ _ => if keepsF o = true then (if o = 0 then [v] else Pat.onesL [] a) else []
def Pat.onesL : List Int → List Pat → List Int
 | acc, [] => acc
 | acc, e :: r => Pat.onesL (uniI acc e.ones) r
end
def Pat.arg0 (p : Pat) : Pat := p.args.headD Pat0
def Pat.own (p : Pat) (l : Plc) : Plc :=
 if p.op = 0 then ⟨uniI l.us [p.var], uniI l.si [p.var], -1⟩
 else if p.op = 5 then ⟨uniI (uniI l.us p.arg0.bound) [p.var], uniI l.si [p.var], p.var⟩
 else ⟨uniI l.us p.arg0.bound, uniI l.si p.arg0.ones, -1⟩
def Plc.plus (l : Plc) (e : Pat) : Plc := ⟨uniI l.us e.bound, uniI l.si e.ones, -1⟩
mutual
def Pat.lf : Plc → Pat → List (Pat × Plc)
 | l, .mk o a t v s n c => (.mk o a t v s n c, l) :: Pat.lfL (decide (o = 1)) l a
def Pat.lfL : Bool → Plc → List Pat → List (Pat × Plc)
 | _, _, [] => []
 | b, l, e :: r => Pat.lf l e ++ Pat.lfL b (if b then l.plus e else l) r
end
def PlcS : Plc := ⟨[], [], -1⟩
theorem Pat.lfL_map {r : List Pat} (h : ∀ e ∈ r, ∀ l, (Pat.lf l e).map Prod.fst = e.nodes) : ∀ b l, (Pat.lfL b l r).map Prod.fst = Pat.nodesL r := by
 induction r with
 | nil => intro b l; rfl
 | cons x r ih =>
  intro b l
  rw [Pat.lfL, Pat.nodesL, List.map_append, h x (by simp), ih fun e he => h e (by simp [he])]
theorem Pat.lf_map : ∀ p : Pat, ∀ l, (Pat.lf l p).map Prod.fst = p.nodes := Pat.ind fun o a t v s n c h l => by
 rw [Pat.lf, Pat.nodes, List.map_cons, Pat.lfL_map h]
theorem Pat.lf_len (p : Pat) (l : Plc) : (Pat.lf l p).length = p.cnt := by rw [← Pat.nodes_len, ← Pat.lf_map p l, List.length_map]
noncomputable def folE (s : Plc) (e : Ex) : Int := open Classical in
 if 1 ≤ e.op ∧ e.op ≤ 4 then (if e.var ∉ s.us then 10 else if ((e.op = 1 ∨ e.op = 2) ∧ e.var ∉ s.si) ∨ ((e.op = 3 ∨ e.op = 4) ∧ e.var = s.fb) then 11 else 0) else 0
noncomputable def Ex.fol (s : Plc) (e : Ex) : Int := firstE (folE s) e.nodes
noncomputable def Pat.atE (p : Pat) (i : Int) : Int :=
 if p.chk ≠ 0 then p.chk else if 0 ≤ i ∧ i < p.nodes.length then (if testsF (p.nodeAt i).op = true then 0 else 1) else 6
noncomputable def Pat.atP (p : Pat) (i : Int) : Plc := if p.atE i = 0 then (((Pat.lf PlcS p).getD i.toNat (Pat0, Plc0)).1.own ((Pat.lf PlcS p).getD i.toNat (Pat0, Plc0)).2) else Plc0
noncomputable def condE (x : Pat × Plc) : Int := if testsF x.1.op = true then x.1.cond.fol (x.1.own x.2) else 0
def idxE {α : Type} (F : α → Int) : List α → Int
 | [] => 0
 | x :: r => if F x ≠ 0 then 0 else if firstE F r ≠ 0 then idxE F r + 1 else 0
noncomputable def Pat.scE (p : Pat) : Int := if p.chk ≠ 0 then p.chk else firstE condE (Pat.lf PlcS p)
noncomputable def Pat.scI (p : Pat) : Int := if p.chk ≠ 0 then 0 else idxE condE (Pat.lf PlcS p)
noncomputable def retE (s : Plc) (e : Ex) : Int := if e.chk ≠ 0 then e.chk else e.fol s
noncomputable def Pat.retP (p : Pat) : Plc := ⟨p.bound, p.ones, -1⟩
noncomputable def Pat.rtE (p : Pat) (l : List Ex) : Int := if p.chk ≠ 0 then p.chk else if 256 < l.length then 5 else firstE (retE p.retP) l
noncomputable def Pat.rtI (p : Pat) (l : List Ex) : Int := if p.chk ≠ 0 then 0 else if 256 < l.length then 0 else idxE (retE p.retP) l
def Pat.nok (q : Pat) : Prop := 0 ≤ q.op ∧ q.op < 8 ∧ (typedF q.op = true → 0 ≤ q.var ∧ q.var < 16) ∧ (q.op = 0 → q.args = []) ∧ (q.op = 5 ∨ q.op = 6 ∨ q.op = 7 → ∃ e, q.args = [e])
theorem nodeE_nok {q : Pat} (h : q.nodeE = 0) (h8 : q.op < 8) : q.nok := by
 unfold Pat.nodeE at h
 by_cases h1 : q.op < 0 ∨ 11 ≤ q.op
 · rw [if_pos h1] at h; cases h
 rw [if_neg h1] at h
 by_cases h2 : (q.args.length : Int) < leastF q.op ∨ mostF q.op < q.args.length
 · rw [if_pos h2] at h; cases h
 rw [if_neg h2] at h
 by_cases h3 : (typedF q.op = true ∧ (q.ty < 0 ∨ 15 < q.ty ∨ q.var < 0 ∨ 15 < q.var)) ∨ (scopeF q.op = true ∧ (q.scope < 0 ∨ 63 < q.scope)) ∨ (spanF q.op = true ∧ (q.span < 0 ∨ 1099511627776 < q.span))
 · rw [if_pos h3] at h; cases h
 refine ⟨by omega, h8, fun ht => ⟨Int.not_lt.1 fun hh => h3 (.inl ⟨ht, .inr (.inr (.inl hh))⟩), ?_⟩, fun h0 => ?_, fun h5 => ?_⟩
 · have : ¬ 15 < q.var := fun hh => h3 (.inl ⟨ht, .inr (.inr (.inr hh))⟩)
   omega
 · have hm : mostF q.op = 0 := by rw [h0]; rfl
   rw [hm] at h2
   exact List.length_eq_zero_iff.1 (by omega)
 · have hm : leastF q.op = 1 ∧ mostF q.op = 1 := by rcases h5 with h5 | h5 | h5 <;> rw [h5] <;> exact ⟨rfl, rfl⟩
   rw [hm.1, hm.2] at h2
   exact List.length_eq_one_iff.1 (by omega)
def Pat.wf (p : Pat) : Prop := ∀ q ∈ p.nodes, q.nok
theorem chk_wf {p : Pat} (h : p.chk = 0) : p.wf := fun q hq =>
 nodeE_nok ((wholeE_ok (chk_zero h).1).2.1 q hq) ((wholeE_ok (chk_zero h).1).2.2 q hq)
theorem Pat.wf.arg {o a t v s n c} (h : (Pat.mk o a t v s n c).wf) {e : Pat} (he : e ∈ a) : e.wf := fun q hq => h q (by
 rw [Pat.nodes]
 obtain ⟨d, r, rfl⟩ := List.append_of_mem he
 simp [Pat.nodesL_append, Pat.nodesL, hq])
theorem Pat.wf.self {p : Pat} (h : p.wf) : p.nok := h p (by rw [Pat.nodes_eq]; simp)
theorem Pat.wf.node {p q : Pat} (h : p.wf) (hq : q ∈ p.nodes) : q.wf := fun x hx => h x ((cnt_node p q hq).2.2 x hx)
theorem bound_vr {p : Pat} (h : p.wf) : VR p.bound := fun n hn => by
 rw [Pat.bound_mem] at hn
 unfold bndF at hn
 obtain ⟨q, hq, rfl⟩ := List.mem_map.1 hn
 have hq := List.mem_filter.1 hq
 have h0 : q.op = 0 := by simpa using hq.2
 exact (h q hq.1).2.2.1 (by rw [h0]; rfl)
theorem ones_spec : ∀ p : Pat, p.wf → p.ones.Pairwise (· < ·) ∧ VR p.ones := Pat.ind fun o a t v s n c ih h => by
 have hL : ∀ (r : List Pat) (acc : List Int), (∀ e ∈ r, e ∈ a) → acc.Pairwise (· < ·) ∧ VR acc → (Pat.onesL acc r).Pairwise (· < ·) ∧ VR (Pat.onesL acc r) := by
  intro r
  induction r with
  | nil => intro acc _ ha; rw [Pat.onesL]; exact ha
  | cons x r ihr =>
   intro acc hm ha
   rw [Pat.onesL]
   exact ihr _ (fun e he => hm e (by simp [he])) ⟨uni_sorted _ _, ha.2.uni (ih x (hm x (by simp)) (h.arg (hm x (by simp)))).2⟩
 rw [Pat.ones]
 split
 · split
   · rename_i _ h0
     refine ⟨List.pairwise_singleton _ _, fun n hn => ?_⟩
     simp at hn
     have := h.self.2.2.1 (by simp only [Pat.op]; rw [h0]; rfl)
     simp only [Pat.var] at this
     omega
   · exact hL a [] (fun _ h => h) ⟨List.Pairwise.nil, fun _ h => by cases h⟩
 · exact ⟨List.Pairwise.nil, fun _ h => by cases h⟩
theorem ones_len {p : Pat} (h : p.wf) : p.ones.length ≤ 16 := (ones_spec p h).2.len (ones_spec p h).1
theorem bound_len {p : Pat} (h : p.wf) : p.bound.length ≤ 16 := (bound_vr h).len p.bound_nodup
theorem uni_nil {a : List Int} (h : a.Pairwise (· < ·)) : uniI [] a = a := uni_ext h fun n => by simp
theorem bound_arg {p e : Pat} (h0 : p.op ≠ 0) (ha : p.args = [e]) : p.bound = e.bound := by
 unfold Pat.bound
 rw [Pat.nodes_eq, ha, bndF_cons, if_neg h0]
 simp [Pat.nodesL]
theorem ones_arg {p e : Pat} (h0 : p.op ≠ 0) (hk : keepsF p.op = true) (ha : p.args = [e]) (he : e.wf) : p.ones = e.ones := by
 obtain ⟨o, a, t, v, s, n, c⟩ := p
 simp only [Pat.op, Pat.args] at h0 hk ha
 subst ha
 rw [Pat.ones, if_pos hk, if_neg h0, Pat.onesL, Pat.onesL, uni_nil (ones_spec e he).1]
def Plc.ok (l : Plc) : Prop := VR l.us ∧ VR l.si ∧ l.us.length ≤ 16 ∧ l.si.length ≤ 16
theorem PlcS_ok : PlcS.ok := ⟨fun _ h => (by cases h), fun _ h => (by cases h), by decide, by decide⟩
theorem Plc.ok.plus {l : Plc} (h : l.ok) {e : Pat} (he : e.wf) : (l.plus e).ok := by
 have h1 := h.1.uni (bound_vr he)
 have h2 := h.2.1.uni (ones_spec e he).2
 exact ⟨h1, h2, h1.len (uni_sorted _ _), h2.len (uni_sorted _ _)⟩
theorem Pat.lfL_ok {b : Bool} {r : List Pat} (ih : ∀ e ∈ r, e.wf → ∀ l : Plc, l.ok → ∀ x ∈ Pat.lf l e, x.2.ok ∧ x.1 ∈ e.nodes) (hw : ∀ e ∈ r, e.wf) : ∀ l : Plc, l.ok → ∀ x ∈ Pat.lfL b l r, x.2.ok ∧ x.1 ∈ Pat.nodesL r := by
 induction r with
 | nil => intro l _ x hx; cases hx
 | cons y r ihr =>
  intro l hl x hx
  rw [Pat.lfL] at hx
  rw [Pat.nodesL]
  rcases List.mem_append.1 hx with hx | hx
  · obtain ⟨h1, h2⟩ := ih y (by simp) (hw y (by simp)) l hl x hx
    exact ⟨h1, List.mem_append.2 (.inl h2)⟩
  · obtain ⟨h1, h2⟩ := ihr (fun e he => ih e (by simp [he])) (fun e he => hw e (by simp [he])) (if b then l.plus y else l) (by split; exact hl.plus (hw y (by simp)); exact hl) x hx
    exact ⟨h1, List.mem_append.2 (.inr h2)⟩
theorem Pat.lf_ok : ∀ p : Pat, p.wf → ∀ l : Plc, l.ok → ∀ x ∈ Pat.lf l p, x.2.ok ∧ x.1 ∈ p.nodes := Pat.ind fun o a t v s n c ih h l hl x hx => by
 rw [Pat.lf] at hx
 rw [Pat.nodes]
 rcases List.mem_cons.1 hx with rfl | hx
 · exact ⟨hl, List.mem_cons_self⟩
 · obtain ⟨h1, h2⟩ := Pat.lfL_ok ih (fun e he => h.arg he) l hl x hx
   exact ⟨h1, List.mem_cons_of_mem _ h2⟩
theorem own_ok {q : Pat} (hq : q.wf) (ht : testsF q.op = true) {l : Plc} (hl : l.ok) : (q.own l).ok := by
 have hn := hq.self
 have v1 : typedF q.op = true → VR [q.var] := fun h n hn2 => by simp at hn2; rw [hn2]; exact hn.2.2.1 h
 have fin : ∀ a b c, VR a → VR b → a.Pairwise (· < ·) → b.Pairwise (· < ·) → (⟨a, b, c⟩ : Plc).ok := fun a b c h1 h2 h3 h4 => ⟨h1, h2, h1.len h3, h2.len h4⟩
 unfold Pat.own
 by_cases h0 : q.op = 0
 · rw [if_pos h0]
   have v1 := v1 (by rw [h0]; rfl)
   exact fin _ _ _ (hl.1.uni v1) (hl.2.1.uni v1) (uni_sorted _ _) (uni_sorted _ _)
 rw [if_neg h0]
 have h57 : q.op = 5 ∨ q.op = 7 := by unfold testsF at ht; simp at ht; omega
 obtain ⟨e, he⟩ := hn.2.2.2.2 (by omega)
 have hea : q.arg0 = e := by unfold Pat.arg0; rw [he]; rfl
 have hew : e.wf := by
  obtain ⟨o, a, t, v, s, n, c⟩ := q
  simp only [Pat.args] at he
  exact hq.arg (by rw [he]; simp)
 rw [hea]
 by_cases h5 : q.op = 5
 · rw [if_pos h5]
   have v1 := v1 (by rw [h5]; rfl)
   exact fin _ _ _ ((hl.1.uni (bound_vr hew)).uni v1) (hl.2.1.uni v1) (uni_sorted _ _) (uni_sorted _ _)
 · rw [if_neg h5]
   exact fin _ _ _ (hl.1.uni (bound_vr hew)) (hl.2.1.uni (ones_spec e hew).2) (uni_sorted _ _) (uni_sorted _ _)
structure Lim where
 scope : Int
 span : Int
def Lim.enc (l : Lim) : AV := .agg [int l.scope, int l.span]
def yesE : Ex := .mk 0 [] 0 0 0 ⟨1, 1, ⟨#[]⟩⟩
def eventP (k v : Int) : Pat := .mk 0 [] k v 0 0 yesE
theorem yesE.enc_eq : yesE.enc = .agg [int 0, .isl 8 [], int 0, int 0, int 0, int 1, int 1, str ⟨#[]⟩] := by
 rw [yesE, Ex.enc_mk, mapE_eq]; rfl
theorem eventP.enc_eq (k v : Int) : (eventP k v).enc = .agg [int 0, .isl 14 [], int k, int v, int 0, int 0, int 0, .isl 8 [], int 0, int 0, int 0, int 1, int 1, str ⟨#[]⟩] := by
 rw [eventP, yesE, Pat.enc_mk, mapE_eq, mapE_eq]; rfl
theorem P_Flag (b : Bool) : PCall EE 41 [bool b] (.agg [int 1, int (if b then 1 else 0), str ⟨#[]⟩]) := by
 refine wordsN ?_; unhygienic intros
 refine fn_body (fn := Tryz.f41) (n := 6) (ac := Tryzc41) (rvs := [.cell 2 3 true]) rfl (by decide) Tryzp41 rfl rfl rfl ?_
 cases b with
 | true =>
  refine goA 60 ?_
  refine fn_ret rfl rfl ?_
  exact ⟨[.gone], ⟨trivial, trivial⟩, .refl _⟩
 | false =>
  refine goA 60 ?_
  refine fn_ret rfl rfl ?_
  exact ⟨[.gone], ⟨trivial, trivial⟩, .refl _⟩
def markV (s : List Bool) (q : Ex) : List Bool := if usesV q.op = true ∧ 0 ≤ q.var ∧ q.var < 16 then s.set q.var.toNat true else s
def varsU (S : List Bool) : Nat → List Int
 | 0 => []
 | j + 1 => varsU S j ++ (if S.getD j false then [(j : Int)] else [])
def Ex.marks (e : Ex) : List Bool := e.nodes.foldl markV (List.replicate 16 false)
def Ex.vars (e : Ex) : List Int := varsU e.marks 16
theorem P_Index (l : List Int) (v : Int) (hl : l.length < 1048577) : ∃ j : Int, (0 ≤ j ↔ v ∈ l) ∧ PCall EE 69 [.isl 1 (mapE int l), int v] (int j) := by
 obtain ⟨j, hj1, hj2⟩ : ∃ j : Int, (v ∉ l → j = -1) ∧ (∀ d r, l = d ++ v :: r → v ∉ d → j = d.length) := by
  by_cases h : v ∈ l
  · obtain ⟨d, r, rfl, hd⟩ := List.eq_append_cons_of_mem h
    refine ⟨d.length, fun hn => absurd h hn, fun d2 r2 e hd2 => ?_⟩
    have : ∀ (d d2 : List Int) (r r2 : List Int), d ++ v :: r = d2 ++ v :: r2 → v ∉ d → v ∉ d2 → d.length = d2.length := by
     intro d
     induction d with
     | nil =>
      intro d2 r r2 e _ h2
      cases d2 with
      | nil => rfl
      | cons x y => simp at e; simp [e.1] at h2
     | cons x y ih =>
      intro d2 r r2 e h1 h2
      cases d2 with
      | nil => simp at e; simp [e.1] at h1
      | cons x2 y2 =>
       simp at e h1 h2
       simp [ih y2 r r2 e.2 h1.2 h2.2]
    rw [this d d2 r r2 e hd hd2]
  · exact ⟨-1, fun _ => rfl, fun d r e => absurd (by rw [e]; simp) h⟩
 refine ⟨j, ?_, ?_⟩
 · constructor
   · intro h; exact Classical.byContradiction fun hn => by have := hj1 hn; omega
   · intro h
     obtain ⟨d, r, e, hd⟩ := List.eq_append_cons_of_mem h
     have := hj2 d r e hd; omega
 have hcl := closedI_int l
 refine wordsN ?_; unhygienic intros
 generalize hes : mapE int l = es at *
 have hel : es.length = l.length := by rw [← hes, mapE_len]
 refine fn_body (fn := Tryz.f69) (n := 19) (ac := Tryzc69) (rvs := [.t 4]) rfl (by decide) Tryzp69 rfl rfl rfl ?_
 refine goA 60 ?_
 refine on_loopP (ι := List Int × List Int × Int) (fun p => ([(8, int p.2.2), (7, int (lenA es)), (0, .isl 1 es), (1, int v)], [])) (fun p => l = p.1 ++ p.2.1 ∧ p.2.2 = p.1.length ∧ v ∉ p.1) (fun p => p.2.1.length) ([], l, 0) ⟨rfl, rfl, by simp⟩ ?_ ?_
 · exact (ent_sub [] [] trivial trivial ⟨.refl _, .refl _, .cl hcl, .refl _, trivial⟩)
 rintro ⟨d, r, i⟩ ⟨g1, gi, gv⟩
 dsimp only at g1 gi gv ⊢
 cases r with
 | nil =>
  have L1 := len_split g1
  try simp only [List.length_nil] at L1
  have hc : iLt i (lenA es) = false := lt_f e_iLt e_lenA (by omega)
  rw [List.append_nil] at g1
  have hj : j = -1 := hj1 (by rw [g1]; exact gv)
  refine goB hX 0 (by conv => lhs; cbv; try simp only [hc]; cbv; try simp only [hc]; cbv; try simp only [hc]; cbv; try simp only [hc]; cbv) ?_
  refine goA 60 ?_
  refine loopP_exit ?_
  refine goA 60 ?_
  refine fn_ret rfl rfl (.val ?_)
  exact congrArg (Value.int .i64) hj.symm
 | cons q r =>
  have L1 := len_split g1
  try simp only [List.length_cons] at L1
  have hc : iLt i (lenA es) = true := lt_t e_iLt e_lenA (by omega)
  have hat := el_at e_atA hes g1 gi
  have hi2 : iAdd .i64 i 1 = ((d ++ [q]).length : Int) := by rw [List.length_append]; exact inc_w e_iAdd gi (by omega)
  by_cases hq : v = q
  · have k1 : iEq v q = true := by simp only [ee]; simpa using hq
    have hj : i = j := by rw [hj2 d r (by rw [g1, hq]) gv]; exact gi
    refine goB hX 0 (by conv => lhs; cbv; try simp only [hc, hat, k1]; cbv; try simp only [hc, hat, k1]; cbv; try simp only [hc, hat, k1]; cbv; try simp only [hc, hat, k1]; cbv) ?_
    refine goB hX 1 (by conv => lhs; cbv; try simp only [hc, hat, k1]; cbv; try simp only [hc, hat, k1]; cbv; try simp only [hc, hat, k1]; cbv; try simp only [hc, hat, k1]; cbv) ?_
    refine goA 60 ?_
    refine loopP_ret ?_
    refine goA 60 ?_
    refine fn_ret rfl rfl (.val ?_)
    exact congrArg (Value.int .i64) hj
  · have k1 : iEq v q = false := by simp only [ee]; simpa using hq
    have gv2 : v ∉ d ++ [q] := by simp [gv, hq]
    refine goB hX 0 (by conv => lhs; cbv; try simp only [hc, hat, k1]; cbv; try simp only [hc, hat, k1]; cbv; try simp only [hc, hat, k1]; cbv; try simp only [hc, hat, k1]; cbv) ?_
    refine goB hX 1 (by conv => lhs; cbv; try simp only [hc, hat, k1]; cbv; try simp only [hc, hat, k1]; cbv; try simp only [hc, hat, k1]; cbv; try simp only [hc, hat, k1]; cbv) ?_
    refine goA 60 ?_
    refine loopP_next (d ++ [q], r, iAdd .i64 i 1) ⟨by simp [g1], hi2, gv2⟩ (by simp) (ent_sub [] [] trivial trivial ⟨.refl _, .refl _, .cl hcl, .refl _, trivial⟩)
theorem P_Contains (l : List Int) (v : Int) (hl : l.length < 1048577) : PCall EE 49 [.isl 1 (mapE int l), int v] (bool (decide (v ∈ l))) := by
 obtain ⟨j, hj, h1⟩ := P_Index l v hl
 have hcl := closedI_int l
 obtain ⟨R, hR⟩ : ∃ R, R = decide (v ∈ l) := ⟨_, rfl⟩
 rw [← hR]
 refine wordsN ?_; unhygienic intros
 generalize mapE int l = es at *
 refine fn_body (fn := Tryz.f49) (n := 9) (ac := Tryzc49) (rvs := [.t 4]) rfl (by decide) Tryzp49 rfl rfl rfl ?_
 have hRe : iLe 0 j = R := by simp only [ee]; rw [hR]; simp [hj]
 refine goA 60 ?_
 refine pcA h1 ?_
 refine goA 60 ?_
 refine fn_ret rfl rfl (.val ?_)
 exact congrArg Value.bool hRe
theorem Pat.exsL_nodes {l : List Pat} (h : ∀ e ∈ l, e.exs = e.nodes.map Pat.cond) : Pat.exsL l = (Pat.nodesL l).map Pat.cond := by
 induction l with
 | nil => simp [Pat.exsL, Pat.nodesL]
 | cons e r ih => rw [Pat.exsL, Pat.nodesL, h e (by simp), ih fun e he => h e (by simp [he]), List.map_append]
theorem Pat.exs_nodes : ∀ p : Pat, p.exs = p.nodes.map Pat.cond := Pat.ind fun o a t v s n c h => by
 rw [Pat.exs, Pat.nodes, List.map_cons, Pat.exsL_nodes h]; rfl
theorem Pat.Sm_iff (p : Pat) : p.Sm ↔ p.nodes.length ≤ 1048576 ∧ ∀ q ∈ p.nodes, q.cond.Sm := by
 rw [Pat.Sm, Pat.nodes_len, Pat.exs_nodes]; simp
theorem getD_el {α : Type} {l : List α} {k : Nat} (d : α) (h : k < l.length) : l.getD k d = l[k] := by
 rw [List.getD_eq_getElem?_getD, List.getElem?_eq_getElem h]; rfl
theorem scE_eq {p : Pat} (h : p.chk = 0) : p.scE = firstE condE (Pat.lf PlcS p) := by rw [Pat.scE, if_neg (fun k => k h)]
theorem scI_eq {p : Pat} (h : p.chk = 0) : p.scI = idxE condE (Pat.lf PlcS p) := by rw [Pat.scI, if_neg (fun k => k h)]
theorem rtE_eq {p : Pat} {l : List Ex} (h : p.chk = 0) (hl : l.length ≤ 256) : p.rtE l = firstE (retE p.retP) l := by
 rw [Pat.rtE, if_neg (fun k => k h), if_neg (by omega)]
theorem rtI_eq {p : Pat} {l : List Ex} (h : p.chk = 0) (hl : l.length ≤ 256) : p.rtI l = idxE (retE p.retP) l := by
 rw [Pat.rtI, if_neg (fun k => k h), if_neg (by omega)]
def belowE (e : Ex) : Ex := .mk 7 [e, .mk 0 [] 0 0 0 ⟨0, 1, ⟨#[]⟩⟩] 0 0 0 Vl0
def ev15 (v : Int) (a : Ex) : Pat := .mk 0 [] 0 v 0 0 a
def plus15 : Pat := .mk 4 [ev15 1 yesE] 0 0 0 0 Ex0
def ex15 (a c : Ex) : Pat := .mk 1 [ev15 0 a, plus15, ev15 2 c] 0 0 0 0 Ex0
def leafE (o v : Int) : Ex := .mk o [] v 0 0 Vl0
theorem uni_0 {a : List Int} (h : a.Pairwise (· < ·)) : uniI a [] = a := uni_ext h fun n => by simp
theorem uni_2 {a b : Int} (h : a < b) : uniI [a] [b] = [a, b] := uni_ext (by simp [h]) fun n => by simp
theorem uni_3 {a b c : Int} (h : a < b) (h2 : b < c) : uniI [a, b] [c] = [a, b, c] := uni_ext (by simp [h, h2]; omega) fun n => by simp; omega
theorem uni_1 (a : Int) : uniI [] [a] = [a] := uni_nil (by simp)
theorem ex15_nodes (a c : Ex) : (ex15 a c).nodes = [ex15 a c, ev15 0 a, plus15, ev15 1 yesE, ev15 2 c] := by
 simp [ex15, plus15, ev15, Pat.nodes, Pat.nodesL]
theorem ev15_nodes (v : Int) (a : Ex) : (ev15 v a).nodes = [ev15 v a] := by simp [ev15, Pat.nodes, Pat.nodesL]
theorem plus15_nodes : plus15.nodes = [plus15, ev15 1 yesE] := by simp [plus15, ev15, Pat.nodes, Pat.nodesL]
theorem bound_of {p : Pat} {l : List Int} (h : bndF p.nodes = l) (hl : l.Pairwise (· < ·)) : p.bound = l :=
 sorted_ext _ _ p.bound_nodup hl fun n => by rw [Pat.bound_mem, h]
theorem ev15_bound (v : Int) (a : Ex) : (ev15 v a).bound = [v] := bound_of (by rw [ev15_nodes]; simp [bndF, ev15, Pat.op, Pat.var]) (by simp)
theorem plus15_bound : plus15.bound = [1] := bound_of (by rw [plus15_nodes]; simp [bndF, plus15, ev15, Pat.op, Pat.var]) (by simp)
theorem ex15_bound (a c : Ex) : (ex15 a c).bound = [0, 1, 2] := bound_of (by rw [ex15_nodes]; simp [bndF, ex15, plus15, ev15, Pat.op, Pat.var]) (by simp)
theorem ev15_ones (v : Int) (a : Ex) : (ev15 v a).ones = [v] := by simp [ev15, Pat.ones, keepsF]
theorem plus15_ones : plus15.ones = [] := by simp [plus15, Pat.ones, keepsF]
theorem ex15_ones (a c : Ex) : (ex15 a c).ones = [0, 2] := by
 rw [ex15, Pat.ones, if_pos (by decide), if_neg (by decide)]
 simp only [Pat.onesL]
 rw [ev15_ones, plus15_ones, ev15_ones, uni_1, uni_0 (by simp), uni_2 (by omega)]
theorem ex15_lf (a c : Ex) : Pat.lf PlcS (ex15 a c) = [(ex15 a c, PlcS), (ev15 0 a, PlcS), (plus15, ⟨[0], [0], -1⟩), (ev15 1 yesE, ⟨[0], [0], -1⟩), (ev15 2 c, ⟨[0, 1], [0], -1⟩)] := by
 have e1 : PlcS.plus (ev15 0 a) = ⟨[0], [0], -1⟩ := by simp only [Plc.plus, PlcS]; rw [ev15_bound, ev15_ones, uni_1]
 have e2 : Plc.plus ⟨[0], [0], -1⟩ plus15 = ⟨[0, 1], [0], -1⟩ := by simp only [Plc.plus]; rw [plus15_bound, plus15_ones, uni_2 (by omega), uni_0 (by simp)]
 have e3 : ∀ l v a, Pat.lf l (ev15 v a) = [(ev15 v a, l)] := fun l v a => by simp [ev15, Pat.lf, Pat.lfL]
 have e4 : ∀ l, Pat.lf l plus15 = [(plus15, l), (ev15 1 yesE, l)] := fun l => by
  rw [plus15, Pat.lf, Pat.lfL, Pat.lfL, e3]; rfl
 rw [ex15, Pat.lf, Pat.lfL, Pat.lfL, Pat.lfL, Pat.lfL, show decide ((1 : Int) = 1) = true from rfl, if_pos rfl, if_pos rfl, e1, e2, e3, e4, e3]
 rfl
theorem own_ev (l : Plc) (v : Int) (a : Ex) : (ev15 v a).own l = ⟨uniI l.us [v], uniI l.si [v], -1⟩ := by
 unfold Pat.own; rw [if_pos (show (ev15 v a).op = 0 from rfl)]; rfl
theorem own1 (a : Ex) : (ev15 0 a).own PlcS = ⟨[0], [0], -1⟩ := by rw [own_ev]; simp only [PlcS]; rw [uni_1]
theorem own3 (a : Ex) : (ev15 1 a).own ⟨[0], [0], -1⟩ = ⟨[0, 1], [0, 1], -1⟩ := by rw [own_ev, uni_2 (by omega)]
theorem own4 (a : Ex) : (ev15 2 a).own ⟨[0, 1], [0], -1⟩ = ⟨[0, 1, 2], [0, 2], -1⟩ := by rw [own_ev, uni_3 (by omega) (by omega), uni_2 (by omega)]
theorem leaf_chk (o v : Int) (ho : o = 1 ∨ o = 2 ∨ o = 3) (hv : 0 ≤ v ∧ v < 16) : (leafE o v).chk = 0 := by
 have h1 : (leafE o v).cnt = 1 := by simp [leafE, Ex.cnt, Ex.cntL]
 have h2 : (leafE o v).dep = 1 := by simp [leafE, Ex.dep, Ex.depL]
 have h3 : (leafE o v).nodes = [leafE o v] := by simp [leafE, Ex.nodes, Ex.nodesL]
 rw [Ex.chk, h1, h2, h3]
 rcases ho with rfl | rfl | rfl <;> simp [firstE, Ex.nodeE, leafE, Ex.op, Ex.args, Ex.var, Ex.fld, Ex.kind, Ex.val, Ex.formB, arityB, arityN, usesV, usesF] <;> omega
theorem below_nodes (o v : Int) : (belowE (leafE o v)).nodes = [belowE (leafE o v), leafE o v, .mk 0 [] 0 0 0 ⟨0, 1, ⟨#[]⟩⟩] := by
 simp [belowE, leafE, Ex.nodes, Ex.nodesL]
theorem below_chk (o v : Int) (ho : o = 1 ∨ o = 2 ∨ o = 3) (hv : 0 ≤ v ∧ v < 16) : (belowE (leafE o v)).chk = 0 := by
 have h1 : (belowE (leafE o v)).cnt = 3 := by simp [belowE, leafE, Ex.cnt, Ex.cntL]
 have h2 : (belowE (leafE o v)).dep = 2 := by simp [belowE, leafE, Ex.dep, Ex.depL]
 have hz : (⟨#[]⟩ : ByteArray).size = 0 := rfl
 have n1 : (belowE (leafE o v)).nodeE = 0 := by
  simp [Ex.nodeE, belowE, Ex.op, Ex.args, Ex.var, Ex.fld, Ex.kind, Ex.val, Ex.formB, arityB, arityN, usesV, usesF]
 have n3 : (Ex.mk 0 [] 0 0 0 ⟨0, 1, ⟨#[]⟩⟩).nodeE = 0 := by
  simp [hz, Ex.nodeE, Ex.op, Ex.args, Ex.var, Ex.fld, Ex.kind, Ex.val, Ex.consE, Ex.formB, arityB, arityN, usesV, usesF, Vl.chk, Vl.sizeE]
 have n2 : (leafE o v).nodeE = 0 := by
  have := leaf_chk o v ho hv
  have h1 : (leafE o v).cnt = 1 := by simp [leafE, Ex.cnt, Ex.cntL]
  have h2 : (leafE o v).dep = 1 := by simp [leafE, Ex.dep, Ex.depL]
  have h3 : (leafE o v).nodes = [leafE o v] := by simp [leafE, Ex.nodes, Ex.nodesL]
  rw [Ex.chk, h1, h2, h3, if_neg (by decide), if_neg (by decide), firstE] at this
  by_cases h : (leafE o v).nodeE = 0
  · exact h
  · rw [if_pos h] at this; exact this
 rw [Ex.chk, h1, h2, below_nodes, if_neg (by decide), if_neg (by decide)]
 exact firstE_ok fun q hq => by
  simp only [List.mem_cons, List.not_mem_nil, or_false] at hq
  rcases hq with rfl | rfl | rfl
  · exact n1
  · exact n2
  · exact n3
theorem below_sm (o v : Int) : (belowE (leafE o v)).Sm := by simp [Ex.Sm, belowE, leafE, Ex.cnt, Ex.cntL]
theorem leaf_sm (o v : Int) : (leafE o v).Sm := by simp [Ex.Sm, leafE, Ex.cnt, Ex.cntL]
theorem yes15_sm : yesE.Sm := by simp [Ex.Sm, yesE, Ex.cnt, Ex.cntL]
theorem yes15_chk : yesE.chk = 0 := by
 have h1 : yesE.cnt = 1 := by simp [yesE, Ex.cnt, Ex.cntL]
 have h2 : yesE.dep = 1 := by simp [yesE, Ex.dep, Ex.depL]
 have h3 : yesE.nodes = [yesE] := by simp [yesE, Ex.nodes, Ex.nodesL]
 rw [Ex.chk, h1, h2, h3]
 have hz : (⟨#[]⟩ : ByteArray).size = 0 := rfl
 simp [hz, firstE, Ex.nodeE, yesE, Ex.op, Ex.args, Ex.var, Ex.fld, Ex.kind, Ex.val, Ex.consE, Ex.formB, arityB, arityN, usesV, usesF, Vl.chk, Vl.sizeE]
theorem ex15_sm {a c : Ex} (ha : a.Sm) (hc : c.Sm) : (ex15 a c).Sm := by
 refine (Pat.Sm_iff _).2 ⟨by rw [ex15_nodes]; simp, ?_⟩
 rw [ex15_nodes]
 intro q hq
 have h0 : Ex0.Sm := by simp [Ex.Sm, Ex0, Ex.cnt, Ex.cntL]
 simp only [List.mem_cons, List.not_mem_nil, or_false] at hq
 rcases hq with rfl | rfl | rfl | rfl | rfl
 · exact h0
 · exact ha
 · exact h0
 · exact yes15_sm
 · exact hc
theorem ev15_node (v : Int) (hv : 0 ≤ v ∧ v ≤ 15) {a : Ex} (ha : a.chk = 0) : (ev15 v a).nodeE = 0 := by
 simp [Pat.nodeE, ev15, Pat.op, Pat.args, Pat.ty, Pat.var, Pat.scope, Pat.span, Pat.cond, leastF, mostF, typedF, condF, scopeF, spanF, ha]
 omega
theorem ex15_chk {a c : Ex} (ha : a.chk = 0) (hc : c.chk = 0) : (ex15 a c).chk = 0 := by
 have h0 : ∀ q ∈ (ex15 a c).nodes, q.nodeE = 0 := by
  rw [ex15_nodes]
  intro q hq
  simp only [List.mem_cons, List.not_mem_nil, or_false] at hq
  rcases hq with rfl | rfl | rfl | rfl | rfl
  · simp [Pat.nodeE, ex15, Pat.op, Pat.args, Pat.ty, Pat.var, Pat.scope, Pat.span, Pat.cond, leastF, mostF, typedF, condF, scopeF, spanF]
  · exact ev15_node _ (by omega) ha
  · simp [Pat.nodeE, plus15, Pat.op, Pat.args, Pat.ty, Pat.var, Pat.scope, Pat.span, Pat.cond, leastF, mostF, typedF, condF, scopeF, spanF]
  · exact ev15_node _ (by omega) yes15_chk
  · exact ev15_node _ (by omega) hc
 have h1 : (ex15 a c).cnt = 5 := by rw [← Pat.nodes_len, ex15_nodes]; rfl
 have h2 : (ex15 a c).dep = 3 := by simp [ex15, plus15, ev15, Pat.dep, Pat.depL]
 have h3 : (ex15 a c).chkR = 0 := by
  rw [Pat.chkR, h1, h2, if_neg (by decide), if_neg (by decide)]
  exact firstE_ok h0
 have h4 : (ex15 a c).wholeE = 0 := by
  rw [Pat.wholeE, h3, ex15_nodes]
  simp [firstE, ex15, plus15, ev15, Pat.op]
 rw [Pat.chk, h4, ex15_nodes]
 simp [cfold, cstep, ex15, plus15, ev15, Pat.op, Pat.var, Pat.scope, typedF, scopeF]
theorem ex15_at4 {a c : Ex} (ha : a.chk = 0) (hc : c.chk = 0) : (ex15 a c).atE 4 = 0 ∧ (ex15 a c).atP 4 = ⟨[0, 1, 2], [0, 2], -1⟩ := by
 have h1 : (ex15 a c).atE 4 = 0 := by
  rw [Pat.atE, ex15_chk ha hc, Pat.nodeAt, ex15_nodes]; simp [ev15, Pat.op, testsF]
 refine ⟨h1, ?_⟩
 rw [Pat.atP, h1, if_pos rfl, ex15_lf]
 exact own4 c
theorem ex15_at3 {a c : Ex} (ha : a.chk = 0) (hc : c.chk = 0) : (ex15 a c).atE 3 = 0 ∧ (ex15 a c).atP 3 = ⟨[0, 1], [0, 1], -1⟩ := by
 have h1 : (ex15 a c).atE 3 = 0 := by
  rw [Pat.atE, ex15_chk ha hc, Pat.nodeAt, ex15_nodes]; simp [ev15, Pat.op, testsF]
 refine ⟨h1, ?_⟩
 rw [Pat.atP, h1, if_pos rfl, ex15_lf]
 exact own3 yesE
theorem yes_fol (s : Plc) : yesE.fol s = 0 := by
 have h3 : yesE.nodes = [yesE] := by simp [yesE, Ex.nodes, Ex.nodesL]
 rw [Ex.fol, h3]; simp [firstE, folE, yesE, Ex.op]
theorem below_fol (s : Plc) (o v : Int) : (belowE (leafE o v)).fol s = folE s (leafE o v) := by
 have e1 : folE s (belowE (leafE o v)) = 0 := by simp [folE, belowE, Ex.op]
 have e3 : folE s (.mk 0 [] 0 0 0 ⟨0, 1, ⟨#[]⟩⟩) = 0 := by simp [folE, Ex.op]
 rw [Ex.fol, below_nodes]
 simp only [firstE]
 rw [e1, e3]
 generalize folE s (leafE o v) = z
 by_cases h : z = 0 <;> simp [h]
theorem leaf_fol (s : Plc) (o v : Int) : (leafE o v).fol s = folE s (leafE o v) := by
 have h3 : (leafE o v).nodes = [leafE o v] := by simp [leafE, Ex.nodes, Ex.nodesL]
 rw [Ex.fol, h3]
 simp only [firstE]
 generalize folE s (leafE o v) = z
 by_cases h : z = 0 <;> simp [h]
theorem ex15_sc {a c : Ex} (ha : a.chk = 0) (hc : c.chk = 0) : (ex15 a c).scE = (if a.fol ⟨[0], [0], -1⟩ ≠ 0 then a.fol ⟨[0], [0], -1⟩ else c.fol ⟨[0, 1, 2], [0, 2], -1⟩) ∧
 (ex15 a c).scI = (if a.fol ⟨[0], [0], -1⟩ ≠ 0 then 1 else if c.fol ⟨[0, 1, 2], [0, 2], -1⟩ ≠ 0 then 4 else 0) := by
 have c0 : condE (ex15 a c, PlcS) = 0 := by simp [condE, ex15, Pat.op, testsF]
 have c1 : condE (ev15 0 a, PlcS) = a.fol ⟨[0], [0], -1⟩ := by
  unfold condE; rw [if_pos (by rfl)]; show a.fol ((ev15 0 a).own PlcS) = _; rw [own1]
 have c2 : condE (plus15, ⟨[0], [0], -1⟩) = 0 := by simp [condE, plus15, Pat.op, testsF]
 have c3 : condE (ev15 1 yesE, ⟨[0], [0], -1⟩) = 0 := by
  unfold condE; rw [if_pos (by rfl)]; exact yes_fol _
 have c4 : condE (ev15 2 c, ⟨[0, 1], [0], -1⟩) = c.fol ⟨[0, 1, 2], [0, 2], -1⟩ := by
  unfold condE; rw [if_pos (by rfl)]; show c.fol ((ev15 2 c).own _) = _; rw [own4]
 have hk := ex15_chk ha hc
 rw [scE_eq hk, scI_eq hk, ex15_lf]
 simp only [firstE, idxE, c0, c1, c2, c3, c4]
 generalize a.fol ⟨[0], [0], -1⟩ = x
 generalize c.fol ⟨[0, 1, 2], [0, 2], -1⟩ = y
 by_cases hx : x = 0 <;> by_cases hy : y = 0 <;> simp [hx, hy]
theorem sc_a : (ex15 yesE (belowE (leafE 1 1))).scE = 11 ∧ (ex15 yesE (belowE (leafE 1 1))).scI = 4 := by
 obtain ⟨h1, h2⟩ := ex15_sc yes15_chk (below_chk 1 1 (by omega) (by omega))
 rw [yes_fol, below_fol, show folE ⟨[0, 1, 2], [0, 2], -1⟩ (leafE 1 1) = 11 by simp [folE, leafE, Ex.op, Ex.var]] at h1 h2
 exact ⟨h1, h2⟩
theorem sc_b : (ex15 (belowE (leafE 1 2)) yesE).scE = 10 ∧ (ex15 (belowE (leafE 1 2)) yesE).scI = 1 := by
 obtain ⟨h1, h2⟩ := ex15_sc (below_chk 1 2 (by omega) (by omega)) yes15_chk
 rw [below_fol, show folE ⟨[0], [0], -1⟩ (leafE 1 2) = 10 by simp [folE, leafE, Ex.op, Ex.var]] at h1 h2
 exact ⟨h1, h2⟩
theorem sc_c : (ex15 yesE (belowE (leafE 3 1))).scE = 0 ∧ (ex15 yesE (belowE (leafE 3 1))).scI = 0 := by
 obtain ⟨h1, h2⟩ := ex15_sc yes15_chk (below_chk 3 1 (by omega) (by omega))
 rw [yes_fol, below_fol, show folE ⟨[0, 1, 2], [0, 2], -1⟩ (leafE 3 1) = 0 by simp [folE, leafE, Ex.op, Ex.var]] at h1 h2
 exact ⟨h1, h2⟩
theorem rt_a : (ex15 yesE yesE).rtE [leafE 1 0, leafE 3 1, leafE 2 1] = 11 ∧ (ex15 yesE yesE).rtI [leafE 1 0, leafE 3 1, leafE 2 1] = 2 := by
 have hk := ex15_chk yes15_chk yes15_chk
 have hp : (ex15 yesE yesE).retP = ⟨[0, 1, 2], [0, 2], -1⟩ := by rw [Pat.retP, ex15_bound, ex15_ones]
 have r1 : retE ⟨[0, 1, 2], [0, 2], -1⟩ (leafE 1 0) = 0 := by
  rw [retE, leaf_chk _ _ (by omega) (by omega), leaf_fol]; simp [folE, leafE, Ex.op, Ex.var]
 have r2 : retE ⟨[0, 1, 2], [0, 2], -1⟩ (leafE 3 1) = 0 := by
  rw [retE, leaf_chk _ _ (by omega) (by omega), leaf_fol]; simp [folE, leafE, Ex.op, Ex.var]
 have r3 : retE ⟨[0, 1, 2], [0, 2], -1⟩ (leafE 2 1) = 11 := by
  rw [retE, leaf_chk _ _ (by omega) (by omega), leaf_fol]; simp [folE, leafE, Ex.op, Ex.var]
 rw [rtE_eq hk (by decide), rtI_eq hk (by decide), hp]
 simp [firstE, idxE, r1, r2, r3]
theorem P_truth : PCall EE 20 [] yesE.enc := by
 have h1 : PCall EE 41 [bool true] (.agg [int 1, int 1, str ⟨#[]⟩]) := P_Flag true
 rw [yesE.enc_eq]
 refine wordsN ?_; unhygienic intros
 refine fn_body (fn := Tryz.f20) (n := 3) (ac := Tryzc20) (rvs := [.cell 0 8 true]) rfl (by decide) Tryzp20 rfl rfl rfl ?_
 refine goA 60 ?_
 refine pcA h1 ?_
 refine goA 60 ?_
 refine fn_ret rfl rfl ?_
 exact ⟨[.gone], ⟨trivial, trivial⟩, .agg' ⟨.refl _, .nilI _, .refl _, .refl _, .refl _, .refl _, .refl _, .refl _, trivial⟩⟩
theorem P_below (e : Ex) : PCall EE 21 [e.enc] (belowE e).enc := by
 have hR : (belowE e).enc = .agg [int 7, .isl 8 [e.enc, .agg [int 0, .isl 8 [], int 0, int 0, int 0, int 0, int 1, str ⟨#[]⟩]], int 0, int 0, int 0, int 0, int 0, str ⟨#[]⟩] := by
  simp only [belowE, Ex.enc_mk, mapE_eq, List.map_cons, List.map_nil, Vl0]
 rw [hR]
 have c1 := Ex.closed e
 obtain ⟨eO, eA, eV, eF, eK, eXk, eXn, eXt, hx1⟩ := Ex.form e
 rw [hx1] at c1 ⊢
 clear hR hx1
 refine PCall.weak2 (v := .agg [int 7, .isl 8 [.agg [int eO, .isl 8 eA, int eV, int eF, int eK, int eXk, int eXn, str eXt], .agg [int 0, .val (.slice none 0 0), int 0, int 0, int 0, int 0, int 1, str ⟨#[]⟩]], int 0, int 0, int 0, int 0, int 0, str ⟨#[]⟩]) ?_ ?_
 rotate_left
 · exact .agg' ⟨.refl _, .isl' ⟨.refl _, ⟨.refl _, .nilI _, .refl _, .refl _, .refl _, .refl _, .refl _, .refl _, trivial⟩, trivial⟩, .refl _, .refl _, .refl _, .refl _, .refl _, .refl _, trivial⟩
 refine wordsN ?_; unhygienic intros
 refine fn_body (fn := Tryz.f21) (n := 8) (ac := Tryzc21) (rvs := [.cell 2 8 true]) rfl (by decide) Tryzp21 rfl rfl rfl ?_
 refine goA 60 ?_
 refine fn_ret rfl rfl ?_
 have hp1 : ∀ σ, AV.sub σ (.agg [int eO, .isl 8 eA, int eV, int eF, int eK, int eXk, int eXn, str eXt]) = .agg [int eO, .isl 8 eA, int eV, int eF, int eK, int eXk, int eXn, str eXt] := fun σ => sub_closed _ _ _ (Nat.le_refl _) c1
 exact ⟨[.gone, .gone, .isl 8 [.agg [int eO, .isl 8 eA, int eV, int eF, int eK, int eXk, int eXn, str eXt], .agg [int 0, .val (.slice none 0 0), int 0, int 0, int 0, int 0, int 1, str ⟨#[]⟩]]], ⟨trivial, trivial, ⟨_, rfl, by simp only [AV.subL, hp1]; rfl⟩, trivial⟩, .of rfl⟩
theorem P_ex15 (a c : Ex) : PCall EE 19 [a.enc, c.enc] (ex15 a c).enc := by
 have h1 := P_truth
 rw [yesE.enc_eq] at h1
 have hR : (ex15 a c).enc = .agg [int 1, .isl 14 [(Pat.mk 0 [] 0 0 0 0 a).enc, .agg [int 4, .isl 14 [.agg [int 0, .isl 14 [], int 0, int 1, int 0, int 0, int 0, .isl 8 [], int 0, int 0, int 0, int 1, int 1, str ⟨#[]⟩]], int 0, int 0, int 0, int 0, int 0, .isl 8 [], int 0, int 0, int 0, int 0, int 0, str ⟨#[]⟩], (Pat.mk 0 [] 0 2 0 0 c).enc], int 0, int 0, int 0, int 0, int 0, .isl 8 [], int 0, int 0, int 0, int 0, int 0, str ⟨#[]⟩] := by
  simp only [ex15, plus15, ev15, Ex0, yesE, Pat.enc_mk, mapE_eq, List.map_cons, List.map_nil, Vl0]
 rw [hR]
 have c1 := Ex.closed a
 have c2 := Ex.closed c
 obtain ⟨aO, aA, aV, aF, aK, aXk, aXn, aXt, hx1⟩ := Ex.form a
 obtain ⟨cO, cA, cV, cF, cK, cXk, cXn, cXt, hx2⟩ := Ex.form c
 have e1 := Pat.enc_c 0 [] 0 0 0 0 hx1
 have e2 := Pat.enc_c 0 [] 0 2 0 0 hx2
 have hnil : mapE Pat.enc [] = [] := by rw [mapE_eq]; rfl
 rw [hnil] at e1 e2
 simp only [List.cons_append, List.nil_append] at e1 e2
 rw [hx1] at c1 ⊢
 rw [hx2] at c2 ⊢
 rw [e1, e2]
 clear hR hx1 hx2 e1 e2 hnil
 refine PCall.weak2 (v := .agg [int 1, .isl 14 [.agg [int 0, .val (.slice none 0 0), int 0, int 0, int 0, int 0, int aO, .isl 8 aA, int aV, int aF, int aK, int aXk, int aXn, str aXt], .agg [int 4, .isl 14 [.agg [int 0, .val (.slice none 0 0), int 0, int 1, int 0, int 0, int 0, .isl 8 [], int 0, int 0, int 0, int 1, int 1, str ⟨#[]⟩]], int 0, int 0, int 0, int 0, int 0, .val (.slice none 0 0), int 0, int 0, int 0, int 0, int 0, str ⟨#[]⟩], .agg [int 0, .val (.slice none 0 0), int 0, int 2, int 0, int 0, int cO, .isl 8 cA, int cV, int cF, int cK, int cXk, int cXn, str cXt]], int 0, int 0, int 0, int 0, int 0, .val (.slice none 0 0), int 0, int 0, int 0, int 0, int 0, str ⟨#[]⟩]) ?_ ?_
 rotate_left
 · exact .agg' ⟨.refl _, .isl' ⟨⟨.refl _, .nilI _, .refl _, .refl _, .refl _, .refl _, .refl _, .refl _, .refl _, .refl _, .refl _, .refl _, .refl _, .refl _, trivial⟩, ⟨.refl _, .isl' ⟨⟨.refl _, .nilI _, .refl _, .refl _, .refl _, .refl _, .refl _, .refl _, .refl _, .refl _, .refl _, .refl _, .refl _, .refl _, trivial⟩, trivial⟩, .refl _, .refl _, .refl _, .refl _, .refl _, .nilI _, .refl _, .refl _, .refl _, .refl _, .refl _, .refl _, trivial⟩, ⟨.refl _, .nilI _, .refl _, .refl _, .refl _, .refl _, .refl _, .refl _, .refl _, .refl _, .refl _, .refl _, .refl _, .refl _, trivial⟩, trivial⟩, .refl _, .refl _, .refl _, .refl _, .refl _, .nilI _, .refl _, .refl _, .refl _, .refl _, .refl _, .refl _, trivial⟩
 refine wordsN ?_; unhygienic intros
 refine fn_body (fn := Tryz.f19) (n := 17) (ac := Tryzc19) (rvs := [.cell 4 14 true]) rfl (by decide) Tryzp19 rfl rfl rfl ?_
 refine goA 60 ?_
 refine pcA h1 ?_
 refine goA 60 ?_
 refine fn_ret rfl rfl ?_
 have ka : (AV.agg [int 0, .val (.slice none 0 0), int 0, int 0, int 0, int 0, int aO, .isl 8 aA, int aV, int aF, int aK, int aXk, int aXn, str aXt]).closed = true := by simpa [AV.closed, AV.closedL] using c1
 have kc : (AV.agg [int 0, .val (.slice none 0 0), int 0, int 2, int 0, int 0, int cO, .isl 8 cA, int cV, int cF, int cK, int cXk, int cXn, str cXt]).closed = true := by simpa [AV.closed, AV.closedL] using c2
 have hp1 : ∀ σ, AV.sub σ (.agg [int 0, .val (.slice none 0 0), int 0, int 0, int 0, int 0, int aO, .isl 8 aA, int aV, int aF, int aK, int aXk, int aXn, str aXt]) = .agg [int 0, .val (.slice none 0 0), int 0, int 0, int 0, int 0, int aO, .isl 8 aA, int aV, int aF, int aK, int aXk, int aXn, str aXt] := fun σ => sub_closed _ _ _ (Nat.le_refl _) ka
 have hp2 : ∀ σ, AV.sub σ (.agg [int 0, .val (.slice none 0 0), int 0, int 2, int 0, int 0, int cO, .isl 8 cA, int cV, int cF, int cK, int cXk, int cXn, str cXt]) = .agg [int 0, .val (.slice none 0 0), int 0, int 2, int 0, int 0, int cO, .isl 8 cA, int cV, int cF, int cK, int cXk, int cXn, str cXt] := fun σ => sub_closed _ _ _ (Nat.le_refl _) kc
 exact ⟨[.gone, .gone, .gone, .isl 14 [.agg [int 0, .val (.slice none 0 0), int 0, int 1, int 0, int 0, int 0, .isl 8 [], int 0, int 0, int 0, int 1, int 1, str ⟨#[]⟩]], .gone, .isl 14 [.agg [int 0, .val (.slice none 0 0), int 0, int 0, int 0, int 0, int aO, .isl 8 aA, int aV, int aF, int aK, int aXk, int aXn, str aXt], .agg [int 4, .isl 14 [.agg [int 0, .val (.slice none 0 0), int 0, int 1, int 0, int 0, int 0, .isl 8 [], int 0, int 0, int 0, int 1, int 1, str ⟨#[]⟩]], int 0, int 0, int 0, int 0, int 0, .val (.slice none 0 0), int 0, int 0, int 0, int 0, int 0, str ⟨#[]⟩], .agg [int 0, .val (.slice none 0 0), int 0, int 2, int 0, int 0, int cO, .isl 8 cA, int cV, int cF, int cK, int cXk, int cXn, str cXt]]], ⟨trivial, trivial, trivial, ⟨_, rfl, by rfl⟩, trivial, ⟨_, rfl, by simp only [AV.subL, hp1, hp2]; rfl⟩, trivial⟩, .of rfl⟩
theorem O_Grow (n : Nat) (hn : n < 500000000000) : OCall EE 81 [.val (.slice none 0 0), int n] (.sl 0 1 0 0) [.arr 1 []] := by
 have hn0 : (0 : Int) ≤ n := by omega
 have hn1 : (n : Int) < 500000000000 := by omega
 generalize (n : Int) = m at hn0 hn1 ⊢
 refine wordsN ?_; unhygienic intros
 refine ocall_body (fn := Tryz.f81) (n := 27) (ac := Tryzc81) (rvs := [.t 4]) rfl (by decide) Tryzp81 rfl rfl rfl ?_
 refine goA 0 ?_
 refine on_cond rfl (fun h1 => ?_) (fun h1 => ?_)
 · exfalso
   simp [ee] at h1
   omega
 have hs0 : iSub .i64 (Int.ofNat 0) (Int.ofNat 0) = 0 := by rw [e_iSub]; simp [Wd.iSub, IntKind.wrap_i64]
 have hs : iSub .i64 m 0 = m := by
  rw [e_iSub]; simp [Wd.iSub, IntKind.wrap_i64]; omega
 refine goB hX 0 (by conv => lhs; cbv; simp only [hs0,hs]; cbv) ?_
 refine on_cond rfl (fun h2 => ?_) (fun h2 => ?_)
 · simp [ee] at h2
   refine goA 0 ?_
   exact o_ret (F2 := [(4, .sl 0 1 0 0)]) (H2 := [.arr 1 []]) (.trans (ent_trunc (b := 0) (m := 0) rfl (by simp)) (ent_sub [.to 0] [some 0] ⟨⟨by simp, rfl⟩, trivial⟩ ⟨osrc_arr (b := 0) rfl rfl rfl rfl rfl, trivial⟩ ⟨.of (by simp only [ee]; rfl), trivial⟩)) rfl ⟨rfl, rfl⟩
 · simp [ee] at h2
   refine goA 0 ?_
   exact o_ret (F2 := [(4, .sl 0 1 0 0)]) (H2 := [.arr 1 []]) (ent_sub [] [none] trivial ⟨.none 1 rfl, trivial⟩ ⟨.nilS 0 1 0 (by simp), trivial⟩) rfl ⟨rfl, rfl⟩
theorem O_Concat (a b : List Int) (ha : a.length < 1048577) (hb : b.length < 1048577) : OCall EE 68 [.isl 1 [.isl 1 (mapE int a), .isl 1 (mapE int b)]] (.sl 0 1 0 (a ++ b).length) [.arr 1 (mapE int (a ++ b))] := by
 have hg := O_Grow (a.length + b.length) (by omega)
 have hal : (mapE int a).length = a.length := mapE_len ..
 have hbl : (mapE int b).length = b.length := mapE_len ..
 have hac := closedL_int a
 have hbc := closedL_int b
 have haf := fitInt a
 have hbf := fitInt b
 have hab : mapE int (a ++ b) = mapE int a ++ mapE int b := by rw [mapE_eq, mapE_eq, mapE_eq, List.map_append]
 rw [hab]
 obtain ⟨al, hal2⟩ : ∃ z : Int, z = a.length := ⟨_, rfl⟩
 obtain ⟨tl, htl2⟩ : ∃ z : Int, z = ((a.length + b.length : Nat) : Int) := ⟨_, rfl⟩
 obtain ⟨la, hla⟩ : ∃ z : Nat, z = a.length := ⟨_, rfl⟩
 rw [← htl2] at hg
 obtain ⟨lab, hlab⟩ : ∃ z : Nat, z = (a ++ b).length := ⟨_, rfl⟩
 rw [← hlab]
 rw [List.length_append] at hlab
 generalize hea : mapE int a = ea at *
 generalize heb : mapE int b = eb at *
 obtain ⟨eab, heab⟩ : ∃ z, z = ea ++ eb := ⟨_, rfl⟩
 rw [← heab]
 have habc : AV.closedL eab = true := by rw [heab]; exact closedL_append hac hbc
 have hablen : eab.length = lab := by rw [heab, List.length_append]; omega
 refine wordsN ?_; unhygienic intros
 have hi0 : iAdd .i64 0 1 = 1 := by rw [add_w e_iAdd (by omega) (by omega)]; rfl
 have hi1 : iAdd .i64 1 1 = 2 := by rw [add_w e_iAdd (by omega) (by omega)]; rfl
 have hl2 : lenA [.isl 1 ea, .isl 1 eb] = 2 := by simp only [ee]; rfl
 have ht0 : atA [.isl 1 ea, .isl 1 eb] 0 = .isl 1 ea := by simp only [ee]; rfl
 have ht1 : atA [.isl 1 ea, .isl 1 eb] 1 = .isl 1 eb := by simp only [ee]; rfl
 have c0 : iLt 0 2 = true := by simp only [ee]; rfl
 have c1 : iLt 1 2 = true := by simp only [ee]; rfl
 have c2 : iLt 2 2 = false := by simp only [ee]; rfl
 have s1 : iAdd .i64 0 (lenA ea) = al := by rw [add_w e_iAdd (by simp only [ee]; omega) (by simp only [ee]; omega)]; simp only [ee]; omega
 have s2 : iAdd .i64 al (lenA eb) = tl := by rw [add_w e_iAdd (by simp only [ee]; omega) (by simp only [ee]; omega)]; simp only [ee]; omega
 have n1 : iLt al 0 = false := by simp only [ee]; simp; omega
 have n2 : iLt tl 0 = false := by simp only [ee]; simp; omega
 have hcI : (AV.isl 1 [.isl 1 ea, .isl 1 eb]).closed = true := by simp [AV.closed, AV.closedL, hac, hbc]
 have haI : (AV.isl 1 ea).closed = true := by simp [AV.closed, hac]
 have hbI : (AV.isl 1 eb).closed = true := by simp [AV.closed, hbc]
 have u1 : catA (dropA [] 0) ea = ea := by simp only [ee]; rfl
 have u2 : addN 0 (lenN ea) = la := by simp only [ee]; omega
 have u3 : catA (dropA ea 0) eb = eab := by simp only [ee]; rw [heab]; rfl
 have u4 : addN la (lenN eb) = lab := by simp only [ee]; omega
 refine ocall_body (fn := Tryz.f68) (n := 36) (ac := Tryzc68) (rvs := [.t 2]) rfl (by decide) Tryzp68 rfl rfl rfl ?_
 refine goB hX 0 (by conv => lhs; cbv; try simp only [hl2]; cbv; try simp only [hl2]; cbv; try simp only [hl2]; cbv; try simp only [hl2]; cbv) ?_
 refine goA 60 ?_
 refine on_loopP (ι := Int × Int) (fun p => ([(11, int p.1), (10, int 2), (9, .isl 1 [.isl 1 ea, .isl 1 eb]), (0, .isl 1 [.isl 1 ea, .isl 1 eb]), (3, int p.2)], [])) (fun p => (p.1 = 0 ∧ p.2 = 0) ∨ (p.1 = 1 ∧ p.2 = al) ∨ (p.1 = 2 ∧ p.2 = tl)) (fun p => (2 - p.1).toNat) (0, 0) (.inl ⟨rfl, rfl⟩) ?_ ?_
 · exact (ent_sub [] [] trivial trivial ⟨.refl _, .refl _, .cl hcI, .cl hcI, .refl _, trivial⟩)
 rintro ⟨i, t⟩ gi
 dsimp only at gi ⊢
 rcases gi with ⟨gi, gt⟩ | ⟨gi, gt⟩ | ⟨gi, gt⟩
 · rw [gi, gt]
   refine goB hX 0 (by conv => lhs; cbv; try simp only [c0, hi0, ht0, s1, n1]; cbv; try simp only [c0, hi0, ht0, s1, n1]; cbv; try simp only [c0, hi0, ht0, s1, n1]; cbv; try simp only [c0, hi0, ht0, s1, n1]; cbv) ?_
   refine goB hX 1 (by conv => lhs; cbv; try simp only [c0, hi0, ht0, s1, n1]; cbv; try simp only [c0, hi0, ht0, s1, n1]; cbv; try simp only [c0, hi0, ht0, s1, n1]; cbv; try simp only [c0, hi0, ht0, s1, n1]; cbv) ?_
   refine goA 60 ?_
   refine loopP_next (1, al) (.inr (.inl ⟨rfl, rfl⟩)) (by simp) (ent_sub [] [] trivial trivial ⟨.of (congrArg int (by assumption)), .refl _, .cl hcI, .cl hcI, .refl _, trivial⟩)
 · rw [gi, gt]
   refine goB hX 0 (by conv => lhs; cbv; try simp only [c1, hi1, ht1, s2, n2]; cbv; try simp only [c1, hi1, ht1, s2, n2]; cbv; try simp only [c1, hi1, ht1, s2, n2]; cbv; try simp only [c1, hi1, ht1, s2, n2]; cbv) ?_
   refine goB hX 1 (by conv => lhs; cbv; try simp only [c1, hi1, ht1, s2, n2]; cbv; try simp only [c1, hi1, ht1, s2, n2]; cbv; try simp only [c1, hi1, ht1, s2, n2]; cbv; try simp only [c1, hi1, ht1, s2, n2]; cbv) ?_
   refine goA 60 ?_
   refine loopP_next (2, tl) (.inr (.inr ⟨rfl, rfl⟩)) (by simp) (ent_sub [] [] trivial trivial ⟨.of (congrArg int (by assumption)), .refl _, .cl hcI, .cl hcI, .refl _, trivial⟩)
 rw [gi, gt]
 clear gi gt i t
 refine goB hX 0 (by conv => lhs; cbv; try simp only [c2]; cbv; try simp only [c2]; cbv; try simp only [c2]; cbv; try simp only [c2]; cbv) ?_
 refine goA 60 ?_
 refine loopP_exit ?_
 refine goA 60 ?_
 refine on_ocall (args := [.val (.slice none 0 0), int tl]) (v' := .sl 0 1 0 0) (H' := [.arr 1 []]) rfl rfl rfl hg rfl rfl rfl ?_
 refine goB hX 0 (by conv => lhs; cbv; try simp only [hl2]; cbv; try simp only [hl2]; cbv; try simp only [hl2]; cbv; try simp only [hl2]; cbv) ?_
 refine goA 60 ?_
 refine on_loopP (ι := Int × Nat × List AV) (fun p => ([(27, int p.1), (26, int 2), (25, .isl 1 [.isl 1 ea, .isl 1 eb]), (6, .sl 0 1 0 p.2.1)], [.arr 1 p.2.2])) (fun p => (p.1 = 0 ∧ p.2.1 = 0 ∧ p.2.2 = []) ∨ (p.1 = 1 ∧ p.2.1 = la ∧ p.2.2 = ea) ∨ (p.1 = 2 ∧ p.2.1 = lab ∧ p.2.2 = eab)) (fun p => (2 - p.1).toNat) (0, 0, []) (.inl ⟨rfl, rfl, rfl⟩) ?_ ?_
 · exact (ent_sub [.to 0] [some 0] ⟨⟨by simp, rfl⟩, trivial⟩ ⟨osrc_arr (b := 0) rfl rfl rfl rfl (by rfl), trivial⟩ ⟨.refl _, .refl _, .cl hcI, .refl _, trivial⟩)
 rintro ⟨i, m, w⟩ gi
 dsimp only at gi ⊢
 rcases gi with ⟨gi, gm, gw⟩ | ⟨gi, gm, gw⟩ | ⟨gi, gm, gw⟩
 · rw [gi, gm, gw]
   refine goB hX 0 (by conv => lhs; cbv; try simp only [c0, hi0, ht0, u1, u2]; cbv; try simp only [c0, hi0, ht0, u1, u2]; cbv; try simp only [c0, hi0, ht0, u1, u2]; cbv; try simp only [c0, hi0, ht0, u1, u2]; cbv) ?_
   refine goB hX 1 (by conv => lhs; cbv; try simp only [c0, hi0, ht0, u1, u2]; cbv; try simp only [c0, hi0, ht0, u1, u2]; cbv; try simp only [c0, hi0, ht0, u1, u2]; cbv; try simp only [c0, hi0, ht0, u1, u2]; cbv) ?_
   refine loopP_next (1, la, ea) (.inr (.inl ⟨rfl, rfl, rfl⟩)) (by simp) (ent_sub [.gone, .to 0] [some 1] ⟨trivial, ⟨by simp, rfl⟩, trivial⟩ ⟨osrc_arr (b := 1) rfl rfl rfl rfl hac, trivial⟩ ⟨.refl _, .refl _, .cl hcI, .refl _, trivial⟩)
 · rw [gi, gm, gw]
   refine goB hX 0 (by conv => lhs; cbv; try simp only [c1, hi1, ht1, u3, u4]; cbv; try simp only [c1, hi1, ht1, u3, u4]; cbv; try simp only [c1, hi1, ht1, u3, u4]; cbv; try simp only [c1, hi1, ht1, u3, u4]; cbv) ?_
   refine goB hX 1 (by conv => lhs; cbv; try simp only [c1, hi1, ht1, u3, u4]; cbv; try simp only [c1, hi1, ht1, u3, u4]; cbv; try simp only [c1, hi1, ht1, u3, u4]; cbv; try simp only [c1, hi1, ht1, u3, u4]; cbv) ?_
   refine loopP_next (2, lab, eab) (.inr (.inr ⟨rfl, rfl, rfl⟩)) (by simp) (ent_sub [.gone, .to 0] [some 1] ⟨trivial, ⟨by simp, rfl⟩, trivial⟩ ⟨osrc_arr (b := 1) rfl rfl rfl rfl habc, trivial⟩ ⟨.refl _, .refl _, .cl hcI, .refl _, trivial⟩)
 rw [gi, gm, gw]
 refine goB hX 0 (by conv => lhs; cbv; try simp only [c2]; cbv; try simp only [c2]; cbv; try simp only [c2]; cbv; try simp only [c2]; cbv) ?_
 refine goA 60 ?_
 refine loopP_exit ?_
 refine goA 60 ?_
 refine o_ret (F2 := [(2, .sl 0 1 0 lab)]) (H2 := [.arr 1 eab]) ?_ rfl ⟨rfl, rfl⟩
 exact (ent_sub [.to 0] [some 0] ⟨⟨by simp, rfl⟩, trivial⟩ ⟨osrc_arr (b := 0) rfl rfl rfl rfl habc, trivial⟩ ⟨.refl _, trivial⟩)
theorem P_union (a b : List Int) (ha : a.length < 1048577) (hb : b.length < 1048577) : PCall EE 48 [.isl 1 (mapE int a), .isl 1 (mapE int b)] (.isl 1 (mapE int (uniI a b))) := by
 have h1 := O_Concat a b ha hb
 have hlen : (a ++ b).length < 4611686018427387904 := by rw [List.length_append]; omega
 have hss := C_Sort (a ++ b) hlen
 have hcc := C_Compact (sortI (a ++ b)) (by rw [sort_len]; exact hlen)
 rw [sort_len] at hcc
 have hR : uniI a b = Lib.compact (sortI (a ++ b)) := rfl
 have hac := closedL_int a
 have hbc := closedL_int b
 have haI := closedI_int a
 have hbI := closedI_int b
 have c1 := closedL_int (a ++ b)
 have c2 := closedL_int (sortI (a ++ b))
 have c3 := closedL_int (compI (sortI (a ++ b)))
 have hR2 : mapE int (uniI a b) = (mapE int (compI (sortI (a ++ b)))).take (uniI a b).length := by
  rw [hR, compI, mapE_eq, mapE_eq, List.map_append, List.take_left' (by simp)]
 have hle : (uniI a b).length ≤ (mapE int (compI (sortI (a ++ b)))).length := by
  rw [hR, mapE_len, compI_len]; exact compact_le _
 have hRc := closedL_int (uniI a b)
 rw [← hR] at hcc
 have hRl : (mapE int (uniI a b)).length = (uniI a b).length := mapE_len ..
 generalize mapE int a = ea at *
 generalize mapE int b = eb at *
 generalize mapE int (a ++ b) = w1 at *
 generalize mapE int (sortI (a ++ b)) = w2 at *
 generalize mapE int (compI (sortI (a ++ b))) = w3 at *
 generalize mapE int (uniI a b) = wr at *
 generalize (a ++ b).length = m1 at *
 generalize (uniI a b).length = rl at *
 refine wordsN ?_; unhygienic intros
 have hcI : AV.closedL [.isl 1 ea, .isl 1 eb] = true := by simp [AV.closedL, haI, hbI]
 refine fn_body (fn := Tryz.f48) (n := 14) (ac := Tryzc48) (rvs := [.t 4]) rfl (by decide) Tryzp48 rfl rfl rfl ?_
 refine goA 60 ?_
 refine on_entO (F' := [(8, .isl 1 [.isl 1 ea, .isl 1 eb])]) (H' := []) ?_ ?_
 · exact (ent_sub [.isl 1 ([AV.isl 1 ea, AV.isl 1 eb])] [] ⟨⟨_, rfl, (subL_closed _ hcI).symm⟩, trivial⟩ trivial ⟨.refl _, trivial⟩)
 refine on_ocall (args := [.isl 1 [.isl 1 ea, .isl 1 eb]]) (v' := .sl 0 1 0 m1) (H' := [.arr 1 w1]) rfl rfl rfl h1 (by simpa [AV.closedL, AV.closed] using hcI) rfl (by simp [AObj.sub, subL_closed _ c1]) ?_
 refine goA 60 ?_
 refine on_fcall [0] rfl rfl enters_slices_Sort___int_int_ hss (by decide) (by simp) (by show _ = [AObj.arr 1 (AV.subL _ w1)]; rw [subL_closed _ c1]) rfl ?_
 rintro v0 H' ⟨rfl, rfl⟩ -
 refine on_entO (F' := [(5, .sl 0 1 0 m1)]) (H' := [.arr 1 w2]) ?_ ?_
 · exact (ent_sub [.to 0] [some 0] ⟨⟨by simp, rfl⟩, trivial⟩ ⟨osrc_arr (b := 0) rfl rfl rfl (Go.Am.subL_closed _ c2) c2, trivial⟩ ⟨.refl _, trivial⟩)
 refine goA 60 ?_
 refine on_fcall [0] rfl rfl enters_slices_Compact___int_int_ hcc (by decide) (by simp) (by show _ = [AObj.arr 1 (AV.subL _ w2)]; rw [subL_closed _ c2]) rfl ?_
 rintro v0 H' ⟨rfl, rfl⟩ -
 refine on_entO (F' := [(13, .sl 0 1 0 rl)]) (H' := [.arr 1 w3]) ?_ ?_
 · exact (ent_sub [.to 0] [some 0] ⟨⟨by simp, rfl⟩, trivial⟩ ⟨osrc_arr (b := 0) rfl rfl rfl (Go.Am.subL_closed _ c3) c3, trivial⟩ ⟨.refl _, trivial⟩)
 refine goA 60 ?_
 refine fn_ret rfl rfl ?_
 exact ⟨[.isl 1 w3], ⟨⟨w3, rfl, (subL_closed _ c3).symm⟩, trivial⟩, .of (sub_part rfl (by simpa using hle) (by simpa using hR2.symm))⟩
theorem P_Has (l : List Int) (n : Int) (hl : l.length < 1048577) : PCall EE 55 [.isl 1 (mapE int l), int n] (bool (decide (n ∈ l))) := by
 obtain ⟨R, hR⟩ : ∃ R, R = decide (n ∈ l) := ⟨_, rfl⟩
 rw [← hR]
 have hcI := closedI_int l
 refine wordsN ?_; unhygienic intros
 generalize hes : mapE int l = es at *
 have hel : es.length = l.length := by rw [← hes, mapE_len]
 refine fn_body (fn := Tryz.f55) (n := 18) (ac := Tryzc55) (rvs := [.t 4]) rfl (by decide) Tryzp55 rfl rfl rfl ?_
 refine goA 60 ?_
 refine on_loopP (ι := List Int × List Int × Int) (fun p => ([(5, int p.2.2), (0, .isl 1 es), (1, int n)], [])) (fun p => l = p.1 ++ p.2.1 ∧ p.2.2 = p.1.length ∧ R = decide (n ∈ p.2.1)) (fun p => p.2.1.length) ([], l, 0) ⟨rfl, rfl, hR⟩ ?_ ?_
 · exact (ent_sub [] [] trivial trivial ⟨.refl _, .cl hcI, .refl _, trivial⟩)
 rintro ⟨d, r, i⟩ ⟨g1, gi, gR⟩
 dsimp only at g1 gi gR ⊢
 cases r with
 | nil =>
  have L1 := len_split g1
  try simp only [List.length_nil] at L1
  have hc : iLt i (lenA es) = false := lt_f e_iLt e_lenA (by omega)
  have gR : R = false := by rw [gR]; simp
  refine goB hX 0 (by conv => lhs; cbv; try simp only [hc]; cbv; try simp only [hc]; cbv; try simp only [hc]; cbv; try simp only [hc]; cbv) ?_
  refine goA 60 ?_
  refine loopP_exit ?_
  refine goA 60 ?_
  refine fn_ret rfl rfl (.val ?_)
  exact congrArg Value.bool gR.symm
 | cons x r =>
  have L1 := len_split g1
  try simp only [List.length_cons] at L1
  have hc : iLt i (lenA es) = true := lt_t e_iLt e_lenA (by omega)
  have hat := el_at e_atA hes g1 gi
  have hi2 : iAdd .i64 i 1 = ((d ++ [x]).length : Int) := by rw [List.length_append]; exact inc_w e_iAdd gi (by omega)
  by_cases hx : x = n
  · have k1 : iEq x n = true := by simp only [ee]; simpa using hx
    have gR : R = true := by rw [gR, hx]; simp
    refine goB hX 0 (by conv => lhs; cbv; try simp only [hc, hat, k1]; cbv; try simp only [hc, hat, k1]; cbv; try simp only [hc, hat, k1]; cbv; try simp only [hc, hat, k1]; cbv) ?_
    refine goB hX 1 (by conv => lhs; cbv; try simp only [hc, hat, k1]; cbv; try simp only [hc, hat, k1]; cbv; try simp only [hc, hat, k1]; cbv; try simp only [hc, hat, k1]; cbv) ?_
    refine goA 60 ?_
    refine loopP_ret ?_
    refine goA 60 ?_
    refine fn_ret rfl rfl (.val ?_)
    exact congrArg Value.bool gR.symm
  · have k1 : iEq x n = false := by simp only [ee]; simpa using hx
    have gR : R = decide (n ∈ r) := by rw [gR]; simp [Ne.symm hx]
    refine goB hX 0 (by conv => lhs; cbv; try simp only [hc, hat, k1]; cbv; try simp only [hc, hat, k1]; cbv; try simp only [hc, hat, k1]; cbv; try simp only [hc, hat, k1]; cbv) ?_
    refine goB hX 1 (by conv => lhs; cbv; try simp only [hc, hat, k1]; cbv; try simp only [hc, hat, k1]; cbv; try simp only [hc, hat, k1]; cbv; try simp only [hc, hat, k1]; cbv) ?_
    refine goA 60 ?_
    refine loopP_next (d ++ [x], r, iAdd .i64 i 1) ⟨by simp [g1], hi2, gR⟩ (by simp) (ent_sub [] [] trivial trivial ⟨.refl _, .cl hcI, .refl _, trivial⟩)
def uR (a b : List Int) : Nat → List Int
 | 0 => []
 | j + 1 => uR a b j ++ (if (j : Int) ∈ a ∨ (j : Int) ∈ b then [(j : Int)] else [])
theorem uR_mem (a b : List Int) (n : Int) : ∀ j : Nat, n ∈ uR a b j ↔ 0 ≤ n ∧ n < j ∧ (n ∈ a ∨ n ∈ b)
 | 0 => by
  rw [uR]
  exact ⟨fun h => absurd h (by simp), fun h => absurd h.2.1 (by omega)⟩
 | j + 1 => by
  rw [uR, List.mem_append, uR_mem a b n j]
  by_cases hn : n = j
  · by_cases h : (j : Int) ∈ a ∨ (j : Int) ∈ b
    · rw [if_pos h]
      exact ⟨fun _ => ⟨by omega, by omega, by rw [hn]; exact h⟩, fun _ => .inr (by simp [hn])⟩
    · rw [if_neg h]
      refine ⟨?_, fun ⟨_, _, h3⟩ => absurd (hn ▸ h3) h⟩
      rintro (h1 | h1)
      · omega
      · cases h1
  · refine ⟨?_, fun ⟨h1, h2, h3⟩ => .inl ⟨h1, by omega, h3⟩⟩
    rintro (⟨h1, h2, h3⟩ | h1)
    · exact ⟨h1, by omega, h3⟩
    · split at h1
      · exact absurd (by simpa using h1) hn
      · cases h1
theorem uR_sorted (a b : List Int) : ∀ j : Nat, (uR a b j).Pairwise (· < ·)
 | 0 => List.Pairwise.nil
 | j + 1 => by
  rw [uR, List.pairwise_append]
  refine ⟨uR_sorted a b j, ?_, fun x hx y hy => ?_⟩
  · split
    · exact List.pairwise_singleton _ _
    · exact List.Pairwise.nil
  · have := (uR_mem a b x j).1 hx
    split at hy
    · simp at hy; omega
    · cases hy
theorem uR_uni {a b : List Int} (ha : VR a) (hb : VR b) : uniI a b = uR a b 16 := uni_ext (uR_sorted a b 16) fun n => by
 rw [uR_mem]
 refine ⟨fun h => h.2.2, fun h => ?_⟩
 have : 0 ≤ n ∧ n < 16 := by
  rcases h with h | h
  · exact ha n h
  · exact hb n h
 exact ⟨this.1, by omega, h⟩
theorem uR_len (a b : List Int) : ∀ j, (uR a b j).length ≤ j
 | 0 => by simp [uR]
 | j + 1 => by
  rw [uR, List.length_append]
  have := uR_len a b j
  split <;> simp <;> omega
theorem P_ref15_union (a b : List Int) (ha : VR a) (hb : VR b) (hla : a.length < 1048577) (hlb : b.length < 1048577) : PCall EE 64 [.isl 1 (mapE int a), .isl 1 (mapE int b)] (.isl 1 (mapE int (uniI a b))) := by
 rw [uR_uni ha hb]
 have q1 := fun n => P_Has a n hla
 have q2 := fun n => P_Has b n hlb
 have haI := closedI_int a
 have hbI := closedI_int b
 have hnil : mapE int [] = [] := by rw [mapE_eq]; rfl
 have hR : ∀ j, mapE int (uR a b (j + 1)) = mapE int (uR a b j) ++ (if (decide ((j : Int) ∈ a) || decide ((j : Int) ∈ b)) = true then [int j] else []) := fun j => by
  rw [uR, mapE_eq, mapE_eq, List.map_append]
  by_cases h : (j : Int) ∈ a ∨ (j : Int) ∈ b
  · rw [if_pos h, if_pos (by simpa using h)]; rfl
  · rw [if_neg h, if_neg (by simpa using h)]; rfl
 have hRc := fun j => closedL_int (uR a b j)
 have hRf := fun j => fitInt (uR a b j)
 have hRl : ∀ j, (mapE int (uR a b j)).length ≤ j := fun j => by rw [mapE_len]; exact uR_len a b j
 have h0 : uR a b 0 = [] := rfl
 generalize mapE int a = ea at *
 generalize mapE int b = eb at *
 refine wordsN ?_; unhygienic intros
 refine fn_body (fn := Tryz.f64) (n := 24) (ac := Tryzc64) (rvs := [.t 4]) rfl (by decide) Tryzp64 rfl rfl rfl ?_
 refine goA 60 ?_
 refine on_loopP (ι := Nat × Int × Nat × List AV) (fun p => ([(6, int p.2.1), (5, .sl 0 1 0 p.2.2.1), (0, .isl 1 ea), (1, .isl 1 eb)], [.arr 1 p.2.2.2])) (fun p => p.2.1 = p.1 ∧ p.1 ≤ 16 ∧ p.2.2.2 = mapE int (uR a b p.1) ∧ p.2.2.1 = p.2.2.2.length) (fun p => 16 - p.1) (0, 0, 0, []) ⟨rfl, by decide, by rw [h0]; exact hnil.symm, rfl⟩ ?_ ?_
 · exact (ent_sub [] [none] trivial ⟨.none _ rfl, trivial⟩ ⟨.refl _, .nilS _ _ _ (by simp), .cl haI, .cl hbI, trivial⟩)
 rintro ⟨j, i, m, w⟩ ⟨gi, gj, gw, gm⟩
 dsimp only at gi gj gw gm ⊢
 have hcw : AV.closedL w = true := by rw [gw]; exact hRc j
 have hfw : fitB 1 w = true := by rw [gw]; exact hRf j
 have hwl : w.length ≤ j := by rw [gw]; exact hRl j
 by_cases h16 : j < 16
 rotate_left
 · have hc : iLt i 16 = false := by simp only [ee]; simp; omega
   have hj : j = 16 := by omega
   subst hj
   rw [← gw]
   refine goB hX 0 (by conv => lhs; cbv; try simp only [hc]; cbv; try simp only [hc]; cbv; try simp only [hc]; cbv; try simp only [hc]; cbv) ?_
   refine goA 60 ?_
   refine loopP_exit ?_
   refine goA 60 ?_
   refine fn_ret rfl rfl ?_
   exact ⟨[.isl 1 (w)], ⟨⟨_, rfl, (subL_closed _ hcw).symm⟩, trivial⟩, .of (sub_whole rfl (by assumption))⟩
 have hc : iLt i 16 = true := by simp only [ee]; simp; omega
 have hi2 : iAdd .i64 i 1 = ((j + 1 : Nat) : Int) := inc_w e_iAdd gi (by omega)
 have q1 := q1 i
 have q2 := q2 i
 have hR := hR j
 rw [← gi, ← gw] at hR
 generalize decide (i ∈ a) = ba at *
 generalize decide (i ∈ b) = bb at *
 have u2 : addN m (lenN (partA [int i] 0 1)) = (catA (dropA w 0) (partA [int i] 0 1)).length := by simp only [ee]; simp [gm]
 have u3 : AV.closedL (catA (dropA w 0) (partA [int i] 0 1)) = true := by simp only [ee]; exact closedL_append (by simpa using hcw) rfl
 by_cases hab : (ba || bb) = true
 · rw [if_pos hab] at hR
   have u1 : catA (dropA w 0) (partA [int i] 0 1) = mapE int (uR a b (j + 1)) := by rw [hR]; simp only [ee]; simp
   cases ba with
   | true =>
    refine goB hX 0 (by conv => lhs; cbv; try simp only [hc]; cbv; try simp only [hc]; cbv; try simp only [hc]; cbv; try simp only [hc]; cbv) ?_
    refine goA 60 ?_
    refine pcA q1 ?_
    refine goA 60 ?_
    refine loopP_next (j + 1, iAdd .i64 i 1, addN m (lenN (partA [int i] 0 1)), catA (dropA w 0) (partA [int i] 0 1)) ⟨hi2, h16, u1, u2⟩ (by simp; omega) (ent_sub [.gone, .gone, .to 0] [some 2] ⟨trivial, trivial, ⟨by simp, rfl⟩, trivial⟩ ⟨osrc_arr (b := 2) rfl rfl rfl rfl u3, trivial⟩ ⟨.refl _, .refl _, .cl haI, .cl hbI, trivial⟩)
   | false =>
    obtain rfl : bb = true := by simpa using hab
    refine goB hX 0 (by conv => lhs; cbv; try simp only [hc]; cbv; try simp only [hc]; cbv; try simp only [hc]; cbv; try simp only [hc]; cbv) ?_
    refine goA 60 ?_
    refine pcA q1 ?_
    refine goA 60 ?_
    refine pcG q2 ?_
    refine goA 60 ?_
    refine loopP_next (j + 1, iAdd .i64 i 1, addN m (lenN (partA [int i] 0 1)), catA (dropA w 0) (partA [int i] 0 1)) ⟨hi2, h16, u1, u2⟩ (by simp; omega) (ent_sub [.gone, .gone, .to 0] [some 2] ⟨trivial, trivial, ⟨by simp, rfl⟩, trivial⟩ ⟨osrc_arr (b := 2) rfl rfl rfl rfl u3, trivial⟩ ⟨.refl _, .refl _, .cl haI, .cl hbI, trivial⟩)
 · rw [if_neg hab, List.append_nil] at hR
   obtain ⟨rfl, rfl⟩ : ba = false ∧ bb = false := by simpa using hab
   refine goB hX 0 (by conv => lhs; cbv; try simp only [hc]; cbv; try simp only [hc]; cbv; try simp only [hc]; cbv; try simp only [hc]; cbv) ?_
   refine goA 60 ?_
   refine pcA q1 ?_
   refine goA 60 ?_
   refine pcG q2 ?_
   refine goA 60 ?_
   refine loopP_next (j + 1, iAdd .i64 i 1, m, w) ⟨hi2, h16, hR.symm, gm⟩ (by simp; omega) (ent_sub [.to 0] [some 0] ⟨⟨by simp, rfl⟩, trivial⟩ ⟨osrc_arr (b := 0) rfl rfl rfl rfl hcw, trivial⟩ ⟨.refl _, .refl _, .cl haI, .cl hbI, trivial⟩)
theorem P_Equal (l : List Int) (hl : l.length < 1048577) : PCall EE 12 [.isl 1 (mapE int l), .isl 1 (mapE int l)] (bool true) := by
 have hcI := closedI_int l
 refine wordsN ?_; unhygienic intros
 generalize hes : mapE int l = es at *
 have hel : es.length = l.length := by rw [← hes, mapE_len]
 have k0 : iNe (lenA es) (lenA es) = false := by simp only [ee]; simp
 have k1 : ∀ x, iNe x x = false := fun x => by simp only [ee]; simp
 refine fn_body (fn := Tryz.f12) (n := 26) (ac := Tryzc12) (rvs := [.t 4]) rfl (by decide) Tryzp12 rfl rfl rfl ?_
 refine goB hX 0 (by conv => lhs; cbv; try simp only [k0]; cbv; try simp only [k0]; cbv; try simp only [k0]; cbv; try simp only [k0]; cbv) ?_
 refine goA 60 ?_
 refine on_loopP (ι := List Int × List Int × Int) (fun p => ([(13, int p.2.2), (12, int (lenA es)), (0, .isl 1 es), (1, .isl 1 es)], [])) (fun p => l = p.1 ++ p.2.1 ∧ p.2.2 = p.1.length) (fun p => p.2.1.length) ([], l, 0) ⟨rfl, rfl⟩ ?_ ?_
 · exact (ent_sub [] [] trivial trivial ⟨.refl _, .refl _, .cl hcI, .cl hcI, trivial⟩)
 rintro ⟨d, r, i⟩ ⟨g1, gi⟩
 dsimp only at g1 gi ⊢
 cases r with
 | nil =>
  have L1 := len_split g1
  try simp only [List.length_nil] at L1
  have hc : iLt i (lenA es) = false := lt_f e_iLt e_lenA (by omega)
  refine goB hX 0 (by conv => lhs; cbv; try simp only [hc]; cbv; try simp only [hc]; cbv; try simp only [hc]; cbv; try simp only [hc]; cbv) ?_
  refine goA 60 ?_
  refine loopP_exit ?_
  refine goA 60 ?_
  refine fn_ret rfl rfl (.val ?_)
  rfl
 | cons x r =>
  have L1 := len_split g1
  try simp only [List.length_cons] at L1
  have hc : iLt i (lenA es) = true := lt_t e_iLt e_lenA (by omega)
  have hat := el_at e_atA hes g1 gi
  have hi2 : iAdd .i64 i 1 = ((d ++ [x]).length : Int) := by rw [List.length_append]; exact inc_w e_iAdd gi (by omega)
  have k2 := k1 x
  refine goB hX 0 (by conv => lhs; cbv; try simp only [hc, hat, k2]; cbv; try simp only [hc, hat, k2]; cbv; try simp only [hc, hat, k2]; cbv; try simp only [hc, hat, k2]; cbv) ?_
  refine goB hX 1 (by conv => lhs; cbv; try simp only [hc, hat, k2]; cbv; try simp only [hc, hat, k2]; cbv; try simp only [hc, hat, k2]; cbv; try simp only [hc, hat, k2]; cbv) ?_
  refine goA 60 ?_
  refine loopP_next (d ++ [x], r, iAdd .i64 i 1) ⟨by simp [g1], hi2⟩ (by simp) (ent_sub [] [] trivial trivial ⟨.refl _, .refl _, .cl hcI, .cl hcI, trivial⟩)
theorem sc_row {o : Int} (h0 : 0 ≤ o) (h1 : o < 8) : Wd.rowA (Classical.choice scBox_ne).g o 2 = [bool (keepsF o), bool (testsF o)] := by
 rw [(Classical.choice scBox_ne).h]
 obtain ⟨n, rfl⟩ : ∃ n : Nat, o = n := ⟨o.toNat, by omega⟩
 have : n < 8 := by omega
 match n, this with
 | 0, _ | 1, _ | 2, _ | 3, _ | 4, _ | 5, _ | 6, _ | 7, _ => rfl
theorem onesL_snoc (acc : List Int) (d : List Pat) (q : Pat) : Pat.onesL acc (d ++ [q]) = uniI (Pat.onesL acc d) q.ones := by
 induction d generalizing acc with
 | nil => rw [List.nil_append, Pat.onesL, Pat.onesL, Pat.onesL]
 | cons x r ih => rw [List.cons_append, Pat.onesL, ih, Pat.onesL]
theorem onesL_ok {d : List Pat} (h : ∀ e ∈ d, e.wf) : (Pat.onesL [] d).Pairwise (· < ·) ∧ VR (Pat.onesL [] d) ∧ (Pat.onesL [] d).length ≤ 16 := by
 have : ∀ (n : Nat) (d : List Pat), d.length = n → (∀ e ∈ d, e.wf) → (Pat.onesL [] d).Pairwise (· < ·) ∧ VR (Pat.onesL [] d) := by
  intro n
  induction n with
  | zero => intro d hd _; obtain rfl := List.length_eq_zero_iff.1 hd; rw [Pat.onesL]; exact ⟨List.Pairwise.nil, fun _ h => by cases h⟩
  | succ n ih =>
   intro d hd hw
   have hne : d ≠ [] := by rintro rfl; cases hd
   obtain ⟨e, x, rfl⟩ : ∃ e x, d = e ++ [x] := ⟨d.dropLast, d.getLast hne, (List.dropLast_concat_getLast hne).symm⟩
   rw [onesL_snoc]
   exact ⟨uni_sorted _ _, (ih e (by simpa using hd) (fun y hy => hw y (by simp [hy]))).2.uni (ones_spec x (hw x (by simp))).2⟩
 obtain ⟨h1, h2⟩ := this _ d rfl h
 exact ⟨h1, h2, h2.len h1⟩
theorem P_ones : ∀ p : Pat, p.Sm → p.wf → PCall EE 34 [p.enc] (.isl 1 (mapE int p.ones)) := by
 refine Pat.ind ?_
 intro o a t v s n c ih hs hw
 have hlen := hs.len
 have hih : ∀ q ∈ a, PCall EE 34 [q.enc] (.isl 1 (mapE int q.ones)) := fun q hq => ih q hq (hs.arg hq) (hw.arg hq)
 have hwa : ∀ q ∈ a, q.wf := fun q hq => hw.arg hq
 obtain ⟨ho0, ho1, _, _, _⟩ := hw.self
 simp only [Pat.op] at ho0 ho1
 have hrow := sc_row ho0 ho1
 have hcl := Pat.closedI a
 have hpc := Pat.closed (.mk o a t v s n c)
 have hcc := Ex.closed c
 obtain ⟨R, hR⟩ : ∃ R, R = Pat.ones (.mk o a t v s n c) := ⟨_, rfl⟩
 rw [← hR]
 rw [Pat.ones] at hR
 obtain ⟨cO, cA, cV, cF, cK, cXk, cXn, cXt, hcx⟩ := Ex.form c
 have hpx := Pat.enc_c o a t v s n hcx
 simp only [List.cons_append, List.nil_append] at hpx
 rw [hpx] at hpc ⊢
 rw [hcx] at hcc
 have hcaI : (AV.isl 8 cA).closed = true := by have := hcc; simp [AV.closed, AV.closedL] at this ⊢; exact this
 have hnil : mapE int [] = [] := by rw [mapE_eq]; rfl
 have hone : mapE int [v] = [int v] := by rw [mapE_eq]; rfl
 clear ih hs hw hpx hcx
 refine wordsN ?_; unhygienic intros
 generalize hes : mapE Pat.enc a = es at *
 have hel : es.length = a.length := by rw [← hes, mapE_len]
 have hrw : rowA (Classical.choice scBox_ne).g o 2 = [bool (keepsF o), bool (testsF o)] := by rw [e_rowA]; exact hrow
 have n0 : bNot false = true := by simp only [ee]; rfl
 have n1 : bNot true = false := by simp only [ee]; rfl
 generalize keepsF o = kp at *
 generalize testsF o = ts at *
 refine fn_body (fn := Tryz.f34) (n := 31) (ac := Tryzc34) (rvs := [.t 2]) rfl (by decide) Tryzp34 rfl rfl rfl ?_
 cases kp with
 | false =>
  rw [if_neg (by decide)] at hR
  rw [hR, hnil]
  refine goB hX 0 (by conv => lhs; cbv; try simp only [hrw, n0]; cbv; try simp only [hrw, n0]; cbv; try simp only [hrw, n0]; cbv; try simp only [hrw, n0]; cbv) ?_
  refine goA 60 ?_
  refine fn_ret rfl rfl ?_
  exact ⟨[.gone], ⟨trivial, trivial⟩, .nilI _⟩
 | true =>
 rw [if_pos rfl] at hR
 by_cases h0 : o = 0
 · have k0 : iEq o 0 = true := by simp only [ee]; simpa using h0
   rw [if_pos h0] at hR
   rw [hR, hone]
   refine goB hX 0 (by conv => lhs; cbv; try simp only [hrw, n1, k0]; cbv; try simp only [hrw, n1, k0]; cbv; try simp only [hrw, n1, k0]; cbv; try simp only [hrw, n1, k0]; cbv) ?_
   refine goB hX 1 (by conv => lhs; cbv; try simp only [hrw, n1, k0]; cbv; try simp only [hrw, n1, k0]; cbv; try simp only [hrw, n1, k0]; cbv; try simp only [hrw, n1, k0]; cbv) ?_
   refine goA 60 ?_
   refine fn_ret rfl rfl ?_
   exact ⟨[.gone, .isl 1 ([AV.val (Value.int IntKind.i64 v)])], ⟨trivial, ⟨_, rfl, (subL_closed _ (by rfl)).symm⟩, trivial⟩, .refl _⟩
 have k0 : iEq o 0 = false := by simp only [ee]; simpa using h0
 rw [if_neg h0] at hR
 have q0 := hR
 refine goB hX 0 (by conv => lhs; cbv; try simp only [hrw, n1, k0]; cbv; try simp only [hrw, n1, k0]; cbv; try simp only [hrw, n1, k0]; cbv; try simp only [hrw, n1, k0]; cbv) ?_
 refine goB hX 1 (by conv => lhs; cbv; try simp only [hrw, n1, k0]; cbv; try simp only [hrw, n1, k0]; cbv; try simp only [hrw, n1, k0]; cbv; try simp only [hrw, n1, k0]; cbv) ?_
 refine goA 60 ?_
 refine on_loopP (ι := List Pat × List Pat × Int × List AV) (fun p => ([(21, int p.2.2.1), (20, int (lenA es)), (19, .isl 14 es), (3, .isl 1 p.2.2.2)], [])) (fun p => a = p.1 ++ p.2.1 ∧ p.2.2.1 = p.1.length ∧ p.2.2.2 = mapE int (Pat.onesL [] p.1)) (fun p => p.2.1.length) ([], a, 0, []) ⟨rfl, rfl, by rw [Pat.onesL]; exact hnil.symm⟩ ?_ ?_
 · exact (ent_sub [.gone] [] ⟨trivial, trivial⟩ trivial ⟨.refl _, .refl _, .cl hcl, .nilI _, trivial⟩)
 rintro ⟨d, r, i, L⟩ ⟨g1, gi, gL⟩
 dsimp only at g1 gi gL ⊢
 have hLI : (AV.isl 1 L).closed = true := by rw [gL]; exact closedI_int _
 cases r with
 | nil =>
  have L1 := len_split g1
  try simp only [List.length_nil] at L1
  have hc : iLt i (lenA es) = false := lt_f e_iLt e_lenA (by omega)
  rw [List.append_nil] at g1
  rw [hR, g1, ← gL]
  refine goB hX 0 (by conv => lhs; cbv; try simp only [hc]; cbv; try simp only [hc]; cbv; try simp only [hc]; cbv; try simp only [hc]; cbv) ?_
  refine goA 60 ?_
  refine loopP_exit ?_
  refine goA 60 ?_
  refine fn_ret rfl rfl ?_
  exact ⟨[], trivial, .cl hLI⟩
 | cons q r =>
  have L1 := len_split g1
  try simp only [List.length_cons] at L1
  have hc : iLt i (lenA es) = true := lt_t e_iLt e_lenA (by omega)
  have hat := el_at e_atA hes g1 gi
  have hqm : q ∈ a := by rw [g1]; simp
  have hq := hih q hqm
  have hqw := hwa q hqm
  have hdo := onesL_ok (d := d) (fun e he => hwa e (by rw [g1]; simp [he]))
  have hu := P_union (Pat.onesL [] d) q.ones (by have := hdo.2.2; omega) (by have := ones_len hqw; omega)
  have hsn := onesL_snoc [] d q
  rw [← gL] at hu
  have hqc := Pat.closed q
  have hqI := closedI_int q.ones
  have hi2 : iAdd .i64 i 1 = ((d ++ [q]).length : Int) := by rw [List.length_append]; exact inc_w e_iAdd gi (by omega)
  have hL2 : mapE int (uniI (Pat.onesL [] d) q.ones) = mapE int (Pat.onesL [] (d ++ [q])) := by rw [hsn]
  have hL2c := closedI_int (uniI (Pat.onesL [] d) q.ones)
  generalize mapE int q.ones = qo at *
  generalize mapE int (uniI (Pat.onesL [] d) q.ones) = L2 at *
  obtain ⟨qO, qA, qT, qV, qS, qN, qCo, qCa, qCv, qCf, qCk, qXk, qXn, qXt, hy⟩ := Pat.form q
  rw [hy] at hat hqc hq
  refine goB hX 0 (by conv => lhs; cbv; try simp only [hc, hat]; cbv; try simp only [hc, hat]; cbv; try simp only [hc, hat]; cbv; try simp only [hc, hat]; cbv) ?_
  refine goB hX 1 (by conv => lhs; cbv; try simp only [hc, hat]; cbv; try simp only [hc, hat]; cbv; try simp only [hc, hat]; cbv; try simp only [hc, hat]; cbv) ?_
  refine pcA hq ?_
  refine pcA hu ?_
  refine goA 60 ?_
  refine loopP_next (d ++ [q], r, iAdd .i64 i 1, L2) ⟨by simp [g1], hi2, hL2⟩ (by simp) (ent_sub [.gone] [] ⟨trivial, trivial⟩ trivial ⟨.refl _, .refl _, .cl hcl, .cl hL2c, trivial⟩)
theorem P_ref15_Ones : ∀ p : Pat, p.Sm → p.wf → PCall EE 37 [p.enc] (.isl 1 (mapE int p.ones)) := by
 refine Pat.ind ?_
 intro o a t v s n c ih hs hw
 have hlen := hs.len
 have hih : ∀ q ∈ a, PCall EE 37 [q.enc] (.isl 1 (mapE int q.ones)) := fun q hq => ih q hq (hs.arg hq) (hw.arg hq)
 have hwa : ∀ q ∈ a, q.wf := fun q hq => hw.arg hq
 obtain ⟨ho0, ho1, _, _, _⟩ := hw.self
 simp only [Pat.op] at ho0 ho1
 have hkp : keepsF o = !(decide (o = 2) || decide (o = 4)) := by unfold keepsF; rw [Bool.eq_iff_iff]; simp; omega
 have hcl := Pat.closedI a
 have hpc := Pat.closed (.mk o a t v s n c)
 have hcc := Ex.closed c
 obtain ⟨R, hR⟩ : ∃ R, R = Pat.ones (.mk o a t v s n c) := ⟨_, rfl⟩
 rw [← hR]
 rw [Pat.ones, hkp] at hR
 obtain ⟨cO, cA, cV, cF, cK, cXk, cXn, cXt, hcx⟩ := Ex.form c
 have hpx := Pat.enc_c o a t v s n hcx
 simp only [List.cons_append, List.nil_append] at hpx
 rw [hpx] at hpc ⊢
 rw [hcx] at hcc
 have hcaI : (AV.isl 8 cA).closed = true := by have := hcc; simp [AV.closed, AV.closedL] at this ⊢; exact this
 have hnil : mapE int [] = [] := by rw [mapE_eq]; rfl
 have hone : mapE int [v] = [int v] := by rw [mapE_eq]; rfl
 clear ih hs hw hpx hcx
 refine wordsN ?_; unhygienic intros
 generalize hes : mapE Pat.enc a = es at *
 have hel : es.length = a.length := by rw [← hes, mapE_len]
 refine fn_body (fn := Tryz.f37) (n := 35) (ac := Tryzc37) (rvs := [.t 2]) rfl (by decide) Tryzp37 rfl rfl rfl ?_
 by_cases h0 : o = 0
 · have k0 : iEq o 0 = true := by simp only [ee]; simpa using h0
   rw [if_pos (by rw [h0]; rfl), if_pos h0] at hR
   rw [hR, hone]
   refine goB hX 0 (by conv => lhs; cbv; try simp only [k0]; cbv; try simp only [k0]; cbv; try simp only [k0]; cbv; try simp only [k0]; cbv) ?_
   refine goA 60 ?_
   refine fn_ret rfl rfl ?_
   exact ⟨[.gone, .isl 1 ([AV.val (Value.int IntKind.i64 v)])], ⟨trivial, ⟨_, rfl, (subL_closed _ (by rfl)).symm⟩, trivial⟩, .refl _⟩
 have k0 : iEq o 0 = false := by simp only [ee]; simpa using h0
 by_cases h24 : o = 2 ∨ o = 4
 · have k2 : bOr (iEq o 2) (iEq o 4) = true := by simp only [ee]; simpa using h24
   rw [if_neg (by simp; omega)] at hR
   rw [hR, hnil]
   refine goB hX 0 (by conv => lhs; cbv; try simp only [k0, k2]; cbv; try simp only [k0, k2]; cbv; try simp only [k0, k2]; cbv; try simp only [k0, k2]; cbv) ?_
   refine goB hX 1 (by conv => lhs; cbv; try simp only [k0, k2]; cbv; try simp only [k0, k2]; cbv; try simp only [k0, k2]; cbv; try simp only [k0, k2]; cbv) ?_
   refine goA 60 ?_
   refine fn_ret rfl rfl ?_
   exact ⟨[.gone], ⟨trivial, trivial⟩, .nilI _⟩
 have k2 : bOr (iEq o 2) (iEq o 4) = false := by simp only [ee]; simp; omega
 rw [if_pos (by simp; omega), if_neg h0] at hR
 refine goB hX 0 (by conv => lhs; cbv; try simp only [k0, k2]; cbv; try simp only [k0, k2]; cbv; try simp only [k0, k2]; cbv; try simp only [k0, k2]; cbv) ?_
 refine goB hX 1 (by conv => lhs; cbv; try simp only [k0, k2]; cbv; try simp only [k0, k2]; cbv; try simp only [k0, k2]; cbv; try simp only [k0, k2]; cbv) ?_
 refine goA 60 ?_
 refine on_loopP (ι := List Pat × List Pat × Int × List AV) (fun p => ([(4, int p.2.2.1), (1, .ptr 0 0), (3, .isl 1 p.2.2.2)], [.cells [int o, .isl 14 es, int t, int v, int s, int n, int cO, .isl 8 cA, int cV, int cF, int cK, int cXk, int cXn, str cXt]])) (fun p => a = p.1 ++ p.2.1 ∧ p.2.2.1 = p.1.length ∧ p.2.2.2 = mapE int (Pat.onesL [] p.1)) (fun p => p.2.1.length) ([], a, 0, []) ⟨rfl, rfl, by rw [Pat.onesL]; exact hnil.symm⟩ ?_ ?_
 · exact (ent_sub [.to 0] [some 0] ⟨⟨by simp, rfl⟩, trivial⟩ ⟨osrc_cells (b := 0) rfl rfl rfl ⟨.refl _, .cl hcl, .refl _, .refl _, .refl _, .refl _, .refl _, .cl hcaI, .refl _, .refl _, .refl _, .refl _, .refl _, .refl _, trivial⟩, trivial⟩ ⟨.refl _, .refl _, .nilI _, trivial⟩)
 rintro ⟨d, r, i, L⟩ ⟨g1, gi, gL⟩
 dsimp only at g1 gi gL ⊢
 have hLI : (AV.isl 1 L).closed = true := by rw [gL]; exact closedI_int _
 cases r with
 | nil =>
  have L1 := len_split g1
  try simp only [List.length_nil] at L1
  have hc : iLt i (lenA es) = false := lt_f e_iLt e_lenA (by omega)
  rw [List.append_nil] at g1
  rw [hR, g1, ← gL]
  refine goB hX 0 (by conv => lhs; cbv; try simp only [hc]; cbv; try simp only [hc]; cbv; try simp only [hc]; cbv; try simp only [hc]; cbv) ?_
  refine goA 60 ?_
  refine loopP_exit ?_
  refine goA 60 ?_
  refine fn_ret rfl rfl ?_
  exact ⟨[.gone], ⟨trivial, trivial⟩, .cl hLI⟩
 | cons q r =>
  have L1 := len_split g1
  try simp only [List.length_cons] at L1
  have hc : iLt i (lenA es) = true := lt_t e_iLt e_lenA (by omega)
  have hat := el_at e_atA hes g1 gi
  have hqm : q ∈ a := by rw [g1]; simp
  have hq := hih q hqm
  have hqw := hwa q hqm
  have hdo := onesL_ok (d := d) (fun e he => hwa e (by rw [g1]; simp [he]))
  have hu := P_ref15_union (Pat.onesL [] d) q.ones hdo.2.1 (ones_spec q hqw).2 (by have := hdo.2.2; omega) (by have := ones_len hqw; omega)
  have hsn := onesL_snoc [] d q
  rw [← gL] at hu
  have hqc := Pat.closed q
  have hqI := closedI_int q.ones
  have hi2 : iAdd .i64 i 1 = ((d ++ [q]).length : Int) := by rw [List.length_append]; exact inc_w e_iAdd gi (by omega)
  have hL2 : mapE int (uniI (Pat.onesL [] d) q.ones) = mapE int (Pat.onesL [] (d ++ [q])) := by rw [hsn]
  have hL2c := closedI_int (uniI (Pat.onesL [] d) q.ones)
  generalize mapE int q.ones = qo at *
  generalize mapE int (uniI (Pat.onesL [] d) q.ones) = L2 at *
  obtain ⟨qO, qA, qT, qV, qS, qN, qCo, qCa, qCv, qCf, qCk, qXk, qXn, qXt, hy⟩ := Pat.form q
  rw [hy] at hat hqc hq
  refine goB hX 0 (by conv => lhs; cbv; try simp only [hc, hat]; cbv; try simp only [hc, hat]; cbv; try simp only [hc, hat]; cbv; try simp only [hc, hat]; cbv) ?_
  refine goB hX 1 (by conv => lhs; cbv; try simp only [hc, hat]; cbv; try simp only [hc, hat]; cbv; try simp only [hc, hat]; cbv; try simp only [hc, hat]; cbv) ?_
  refine pcA hq ?_
  refine pcA hu ?_
  refine goA 60 ?_
  refine loopP_next (d ++ [q], r, iAdd .i64 i 1, L2) ⟨by simp [g1], hi2, hL2⟩ (by simp) (ent_sub [.to 0] [some 0] ⟨⟨by simp, rfl⟩, trivial⟩ ⟨osrc_cells (b := 0) rfl rfl rfl ⟨.refl _, .cl hcl, .refl _, .refl _, .refl _, .refl _, .refl _, .cl hcaI, .refl _, .refl _, .refl _, .refl _, .refl _, .refl _, trivial⟩, trivial⟩ ⟨.refl _, .refl _, .cl hL2c, trivial⟩)
theorem tests_or {o : Int} (h : testsF o = true) : o = 0 ∨ o = 5 ∨ o = 7 := by unfold testsF at h; simpa using h
theorem arg_sm {p e : Pat} (hs : p.Sm) (h : p.args = [e]) : e.Sm := by
 obtain ⟨o, a, t, v, s, n, c⟩ := p
 simp only [Pat.args] at h
 exact hs.arg (by rw [h]; simp)
theorem arg_wf {p e : Pat} (hs : p.wf) (h : p.args = [e]) : e.wf := by
 obtain ⟨o, a, t, v, s, n, c⟩ := p
 simp only [Pat.args] at h
 exact hs.arg (by rw [h]; simp)
theorem one_lt {p : Pat} : [p.var].length < 1048577 := by simp
theorem P_own (p : Pat) (hs : p.Sm) (hw : p.wf) (ht : testsF p.op = true) (l : Plc) (hl : l.ok) : PCall EE 28 [p.enc, l.enc] (p.own l).enc := by
 have ho := tests_or ht
 have q1 := P_union l.us [p.var] (by have := hl.2.2.1; omega) one_lt
 have q2 := P_union l.si [p.var] (by have := hl.2.2.2; omega) one_lt
 have hone : mapE int [p.var] = [int p.var] := by rw [mapE_eq]; rfl
 rw [hone] at q1 q2
 have hLU := closedI_int l.us
 have hLS := closedI_int l.si
 have hcl := Pat.closed p
 have hwn := hw.self.2.2.2.2
 have hR : (p.own l).enc = _ := rfl
 rw [hR]
 unfold Pat.own
 by_cases h0 : p.op = 0
 · rw [if_pos h0]
   simp only [Plc.enc]
   have r1 := closedI_int (uniI l.us [p.var])
   have r2 := closedI_int (uniI l.si [p.var])
   generalize mapE int (uniI l.us [p.var]) = A1 at *
   generalize mapE int (uniI l.si [p.var]) = A2 at *
   generalize mapE int l.us = LU at *
   generalize mapE int l.si = LS at *
   obtain ⟨pO, pA, pT, pV, pS, pN, pCo, pCa, pCv, pCf, pCk, pXk, pXn, pXt, hx, hxc, hpO, hpA, hpT, hpV, hpS, hpN⟩ := Pat.form2 p
   rw [hx] at hcl ⊢
   rw [← hpO] at h0
   rw [← hpV] at q1 q2
   have hpAI : (AV.isl 14 pA).closed = true := by have := hcl; simp [AV.closed, AV.closedL] at this ⊢; exact this.1
   have hpCI : (AV.isl 8 pCa).closed = true := by have := hcl; simp [AV.closed, AV.closedL] at this ⊢; exact this.2
   have hvc : (AV.isl 1 [int pV]).closed = true := rfl
   clear hx hxc hpA hR hone hwn ho
   refine wordsN ?_; unhygienic intros
   have k0 : iEq pO 0 = true := by simp only [ee]; simpa using h0
   refine fn_body (fn := Tryz.f28) (n := 58) (ac := Tryzc28) (rvs := [.cell 4 3 true]) rfl (by decide) Tryzp28 rfl rfl rfl ?_
   refine goB hX 0 (by conv => lhs; cbv; try simp only [k0]; cbv; try simp only [k0]; cbv; try simp only [k0]; cbv; try simp only [k0]; cbv) ?_
   refine goA 60 ?_
   refine on_ent (F' := [(5, .isl 1 [int pV]), (2, .ptr 0 0), (3, .ptr 1 0), (4, .ptr 2 0)]) (H' := [.cells [int pO, .isl 14 pA, int pT, int pV, int pS, int pN, int pCo, .isl 8 pCa, int pCv, int pCf, int pCk, int pXk, int pXn, str pXt], .cells [.isl 1 LU, .isl 1 LS, int l.fb], .cells [.val (.slice none 0 0), .val (.slice none 0 0), int 0]]) ?_ ?_
   · exact (ent_sub [.to 0, .to 1, .to 2, .isl 1 ([AV.val (Value.int IntKind.i64 pV)])] [some 0, some 1, some 2] ⟨⟨by simp, rfl⟩, ⟨by simp, rfl⟩, ⟨by simp, rfl⟩, ⟨_, rfl, (subL_closed _ (by rfl)).symm⟩, trivial⟩ ⟨osrc_cells (b := 0) rfl rfl rfl ⟨.refl _, .cl hpAI, .refl _, .refl _, .refl _, .refl _, .refl _, .cl hpCI, .refl _, .refl _, .refl _, .refl _, .refl _, .refl _, trivial⟩, osrc_cells (b := 1) rfl rfl rfl ⟨.cl hLU, .cl hLS, .refl _, trivial⟩, osrc_cells (b := 2) rfl rfl rfl ⟨.refl _, .refl _, .refl _, trivial⟩, trivial⟩ ⟨.refl _, .refl _, .refl _, .refl _, trivial⟩)
   refine goA 60 ?_
   refine tr_drawB rfl (by conv => lhs; cbv) rfl ?_
   refine tgA ?_
   refine pcT q1 ?_
   refine tgA ?_
   refine pcT q2 ?_
   refine tgA ?_
   refine tr_nil ⟨rfl, by simp [LooksL, lookAll], ?_⟩
   refine goA 60 ?_
   refine fn_ret rfl rfl ?_
   exact ⟨[.gone, .gone, .gone], ⟨trivial, trivial, trivial, trivial⟩, .agg' ⟨.cl r1, .cl r2, .refl _, trivial⟩⟩
 rw [if_neg h0]
 obtain ⟨e, he⟩ := hwn (by omega)
 have hes := arg_sm hs he
 have hew := arg_wf hw he
 have hea : p.arg0 = e := by unfold Pat.arg0; rw [he]; rfl
 rw [hea]
 have q3 := P_Bound e hes
 have q4 := P_union l.us e.bound (by have := hl.2.2.1; omega) (by have := bound_len hew; omega)
 have hub : (uniI l.us e.bound).length < 1048577 := by have := uni_len l.us e.bound; have := hl.2.2.1; have := bound_len hew; omega
 have q5 := P_union (uniI l.us e.bound) [p.var] hub one_lt
 have q6 := P_ones e hes hew
 have q7 := P_union l.si e.ones (by have := hl.2.2.2; omega) (by have := ones_len hew; omega)
 rw [hone] at q5
 have hae : mapE Pat.enc p.args = [e.enc] := by rw [he, mapE_eq]; rfl
 have hec := Pat.closed e
 by_cases h5 : p.op = 5
 · rw [if_pos h5]
   simp only [Plc.enc]
   have r1 := closedI_int (uniI (uniI l.us e.bound) [p.var])
   have r2 := closedI_int (uniI l.si [p.var])
   have r3 := closedI_int e.bound
   have r4 := closedI_int (uniI l.us e.bound)
   clear q6 q7
   generalize mapE int (uniI (uniI l.us e.bound) [p.var]) = A1 at *
   generalize mapE int (uniI l.si [p.var]) = A2 at *
   generalize mapE int (uniI l.us e.bound) = A3 at *
   generalize mapE int e.bound = A4 at *
   generalize mapE int l.us = LU at *
   generalize mapE int l.si = LS at *
   obtain ⟨pO, pA, pT, pV, pS, pN, pCo, pCa, pCv, pCf, pCk, pXk, pXn, pXt, hx, hxc, hpO, hpA, hpT, hpV, hpS, hpN⟩ := Pat.form2 p
   rw [hx] at hcl ⊢
   rw [← hpO] at h0 h5
   rw [← hpV] at q1 q2 q5
   rw [← hpA] at hae
   have hpAI : (AV.isl 14 pA).closed = true := by have := hcl; simp [AV.closed, AV.closedL] at this ⊢; exact this.1
   have hpCI : (AV.isl 8 pCa).closed = true := by have := hcl; simp [AV.closed, AV.closedL] at this ⊢; exact this.2
   obtain ⟨eO, eA, eT, eV, eS, eN, eCo, eCa, eCv, eCf, eCk, eXk, eXn, eXt, hy⟩ := Pat.form e
   rw [hy] at q3 hae hec
   clear hx hxc hpA hR hone hwn ho
   subst hae
   have hvc : (AV.isl 1 [int pV]).closed = true := rfl
   refine wordsN ?_; unhygienic intros
   have k0 : iEq pO 0 = false := by simp only [ee]; simpa using h0
   have k5 : iEq pO 5 = true := by simp only [ee]; simpa using h5
   have a0 : atA [.agg [int eO, .isl 14 eA, int eT, int eV, int eS, int eN, int eCo, .isl 8 eCa, int eCv, int eCf, int eCk, int eXk, int eXn, str eXt]] 0 = .agg [int eO, .isl 14 eA, int eT, int eV, int eS, int eN, int eCo, .isl 8 eCa, int eCv, int eCf, int eCk, int eXk, int eXn, str eXt] := by simp only [ee]; rfl
   refine fn_body (fn := Tryz.f28) (n := 58) (ac := Tryzc28) (rvs := [.cell 4 3 true]) rfl (by decide) Tryzp28 rfl rfl rfl ?_
   refine goB hX 0 (by conv => lhs; cbv; try simp only [k0]; cbv; try simp only [k0]; cbv; try simp only [k0]; cbv; try simp only [k0]; cbv) ?_
   refine goB hX 1 (by conv => lhs; cbv; try simp only [k5]; cbv; try simp only [k5]; cbv; try simp only [k5]; cbv; try simp only [k5]; cbv) ?_
   refine on_ent (F' := [(22, .val (.bool true)), (5, .isl 1 [int pV]), (2, .ptr 0 0), (3, .ptr 1 0), (4, .ptr 2 0)]) (H' := [.cells [int pO, .isl 14 [.agg [int eO, .isl 14 eA, int eT, int eV, int eS, int eN, int eCo, .isl 8 eCa, int eCv, int eCf, int eCk, int eXk, int eXn, str eXt]], int pT, int pV, int pS, int pN, int pCo, .isl 8 pCa, int pCv, int pCf, int pCk, int pXk, int pXn, str pXt], .cells [.isl 1 LU, .isl 1 LS, int l.fb], .cells [.val (.slice none 0 0), .val (.slice none 0 0), int 0]]) ?_ ?_
   · exact (ent_sub [.to 0, .to 1, .to 2, .isl 1 ([AV.val (Value.int IntKind.i64 pV)])] [some 0, some 1, some 2] ⟨⟨by simp, rfl⟩, ⟨by simp, rfl⟩, ⟨by simp, rfl⟩, ⟨_, rfl, (subL_closed _ (by rfl)).symm⟩, trivial⟩ ⟨osrc_cells (b := 0) rfl rfl rfl ⟨.refl _, .cl hpAI, .refl _, .refl _, .refl _, .refl _, .refl _, .cl hpCI, .refl _, .refl _, .refl _, .refl _, .refl _, .refl _, trivial⟩, osrc_cells (b := 1) rfl rfl rfl ⟨.cl hLU, .cl hLS, .refl _, trivial⟩, osrc_cells (b := 2) rfl rfl rfl ⟨.refl _, .refl _, .refl _, trivial⟩, trivial⟩ ⟨.refl _, .refl _, .refl _, .refl _, .refl _, trivial⟩)
   refine goB hX 0 (by conv => lhs; cbv; try simp only [a0, k5]; cbv; try simp only [a0, k5]; cbv; try simp only [a0, k5]; cbv; try simp only [a0, k5]; cbv) ?_
   refine goB hX 1 (by conv => lhs; cbv; try simp only [a0, k5]; cbv; try simp only [a0, k5]; cbv; try simp only [a0, k5]; cbv; try simp only [a0, k5]; cbv) ?_
   refine tr_drawB rfl (by conv => lhs; cbv) rfl ?_
   refine tgB hX (by conv => lhs; cbv; try simp only [a0, k5]; cbv; try simp only [a0, k5]; cbv; try simp only [a0, k5]; cbv; try simp only [a0, k5]; cbv) ?_
   refine pcT q3 ?_
   refine pcT q4 ?_
   refine tgA ?_
   refine pcT q5 ?_
   refine tgA ?_
   refine pcT q2 ?_
   refine tgA ?_
   refine tr_nil ⟨rfl, by simp [LooksL, lookAll], ?_⟩
   refine goA 60 ?_
   refine fn_ret rfl rfl ?_
   exact ⟨[.gone, .gone, .gone], ⟨trivial, trivial, trivial, trivial⟩, .agg' ⟨.cl r1, .cl r2, .of (congrArg int (by assumption)), trivial⟩⟩
 rw [if_neg h5]
 simp only [Plc.enc]
 have r1 := closedI_int (uniI l.us e.bound)
 have r2 := closedI_int (uniI l.si e.ones)
 have r3 := closedI_int e.bound
 have r4 := closedI_int e.ones
 clear q5 q1 q2
 generalize mapE int (uniI l.us e.bound) = A1 at *
 generalize mapE int (uniI l.si e.ones) = A2 at *
 generalize mapE int e.bound = A4 at *
 generalize mapE int e.ones = A5 at *
 generalize mapE int l.us = LU at *
 generalize mapE int l.si = LS at *
 obtain ⟨pO, pA, pT, pV, pS, pN, pCo, pCa, pCv, pCf, pCk, pXk, pXn, pXt, hx, hxc, hpO, hpA, hpT, hpV, hpS, hpN⟩ := Pat.form2 p
 rw [hx] at hcl ⊢
 rw [← hpO] at h0 h5
 rw [← hpA] at hae
 have hpAI : (AV.isl 14 pA).closed = true := by have := hcl; simp [AV.closed, AV.closedL] at this ⊢; exact this.1
 have hpCI : (AV.isl 8 pCa).closed = true := by have := hcl; simp [AV.closed, AV.closedL] at this ⊢; exact this.2
 obtain ⟨eO, eA, eT, eV, eS, eN, eCo, eCa, eCv, eCf, eCk, eXk, eXn, eXt, hy⟩ := Pat.form e
 rw [hy] at q3 q6 hae hec
 clear hx hxc hpA hR hone hwn ho
 subst hae
 refine wordsN ?_; unhygienic intros
 have k0 : iEq pO 0 = false := by simp only [ee]; simpa using h0
 have k5 : iEq pO 5 = false := by simp only [ee]; simpa using h5
 have a0 : atA [.agg [int eO, .isl 14 eA, int eT, int eV, int eS, int eN, int eCo, .isl 8 eCa, int eCv, int eCf, int eCk, int eXk, int eXn, str eXt]] 0 = .agg [int eO, .isl 14 eA, int eT, int eV, int eS, int eN, int eCo, .isl 8 eCa, int eCv, int eCf, int eCk, int eXk, int eXn, str eXt] := by simp only [ee]; rfl
 refine fn_body (fn := Tryz.f28) (n := 58) (ac := Tryzc28) (rvs := [.cell 4 3 true]) rfl (by decide) Tryzp28 rfl rfl rfl ?_
 refine goB hX 0 (by conv => lhs; cbv; try simp only [k0]; cbv; try simp only [k0]; cbv; try simp only [k0]; cbv; try simp only [k0]; cbv) ?_
 refine goB hX 1 (by conv => lhs; cbv; try simp only [k5]; cbv; try simp only [k5]; cbv; try simp only [k5]; cbv; try simp only [k5]; cbv) ?_
 refine goB hX 1 (by conv => lhs; cbv; try simp only [a0, k5]; cbv; try simp only [a0, k5]; cbv; try simp only [a0, k5]; cbv; try simp only [a0, k5]; cbv) ?_
 refine tr_drawB rfl (by conv => lhs; cbv) rfl ?_
 refine tgB hX (by conv => lhs; cbv; try simp only [a0, k5]; cbv; try simp only [a0, k5]; cbv; try simp only [a0, k5]; cbv; try simp only [a0, k5]; cbv) ?_
 refine pcT q3 ?_
 refine pcT q4 ?_
 refine tgB hX (by conv => lhs; cbv; try simp only [a0, k5]; cbv; try simp only [a0, k5]; cbv; try simp only [a0, k5]; cbv; try simp only [a0, k5]; cbv) ?_
 refine pcT q6 ?_
 refine pcT q7 ?_
 refine tgA ?_
 refine tr_nil ⟨rfl, by simp [LooksL, lookAll], ?_⟩
 refine goA 60 ?_
 refine fn_ret rfl rfl ?_
 exact ⟨[.gone, .gone, .gone, .gone], ⟨trivial, trivial, trivial, trivial, trivial⟩, .agg' ⟨.cl r1, .cl r2, .refl _, trivial⟩⟩
end Go.Am
end
