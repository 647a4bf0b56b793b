/- Contracts of the program's functions, for every argument that meets the conditions that each theorem names. -/
import Derived.Test.YtdbikeconboifaaGreatDoorAm6
import Derived.Test.YtdbikeconboifaaGreatDoorCt5
import Derived.Test.YtdbikeconboifaaGreatDoorCt3
import Derived.Test.YtdbikeconboifaaGreatDoorCt2
import Derived.Test.YtdbikeconboifaaGreatDoorCt4
section
set_option maxHeartbeats 16000000
set_option maxRecDepth 100000
namespace Go.Am
open Go.Proofs
theorem sorted_ext : ∀ a b : List Int, a.Pairwise (· < ·) → b.Pairwise (· < ·) → (∀ n, n ∈ a ↔ n ∈ b) → a = b
 | [], [], _, _, _ => rfl
 | [], y :: b, _, _, h => by have := (h y).2 (by simp); cases this
 | x :: a, [], _, _, h => by have := (h x).1 (by simp); cases this
 | x :: a, y :: b, ha, hb, h => by
  have ha' := List.pairwise_cons.1 ha
  have hb' := List.pairwise_cons.1 hb
  have hxy : x = y := by
   rcases List.mem_cons.1 ((h x).1 (by simp)) with e | e
   · exact e
   · rcases List.mem_cons.1 ((h y).2 (by simp)) with e2 | e2
     · exact e2.symm
     · have := ha'.1 y e2; have := hb'.1 x e; omega
  subst hxy
  refine congrArg (x :: ·) (sorted_ext a b ha'.2 hb'.2 fun n => ⟨fun hn => ?_, fun hn => ?_⟩)
  · rcases List.mem_cons.1 ((h n).1 (by simp [hn])) with e | e
    · subst e; have := ha'.1 n hn; omega
    · exact e
  · rcases List.mem_cons.1 ((h n).2 (by simp [hn])) with e | e
    · subst e; have := hb'.1 n hn; omega
    · exact e
theorem ins_sorted {e u : List Int} {v : Int} (h : (e ++ u).Pairwise (· < ·)) (h1 : ∀ x ∈ e, x < v) (h2 : ∀ x ∈ u, v < x) : (e ++ v :: u).Pairwise (· < ·) := by
 rw [List.pairwise_append] at h ⊢
 refine ⟨h.1, List.pairwise_cons.2 ⟨h2, h.2.1⟩, fun a ha b hb => ?_⟩
 rcases List.mem_cons.1 hb with rfl | hb
 · exact h1 a ha
 · exact h.2.2 a ha b hb
theorem P_ref09_Bound (p : Pat) (hs : p.Sm) : PCall EE 25 [p.enc] (.isl 1 (mapE int p.bound)) := by
  have h1 := P_ref09_Nodes p hs
  have hcl := Pat.closed p
  have hnl := Pat.nodes_len p
  have hs1 := hs.1
  have hnc := Pat.closedI p.nodes
  have hnilI : mapE int [] = [] := by rw [mapE_eq]; rfl
  have hbm := fun n => Pat.bound_mem (p := p) n
  have hbp := Pat.bound_nodup p
  generalize p.bound = B at *
  generalize hnn : p.nodes = nl at *
  obtain ⟨pO, pA, pT, pV, pS, pN, pCo, pCa, pCv, pCf, pCk, pXk, pXn, pXt, hx⟩ := Pat.form p
  rw [hx] at h1 hcl ⊢
  refine wordsN ?_; unhygienic intros
  generalize hes : mapE Pat.enc nl = es at *
  have hel : es.length = nl.length := by rw [← hes, mapE_len]
  refine fn_body (fn := Tryz.f25) (n := 71) (ac := Tryzc25) (rvs := [.t 2]) rfl (by decide) Tryzp25 rfl rfl rfl ?_
  refine goA 60 ?_
  refine oPA h1 ?_
  refine goA 60 ?_
  refine on_loopP (ι := List Pat × List Pat × Int × List Int × AV × List AV × Nat) (fun p => ([(5, int p.2.2.1), (4, .isl 14 es), (3, p.2.2.2.2.1)], [.arr 1 p.2.2.2.2.2.1])) (fun p => nl = p.1 ++ p.2.1 ∧ p.2.2.1 = p.1.length ∧ p.2.2.2.1.Pairwise (· < ·) ∧ (∀ n, n ∈ p.2.2.2.1 ↔ n ∈ bndF p.1) ∧ p.2.2.2.2.2.1 = mapE int p.2.2.2.1 ∧ p.2.2.2.1.length ≤ p.1.length ∧ p.2.2.2.2.2.2 = p.2.2.2.2.2.1.length ∧ p.2.2.2.2.1 = (if p.2.2.2.1 = [] then .val (.slice none 0 0) else .sl 0 1 0 p.2.2.2.2.2.2)) (fun p => p.2.1.length) ([], nl, 0, [], .val (.slice none 0 0), [], 0) ⟨rfl, rfl, List.Pairwise.nil, fun n => Iff.rfl, hnilI.symm, Nat.le_refl _, rfl, rfl⟩ ?_ ?_
  · exact (ent_sub [.gone] [none] ⟨trivial, trivial⟩ ⟨.none _ rfl, trivial⟩ ⟨.refl _, .cl hnc, .refl _, trivial⟩)
  rintro ⟨d, r, i, l, ov, w, m⟩ ⟨g1, gi, gp, gm, gw, gl, gM, go2⟩
  dsimp only at g1 gi gp gm gw gl gM go2 ⊢
  have hcw : AV.closedL w = true := by rw [gw]; exact closedL_int _
  have hwl : w.length = l.length := by rw [gw, mapE_len]
  have hfw : fitB 1 w = true := by rw [gw]; exact fitInt _
  cases r with
  | nil =>
    have L1 := len_split g1
    try simp only [List.length] at L1
    have hc : iLt i (lenA es) = false := lt_f e_iLt e_lenA (by omega)
    rw [List.append_nil] at g1
    have hB : B = l := sorted_ext B l hbp gp fun n => by rw [hbm, gm, g1]
    rw [hB]
    by_cases hl : l = []
    · rw [if_pos hl] at go2
      rw [go2, hl, hnilI]
      refine goB hX 0 (by conv => lhs; cbv; try simp only [hc]; cbv; try simp only [hc]; cbv; try simp only [hc]; cbv; try simp only [hc]; cbv) ?_
      refine goA 60 ?_
      refine loopP_exit ?_
      refine goA 60 ?_
      refine fn_ret rfl rfl ?_
      exact ⟨[.gone], ⟨trivial, trivial⟩, .nilI _⟩
    · rw [if_neg hl] at go2
      rw [go2, ← gw]
      refine goB hX 0 (by conv => lhs; cbv; try simp only [hc]; cbv; try simp only [hc]; cbv; try simp only [hc]; cbv; try simp only [hc]; cbv) ?_
      refine goA 60 ?_
      refine loopP_exit ?_
      refine goA 60 ?_
      refine fn_ret rfl rfl ?_
      exact ⟨[.isl 1 (w)], ⟨⟨_, rfl, (subL_closed _ hcw).symm⟩, trivial⟩, .of (sub_whole rfl (by assumption))⟩
  | cons q r =>
    have L1 := len_split g1
    try simp only [List.length] at L1
    have hc : iLt i (lenA es) = true := lt_t e_iLt e_lenA (by omega)
    have hat := el_at e_atA hes g1 gi
    have hqc := Pat.closed q
    have hbs := bndF_snoc d q
    have hi2 : iAdd .i64 i 1 = ((d ++ [q]).length : Int) := by rw [List.length_append]; exact inc_w e_iAdd gi (by omega)
    have hdl : (d ++ [q]).length = d.length + 1 := by simp
    have hl2 : l.length ≤ (d ++ [q]).length := by omega
    obtain ⟨qO, qA, qT, qV, qS, qN, qCo, qCa, qCv, qCf, qCk, qXk, qXn, qXt, hy, hyc, hqO, hqA, hqT, hqV, hqS, hqN⟩ := Pat.form2 q
    rw [hy] at hat hqc
    rw [← hqV, ← hqO] at hbs
    clear hy hyc hqO hqA hqT hqV hqS hqN
    by_cases ho : qO = 0
    rotate_left
    · have k0 : iNe qO 0 = true := by simp only [ee]; simpa using ho
      rw [if_neg ho] at hbs
      by_cases hl : l = []
      · rw [if_pos hl] at go2
        rw [go2]
        refine goB hX 0 (by conv => lhs; cbv; try simp only [hc, hat, k0]; cbv; try simp only [hc, hat, k0]; cbv; try simp only [hc, hat, k0]; cbv; try simp only [hc, hat, k0]; cbv) ?_
        refine goB hX 1 (by conv => lhs; cbv; try simp only [hc, hat, k0]; cbv; try simp only [hc, hat, k0]; cbv; try simp only [hc, hat, k0]; cbv; try simp only [hc, hat, k0]; cbv) ?_
        refine goA 60 ?_
        refine loopP_next (d ++ [q], r, iAdd .i64 i 1, l, .val (.slice none 0 0), w, m) ⟨by simp [g1], hi2, gp, by rw [hbs]; exact gm, gw, hl2, gM, (if_pos hl).symm⟩ (by simp) (ent_sub [.to 0] [some 0] ⟨⟨by simp, rfl⟩, trivial⟩ ⟨osrc_arr (b := 0) rfl rfl rfl rfl hcw, trivial⟩ ⟨.refl _, .cl hnc, .refl _, trivial⟩)
      · rw [if_neg hl] at go2
        rw [go2]
        refine goB hX 0 (by conv => lhs; cbv; try simp only [hc, hat, k0]; cbv; try simp only [hc, hat, k0]; cbv; try simp only [hc, hat, k0]; cbv; try simp only [hc, hat, k0]; cbv) ?_
        refine goB hX 1 (by conv => lhs; cbv; try simp only [hc, hat, k0]; cbv; try simp only [hc, hat, k0]; cbv; try simp only [hc, hat, k0]; cbv; try simp only [hc, hat, k0]; cbv) ?_
        refine goA 60 ?_
        refine loopP_next (d ++ [q], r, iAdd .i64 i 1, l, .sl 0 1 0 m, w, m) ⟨by simp [g1], hi2, gp, by rw [hbs]; exact gm, gw, hl2, gM, (if_neg hl).symm⟩ (by simp) (ent_sub [.to 0] [some 0] ⟨⟨by simp, rfl⟩, trivial⟩ ⟨osrc_arr (b := 0) rfl rfl rfl rfl hcw, trivial⟩ ⟨.refl _, .cl hnc, .refl _, trivial⟩)
    have k0 : iNe qO 0 = false := by simp only [ee]; simpa using ho
    rw [if_pos ho] at hbs
    have n0 : bNot false = true := by simp only [ee]; rfl
    have n1 : bNot true = false := by simp only [ee]; rfl
    by_cases hl : l = []
    · rw [if_pos hl] at go2
      rw [go2]
      subst hl
      rw [hnilI] at gw
      subst gw
      have k1 : iLt 0 0 = false := by simp only [ee]; rfl
      refine goB hX 0 (by conv => lhs; cbv; try simp only [hc, hat, k0]; cbv; try simp only [hc, hat, k0]; cbv; try simp only [hc, hat, k0]; cbv; try simp only [hc, hat, k0]; cbv) ?_
      refine goB hX 1 (by conv => lhs; cbv; try simp only [hc, hat, k0]; cbv; try simp only [hc, hat, k0]; cbv; try simp only [hc, hat, k0]; cbv; try simp only [hc, hat, k0]; cbv) ?_
      refine goA 60 ?_
      refine on_loopP (ι := Int) (fun p => ([(7, bool false), (6, int p), (5, int i), (4, .isl 14 es), (3, .val (.slice none 0 0))], [])) (fun p => p = 0) (fun p => 0) 0 rfl ?_ ?_
      · exact (ent_sub [.gone] [] ⟨trivial, trivial⟩ trivial ⟨.refl _, .refl _, .refl _, .cl hnc, .refl _, trivial⟩)
      rintro j gj
      dsimp only at gj ⊢
      subst gj
      have hm2 : ∀ n, n ∈ [qV] ↔ n ∈ bndF (d ++ [q]) := fun n => by rw [hbs, List.mem_append, ← gm n]; simp
      have k2 : iLt 0 (Int.ofNat 0) = false := by simp only [ee]; rfl
      have u1 : catA (dropA [int qV] 0) [] = [int qV] := by simp only [ee]; rfl
      have u2 : partA [int qV] 0 (addN 1 (lenN [])) = [int qV] := by simp only [ee]; rfl
      have u3 : lenN [int qV] = 1 := by simp only [ee]; rfl
      refine goA 60 ?_
      refine tr_drawB rfl (by conv => lhs; cbv) rfl ?_
      refine tgA ?_
      refine tgB hX (by conv => lhs; cbv; try simp only [k1, k2, n0, hc, hat, u1, u2, u3]; cbv; try simp only [k1, k2, n0, hc, hat, u1, u2, u3]; cbv; try simp only [k1, k2, n0, hc, hat, u1, u2, u3]; cbv; try simp only [k1, k2, n0, hc, hat, u1, u2, u3]; cbv) ?_
      refine tr_skipq (.inl rfl) ?_
      refine tr_skipq (.inl rfl) ?_
      refine tr_skipq (.inl rfl) ?_
      refine tr_skipq (.inl rfl) ?_
      refine tr_skipq (.inl rfl) ?_
      refine tr_skipq (.inl rfl) ?_
      refine tr_skipq (.inl rfl) ?_
      refine tr_skipq (.inl rfl) ?_
      refine tr_skipq (.inl rfl) ?_
      refine tr_skipq (.inl rfl) ?_
      refine tgA ?_
      refine tr_nil ⟨rfl, by simp [LooksL, lookAll], ?_⟩
      refine goA 60 ?_
      refine loopP_exit ?_
      refine goB hX 0 (by conv => lhs; cbv; try simp only [k1, k2, n0, hc, hat, u1, u2, u3]; cbv; try simp only [k1, k2, n0, hc, hat, u1, u2, u3]; cbv; try simp only [k1, k2, n0, hc, hat, u1, u2, u3]; cbv; try simp only [k1, k2, n0, hc, hat, u1, u2, u3]; cbv) ?_
      refine goA 60 ?_
      refine tr_drawX rfl (by conv => lhs; cbv) (by conv => lhs; cbv) (by decide) (by decide) (by conv => lhs; cbv) rfl ?_
      refine tgB hX (by conv => lhs; cbv; try simp only [k1, k2, n0, hc, hat, u1, u2, u3]; cbv; try simp only [k1, k2, n0, hc, hat, u1, u2, u3]; cbv; try simp only [k1, k2, n0, hc, hat, u1, u2, u3]; cbv; try simp only [k1, k2, n0, hc, hat, u1, u2, u3]; cbv) ?_
      refine tr_nil ⟨rfl, by simp [LooksL, lookAll], ?_⟩
      refine goA 60 ?_
      refine loopP_next (d ++ [q], r, iAdd .i64 i 1, [qV], .sl 0 1 0 1, [int qV], 1) ⟨by simp [g1], hi2, List.pairwise_singleton _ _, hm2, by rw [mapE_eq]; rfl, by simp, rfl, rfl⟩ (by simp) (ent_sub [.gone, .gone, .to 0] [some 2] ⟨trivial, trivial, ⟨by simp, rfl⟩, trivial⟩ ⟨osrc_arr (b := 2) rfl rfl rfl rfl hcw, trivial⟩ ⟨.refl _, .cl hnc, .refl _, trivial⟩)
    rw [if_neg hl] at go2
    rw [go2]
    have hm0 : 0 < m := by rw [gM, hwl]; exact List.length_pos_iff.2 hl
    refine goB hX 0 (by conv => lhs; cbv; try simp only [hc, hat, k0]; cbv; try simp only [hc, hat, k0]; cbv; try simp only [hc, hat, k0]; cbv; try simp only [hc, hat, k0]; cbv) ?_
    refine goB hX 1 (by conv => lhs; cbv; try simp only [hc, hat, k0]; cbv; try simp only [hc, hat, k0]; cbv; try simp only [hc, hat, k0]; cbv; try simp only [hc, hat, k0]; cbv) ?_
    refine goA 60 ?_
    refine on_loopP (ι := List Int × List Int × Int × Bool) (fun p => ([(7, bool p.2.2.2), (6, int p.2.2.1), (5, int i), (4, .isl 14 es), (3, .sl 0 1 0 m)], [.arr 1 w])) (fun p => l = p.1 ++ p.2.1 ∧ p.2.2.1 = p.1.length ∧ p.2.2.2 = decide (qV ∈ p.1) ∧ (∀ x ∈ p.1, x ≤ qV)) (fun p => p.2.1.length) ([], l, 0, false) ⟨rfl, rfl, by simp, by simp⟩ ?_ ?_
    · exact (ent_sub [.to 0] [some 0] ⟨⟨by simp, rfl⟩, trivial⟩ ⟨osrc_arr (b := 0) rfl rfl rfl rfl hcw, trivial⟩ ⟨.refl _, .refl _, .refl _, .cl hnc, .refl _, trivial⟩)
    rintro ⟨e, u, j, tw⟩ ⟨v1, vj, vt, vl⟩
    dsimp only at v1 vj vt vl ⊢
    have hlen := congrArg List.length v1
    rw [List.length_append] at hlen
    -- what is put in
    have ins : (∀ x ∈ u, qV < x) → tw = false → (e ++ qV :: u).Pairwise (· < ·) ∧ (∀ n, n ∈ e ++ qV :: u ↔ n ∈ bndF (d ++ [q])) := fun hu ht => by
      rw [vt] at ht
      have hn : qV ∉ e := by simpa using ht
      rw [v1] at gp
      refine ⟨ins_sorted gp (fun x hx => ?_) hu, fun n => ?_⟩
      · have := vl x hx
        have : x ≠ qV := fun e2 => hn (e2 ▸ hx)
        omega
      · have hd2 : n ∈ bndF d ↔ n ∈ e ∨ n ∈ u := by rw [← gm n, v1, List.mem_append]
        rw [hbs]
        simp only [List.mem_append, List.mem_cons, List.not_mem_nil, or_false]
        rw [hd2]
        constructor
        · rintro (h | h | h)
          · exact .inl (.inl h)
          · exact .inr h
          · exact .inl (.inr h)
        · rintro ((h | h) | h)
          · exact .inl h
          · exact .inr (.inr h)
          · exact .inr (.inl h)
    have same : tw = true → ∀ n, n ∈ l ↔ n ∈ bndF (d ++ [q]) := fun ht n => by
      rw [vt] at ht
      have hn : qV ∈ e := by simpa using ht
      rw [hbs, List.mem_append, ← gm n]
      constructor
      · exact .inl
      · rintro (h | h)
        · exact h
        · simp at h; rw [h, v1]; exact List.mem_append.2 (.inl hn)
    obtain ⟨U, hU⟩ : ∃ z, z = mapE int u := ⟨_, rfl⟩
    obtain ⟨A, hA⟩ : ∃ z, z = mapE int e := ⟨_, rfl⟩
    have hUl : U.length = u.length := by rw [hU, mapE_len]
    have hAl : A.length = e.length := by rw [hA, mapE_len]
    have hwAU : w = A ++ U := by rw [gw, v1, hA, hU, mapE_eq, List.map_append, ← mapE_eq, ← mapE_eq]
    have hUf : fitB 1 U = true := by rw [hU]; exact fitInt _
    have hAf : fitB 1 A = true := by rw [hA]; exact fitInt _
    have hUc : AV.closedL U = true := by rw [hU]; exact closedL_int _
    have hAc : AV.closedL A = true := by rw [hA]; exact closedL_int _
    have f1 : partA w (idxN 0 j) (lenCut j (iOf m)) = U := by
      simp only [ee]
      rw [hwAU, show 0 + j.toNat = A.length by omega, List.drop_left, List.take_of_length_le (by omega)]
    have f5 : partA w 0 (natOf j) = A := by
      simp only [ee]
      rw [hwAU, List.drop_zero, show j.toNat = A.length by omega, List.take_left]
    obtain ⟨VU, hVU⟩ : ∃ z, z = int qV :: U := ⟨_, rfl⟩
    have hVf : fitB 1 VU = true := by rw [hVU, hU, ← show mapE int (qV :: u) = int qV :: mapE int u by rw [mapE_eq, mapE_eq]; rfl]; exact fitInt _
    have hVl : VU.length = u.length + 1 := by rw [hVU, List.length_cons, hUl]
    have f2 : catA (dropA [int qV] 0) U = VU := by rw [hVU]; simp only [ee]; rfl
    have f4 : partA VU 0 (addN 1 (lenN U)) = VU := by
      simp only [ee]
      rw [List.drop_zero, List.take_of_length_le (by omega)]
    obtain ⟨W, hW⟩ : ∃ z, z = A ++ VU := ⟨_, rfl⟩
    have f6 : catA A VU = W := by rw [hW]; simp only [ee]
    have hWe : W = mapE int (e ++ qV :: u) := by rw [hW, hVU, hA, hU, mapE_eq, mapE_eq, mapE_eq]; simp
    have hWc : AV.closedL W = true := by rw [hWe]; exact closedL_int _
    have hWl : addN (natOf j) (lenN VU) = W.length := by simp only [ee]; rw [hW, List.length_append]; omega
    have hel2 : (e ++ qV :: u).length ≤ (d ++ [q]).length := by simp; simp at hdl; omega
    have hne2 : ¬ (e ++ qV :: u = []) := by simp
    cases u with
    | nil =>
      have kc : iLt j (iOf m) = false := by simp only [ee]; simp at hlen ⊢; omega
      have hax : atN w (idxN 0 j) = .undef := by
        simp only [ee]
        rw [List.getD_eq_getElem?_getD, List.getElem?_eq_none (by simp at hlen; omega)]; rfl
      cases tw with
      | true =>
        have same := same rfl
        refine goB hX 0 (by conv => lhs; cbv; try simp only [kc, hax, n1, hc, hat]; cbv; try simp only [kc, hax, n1, hc, hat]; cbv; try simp only [kc, hax, n1, hc, hat]; cbv; try simp only [kc, hax, n1, hc, hat]; cbv) ?_
        refine tr_drawB rfl (by conv => lhs; cbv) rfl ?_
        refine tgA ?_
        refine tgB hX (by conv => lhs; cbv; try simp only [kc, hax, n1, hc, hat]; cbv; try simp only [kc, hax, n1, hc, hat]; cbv; try simp only [kc, hax, n1, hc, hat]; cbv; try simp only [kc, hax, n1, hc, hat]; cbv) ?_
        refine tr_skipq (.inl rfl) ?_
        refine tr_skipq (.inl rfl) ?_
        refine tr_skipq (.inl rfl) ?_
        refine tr_skipq (.inl rfl) ?_
        refine tr_skipq (.inl rfl) ?_
        refine tr_skipq (.inl rfl) ?_
        refine tr_skipq (.inl rfl) ?_
        refine tr_skipq (.inl rfl) ?_
        refine tr_skipq (.inl rfl) ?_
        refine tr_skipq (.inl rfl) ?_
        refine tgA ?_
        refine tr_nil ⟨rfl, by simp [LooksL, lookAll], ?_⟩
        refine goA 60 ?_
        refine loopP_exit ?_
        refine goB hX 0 (by conv => lhs; cbv; try simp only [kc, hax, n1, hc, hat]; cbv; try simp only [kc, hax, n1, hc, hat]; cbv; try simp only [kc, hax, n1, hc, hat]; cbv; try simp only [kc, hax, n1, hc, hat]; cbv) ?_
        refine goA 60 ?_
        refine loopP_next (d ++ [q], r, iAdd .i64 i 1, l, .sl 0 1 0 m, w, m) ⟨by simp [g1], hi2, gp, same, gw, hl2, gM, (if_neg hl).symm⟩ (by simp) (ent_sub [.to 0] [some 0] ⟨⟨by simp, rfl⟩, trivial⟩ ⟨osrc_arr (b := 0) rfl rfl rfl rfl hcw, trivial⟩ ⟨.refl _, .cl hnc, .refl _, trivial⟩)
      | false =>
        obtain ⟨i1, i2⟩ := ins (by simp) rfl
        refine goB hX 0 (by conv => lhs; cbv; try simp only [kc, hax, n0, hc, hat, f1, f2, f4, f5, f6]; cbv; try simp only [kc, hax, n0, hc, hat, f1, f2, f4, f5, f6]; cbv; try simp only [kc, hax, n0, hc, hat, f1, f2, f4, f5, f6]; cbv; try simp only [kc, hax, n0, hc, hat, f1, f2, f4, f5, f6]; cbv) ?_
        refine tr_drawB rfl (by conv => lhs; cbv) rfl ?_
        refine tgA ?_
        refine tgB hX (by conv => lhs; cbv; try simp only [kc, hax, n0, hc, hat, f1, f2, f4, f5, f6]; cbv; try simp only [kc, hax, n0, hc, hat, f1, f2, f4, f5, f6]; cbv; try simp only [kc, hax, n0, hc, hat, f1, f2, f4, f5, f6]; cbv; try simp only [kc, hax, n0, hc, hat, f1, f2, f4, f5, f6]; cbv) ?_
        refine tr_skipq (.inl rfl) ?_
        refine tr_skipq (.inl rfl) ?_
        refine tr_skipq (.inl rfl) ?_
        refine tr_skipq (.inl rfl) ?_
        refine tr_skipq (.inl rfl) ?_
        refine tr_skipq (.inl rfl) ?_
        refine tr_skipq (.inl rfl) ?_
        refine tr_skipq (.inl rfl) ?_
        refine tr_skipq (.inl rfl) ?_
        refine tr_skipq (.inl rfl) ?_
        refine tgA ?_
        refine tr_nil ⟨rfl, by simp [LooksL, lookAll], ?_⟩
        refine goA 60 ?_
        refine loopP_exit ?_
        refine goB hX 0 (by conv => lhs; cbv; try simp only [kc, hax, n0, hc, hat, f1, f2, f4, f5, f6]; cbv; try simp only [kc, hax, n0, hc, hat, f1, f2, f4, f5, f6]; cbv; try simp only [kc, hax, n0, hc, hat, f1, f2, f4, f5, f6]; cbv; try simp only [kc, hax, n0, hc, hat, f1, f2, f4, f5, f6]; cbv) ?_
        refine goA 60 ?_
        refine tr_drawX rfl (by conv => lhs; cbv) (by conv => lhs; cbv) (by decide) (by decide) (by conv => lhs; cbv) rfl ?_
        refine tgB hX (by conv => lhs; cbv; try simp only [kc, hax, n0, hc, hat, f1, f2, f4, f5, f6]; cbv; try simp only [kc, hax, n0, hc, hat, f1, f2, f4, f5, f6]; cbv; try simp only [kc, hax, n0, hc, hat, f1, f2, f4, f5, f6]; cbv; try simp only [kc, hax, n0, hc, hat, f1, f2, f4, f5, f6]; cbv) ?_
        refine tr_nil ⟨rfl, by simp [LooksL, lookAll], ?_⟩
        refine goA 60 ?_
        refine loopP_next (d ++ [q], r, iAdd .i64 i 1, e ++ [qV], .sl 0 1 0 (addN (natOf j) (lenN VU)), W, addN (natOf j) (lenN VU)) ⟨by simp [g1], hi2, i1, i2, hWe, hel2, hWl, (if_neg hne2).symm⟩ (by simp) (ent_sub [.gone, .gone, .gone, .to 0] [some 3] ⟨trivial, trivial, trivial, ⟨by simp, rfl⟩, trivial⟩ ⟨osrc_arr (b := 3) rfl rfl rfl rfl hWc, trivial⟩ ⟨.refl _, .cl hnc, .refl _, trivial⟩)
    | cons x u =>
      have hlc : (x :: u).length = u.length + 1 := rfl
      have kc : iLt j (iOf m) = true := by simp only [ee]; simp at hlen ⊢; omega
      have hjx : idxN 0 j < w.length := by simp only [ee]; simp at hlen; omega
      have hax : atN w (idxN 0 j) = int x := by
        simp only [ee]
        rw [gw, v1, mapE_eq, List.getD_eq_getElem?_getD, List.getElem?_map, show 0 + j.toNat = e.length by omega]; simp
      by_cases hx : x ≤ qV
      · have kx : iLe x qV = true := by simp only [ee]; simpa using hx
        have hj2 : iAdd .i64 j 1 = ((e ++ [x]).length : Int) := by rw [List.length_append]; exact inc_w e_iAdd vj (by omega)
        have hvl : ∀ y ∈ e ++ [x], y ≤ qV := fun y hy => by
          rcases List.mem_append.1 hy with h | h
          · exact vl y h
          · simp at h; rw [h]; exact hx
        cases tw with
        | true =>
          have ht : true = decide (qV ∈ e ++ [x]) := by have : qV ∈ e := by simpa using vt.symm
                                                        simp [this]
          refine goB hX 0 (by conv => lhs; cbv; try simp only [kc, kx, hc, hat, hax]; cbv; try simp only [kc, kx, hc, hat, hax]; cbv; try simp only [kc, kx, hc, hat, hax]; cbv; try simp only [kc, kx, hc, hat, hax]; cbv) ?_
          refine on_cond rfl (fun c1 => ?_) (fun c1 => ?_)
          ·
            simp [ee] at c1
            refine goA 60 ?_
            refine tr_drawX rfl (by conv => lhs; cbv) (by conv => lhs; cbv) (by decide) (by decide) (by conv => lhs; cbv) rfl ?_
            refine tgA ?_
            refine tr_skipq (.inl rfl) ?_
            refine tr_skipq (.inl rfl) ?_
            refine tr_skipq (.inl rfl) ?_
            refine tr_skipq (.inl rfl) ?_
            refine tr_skipq (.inl rfl) ?_
            refine tr_skipq (.inl rfl) ?_
            refine tr_skipq (.inl rfl) ?_
            refine tr_skipq (.inl rfl) ?_
            refine tr_skipq (.inl rfl) ?_
            refine tr_skipq (.inl rfl) ?_
            refine tgA ?_
            refine tr_nil ⟨rfl, by simp [LooksL, lookAll], ?_⟩
            refine goA 60 ?_
            refine loopP_next (e ++ [x], u, iAdd .i64 j 1, true) ⟨by simp [v1], hj2, ht, hvl⟩ (by simp) (ent_sub [.to 0] [some 0] ⟨⟨by simp, rfl⟩, trivial⟩ ⟨osrc_arr (b := 0) rfl rfl rfl rfl hcw, trivial⟩ ⟨.refl _, .refl _, .refl _, .cl hnc, .refl _, trivial⟩)
          ·
            simp [ee] at c1
        | false =>
          have ht : iEq x qV = decide (qV ∈ e ++ [x]) := by
            have : qV ∉ e := by simpa using vt.symm
            simp only [ee]
            rw [Bool.eq_iff_iff]; simp [this]; exact eq_comm
          refine goB hX 0 (by conv => lhs; cbv; try simp only [kc, kx, hc, hat, hax]; cbv; try simp only [kc, kx, hc, hat, hax]; cbv; try simp only [kc, kx, hc, hat, hax]; cbv; try simp only [kc, kx, hc, hat, hax]; cbv) ?_
          refine on_cond rfl (fun c1 => ?_) (fun c1 => ?_)
          ·
            simp [ee] at c1
            refine goA 60 ?_
            refine tr_drawX rfl (by conv => lhs; cbv) (by conv => lhs; cbv) (by decide) (by decide) (by conv => lhs; cbv) rfl ?_
            refine tgA ?_
            refine tr_ung rfl ?_
            refine tgA ?_
            refine tr_ung rfl ?_
            refine tgA ?_
            refine tr_ung rfl ?_
            refine tgA ?_
            refine tr_ung rfl ?_
            refine tgB hX (by conv => lhs; cbv; try simp only [kc, kx, hc, hat, hax]; cbv; try simp only [kc, kx, hc, hat, hax]; cbv; try simp only [kc, kx, hc, hat, hax]; cbv; try simp only [kc, kx, hc, hat, hax]; cbv) ?_
            refine tr_ung rfl ?_
            refine tgA ?_
            refine tr_ung rfl ?_
            refine tgA ?_
            refine tr_ung rfl ?_
            refine tgA ?_
            refine tr_ung rfl ?_
            refine tgA ?_
            refine tr_ung rfl ?_
            refine tgB hX (by conv => lhs; cbv; try simp only [kc, kx, hc, hat, hax]; cbv; try simp only [kc, kx, hc, hat, hax]; cbv; try simp only [kc, kx, hc, hat, hax]; cbv; try simp only [kc, kx, hc, hat, hax]; cbv) ?_
            refine tr_ung rfl ?_
            refine tgA ?_
            refine tr_nil ⟨rfl, by simp [LooksL, lookAll], ?_⟩
            refine goA 60 ?_
            refine loopP_next (e ++ [x], u, iAdd .i64 j 1, iEq x qV) ⟨by simp [v1], hj2, ht, hvl⟩ (by simp) (ent_sub [.to 0] [some 0] ⟨⟨by simp, rfl⟩, trivial⟩ ⟨osrc_arr (b := 0) rfl rfl rfl rfl hcw, trivial⟩ ⟨.refl _, .refl _, .refl _, .cl hnc, .refl _, trivial⟩)
          ·
            simp [ee] at c1
      · have kx : iLe x qV = false := by simp only [ee]; simpa using hx
        have hub : ∀ y ∈ x :: u, qV < y := fun y hy => by
          have hp2 : (x :: u).Pairwise (· < ·) := by rw [v1] at gp; exact (List.pairwise_append.1 gp).2.1
          rcases List.mem_cons.1 hy with rfl | h
          · omega
          · have := (List.pairwise_cons.1 hp2).1 y h; omega
        cases tw with
        | true =>
          have same := same rfl
          refine goB hX 0 (by conv => lhs; cbv; try simp only [kc, kx, n1, hc, hat, hax]; cbv; try simp only [kc, kx, n1, hc, hat, hax]; cbv; try simp only [kc, kx, n1, hc, hat, hax]; cbv; try simp only [kc, kx, n1, hc, hat, hax]; cbv) ?_
          refine on_cond rfl (fun c1 => ?_) (fun c1 => ?_)
          ·
            simp [ee] at c1
          ·
            simp [ee] at c1
            refine goA 60 ?_
            refine loopP_exit ?_
            refine goB hX 0 (by conv => lhs; cbv; try simp only [kc, kx, n1, hc, hat, hax]; cbv; try simp only [kc, kx, n1, hc, hat, hax]; cbv; try simp only [kc, kx, n1, hc, hat, hax]; cbv; try simp only [kc, kx, n1, hc, hat, hax]; cbv) ?_
            refine goA 60 ?_
            refine loopP_next (d ++ [q], r, iAdd .i64 i 1, l, .sl 0 1 0 m, w, m) ⟨by simp [g1], hi2, gp, same, gw, hl2, gM, (if_neg hl).symm⟩ (by simp) (ent_sub [.to 0] [some 0] ⟨⟨by simp, rfl⟩, trivial⟩ ⟨osrc_arr (b := 0) rfl rfl rfl rfl hcw, trivial⟩ ⟨.refl _, .cl hnc, .refl _, trivial⟩)
        | false =>
          obtain ⟨i1, i2⟩ := ins hub rfl
          refine goB hX 0 (by conv => lhs; cbv; try simp only [kc, kx, n0, hc, hat, hax, f1, f2, f4, f5, f6]; cbv; try simp only [kc, kx, n0, hc, hat, hax, f1, f2, f4, f5, f6]; cbv; try simp only [kc, kx, n0, hc, hat, hax, f1, f2, f4, f5, f6]; cbv; try simp only [kc, kx, n0, hc, hat, hax, f1, f2, f4, f5, f6]; cbv) ?_
          refine on_cond rfl (fun c1 => ?_) (fun c1 => ?_)
          ·
            simp [ee] at c1
          ·
            simp [ee] at c1
            refine goA 60 ?_
            refine loopP_exit ?_
            refine goB hX 0 (by conv => lhs; cbv; try simp only [kc, kx, n0, hc, hat, hax, f1, f2, f4, f5, f6]; cbv; try simp only [kc, kx, n0, hc, hat, hax, f1, f2, f4, f5, f6]; cbv; try simp only [kc, kx, n0, hc, hat, hax, f1, f2, f4, f5, f6]; cbv; try simp only [kc, kx, n0, hc, hat, hax, f1, f2, f4, f5, f6]; cbv) ?_
            refine goA 60 ?_
            refine tr_drawX rfl (by conv => lhs; cbv) (by conv => lhs; cbv) (by decide) (by decide) (by conv => lhs; cbv) rfl ?_
            refine tgB hX (by conv => lhs; cbv; try simp only [kc, kx, n0, hc, hat, hax, f1, f2, f4, f5, f6]; cbv; try simp only [kc, kx, n0, hc, hat, hax, f1, f2, f4, f5, f6]; cbv; try simp only [kc, kx, n0, hc, hat, hax, f1, f2, f4, f5, f6]; cbv; try simp only [kc, kx, n0, hc, hat, hax, f1, f2, f4, f5, f6]; cbv) ?_
            refine tr_nil ⟨rfl, by simp [LooksL, lookAll], ?_⟩
            refine goA 60 ?_
            refine loopP_next (d ++ [q], r, iAdd .i64 i 1, e ++ qV :: x :: u, .sl 0 1 0 (addN (natOf j) (lenN VU)), W, addN (natOf j) (lenN VU)) ⟨by simp [g1], hi2, i1, i2, hWe, hel2, hWl, (if_neg hne2).symm⟩ (by simp) (ent_sub [.gone, .gone, .gone, .to 0] [some 3] ⟨trivial, trivial, trivial, ⟨by simp, rfl⟩, trivial⟩ ⟨osrc_arr (b := 3) rfl rfl rfl rfl hWc, trivial⟩ ⟨.refl _, .cl hnc, .refl _, trivial⟩)
theorem P_eqf (f : FuncId) (a a2 : List Pat) (hlen : a.length < 1048576) (hih : ∀ q ∈ a, ∀ q2, PCall EE f [q.enc, q2.enc] (bool (eqB q q2))) : PCall EE 61 [.isl 14 (mapE Pat.enc a), .isl 14 (mapE Pat.enc a2), .fn f []] (bool (eqB a a2)) := by
 have hcl := Pat.closedI a
 have hcl2 := Pat.closedI a2
 obtain ⟨R, hR⟩ : ∃ R, R = eqB a a2 := ⟨_, rfl⟩
 rw [← hR]
 refine wordsN ?_; unhygienic intros
 generalize hes : mapE Pat.enc a = es at *
 generalize hes2 : mapE Pat.enc a2 = es2 at *
 have hel : es.length = a.length := by rw [← hes, mapE_len]
 have hel2 : es2.length = a2.length := by rw [← hes2, mapE_len]
 refine fn_body (fn := Tryz.f61) (n := 32) (ac := Tryzc61) (rvs := [.t 6]) rfl (by decide) Tryzp61 rfl rfl rfl ?_
 by_cases hl8 : a.length = a2.length
 rotate_left
 · have hR : R = false := by rw [hR]; exact eqB_f (fun h => hl8 (by rw [h]))
   have hln : iNe (lenA es) (lenA es2) = true := by simp only [ee]; simp; omega
   refine goB hX 0 (by conv => lhs; cbv; try simp only [hln]; cbv; try simp only [hln]; cbv; try simp only [hln]; cbv; try simp only [hln]; cbv) ?_
   refine goA 60 ?_
   refine fn_ret rfl rfl (.val ?_)
   exact congrArg Value.bool hR.symm
 have hln : iNe (lenA es) (lenA es2) = false := by simp only [ee]; simp; omega
 refine goB hX 0 (by conv => lhs; cbv; try simp only [hln]; cbv; try simp only [hln]; cbv; try simp only [hln]; cbv; try simp only [hln]; cbv) ?_
 refine goA 60 ?_
 refine on_loopP (ι := List Pat × List Pat × List Pat × List Pat × Int) (fun p => ([(17, int p.2.2.2.2), (16, int (lenA es)), (15, .isl 14 es), (1, .isl 14 es2), (2, .fn f [])], [])) (fun p => a = p.1 ++ p.2.1 ∧ a2 = p.2.2.1 ++ p.2.2.2.1 ∧ p.2.2.2.2 = p.1.length ∧ p.1 = p.2.2.1) (fun p => p.2.1.length) ([], a, [], a2, 0) ⟨rfl, rfl, rfl, rfl⟩ ?_ ?_
 · exact (ent_sub [] [] trivial trivial ⟨.refl _, .refl _, .cl hcl, .cl hcl2, .refl _, trivial⟩)
 rintro ⟨d, r, d2, r2, i⟩ ⟨g1, g2, gi, gd⟩
 dsimp only at g1 g2 gi gd ⊢
 subst gd
 cases r with
 | nil =>
  have L1 := len_split g1
  try simp only [List.length] at L1
  have hc : iLt i (lenA es) = false := lt_f e_iLt e_lenA (by omega)
  have L2 := len_split g2
  try simp only [List.length] at L2
  have hr2 : r2 = [] := List.length_eq_zero_iff.1 (by omega)
  have hR : R = true := by rw [hR]; exact eqB_t (by rw [g1, g2, hr2])
  refine goB hX 0 (by conv => lhs; cbv; try simp only [hc]; cbv; try simp only [hc]; cbv; try simp only [hc]; cbv; try simp only [hc]; cbv) ?_
  refine goA 60 ?_
  refine loopP_exit ?_
  refine goA 60 ?_
  refine fn_ret rfl rfl (.val ?_)
  exact congrArg Value.bool hR.symm
 | cons q r =>
  have L1 := len_split g1
  try simp only [List.length] at L1
  have hc : iLt i (lenA es) = true := lt_t e_iLt e_lenA (by omega)
  have hat := el_at e_atA hes g1 gi
  have L2 := len_split g2
  try simp only [List.length] at L2
  cases r2 with
  | nil => exfalso; simp at L2; omega
  | cons q2 r2 =>
   have hat2 := el_at e_atA hes2 g2 gi
   have hq := hih q (by rw [g1]; simp) q2
   have hqc := Pat.closed q
   have hqc2 := Pat.closed q2
   obtain ⟨qO, qA, qT, qV, qS, qN, qCo, qCa, qCv, qCf, qCk, qXk, qXn, qXt, hx⟩ := Pat.form q
   obtain ⟨q2O, q2A, q2T, q2V, q2S, q2N, q2Co, q2Ca, q2Cv, q2Cf, q2Ck, q2Xk, q2Xn, q2Xt, hx2⟩ := Pat.form q2
   rw [hx, hx2] at hq
   rw [hx] at hat hqc
   rw [hx2] at hat2 hqc2
   have hi2 : iAdd .i64 i 1 = ((d ++ [q]).length : Int) := by rw [List.length_append]; exact inc_w e_iAdd gi (by omega)
   by_cases hqq : q = q2
   · rw [eqB_t hqq] at hq
     have hnt : bNot true = false := by simp [ee]
     refine goB hX 0 (by conv => lhs; cbv; try simp only [hc, hat, hat2, hnt]; cbv; try simp only [hc, hat, hat2, hnt]; cbv; try simp only [hc, hat, hat2, hnt]; cbv; try simp only [hc, hat, hat2, hnt]; cbv) ?_
     refine goB hX 1 (by conv => lhs; cbv; try simp only [hc, hat, hat2, hnt]; cbv; try simp only [hc, hat, hat2, hnt]; cbv; try simp only [hc, hat, hat2, hnt]; cbv; try simp only [hc, hat, hat2, hnt]; cbv) ?_
     refine on_pcallv (args := [AV.agg [int qO, AV.isl 14 qA, int qT, int qV, int qS, int qN, int qCo, AV.isl 8 qCa, int qCv, int qCf, int qCk, int qXk, int qXn, str qXt], AV.agg [int q2O, AV.isl 14 q2A, int q2T, int q2V, int q2S, int q2N, int q2Co, AV.isl 8 q2Ca, int q2Cv, int q2Cf, int q2Ck, int q2Xk, int q2Xn, str q2Xt]]) rfl rfl rfl rfl hq (by simp [AV.closedL, closed_v, closed_agg, hqc, hqc2]) ?_
     refine goB hX 0 (by conv => lhs; cbv; try simp only [hc, hat, hat2, hnt]; cbv; try simp only [hc, hat, hat2, hnt]; cbv; try simp only [hc, hat, hat2, hnt]; cbv; try simp only [hc, hat, hat2, hnt]; cbv) ?_
     refine goA 60 ?_
     refine loopP_next (d ++ [q], r, d ++ [q2], r2, iAdd .i64 i 1) ⟨by simp [g1], by simp [g2], hi2, by simp [hqq]⟩ (by simp) (ent_sub [.gone, .gone] [] ⟨trivial, trivial, trivial⟩ trivial ⟨.refl _, .refl _, .cl hcl, .cl hcl2, .refl _, trivial⟩)
   · rw [eqB_f hqq] at hq
     have hnf : bNot false = true := by simp [ee]
     have hR : R = false := by rw [hR]; exact eqB_f (by rw [g1, g2]; simp [hqq])
     refine goB hX 0 (by conv => lhs; cbv; try simp only [hc, hat, hat2, hnf]; cbv; try simp only [hc, hat, hat2, hnf]; cbv; try simp only [hc, hat, hat2, hnf]; cbv; try simp only [hc, hat, hat2, hnf]; cbv) ?_
     refine goB hX 1 (by conv => lhs; cbv; try simp only [hc, hat, hat2, hnf]; cbv; try simp only [hc, hat, hat2, hnf]; cbv; try simp only [hc, hat, hat2, hnf]; cbv; try simp only [hc, hat, hat2, hnf]; cbv) ?_
     refine on_pcallv (args := [AV.agg [int qO, AV.isl 14 qA, int qT, int qV, int qS, int qN, int qCo, AV.isl 8 qCa, int qCv, int qCf, int qCk, int qXk, int qXn, str qXt], AV.agg [int q2O, AV.isl 14 q2A, int q2T, int q2V, int q2S, int q2N, int q2Co, AV.isl 8 q2Ca, int q2Cv, int q2Cf, int q2Ck, int q2Xk, int q2Xn, str q2Xt]]) rfl rfl rfl rfl hq (by simp [AV.closedL, closed_v, closed_agg, hqc, hqc2]) ?_
     refine goB hX 0 (by conv => lhs; cbv; try simp only [hc, hat, hat2, hnf]; cbv; try simp only [hc, hat, hat2, hnf]; cbv; try simp only [hc, hat, hat2, hnf]; cbv; try simp only [hc, hat, hat2, hnf]; cbv) ?_
     refine goA 60 ?_
     refine loopP_ret ?_
     refine goA 60 ?_
     refine fn_ret rfl rfl (.val ?_)
     exact congrArg Value.bool hR.symm
theorem P_pattern_Same : ∀ x y : Pat, x.Sm → PCall EE 26 [x.enc, y.enc] (bool (eqB x y)) := by
 refine Pat.ind ?_
 intro o a t v s n c ih y hs
 obtain ⟨o2, a2, t2, v2, s2, n2, c2⟩ := y
 have hlen := hs.len
 have hih : ∀ q ∈ a, ∀ q2, PCall EE 26 [q.enc, q2.enc] (bool (eqB q q2)) := fun q hq q2 => ih q hq q2 (hs.arg hq)
 have hcs := P_expr_Same c c2 hs.cond
 have hcl := Pat.closedI a
 have hcl2 := Pat.closedI a2
 have hcc := Ex.closed c
 have hcc2 := Ex.closed c2
 obtain ⟨R, hR⟩ : ∃ R, R = eqB (Pat.mk o a t v s n c) (Pat.mk o2 a2 t2 v2 s2 n2 c2) := ⟨_, rfl⟩
 have hRe : o = o2 → t = t2 → v = v2 → s = s2 → n = n2 → c = c2 → R = eqB a a2 := by
  rintro rfl rfl rfl rfl rfl rfl
  rw [hR]
  by_cases h : a = a2
  · rw [h, eqB_t rfl, eqB_t rfl]
  · rw [eqB_f h, eqB_f (by simp [h])]
 have hRf : ¬(o = o2 ∧ t = t2 ∧ v = v2 ∧ s = s2 ∧ n = n2 ∧ c = c2 ∧ a.length = a2.length) → R = false := by
  intro h; rw [hR]; refine eqB_f fun h2 => h ?_
  simp only [Pat.mk.injEq] at h2
  obtain ⟨rfl, rfl, rfl, rfl, rfl, rfl, rfl⟩ := h2
  simp
 obtain ⟨B, hB⟩ : ∃ B, B = eqB c c2 := ⟨_, rfl⟩
 have hB1 : B = true → c = c2 := fun h => eqB_iff.1 (hB ▸ h)
 have hB2 : B = false → c ≠ c2 := fun h hc => by rw [hB, eqB_t hc] at h; cases h
 rw [← hB] at hcs
 rw [← hR]
 obtain ⟨cCo, cC, cv, cf, ck, cxk, cxn, cxt⟩ := c
 obtain ⟨dCo, dC, dv, df, dk, dxk, dxn, dxt⟩ := c2
 rw [Pat.enc_mk, Pat.enc_mk]
 rw [Ex.enc_mk] at hcc hcc2 hcs
 rw [Ex.enc_mk] at hcs
 dsimp only at hcc hcc2 hcs ⊢
 have hcC := Ex.closedI cC
 have hcD := Ex.closedI dC
 clear ih hs hR hB
 have hef := P_eqf 26 a a2 hlen hih
 have hcL := Pat.closedL a
 have hcL2 := Pat.closedL a2
 refine wordsN ?_; unhygienic intros
 generalize mapE Ex.enc cC = cC' at *
 generalize mapE Ex.enc dC = dC' at *
 generalize hes : mapE Pat.enc a = es at *
 generalize hes2 : mapE Pat.enc a2 = es2 at *
 have hel : es.length = a.length := by rw [← hes, mapE_len]
 have hel2 : es2.length = a2.length := by rw [← hes2, mapE_len]
 have hor : ∀ b, bOr false b = b := by simp [ee]
 have hor2 : ∀ b, bOr b false = b := by simp [ee]
 have hort : ∀ b, bOr true b = true := by simp [ee]
 have hne : ∀ z, iNe z z = false := by simp [ee]
 have hnt : bNot true = false := by simp [ee]
 have hnf : bNot false = true := by simp [ee]
 refine fn_body (fn := Tryz.f26) (n := 51) (ac := Tryzc26) (rvs := [.t 4]) rfl (by decide) Tryzp26 rfl rfl rfl ?_
 by_cases hd : o = o2 ∧ t = t2 ∧ v = v2 ∧ s = s2 ∧ n = n2
 rotate_left
 · have hR : R = false := hRf (fun h => hd ⟨h.1, h.2.1, h.2.2.1, h.2.2.2.1, h.2.2.2.2.1⟩)
   have hbig : bOr (bOr (bOr (bOr (iNe o o2) (iNe t t2)) (iNe v v2)) (iNe s s2)) (iNe n n2) = true := by
    simp only [ee]
    simp only [Bool.or_eq_true, bne_iff_ne, ne_eq]
    by_cases h1 : o = o2 <;> by_cases h2 : t = t2 <;> by_cases h3 : v = v2 <;> by_cases h4 : s = s2 <;> by_cases h5 : n = n2 <;> simp_all
   refine goB hX 0 (by conv => lhs; cbv; try simp only [hbig, hor, hort]; cbv; try simp only [hbig, hor, hort]; cbv; try simp only [hbig, hor, hort]; cbv; try simp only [hbig, hor, hort]; cbv) ?_
   refine goA 60 ?_
   refine on_gskip rfl rfl ?_
   refine goA 60 ?_
   refine fn_ret rfl rfl (.val ?_)
   exact congrArg Value.bool hR.symm
 obtain ⟨rfl, rfl, rfl, rfl, rfl⟩ := hd
 cases B with
 | false =>
  have hR : R = false := hRf (fun h => hB2 rfl h.2.2.2.2.2.1)
  refine goB hX 0 (by conv => lhs; cbv; try simp only [hne, hor, hort, hnf]; cbv; try simp only [hne, hor, hort, hnf]; cbv; try simp only [hne, hor, hort, hnf]; cbv; try simp only [hne, hor, hort, hnf]; cbv) ?_
  refine goA 60 ?_
  refine oPG hcs ?_
  refine goB hX 0 (by conv => lhs; cbv; try simp only [hne, hor, hort, hnf]; cbv; try simp only [hne, hor, hort, hnf]; cbv; try simp only [hne, hor, hort, hnf]; cbv; try simp only [hne, hor, hort, hnf]; cbv) ?_
  refine goA 60 ?_
  refine fn_ret rfl rfl (.val ?_)
  exact congrArg Value.bool hR.symm
 | true =>
 have hRe := hRe rfl rfl rfl rfl rfl (hB1 rfl)
 rw [hRe]
 generalize eqB a a2 = R2 at hef
 refine goB hX 0 (by conv => lhs; cbv; try simp only [hne, hor, hort, hnt]; cbv; try simp only [hne, hor, hort, hnt]; cbv; try simp only [hne, hor, hort, hnt]; cbv; try simp only [hne, hor, hort, hnt]; cbv) ?_
 refine goA 60 ?_
 refine oPG hcs ?_
 refine goB hX 0 (by conv => lhs; cbv; try simp only [hne, hor, hort, hnt]; cbv; try simp only [hne, hor, hort, hnt]; cbv; try simp only [hne, hor, hort, hnt]; cbv; try simp only [hne, hor, hort, hnt]; cbv) ?_
 refine goA 60 ?_
 refine oPA hef ?_
 refine goA 60 ?_
 refine fn_ret rfl rfl (.val ?_)
 rfl
theorem P_lawFinds (p q : Pat) (v : Int) (hs : p.Sm) (hs2 : q.Sm) : PCall EE 5 [p.enc, q.enc, int v] (bool true) := by
 have q1 := P_ref09_Few p hs
 have q2 := P_ref09_Few q hs2
 have q3 := P_awake
 have q4 := P_Around p v hs
 have q5 := P_ref09_Around p v hs
 have hpl := Pat.path_len v p
 have hcn := hs.1
 have hl1 : (p.lims v).length < 1048577 := by
  unfold Pat.lims limsF
  split
  · rw [List.length_map]; have := List.length_filter_le (fun q : Pat => decide (q.op = 6 ∨ q.op = 10)) (p.path v); omega
  · simp
 have hl2 : (p.scs v).length < 1048577 := by
  unfold Pat.scs scsF
  split
  · rw [List.length_map]; have := List.length_filter_le (fun q : Pat => decide (q.op = 5 ∨ q.op = 9)) (p.path v); omega
  · simp
 have q6 := P_SameLimits (p.lims v) (p.lims v) hl1
 have q7 := P_SameInts (p.scs v) (p.scs v) hl2
 have q8 := P_Bound p hs
 have q9 := P_ref09_Bound p hs
 have hl3 : p.bound.length < 1048577 := by
  have h1 := Pat.nodes_len p
  have h2 : p.bound.length ≤ (sortI (bndF p.nodes)).length := compact_le _
  rw [sort_len] at h2
  have h3 : (bndF p.nodes).length ≤ p.nodes.length := by unfold bndF; rw [List.length_map]; exact List.length_filter_le _ _
  omega
 have zA := P_SameInts p.bound p.bound hl3
 have zB := P_pattern_Same p q hs
 have zC := P_ref09_Same p q hs
 have zD := P_pattern_Same p p hs
 rw [eqB_t rfl] at q6 q7 zA zD
 have kc1 := Pat.closed p
 have kc2 := Pat.closed q
 have kc3 : (AV.isl 2 (mapE Lim.enc (p.lims v))).closed = true := by
  simp only [AV.closed]; exact closed_mapE (fun e => by simp [Lim.enc, AV.closed, AV.closedL]) _
 have kc4 := closedI_int (p.scs v)
 have kc5 := closedI_int p.bound
 clear hpl hcn hl1 hl2 hl3
 generalize mapE Lim.enc (p.lims v) = A1 at *
 generalize mapE int (p.scs v) = A2 at *
 generalize mapE int p.bound = A3 at *
 generalize p.aroundE v = er at *
 generalize eqB p q = sm at *
 generalize p.few = fp at *
 generalize q.few = fq at *
 obtain ⟨pO, pA, pT, pV, pS, pN, pCo, pCa, pCv, pCf, pCk, pXk, pXn, pXt, hx⟩ := Pat.form p
 obtain ⟨qO, qA, qT, qV, qS, qN, qCo, qCa, qCv, qCf, qCk, qXk, qXn, qXt, hx2⟩ := Pat.form q
 rw [hx] at q1 q4 q5 q8 q9 zB zC zD kc1 ⊢
 rw [hx2] at q2 zB zC kc2 ⊢
 clear hx hx2 hs hs2
 refine wordsN ?_; unhygienic intros
 have t1 : ∀ x : Int, iEq x x = true := fun x => by simp only [ee]; simp
 have b1 : ∀ x : Bool, bEq x x = true := fun x => by simp only [ee]; simp
 have n0 : bNot false = true := by simp only [ee]; rfl
 have n1 : bNot true = false := by simp only [ee]; rfl
 refine fn_body (fn := Tryz.f5) (n := 73) (ac := Tryzc5) (rvs := [.t 6]) rfl (by decide) Tryzp5 rfl rfl rfl ?_
 cases fp with
 | false =>
  refine goA 60 ?_
  refine oPA q1 ?_
  refine goB hX 0 (by conv => lhs; cbv; try simp only [n0]; cbv; try simp only [n0]; cbv; try simp only [n0]; cbv; try simp only [n0]; cbv) ?_
  refine goA 60 ?_
  refine on_gskip rfl rfl ?_
  refine goA 60 ?_
  refine oPA q3 ?_
  refine goA 60 ?_
  refine fn_ret rfl rfl (.val ?_)
  rfl
 | true =>
  cases fq with
  | false =>
   refine goA 60 ?_
   refine oPA q1 ?_
   refine goB hX 0 (by conv => lhs; cbv; try simp only [n0, n1]; cbv; try simp only [n0, n1]; cbv; try simp only [n0, n1]; cbv; try simp only [n0, n1]; cbv) ?_
   refine goA 60 ?_
   refine oPG q2 ?_
   refine goB hX 0 (by conv => lhs; cbv; try simp only [n0, n1]; cbv; try simp only [n0, n1]; cbv; try simp only [n0, n1]; cbv; try simp only [n0, n1]; cbv) ?_
   refine on_cond rfl (fun c1 => ?_) (fun c1 => ?_)
   ·
    simp [ee] at c1
    refine goA 60 ?_
    refine oPA q3 ?_
    refine goA 60 ?_
    refine fn_ret rfl rfl (.val ?_)
    rfl
   ·
    simp [ee] at c1
  | true =>
   refine goA 60 ?_
   refine oPA q1 ?_
   refine goB hX 0 (by conv => lhs; cbv; try simp only [n1, t1]; cbv; try simp only [n1, t1]; cbv; try simp only [n1, t1]; cbv; try simp only [n1, t1]; cbv) ?_
   refine goA 60 ?_
   refine oPG q2 ?_
   refine goB hX 0 (by conv => lhs; cbv; try simp only [n1, t1]; cbv; try simp only [n1, t1]; cbv; try simp only [n1, t1]; cbv; try simp only [n1, t1]; cbv) ?_
   refine on_cond rfl (fun c1 => ?_) (fun c1 => ?_)
   ·
    simp [ee] at c1
   ·
    simp [ee] at c1
    refine goA 60 ?_
    refine oPA q4 ?_
    refine goA 60 ?_
    refine oPA q5 ?_
    refine goA 60 ?_
    refine tr_drawB rfl (by conv => lhs; cbv) rfl ?_
    refine oPT q3 ?_
    refine tgA ?_
    refine tr_ung rfl ?_
    refine tgA ?_
    refine tr_ung rfl ?_
    refine tgA ?_
    refine tr_ung rfl ?_
    refine oPT q6 ?_
    refine tgA ?_
    refine tr_ung rfl ?_
    refine tgA ?_
    refine tr_ung rfl ?_
    refine tgA ?_
    refine tr_ung rfl ?_
    refine oPT q7 ?_
    refine tgA ?_
    refine tr_ung rfl ?_
    refine tgA ?_
    refine tr_ung rfl ?_
    refine tgA ?_
    refine tr_ung rfl ?_
    refine tgA ?_
    refine tgB hX (by conv => lhs; cbv; try simp only [n1, t1]; cbv; try simp only [n1, t1]; cbv; try simp only [n1, t1]; cbv; try simp only [n1, t1]; cbv) ?_
    refine tr_ung rfl ?_
    refine tgA ?_
    refine tr_ung rfl ?_
    refine oPT q8 ?_
    refine tr_ung rfl ?_
    refine tgA ?_
    refine tr_ung rfl ?_
    refine oPT q9 ?_
    refine tr_ung rfl ?_
    refine oPT zA ?_
    refine tgA ?_
    refine tr_ung rfl ?_
    refine tgA ?_
    refine tr_ung rfl ?_
    refine tgA ?_
    refine tr_ung rfl ?_
    refine oPT zB ?_
    refine tr_ung rfl ?_
    refine tgA ?_
    refine tr_ung rfl ?_
    refine tgA ?_
    refine tr_ung rfl ?_
    refine oPT zC ?_
    refine tr_ung rfl ?_
    refine tgB hX (by conv => lhs; cbv; try simp only [b1]; cbv; try simp only [b1]; cbv; try simp only [b1]; cbv; try simp only [b1]; cbv) ?_
    refine tr_ung rfl ?_
    refine tgA ?_
    refine tr_ung rfl ?_
    refine tgA ?_
    refine tr_ung rfl ?_
    refine oPT zD ?_
    refine tgA ?_
    refine tr_nil ⟨rfl, ?_, ?_⟩
    · simp only [LooksL, lookAll, List.append, List.cons_append, List.nil_append, List.append_nil]; and_intros <;> first | trivial | (intro hp; first | rfl | exact absurd (show false = true from hp) Bool.false_ne_true)
    refine goA 60 ?_
    refine fn_ret rfl rfl (.val ?_)
    rfl
end Go.Am
end
