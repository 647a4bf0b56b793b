/- Contracts of the program's functions, for every argument that meets the conditions that each theorem names. -/
import Derived.Test.YteahddjeanhnlaaDoorAm6
import Derived.Test.YteahddjeanhnlaaDoorCt2
import Derived.Test.YteahddjeanhnlaaDoorAm5
section
set_option maxHeartbeats 16000000
set_option maxRecDepth 100000
namespace Go.Am
open Go.Proofs
theorem nsp_of {c : UInt8} (h : nsp c = false) : ch c = 32 ∨ ch c = 10 := by
 simp only [nsp, Bool.and_eq_false_iff, bne_eq_false_iff_eq] at h
 rcases h with rfl | rfl
 · exact .inl rfl
 · exact .inr rfl
theorem nsp_ne {c : UInt8} (h : nsp c = true) : ch c ≠ 32 ∧ ch c ≠ 10 := by
 simp only [nsp, Bool.and_eq_true, bne_iff_ne, ne_eq] at h
 exact ⟨fun e => h.1 (ch_inj e), fun e => h.2 (ch_inj e)⟩
theorem P_end (l d w r : Bs) (hs : l = d ++ (w ++ r)) (hw : ∀ c ∈ w, nsp c = true) (hr : stops r) (hl : l.length < 1152921504606846976) (a0 : Int) (ha : a0 = d.length) (a1 : Int) (hb : a1 = (d.length + w.length : Nat)) : PCall EE 43 [str (ba l), int a0] (int a1) := by
 have hsz := ba_size l
 have hget := fun d c r h => ba_get l d r c h
 generalize ba l = s at *
 refine wordsN ?_; unhygienic intros
 have hn : sLen s = (l.length : Int) := by simp only [ee]; rw [hsz]
 have hat : ∀ d c r, l = d ++ c :: r → ∀ i : Int, i = d.length → sAt s i = ch c := fun d c r h i hi => by
  subst hi; simp only [ee, ch]; rw [Int.toNat_natCast, hget d c r h]
 refine fn_body (fn := Tryd.f43) (n := 24) (ac := Trydc43) (rvs := [.t 4]) rfl (by decide) Trydp43 rfl rfl rfl ?_
 refine goA 60 ?_
 refine on_loopP (ι := Bs × Bs × Int) (fun p => ([(1, int p.2.2), (0, str s)], [])) (fun p => w = p.1 ++ p.2.1 ∧ p.2.2 = (d.length + p.1.length : Nat)) (fun p => p.2.1.length) ([], w, a0) ⟨rfl, by simp [ha]⟩ ?_ ?_
 · exact (ent_sub [] [] trivial trivial ⟨.refl _, .refl _, trivial⟩)
 rintro ⟨a, b, i⟩ ⟨g1, gi⟩
 dsimp only at g1 gi ⊢
 have L1 := congrArg List.length hs
 have L2 := congrArg List.length g1
 simp only [List.length_append] at L1 L2
 cases b with
 | nil =>
  have e1 : a1 = i := by rw [gi, hb]; simp at L2; omega
  rw [List.append_nil] at g1
  subst g1
  rw [e1]
  cases r with
  | nil =>
   have hc : iLt i (sLen s) = false := by rw [hn]; simp only [ee]; simp at L1 ⊢; omega
   refine goB hX 0 (by conv => lhs; cbv; try simp only [hc]; cbv; try simp only [hc]; cbv; try simp only [hc]; cbv; try simp only [hc]; cbv) ?_
   refine on_cond rfl (fun c1 => ?_) (fun c1 => ?_)
   ·
    simp [ee] at c1
   ·
    simp [ee] at c1
    refine goA 60 ?_
    refine loopP_exit ?_
    refine goA 60 ?_
    refine fn_ret rfl rfl (.val ?_)
    rfl
  | cons c r =>
   have hc : iLt i (sLen s) = true := by rw [hn]; simp only [ee]; simp at L1 ⊢; omega
   have hb : i < sLen s := by rw [hn]; simp at L1; omega
   have hb0 : 0 ≤ i := by omega
   have ht := hat (d ++ w) c r (by rw [hs]; simp) i (by rw [gi]; simp)
   clear hget hat
   rcases nsp_of hr with k | k
   · have k1 : iNe (ch c) 32 = false := by simp only [ee]; simpa using k
     refine goB hX 0 (by conv => lhs; cbv; try simp only [hc, ht, k1]; cbv; try simp only [hc, ht, k1]; cbv; try simp only [hc, ht, k1]; cbv; try simp only [hc, ht, k1]; cbv) ?_
     refine on_cond rfl (fun c1 => ?_) (fun c1 => ?_)
     ·
      simp [ee] at c1
     ·
      simp [ee] at c1
      refine goA 60 ?_
      refine loopP_exit ?_
      refine goA 60 ?_
      refine fn_ret rfl rfl (.val ?_)
      rfl
   · have k1 : iNe (ch c) 32 = true := by simp only [ee]; simp; omega
     have k2 : iNe (ch c) 10 = false := by simp only [ee]; simpa using k
     refine goB hX 0 (by conv => lhs; cbv; try simp only [hc, ht, k1, k2]; cbv; try simp only [hc, ht, k1, k2]; cbv; try simp only [hc, ht, k1, k2]; cbv; try simp only [hc, ht, k1, k2]; cbv) ?_
     refine on_cond rfl (fun c1 => ?_) (fun c1 => ?_)
     ·
      simp [ee] at c1
     ·
      simp [ee] at c1
      refine goA 60 ?_
      refine loopP_exit ?_
      refine goA 60 ?_
      refine fn_ret rfl rfl (.val ?_)
      rfl
 | cons c b =>
  have hc : iLt i (sLen s) = true := by rw [hn]; simp only [ee]; simp at L1 L2 ⊢; omega
  have hb : i < sLen s := by rw [hn]; simp at L1 L2; omega
  have hb0 : 0 ≤ i := by omega
  have ht := hat (d ++ a) c (b ++ r) (by rw [hs, g1]; simp) i (by rw [gi]; simp)
  clear hget hat
  obtain ⟨n1, n2⟩ := nsp_ne (hw c (by rw [g1]; simp))
  have k1 : iNe (ch c) 32 = true := by simp only [ee]; simpa using n1
  have k2 : iNe (ch c) 10 = true := by simp only [ee]; simpa using n2
  have hi2 : iAdd .i64 i 1 = ((d.length + (a ++ [c]).length : Nat) : Int) := by rw [inc_w e_iAdd gi (by simp at L1 L2; omega)]; simp; omega
  refine goB hX 0 (by conv => lhs; cbv; try simp only [hc, ht, k1, k2]; cbv; try simp only [hc, ht, k1, k2]; cbv; try simp only [hc, ht, k1, k2]; cbv; try simp only [hc, ht, k1, k2]; cbv) ?_
  refine on_cond rfl (fun c1 => ?_) (fun c1 => ?_)
  ·
   simp [ee] at c1
   refine goA 60 ?_
   refine loopP_next (a ++ [c], b, iAdd .i64 i 1) ⟨by simp [g1], hi2⟩ (by simp) (ent_sub [] [] trivial trivial ⟨.refl _, .refl _, trivial⟩)
  ·
   simp [ee] at c1
noncomputable def colA (w : Bs) : Int := open Classical in if (58 : UInt8) ∈ w ∧ (58 : UInt8) ∉ cutR 58 w then (cutL 58 w).length else -1
theorem P_colon (l : Bs) (hl : l.length < 1152921504606846976) : PCall EE 60 [str (ba l)] (int (colA l)) := by
 have hsz := ba_size l
 have hget := fun d c r h => ba_get l d r c h
 obtain ⟨R, hR⟩ : ∃ R, R = colA l := ⟨_, rfl⟩
 rw [← hR]
 rw [colA] at hR
 generalize ba l = s at *
 refine wordsN ?_; unhygienic intros
 have hn : sLen s = (l.length : Int) := by simp only [ee]; rw [hsz]
 have hat : ∀ d c r, l = d ++ c :: r → ∀ i : Int, i = d.length → sAt s i = ch c := fun d c r h i hi => by
  subst hi; simp only [ee, ch]; rw [Int.toNat_natCast, hget d c r h]
 refine fn_body (fn := Tryd.f60) (n := 25) (ac := Trydc60) (rvs := [.t 2]) rfl (by decide) Trydp60 rfl rfl rfl ?_
 refine goA 60 ?_
 refine on_loopP (ι := Bs × Bs × Int × Int) (fun p => ([(4, int p.2.2.1), (3, int p.2.2.2), (0, str s)], [])) (fun p => l = p.1 ++ p.2.1 ∧ p.2.2.1 = p.1.length ∧ (((58 : UInt8) ∉ p.1 ∧ p.2.2.2 = -1) ∨ ∃ x y, p.1 = x ++ 58 :: y ∧ (58 : UInt8) ∉ x ∧ (58 : UInt8) ∉ y ∧ p.2.2.2 = x.length)) (fun p => p.2.1.length) ([], l, 0, -1) ⟨rfl, rfl, .inl ⟨by simp, rfl⟩⟩ ?_ ?_
 · exact (ent_sub [] [] trivial trivial ⟨.refl _, .refl _, .refl _, trivial⟩)
 rintro ⟨d, r, i, a⟩ ⟨g1, gi, ga⟩
 dsimp only at g1 gi ga ⊢
 cases r with
 | nil =>
  have hc : iLt i (sLen s) = false := by rw [hn, g1]; simp only [ee]; simp; omega
  have e1 : R = a := by
   rw [hR]
   rw [List.append_nil] at g1
   rw [g1]
   rcases ga with ⟨h1, h2⟩ | ⟨x, y, h1, h2, h3, h4⟩
   · rw [if_neg (fun h => h1 h.1), h2]
   · rw [h1, cutR_app _ h2, cutL_app _ h2, if_pos ⟨by simp, h3⟩, h4]
  rw [e1]
  refine goB hX 0 (by conv => lhs; cbv; try simp only [hc]; cbv; try simp only [hc]; cbv; try simp only [hc]; cbv; try simp only [hc]; cbv) ?_
  refine goA 60 ?_
  refine loopP_exit ?_
  refine goA 60 ?_
  refine fn_ret rfl rfl (.val ?_)
  rfl
 | cons c r =>
  have L1 := len_split g1
  try simp only [List.length] at L1
  have hc : iLt i (sLen s) = true := by rw [hn]; simp only [ee]; simp; omega
  have hb : i < sLen s := by rw [hn]; omega
  have hb0 : 0 ≤ i := by omega
  have hi2 : iAdd .i64 i 1 = ((d ++ [c]).length : Int) := by rw [List.length_append]; exact inc_w e_iAdd gi (by omega)
  have ht := hat d c r g1 i gi
  clear hget hat
  by_cases n : c = 58
  · have k : iEq (ch c) 58 = true := by subst n; simp only [ee]; rfl
    rcases ga with ⟨h1, h2⟩ | ⟨x, y, h1, h2, h3, h4⟩
    · have ka : iLe 0 a = false := by simp only [ee]; rw [h2]; rfl
      have g2 : ((58 : UInt8) ∉ d ++ [c] ∧ i = -1) ∨ ∃ x y, d ++ [c] = x ++ 58 :: y ∧ (58 : UInt8) ∉ x ∧ (58 : UInt8) ∉ y ∧ i = x.length := .inr ⟨d, [], by rw [n], h1, by simp, gi⟩
      refine goB hX 0 (by conv => lhs; cbv; try simp only [hc, ht, k, ka]; cbv; try simp only [hc, ht, k, ka]; cbv; try simp only [hc, ht, k, ka]; cbv; try simp only [hc, ht, k, ka]; cbv) ?_
      refine goB hX 1 (by conv => lhs; cbv; try simp only [hc, ht, k, ka]; cbv; try simp only [hc, ht, k, ka]; cbv; try simp only [hc, ht, k, ka]; cbv; try simp only [hc, ht, k, ka]; cbv) ?_
      refine on_cond rfl (fun c1 => ?_) (fun c1 => ?_)
      ·
       simp [ee] at c1
      ·
       simp [ee] at c1
       refine goB hX 0 (by conv => lhs; cbv; try simp only [hc, ht, k, ka]; cbv; try simp only [hc, ht, k, ka]; cbv; try simp only [hc, ht, k, ka]; cbv; try simp only [hc, ht, k, ka]; cbv) ?_
       refine goA 60 ?_
       refine loopP_next (d ++ [c], r, iAdd .i64 i 1, i) ⟨by simp [g1], hi2, g2⟩ (by simp) (ent_sub [] [] trivial trivial ⟨.refl _, .refl _, .refl _, trivial⟩)
    · have ka : iLe 0 a = true := by simp only [ee]; rw [h4]; simp
      have e1 : R = -1 := by
       rw [hR, if_neg]
       rintro ⟨_, h⟩
       rw [g1, h1, n, List.append_assoc, List.cons_append, cutR_app _ h2] at h
       exact h (by simp)
      rw [e1]
      refine goB hX 0 (by conv => lhs; cbv; try simp only [hc, ht, k, ka]; cbv; try simp only [hc, ht, k, ka]; cbv; try simp only [hc, ht, k, ka]; cbv; try simp only [hc, ht, k, ka]; cbv) ?_
      refine goB hX 1 (by conv => lhs; cbv; try simp only [hc, ht, k, ka]; cbv; try simp only [hc, ht, k, ka]; cbv; try simp only [hc, ht, k, ka]; cbv; try simp only [hc, ht, k, ka]; cbv) ?_
      refine on_cond rfl (fun c1 => ?_) (fun c1 => ?_)
      ·
       simp [ee] at c1
       refine goA 60 ?_
       refine loopP_ret ?_
       refine goA 60 ?_
       refine fn_ret rfl rfl (.val ?_)
       rfl
      ·
       simp [ee] at c1
  · have k : iEq (ch c) 58 = false := by simp only [ee]; exact beq_eq_false_iff_ne.2 fun h => n (ch_inj (b := 58) (h.trans rfl))
    have g2 : ((58 : UInt8) ∉ d ++ [c] ∧ a = -1) ∨ ∃ x y, d ++ [c] = x ++ 58 :: y ∧ (58 : UInt8) ∉ x ∧ (58 : UInt8) ∉ y ∧ a = x.length := by
     rcases ga with ⟨h1, h2⟩ | ⟨x, y, h1, h2, h3, h4⟩
     · exact .inl ⟨by simp [h1, Ne.symm n], h2⟩
     · exact .inr ⟨x, y ++ [c], by rw [h1]; simp, h2, by simp [h3, Ne.symm n], h4⟩
    refine goB hX 0 (by conv => lhs; cbv; try simp only [hc, ht, k]; cbv; try simp only [hc, ht, k]; cbv; try simp only [hc, ht, k]; cbv; try simp only [hc, ht, k]; cbv) ?_
    refine goB hX 1 (by conv => lhs; cbv; try simp only [hc, ht, k]; cbv; try simp only [hc, ht, k]; cbv; try simp only [hc, ht, k]; cbv; try simp only [hc, ht, k]; cbv) ?_
    refine on_cond rfl (fun c1 => ?_) (fun c1 => ?_)
    ·
     simp [ee] at c1
    ·
     simp [ee] at c1
     refine goB hX 0 (by conv => lhs; cbv; try simp only [hc, ht, k]; cbv; try simp only [hc, ht, k]; cbv; try simp only [hc, ht, k]; cbv; try simp only [hc, ht, k]; cbv) ?_
     refine goA 60 ?_
     refine loopP_next (d ++ [c], r, iAdd .i64 i 1, a) ⟨by simp [g1], hi2, g2⟩ (by simp) (ent_sub [] [] trivial trivial ⟨.refl _, .refl _, .refl _, trivial⟩)
theorem P_kind (w : Bs) : PCall EK 61 [str (ba w)] (int (kdOf w)) := by
 have q0 : ((Classical.choice kwBox_ne).i.toList == (ba w).toList) = decide (w = bInt) := by
  rw [(Classical.choice kwBox_ne).hi, ba_eqB]; simp only [eq_comm]
 have q1 : ((Classical.choice kwBox_ne).b.toList == (ba w).toList) = decide (w = bBool) := by
  rw [(Classical.choice kwBox_ne).hb, ba_eqB]; simp only [eq_comm]
 have q2 : ((Classical.choice kwBox_ne).s.toList == (ba w).toList) = decide (w = bStr) := by
  rw [(Classical.choice kwBox_ne).hs, ba_eqB]; simp only [eq_comm]
 rw [kdOf]
 generalize ba w = s at *
 refine wordsN ?_; unhygienic intros
 have kl : lenA [str (Classical.choice kwBox_ne).i, str (Classical.choice kwBox_ne).b, str (Classical.choice kwBox_ne).s] = 3 := by simp only [ee]; rfl
 have k0 : atA [str (Classical.choice kwBox_ne).i, str (Classical.choice kwBox_ne).b, str (Classical.choice kwBox_ne).s] 0 = str (Classical.choice kwBox_ne).i := by simp only [ee]; rfl
 have k1 : atA [str (Classical.choice kwBox_ne).i, str (Classical.choice kwBox_ne).b, str (Classical.choice kwBox_ne).s] 1 = str (Classical.choice kwBox_ne).b := by simp only [ee]; rfl
 have k2 : atA [str (Classical.choice kwBox_ne).i, str (Classical.choice kwBox_ne).b, str (Classical.choice kwBox_ne).s] 2 = str (Classical.choice kwBox_ne).s := by simp only [ee]; rfl
 have w0 : sEq (Classical.choice kwBox_ne).i s = decide (w = bInt) := by simp only [ee]; exact q0
 have w1 : sEq (Classical.choice kwBox_ne).b s = decide (w = bBool) := by simp only [ee]; exact q1
 have w2 : sEq (Classical.choice kwBox_ne).s s = decide (w = bStr) := by simp only [ee]; exact q2
 clear q0 q1 q2
 generalize hb0 : decide (w = bInt) = b0 at *
 generalize hb1 : decide (w = bBool) = b1 at *
 generalize hb2 : decide (w = bStr) = b2 at *
 refine fn_body (fn := Tryd.f61) (n := 17) (ac := Trydc61) (rvs := [.t 2]) rfl (by decide) Trydp61 rfl rfl rfl ?_
 refine goA 60 ?_
 refine on_loopP (ι := Int) (fun p => ([(3, int p), (0, str s)], [])) (fun p => p = 0 ∨ (p = 1 ∧ b0 = false) ∨ (p = 2 ∧ b0 = false ∧ b1 = false) ∨ (p = 3 ∧ b0 = false ∧ b1 = false ∧ b2 = false)) (fun p => (3 - p).toNat) 0 (.inl rfl) ?_ ?_
 · exact (ent_sub [] [] trivial trivial ⟨.refl _, .refl _, trivial⟩)
 rintro i g
 dsimp only at g ⊢
 rcases g with rfl | ⟨rfl, rfl⟩ | ⟨rfl, rfl, rfl⟩ | ⟨rfl, rfl, rfl, rfl⟩
 · have hc : iLt 0 3 = true := by simp only [ee]; rfl
   have ha : iAdd .i64 0 1 = 1 := by simp only [ee]; rfl
   cases b0 with
   | true =>
    rw [if_pos (of_decide_eq_true hb0)]
    refine goB hX 0 (by conv => lhs; cbv; try simp only [kl, hc, k0, w0]; cbv; try simp only [kl, hc, k0, w0]; cbv; try simp only [kl, hc, k0, w0]; cbv; try simp only [kl, hc, k0, w0]; cbv) ?_
    refine goB hX 1 (by conv => lhs; cbv; try simp only [kl, hc, k0, w0]; cbv; try simp only [kl, hc, k0, w0]; cbv; try simp only [kl, hc, k0, w0]; cbv; try simp only [kl, hc, k0, w0]; cbv) ?_
    refine goA 60 ?_
    refine loopP_ret ?_
    refine goA 60 ?_
    refine fn_ret rfl rfl (.val ?_)
    rfl
   | false =>
    refine goB hX 0 (by conv => lhs; cbv; try simp only [kl, hc, k0, w0, ha]; cbv; try simp only [kl, hc, k0, w0, ha]; cbv; try simp only [kl, hc, k0, w0, ha]; cbv; try simp only [kl, hc, k0, w0, ha]; cbv) ?_
    refine goB hX 1 (by conv => lhs; cbv; try simp only [kl, hc, k0, w0, ha]; cbv; try simp only [kl, hc, k0, w0, ha]; cbv; try simp only [kl, hc, k0, w0, ha]; cbv; try simp only [kl, hc, k0, w0, ha]; cbv) ?_
    refine goA 60 ?_
    refine loopP_next (1) (.inr (.inl ⟨rfl, rfl⟩)) (by decide) (ent_sub [] [] trivial trivial ⟨.of (congrArg int (by assumption)), .refl _, trivial⟩)
 · have hc : iLt 1 3 = true := by simp only [ee]; rfl
   have ha : iAdd .i64 1 1 = 2 := by simp only [ee]; rfl
   rw [if_neg (of_decide_eq_false hb0)]
   cases b1 with
   | true =>
    rw [if_pos (of_decide_eq_true hb1)]
    refine goB hX 0 (by conv => lhs; cbv; try simp only [kl, hc, k1, w1]; cbv; try simp only [kl, hc, k1, w1]; cbv; try simp only [kl, hc, k1, w1]; cbv; try simp only [kl, hc, k1, w1]; cbv) ?_
    refine goB hX 1 (by conv => lhs; cbv; try simp only [kl, hc, k1, w1]; cbv; try simp only [kl, hc, k1, w1]; cbv; try simp only [kl, hc, k1, w1]; cbv; try simp only [kl, hc, k1, w1]; cbv) ?_
    refine goA 60 ?_
    refine loopP_ret ?_
    refine goA 60 ?_
    refine fn_ret rfl rfl (.val ?_)
    rfl
   | false =>
    refine goB hX 0 (by conv => lhs; cbv; try simp only [kl, hc, k1, w1, ha]; cbv; try simp only [kl, hc, k1, w1, ha]; cbv; try simp only [kl, hc, k1, w1, ha]; cbv; try simp only [kl, hc, k1, w1, ha]; cbv) ?_
    refine goB hX 1 (by conv => lhs; cbv; try simp only [kl, hc, k1, w1, ha]; cbv; try simp only [kl, hc, k1, w1, ha]; cbv; try simp only [kl, hc, k1, w1, ha]; cbv; try simp only [kl, hc, k1, w1, ha]; cbv) ?_
    refine goA 60 ?_
    refine loopP_next (2) (.inr (.inr (.inl ⟨rfl, rfl, rfl⟩))) (by decide) (ent_sub [] [] trivial trivial ⟨.of (congrArg int (by assumption)), .refl _, trivial⟩)
 · have hc : iLt 2 3 = true := by simp only [ee]; rfl
   have ha : iAdd .i64 2 1 = 3 := by simp only [ee]; rfl
   rw [if_neg (of_decide_eq_false hb0), if_neg (of_decide_eq_false hb1)]
   cases b2 with
   | true =>
    rw [if_pos (of_decide_eq_true hb2)]
    refine goB hX 0 (by conv => lhs; cbv; try simp only [kl, hc, k2, w2]; cbv; try simp only [kl, hc, k2, w2]; cbv; try simp only [kl, hc, k2, w2]; cbv; try simp only [kl, hc, k2, w2]; cbv) ?_
    refine goB hX 1 (by conv => lhs; cbv; try simp only [kl, hc, k2, w2]; cbv; try simp only [kl, hc, k2, w2]; cbv; try simp only [kl, hc, k2, w2]; cbv; try simp only [kl, hc, k2, w2]; cbv) ?_
    refine goA 60 ?_
    refine loopP_ret ?_
    refine goA 60 ?_
    refine fn_ret rfl rfl (.val ?_)
    rfl
   | false =>
    refine goB hX 0 (by conv => lhs; cbv; try simp only [kl, hc, k2, w2, ha]; cbv; try simp only [kl, hc, k2, w2, ha]; cbv; try simp only [kl, hc, k2, w2, ha]; cbv; try simp only [kl, hc, k2, w2, ha]; cbv) ?_
    refine goB hX 1 (by conv => lhs; cbv; try simp only [kl, hc, k2, w2, ha]; cbv; try simp only [kl, hc, k2, w2, ha]; cbv; try simp only [kl, hc, k2, w2, ha]; cbv; try simp only [kl, hc, k2, w2, ha]; cbv) ?_
    refine goA 60 ?_
    refine loopP_next (3) (.inr (.inr (.inr ⟨rfl, rfl, rfl, rfl⟩))) (by decide) (ent_sub [] [] trivial trivial ⟨.of (congrArg int (by assumption)), .refl _, trivial⟩)
 · have hc : iLt 3 3 = false := by simp only [ee]; rfl
   rw [if_neg (of_decide_eq_false hb0), if_neg (of_decide_eq_false hb1), if_neg (of_decide_eq_false hb2)]
   refine goB hX 0 (by conv => lhs; cbv; try simp only [kl, hc]; cbv; try simp only [kl, hc]; cbv; try simp only [kl, hc]; cbv; try simp only [kl, hc]; cbv) ?_
   refine goA 60 ?_
   refine loopP_exit ?_
   refine goA 60 ?_
   refine fn_ret rfl rfl (.val ?_)
   rfl
theorem mapE_snoc {α : Type} (g : α → AV) (d : List α) (x : α) : mapE g (d ++ [x]) = mapE g d ++ [g x] := by simp [mapE_eq]
theorem P_beginE (l : List Sch) (w : Bs) (hl : l.length < 1152921504606846976) (hw : w.length < 1152921504606846976) (he : begE l w ≠ 0) : PCall EE 41 [.isl 2 (mapE Sch.enc l), str (ba w)] (.tup [.val (.slice none 0 0), int (begE l w)]) := by
 have kcl := Sch.closedI l
 have pc := P_Contains 58 w
 rw [← one_ba] at pc
 have pn := P_name w hw
 have pt := P_taken l w hl
 rw [begE] at he ⊢
 generalize hb1 : decide ((58 : UInt8) ∈ w) = b1 at *
 generalize hb2 : nameB w = b2 at *
 generalize hb3 : decide (0 ≤ Sch.wh l w) = b3 at *
 generalize ba w = s at *
 refine wordsN ?_; unhygienic intros
 generalize hes : mapE Sch.enc l = es at *
 have hel : es.length = l.length := by rw [← hes, mapE_len]
 have n0 : bNot false = true := by simp only [ee]; rfl
 have n1 : bNot true = false := by simp only [ee]; rfl
 cases b1 with
 | true =>
  rw [if_pos (of_decide_eq_true hb1)]
  refine fn_body (fn := Tryd.f41) (n := 26) (ac := Trydc41) (rvs := [.t 4, .t 5]) rfl (by decide) Trydp41 rfl rfl rfl ?_
  refine goA 60 ?_
  refine oPA pc ?_
  refine goA 60 ?_
  refine fn_ret rfl rfl ?_
  exact ⟨[], trivial, .refl _⟩
 | false =>
 rw [if_neg (of_decide_eq_false hb1)] at he ⊢
 by_cases h16 : l.length = 16
 · rw [if_pos h16]
   have k : iEq (lenA es) 16 = true := by simp only [ee]; simp; omega
   refine fn_body (fn := Tryd.f41) (n := 26) (ac := Trydc41) (rvs := [.t 4, .t 5]) rfl (by decide) Trydp41 rfl rfl rfl ?_
   refine goA 60 ?_
   refine oPA pc ?_
   refine goB hX 0 (by conv => lhs; cbv; try simp only [k]; cbv; try simp only [k]; cbv; try simp only [k]; cbv; try simp only [k]; cbv) ?_
   refine goB hX 1 (by conv => lhs; cbv; try simp only [k]; cbv; try simp only [k]; cbv; try simp only [k]; cbv; try simp only [k]; cbv) ?_
   refine goA 60 ?_
   refine fn_ret rfl rfl ?_
   exact ⟨[], trivial, .refl _⟩
 have k : iEq (lenA es) 16 = false := by simp only [ee]; simp; omega
 rw [if_neg h16] at he ⊢
 cases b2 with
 | false =>
  rw [if_pos (by simp)]
  refine fn_body (fn := Tryd.f41) (n := 26) (ac := Trydc41) (rvs := [.t 4, .t 5]) rfl (by decide) Trydp41 rfl rfl rfl ?_
  refine goA 60 ?_
  refine oPA pc ?_
  refine goB hX 0 (by conv => lhs; cbv; try simp only [k, n0]; cbv; try simp only [k, n0]; cbv; try simp only [k, n0]; cbv; try simp only [k, n0]; cbv) ?_
  refine goB hX 1 (by conv => lhs; cbv; try simp only [k, n0]; cbv; try simp only [k, n0]; cbv; try simp only [k, n0]; cbv; try simp only [k, n0]; cbv) ?_
  refine goA 60 ?_
  refine oPA pn ?_
  refine goB hX 0 (by conv => lhs; cbv; try simp only [k, n0]; cbv; try simp only [k, n0]; cbv; try simp only [k, n0]; cbv; try simp only [k, n0]; cbv) ?_
  refine goA 60 ?_
  refine fn_ret rfl rfl ?_
  exact ⟨[], trivial, .refl _⟩
 | true =>
 rw [if_neg (by simp)] at he ⊢
 cases b3 with
 | true =>
  rw [if_pos (of_decide_eq_true hb3)]
  refine fn_body (fn := Tryd.f41) (n := 26) (ac := Trydc41) (rvs := [.t 4, .t 5]) rfl (by decide) Trydp41 rfl rfl rfl ?_
  refine goA 60 ?_
  refine oPA pc ?_
  refine goB hX 0 (by conv => lhs; cbv; try simp only [k, n1]; cbv; try simp only [k, n1]; cbv; try simp only [k, n1]; cbv; try simp only [k, n1]; cbv) ?_
  refine goB hX 1 (by conv => lhs; cbv; try simp only [k, n1]; cbv; try simp only [k, n1]; cbv; try simp only [k, n1]; cbv; try simp only [k, n1]; cbv) ?_
  refine goA 60 ?_
  refine oPA pn ?_
  refine goB hX 0 (by conv => lhs; cbv; try simp only [k, n1]; cbv; try simp only [k, n1]; cbv; try simp only [k, n1]; cbv; try simp only [k, n1]; cbv) ?_
  refine goA 60 ?_
  refine oPA pt ?_
  refine goA 60 ?_
  refine fn_ret rfl rfl ?_
  exact ⟨[], trivial, .refl _⟩
 | false =>
  rw [if_neg (of_decide_eq_false hb3)] at he
  exact absurd rfl he
theorem begE_ok {l : List Sch} {w : Bs} (he : begE l w = 0) : (58 : UInt8) ∉ w ∧ l.length ≠ 16 ∧ nameB w = true ∧ ¬ 0 ≤ Sch.wh l w := by
 rw [begE] at he
 by_cases g1 : (58 : UInt8) ∈ w
 · rw [if_pos g1] at he; cases he
 rw [if_neg g1] at he
 by_cases g2 : l.length = 16
 · rw [if_pos g2] at he; cases he
 rw [if_neg g2] at he
 by_cases g3 : nameB w = false
 · rw [if_pos g3] at he; cases he
 rw [if_neg g3] at he
 by_cases g4 : 0 ≤ Sch.wh l w
 · rw [if_pos g4] at he; cases he
 exact ⟨g1, g2, by simpa using g3, g4⟩
theorem enters_schema_begin : Enters EE.P 41 := enters_of (fn := Tryd.f41) (n := 26) (ac := Trydc41) rfl (by decide) Trydp41
theorem C_begin0 (w : Bs) (hw : w.length < 1152921504606846976) (he : begE [] w = 0) :
 ACall EE 41 [.val (.slice none 0 0), str (ba w)] [] fun v H' => v = .tup [.sl 0 2 0 1, int 0] ∧ H' = [.arr 2 [.agg [str (ba w), .val (.slice none 0 0)]]] := by
 obtain ⟨h1, h2, h3, h4⟩ := begE_ok he
 have pc := P_Contains 58 w
 rw [← one_ba, decide_eq_false h1] at pc
 have pn := P_name w hw
 rw [h3] at pn
 have pt := P_taken [] w (by decide)
 rw [decide_eq_false h4, mapE_eq, List.map_nil] at pt
 clear h1 h2 h3 h4 he
 generalize ba w = s at *
 refine wordsN ?_; unhygienic intros
 have n1 : bNot true = false := by simp only [ee]; rfl
 have k : iEq 0 16 = false := by simp only [ee]; rfl
 have ke1 : lenN (partA [AV.agg [str s, .val (.slice none 0 0)]] 0 1) = 1 := by simp only [ee]; rfl
 have ke2 : partA [AV.agg [str s, .val (.slice none 0 0)]] 0 1 = [.agg [str s, .val (.slice none 0 0)]] := by simp only [ee]; rfl
 refine rcall_body (fn := Tryd.f41) (n := 26) (ac := Trydc41) (rvs := [.t 4, .t 5]) rfl Trydp41 rfl rfl rfl ?_
 refine goA 60 ?_
 refine oPA pc ?_
 refine goB hX 0 (by conv => lhs; cbv; try simp only [k, n1]; cbv; try simp only [k, n1]; cbv; try simp only [k, n1]; cbv; try simp only [k, n1]; cbv) ?_
 refine goB hX 1 (by conv => lhs; cbv; try simp only [k, n1]; cbv; try simp only [k, n1]; cbv; try simp only [k, n1]; cbv; try simp only [k, n1]; cbv) ?_
 refine on_cond rfl (fun c1 => ?_) (fun c1 => ?_)
 ·
  simp [ee] at c1
 ·
  simp [ee] at c1
  refine goA 60 ?_
  refine oPA pn ?_
  refine goB hX 0 (by conv => lhs; cbv; try simp only [k, n1]; cbv; try simp only [k, n1]; cbv; try simp only [k, n1]; cbv; try simp only [k, n1]; cbv) ?_
  refine goA 60 ?_
  refine on_lend rfl rfl pt rfl ⟨[], trivial, ⟨.nilI _, .refl _, trivial⟩⟩ ?_
  refine goA 60 ?_
  (rw [ke1, ke2]; exact o_ret (F2 := [(5, int 0), (4, .sl 0 2 0 1)]) (H2 := [.arr 2 [.agg [str s, .val (.slice none 0 0)]]]) (ent_subN [.gone, .to 0] [some 1] trivial (by simp) (by simp) ⟨trivial, ⟨by simp, rfl⟩, trivial⟩ ⟨osrc_arr (b := 1) rfl rfl rfl rfl rfl, trivial⟩ ⟨.refl _, .refl _, trivial⟩) rfl ⟨rfl, rfl⟩)
theorem C_begin1 (l : List Sch) (w : Bs) (hl : l.length < 1152921504606846976) (hw : w.length < 1152921504606846976) (he : begE l w = 0) (n : Nat) (hn : n = l.length) (hb : l.length ≤ 16) :
 ACall EE 41 [.sl 0 2 0 n, str (ba w)] [.arr 2 (mapE Sch.enc l)] fun v H' => v = .tup [.sl 1 2 0 (n + 1), int 0] ∧ H' = [.dead, .arr 2 (mapE Sch.enc l ++ [.agg [str (ba w), .val (.slice none 0 0)]])] := by
 have kcl := Sch.closedI l
 have kcL := Sch.closedL l
 obtain ⟨h1, h2, h3, h4⟩ := begE_ok he
 have pc := P_Contains 58 w
 rw [← one_ba, decide_eq_false h1] at pc
 have pn := P_name w hw
 rw [h3] at pn
 have pt := P_taken l w hl
 rw [decide_eq_false h4] at pt
 clear h1 h3 h4 he
 generalize ba w = s at *
 refine wordsN ?_; unhygienic intros
 generalize hes : mapE Sch.enc l = es at *
 have hel : es.length = l.length := by rw [← hes, mapE_len]
 have n1 : bNot true = false := by simp only [ee]; rfl
 have k : iEq (iOf n) 16 = false := by simp only [ee]; simp; omega
 have kz : AV.closedL (es ++ [.agg [str s, .val (.slice none 0 0)]]) = true := closedL_append kcL rfl
 have ke1 : addN n (lenN (partA [AV.agg [str s, .val (.slice none 0 0)]] 0 1)) = n + 1 := by simp only [ee]; rfl
 have ke2 : catA (dropA es 0) (partA [AV.agg [str s, .val (.slice none 0 0)]] 0 1) = es ++ [.agg [str s, .val (.slice none 0 0)]] := by simp only [ee]; rfl
 refine rcall_body (fn := Tryd.f41) (n := 26) (ac := Trydc41) (rvs := [.t 4, .t 5]) rfl Trydp41 rfl rfl rfl ?_
 refine goA 60 ?_
 refine oPA pc ?_
 refine goB hX 0 (by conv => lhs; cbv; try simp only [k, n1]; cbv; try simp only [k, n1]; cbv; try simp only [k, n1]; cbv; try simp only [k, n1]; cbv) ?_
 refine goB hX 1 (by conv => lhs; cbv; try simp only [k, n1]; cbv; try simp only [k, n1]; cbv; try simp only [k, n1]; cbv; try simp only [k, n1]; cbv) ?_
 refine goA 60 ?_
 refine oPA pn ?_
 refine goB hX 0 (by conv => lhs; cbv; try simp only [k, n1]; cbv; try simp only [k, n1]; cbv; try simp only [k, n1]; cbv; try simp only [k, n1]; cbv) ?_
 refine goA 60 ?_
 refine on_lend rfl rfl pt rfl ⟨[.isl 2 (es)], ⟨⟨_, rfl, (subL_closed _ kcL).symm⟩, trivial⟩, ⟨.of (sub_whole rfl (by omega)), .refl _, trivial⟩⟩ ?_
 refine goA 60 ?_
 (rw [ke1, ke2]; exact o_ret (F2 := [(5, int 0), (4, .sl 1 2 0 (n + 1))]) (H2 := [.dead, .arr 2 (es ++ [.agg [str s, .val (.slice none 0 0)]])]) (ent_subN [.gone, .gone, .to 1] [some 0, some 2] ⟨rfl, trivial⟩ (by simp) (by simp) ⟨trivial, trivial, ⟨by simp, rfl⟩, trivial⟩ ⟨.dead, osrc_arr (b := 2) rfl rfl rfl rfl kz, trivial⟩ ⟨.refl _, .refl _, trivial⟩) rfl ⟨rfl, rfl⟩)
theorem kw_eq (r : Bs) : ((Classical.choice kwBox_ne).i.toList == (ba r).toList) = decide (r = bInt) ∧ ((Classical.choice kwBox_ne).b.toList == (ba r).toList) = decide (r = bBool) ∧ ((Classical.choice kwBox_ne).s.toList == (ba r).toList) = decide (r = bStr) := by
 rw [(Classical.choice kwBox_ne).hi, (Classical.choice kwBox_ne).hb, (Classical.choice kwBox_ne).hs, ba_eqB, ba_eqB, ba_eqB]
 refine ⟨?_, ?_, ?_⟩ <;> simp only [eq_comm]
def lastK (b0 b1 b2 : Bool) : Int := cond b2 2 (cond b1 1 (cond b0 0 (-1)))
theorem lastK_eq (r : Bs) : lastK (decide (r = bInt)) (decide (r = bBool)) (decide (r = bStr)) = kdOf r := by
 rw [kdOf]
 by_cases h0 : r = bInt
 · subst h0; decide
 by_cases h1 : r = bBool
 · subst h1; decide
 by_cases h2 : r = bStr
 · subst h2; decide
 rw [decide_eq_false h0, decide_eq_false h1, decide_eq_false h2, if_neg h0, if_neg h1, if_neg h2]; rfl
theorem cut_len (c : UInt8) (w : Bs) : (cutL c w).length ≤ w.length := by
 rw [cutL]; exact List.Sublist.length_le (List.takeWhile_sublist _)
theorem enters_schema_field : Enters EE.P 42 := enters_of (fn := Tryd.f42) (n := 61) (ac := Trydc42) rfl (by decide) Trydp42
theorem newF_enc (w : Bs) : Fld.enc (newF w) = .agg [str (ba (cutL 58 w)), int (kdOf (cutR 58 w))] := by rw [Fld.enc_eq]; rfl
theorem C_field0 (qn : ByteArray) (es : List AV) (hes : AV.closedL es = true) (n : Nat) (hn : n = es.length) (w : Bs) (hw : w.length < 4294967281) :
 ACall EE 42 [.eptr 0 2 n 0, str (ba w)] [.arr 2 (es ++ [.agg [str qn, .val (.slice none 0 0)]])] fun v H' => (fldE [] w ≠ 0 ∧ v = int (fldE [] w) ∧ H' = [.arr 2 (es ++ [.agg [str qn, .val (.slice none 0 0)]])]) ∨ (fldE [] w = 0 ∧ v = int 0 ∧ H' = [.arr 2 (es ++ [.agg [str qn, .sl 1 2 0 1]]), .arr 2 [Fld.enc (newF w)]]) := by
 obtain ⟨E, hE⟩ : ∃ E, E = fldE [] w := ⟨_, rfl⟩
 rw [← hE, newF_enc]
 rw [fldE] at hE
 have pc := P_Cut 58 w hw
 rw [← one_ba] at pc
 have hcl := cut_len 58 w
 have pn := P_fieldName (cutL 58 w) (by omega)
 have pp := P_position [] (cutL 58 w) (by decide)
 rw [mapE_eq, List.map_nil] at pp
 obtain ⟨q0, q1, q2⟩ := kw_eq (cutR 58 w)
 have hk := lastK_eq (cutR 58 w)
 rw [← hk] at hE ⊢
 clear hk hcl
 generalize hb3 : fnameB (cutL 58 w) = b3 at *
 generalize decide (cutR 58 w = bInt) = b0 at *
 generalize decide (cutR 58 w = bBool) = b1 at *
 generalize decide (cutR 58 w = bStr) = b2 at *
 generalize Fld.pos [] (cutL 58 w) = P at *
 generalize ba (cutL 58 w) = sl at *
 generalize ba (cutR 58 w) = sr at *
 generalize decide ((58 : UInt8) ∈ w) = b4 at *
 generalize ba w = s at *
 obtain ⟨K, hK⟩ : ∃ K, K = lastK b0 b1 b2 := ⟨_, rfl⟩
 rw [← hK] at hE ⊢
 refine wordsN ?_; unhygienic intros
 have n1 : bNot true = false := by simp only [ee]; rfl
 have w0 : sEq (Classical.choice kwBox_ne).i sr = b0 := by simp only [ee]; exact q0
 have w1 : sEq (Classical.choice kwBox_ne).b sr = b1 := by simp only [ee]; exact q1
 have w2 : sEq (Classical.choice kwBox_ne).s sr = b2 := by simp only [ee]; exact q2
 have n0 : bNot false = true := by simp only [ee]; rfl
 clear q0 q1 q2
 obtain ⟨L, hL⟩ : ∃ L, L = es ++ [.agg [str qn, .val (.slice none 0 0)]] := ⟨_, rfl⟩
 rw [← hL]
 have hat : atN L n = .agg [str qn, .val (.slice none 0 0)] := by simp only [ee]; rw [hL, hn]; simp
 have hset : ∀ x, setA L n x = es ++ [x] := fun x => by simp only [ee]; rw [hL, hn]; simp
 have hlen : n < L.length := by rw [hL, hn]; simp
 have kcS : AV.closedL [AV.agg [str sl, int K]] = true := by simp [AV.closedL, closed_agg, closed_v]
 have ke1 : lenN (partA [AV.agg [str sl, int K]] 0 1) = 1 := by simp only [ee]; rfl
 have ke2 : partA [AV.agg [str sl, int K]] 0 1 = [.agg [str sl, int K]] := by simp only [ee]; rfl
 have hsubL : ∀ σ : Nat → Sub, AV.subL σ L = L := fun σ => by rw [hL, subL_append, subL_closed _ hes]; rfl
 have hsub1 : ∀ (σ : Nat → Sub) (b b' : Nat), σ b = .to b' → AV.subL σ (es ++ [.agg [str qn, .sl b 2 0 1]]) = es ++ [.agg [str qn, .sl b' 2 0 1]] := fun σ b b' h => by rw [subL_append, subL_closed _ hes]; simp [AV.subL, AV.sub, h]
 refine rcall_body (fn := Tryd.f42) (n := 61) (ac := Trydc42) (rvs := [.t 4]) rfl Trydp42 rfl rfl rfl ?_
 refine goA 60 ?_
 refine oPA pc ?_
 refine goA 60 ?_
 refine on_loopP (ι := Int × Int) (fun p => ([(18, int p.1), (17, .agg [str (Classical.choice kwBox_ne).i, str (Classical.choice kwBox_ne).b, str (Classical.choice kwBox_ne).s]), (8, int p.2), (6, str sr), (5, str sl), (0, .eptr 0 2 n 0)], [.arr 2 L])) (fun p => (p.1 = 0 ∧ p.2 = -1) ∨ (p.1 = 1 ∧ p.2 = cond b0 0 (-1)) ∨ (p.1 = 2 ∧ p.2 = cond b1 1 (cond b0 0 (-1))) ∨ (p.1 = 3 ∧ p.2 = K)) (fun p => (3 - p.1).toNat) (0, -1) (.inl ⟨rfl, rfl⟩) ?_ ?_
 · exact (ent_fw ⟨.refl _, .refl _, .refl _, .refl _, .refl _, .refl _, trivial⟩)
 rintro ⟨i, k⟩ g
 dsimp only at g ⊢
 rcases g with ⟨rfl, hk⟩ | ⟨rfl, hk⟩ | ⟨rfl, hk⟩ | ⟨rfl, hk⟩
 · have hc : iLt 0 3 = true := by simp only [ee]; rfl
   have ha : iAdd .i64 0 1 = 1 := by simp only [ee]; rfl
   cases b0 with
   | true =>
    refine goB hX 0 (by conv => lhs; cbv; try simp only [hc, w0, ha]; cbv; try simp only [hc, w0, ha]; cbv; try simp only [hc, w0, ha]; cbv; try simp only [hc, w0, ha]; cbv) ?_
    refine goB hX 1 (by conv => lhs; cbv; try simp only [hc, w0, ha]; cbv; try simp only [hc, w0, ha]; cbv; try simp only [hc, w0, ha]; cbv; try simp only [hc, w0, ha]; cbv) ?_
    refine goA 60 ?_
    refine loopP_next (iAdd .i64 0 1, 0) (.inr (.inl ⟨ha, rfl⟩)) (by dsimp only; rw [ha]; decide) (ent_fw ⟨.refl _, .refl _, .refl _, .refl _, .refl _, .refl _, trivial⟩)
   | false =>
    refine goB hX 0 (by conv => lhs; cbv; try simp only [hc, w0, ha]; cbv; try simp only [hc, w0, ha]; cbv; try simp only [hc, w0, ha]; cbv; try simp only [hc, w0, ha]; cbv) ?_
    refine goB hX 1 (by conv => lhs; cbv; try simp only [hc, w0, ha]; cbv; try simp only [hc, w0, ha]; cbv; try simp only [hc, w0, ha]; cbv; try simp only [hc, w0, ha]; cbv) ?_
    refine goA 60 ?_
    refine loopP_next (iAdd .i64 0 1, k) (.inr (.inl ⟨ha, hk⟩)) (by dsimp only; rw [ha]; decide) (ent_fw ⟨.refl _, .refl _, .refl _, .refl _, .refl _, .refl _, trivial⟩)
 · have hc : iLt 1 3 = true := by simp only [ee]; rfl
   have ha : iAdd .i64 1 1 = 2 := by simp only [ee]; rfl
   cases b1 with
   | true =>
    refine goB hX 0 (by conv => lhs; cbv; try simp only [hc, w1, ha]; cbv; try simp only [hc, w1, ha]; cbv; try simp only [hc, w1, ha]; cbv; try simp only [hc, w1, ha]; cbv) ?_
    refine goB hX 1 (by conv => lhs; cbv; try simp only [hc, w1, ha]; cbv; try simp only [hc, w1, ha]; cbv; try simp only [hc, w1, ha]; cbv; try simp only [hc, w1, ha]; cbv) ?_
    refine goA 60 ?_
    refine loopP_next (iAdd .i64 1 1, 1) (.inr (.inr (.inl ⟨ha, rfl⟩))) (by dsimp only; rw [ha]; decide) (ent_fw ⟨.refl _, .refl _, .refl _, .refl _, .refl _, .refl _, trivial⟩)
   | false =>
    refine goB hX 0 (by conv => lhs; cbv; try simp only [hc, w1, ha]; cbv; try simp only [hc, w1, ha]; cbv; try simp only [hc, w1, ha]; cbv; try simp only [hc, w1, ha]; cbv) ?_
    refine goB hX 1 (by conv => lhs; cbv; try simp only [hc, w1, ha]; cbv; try simp only [hc, w1, ha]; cbv; try simp only [hc, w1, ha]; cbv; try simp only [hc, w1, ha]; cbv) ?_
    refine goA 60 ?_
    refine loopP_next (iAdd .i64 1 1, k) (.inr (.inr (.inl ⟨ha, hk⟩))) (by dsimp only; rw [ha]; decide) (ent_fw ⟨.refl _, .refl _, .refl _, .refl _, .refl _, .refl _, trivial⟩)
 · have hc : iLt 2 3 = true := by simp only [ee]; rfl
   have ha : iAdd .i64 2 1 = 3 := by simp only [ee]; rfl
   cases b2 with
   | true =>
    refine goB hX 0 (by conv => lhs; cbv; try simp only [hc, w2, ha]; cbv; try simp only [hc, w2, ha]; cbv; try simp only [hc, w2, ha]; cbv; try simp only [hc, w2, ha]; cbv) ?_
    refine goB hX 1 (by conv => lhs; cbv; try simp only [hc, w2, ha]; cbv; try simp only [hc, w2, ha]; cbv; try simp only [hc, w2, ha]; cbv; try simp only [hc, w2, ha]; cbv) ?_
    refine goA 60 ?_
    refine loopP_next (iAdd .i64 2 1, 2) (.inr (.inr (.inr ⟨ha, hK.symm⟩))) (by dsimp only; rw [ha]; decide) (ent_fw ⟨.refl _, .refl _, .refl _, .refl _, .refl _, .refl _, trivial⟩)
   | false =>
    refine goB hX 0 (by conv => lhs; cbv; try simp only [hc, w2, ha]; cbv; try simp only [hc, w2, ha]; cbv; try simp only [hc, w2, ha]; cbv; try simp only [hc, w2, ha]; cbv) ?_
    refine goB hX 1 (by conv => lhs; cbv; try simp only [hc, w2, ha]; cbv; try simp only [hc, w2, ha]; cbv; try simp only [hc, w2, ha]; cbv; try simp only [hc, w2, ha]; cbv) ?_
    refine goA 60 ?_
    refine loopP_next (iAdd .i64 2 1, k) (.inr (.inr (.inr ⟨ha, hk.trans hK.symm⟩))) (by dsimp only; rw [ha]; decide) (ent_fw ⟨.refl _, .refl _, .refl _, .refl _, .refl _, .refl _, trivial⟩)
 subst hk
 clear hK w0 w1 w2
 have hc : iLt 3 3 = false := by simp only [ee]; rfl
 by_cases h1 : k < 0
 · have k1 : iLt k 0 = true := by simp only [ee]; simpa using h1
   rw [if_pos h1] at hE
   subst hE
   refine goB hX 0 (by conv => lhs; cbv; try simp only [hc, k1]; cbv; try simp only [hc, k1]; cbv; try simp only [hc, k1]; cbv; try simp only [hc, k1]; cbv) ?_
   refine goA 60 ?_
   refine loopP_exit ?_
   refine goB hX 0 (by conv => lhs; cbv; try simp only [hc, k1]; cbv; try simp only [hc, k1]; cbv; try simp only [hc, k1]; cbv; try simp only [hc, k1]; cbv) ?_
   refine goA 60 ?_
   (exact o_ret (.refl _ _ _ _ _) rfl (.inl ⟨by decide, rfl, rfl⟩))
 have k1 : iLt k 0 = false := by simp only [ee]; simpa using h1
 rw [if_neg h1] at hE
 rw [if_neg (by decide)] at hE
 have k2 : iEq 0 8 = false := by simp only [ee]; rfl
 cases b3 with
 | false =>
  rw [if_pos (by simp)] at hE
  subst hE
  refine goB hX 0 (by conv => lhs; cbv; try simp only [hc, k1, k2, n0, hat]; cbv; try simp only [hc, k1, k2, n0, hat]; cbv; try simp only [hc, k1, k2, n0, hat]; cbv; try simp only [hc, k1, k2, n0, hat]; cbv) ?_
  refine goA 60 ?_
  refine loopP_exit ?_
  refine goB hX 0 (by conv => lhs; cbv; try simp only [hc, k1, k2, n0, hat]; cbv; try simp only [hc, k1, k2, n0, hat]; cbv; try simp only [hc, k1, k2, n0, hat]; cbv; try simp only [hc, k1, k2, n0, hat]; cbv) ?_
  refine goB hX 1 (by conv => lhs; cbv; try simp only [hc, k1, k2, n0, hat]; cbv; try simp only [hc, k1, k2, n0, hat]; cbv; try simp only [hc, k1, k2, n0, hat]; cbv; try simp only [hc, k1, k2, n0, hat]; cbv) ?_
  refine on_cond rfl (fun c1 => ?_) (fun c1 => ?_)
  ·
   simp [ee] at c1
  ·
   simp [ee] at c1
   refine goA 60 ?_
   refine oPA pn ?_
   refine goB hX 0 (by conv => lhs; cbv; try simp only [hc, k1, k2, n0, hat]; cbv; try simp only [hc, k1, k2, n0, hat]; cbv; try simp only [hc, k1, k2, n0, hat]; cbv; try simp only [hc, k1, k2, n0, hat]; cbv) ?_
   refine goA 60 ?_
   (exact o_ret (.refl _ _ _ _ _) rfl (.inl ⟨by decide, rfl, rfl⟩))
 | true =>
 rw [if_neg (by simp)] at hE
 by_cases h3 : 0 ≤ P
 · have k3 : iLe 0 P = true := by simp only [ee]; simpa using h3
   rw [if_pos h3] at hE
   subst hE
   refine goB hX 0 (by conv => lhs; cbv; try simp only [hc, k1, k2, k3, n1, hat]; cbv; try simp only [hc, k1, k2, k3, n1, hat]; cbv; try simp only [hc, k1, k2, k3, n1, hat]; cbv; try simp only [hc, k1, k2, k3, n1, hat]; cbv) ?_
   refine goA 60 ?_
   refine loopP_exit ?_
   refine goB hX 0 (by conv => lhs; cbv; try simp only [hc, k1, k2, k3, n1, hat]; cbv; try simp only [hc, k1, k2, k3, n1, hat]; cbv; try simp only [hc, k1, k2, k3, n1, hat]; cbv; try simp only [hc, k1, k2, k3, n1, hat]; cbv) ?_
   refine goB hX 1 (by conv => lhs; cbv; try simp only [hc, k1, k2, k3, n1, hat]; cbv; try simp only [hc, k1, k2, k3, n1, hat]; cbv; try simp only [hc, k1, k2, k3, n1, hat]; cbv; try simp only [hc, k1, k2, k3, n1, hat]; cbv) ?_
   refine on_cond rfl (fun c1 => ?_) (fun c1 => ?_)
   ·
    simp [ee] at c1
   ·
    simp [ee] at c1
    refine goA 60 ?_
    refine oPA pn ?_
    refine goB hX 0 (by conv => lhs; cbv; try simp only [hc, k1, k2, k3, n1, hat]; cbv; try simp only [hc, k1, k2, k3, n1, hat]; cbv; try simp only [hc, k1, k2, k3, n1, hat]; cbv; try simp only [hc, k1, k2, k3, n1, hat]; cbv) ?_
    refine goB hX 1 (by conv => lhs; cbv; try simp only [hc, k1, k2, k3, n1, hat]; cbv; try simp only [hc, k1, k2, k3, n1, hat]; cbv; try simp only [hc, k1, k2, k3, n1, hat]; cbv; try simp only [hc, k1, k2, k3, n1, hat]; cbv) ?_
    refine on_lend rfl rfl pp rfl ⟨[.gone], ⟨trivial, trivial⟩, ⟨.nilI _, .refl _, trivial⟩⟩ ?_
    refine goB hX 0 (by conv => lhs; cbv; try simp only [hc, k1, k2, k3, n1, hat]; cbv; try simp only [hc, k1, k2, k3, n1, hat]; cbv; try simp only [hc, k1, k2, k3, n1, hat]; cbv; try simp only [hc, k1, k2, k3, n1, hat]; cbv) ?_
    refine goA 60 ?_
    (exact o_ret (.refl _ _ _ _ _) rfl (.inl ⟨by decide, rfl, rfl⟩))
 have k3 : iLe 0 P = false := by simp only [ee]; simpa using h3
 rw [if_neg h3] at hE
 subst hE
 refine goB hX 0 (by conv => lhs; cbv; try simp only [hc, k1, k2, k3, n1, hat]; cbv; try simp only [hc, k1, k2, k3, n1, hat]; cbv; try simp only [hc, k1, k2, k3, n1, hat]; cbv; try simp only [hc, k1, k2, k3, n1, hat]; cbv) ?_
 refine goA 60 ?_
 refine loopP_exit ?_
 refine goB hX 0 (by conv => lhs; cbv; try simp only [hc, k1, k2, k3, n1, hat]; cbv; try simp only [hc, k1, k2, k3, n1, hat]; cbv; try simp only [hc, k1, k2, k3, n1, hat]; cbv; try simp only [hc, k1, k2, k3, n1, hat]; cbv) ?_
 refine goB hX 1 (by conv => lhs; cbv; try simp only [hc, k1, k2, k3, n1, hat]; cbv; try simp only [hc, k1, k2, k3, n1, hat]; cbv; try simp only [hc, k1, k2, k3, n1, hat]; cbv; try simp only [hc, k1, k2, k3, n1, hat]; cbv) ?_
 refine on_cond rfl (fun c1 => ?_) (fun c1 => ?_)
 ·
  simp [ee] at c1
 ·
  simp [ee] at c1
  refine goA 60 ?_
  refine oPA pn ?_
  refine goB hX 0 (by conv => lhs; cbv; try simp only [hc, k1, k2, k3, n1, hat]; cbv; try simp only [hc, k1, k2, k3, n1, hat]; cbv; try simp only [hc, k1, k2, k3, n1, hat]; cbv; try simp only [hc, k1, k2, k3, n1, hat]; cbv) ?_
  refine goB hX 1 (by conv => lhs; cbv; try simp only [hc, k1, k2, k3, n1, hat]; cbv; try simp only [hc, k1, k2, k3, n1, hat]; cbv; try simp only [hc, k1, k2, k3, n1, hat]; cbv; try simp only [hc, k1, k2, k3, n1, hat]; cbv) ?_
  refine on_lend rfl rfl pp rfl ⟨[.gone], ⟨trivial, trivial⟩, ⟨.nilI _, .refl _, trivial⟩⟩ ?_
  refine goB hX 0 (by conv => lhs; cbv; try simp only [hc, k1, k2, k3, n1, hat]; cbv; try simp only [hc, k1, k2, k3, n1, hat]; cbv; try simp only [hc, k1, k2, k3, n1, hat]; cbv; try simp only [hc, k1, k2, k3, n1, hat]; cbv) ?_
  refine goB hX 1 (by conv => lhs; cbv; try simp only [hc, k1, k2, k3, n1, hat]; cbv; try simp only [hc, k1, k2, k3, n1, hat]; cbv; try simp only [hc, k1, k2, k3, n1, hat]; cbv; try simp only [hc, k1, k2, k3, n1, hat]; cbv) ?_
  (rw [ke1, ke2, hset]; exact o_ret (F2 := [(4, int 0)]) (H2 := [.arr 2 (es ++ [.agg [str qn, .sl 1 2 0 1]]), .arr 2 [.agg [str sl, int k]]]) (ent_subN [.to 0, .gone, .to 1] [some 0, some 2] ⟨rfl, trivial⟩ (by simp) (by simp) ⟨⟨by simp, rfl⟩, trivial, ⟨by simp, rfl⟩, trivial⟩ ⟨osrc_arrS (b := 0) rfl rfl rfl (by exact hsub1 (ofL [.to 0, .gone, .to 1]) 2 1 rfl), osrc_arr (b := 2) rfl rfl rfl rfl kcS, trivial⟩ ⟨.refl _, trivial⟩) rfl (.inr ⟨rfl, rfl, rfl⟩))
theorem C_field1 (qn : ByteArray) (es : List AV) (hes : AV.closedL es = true) (n : Nat) (hn : n = es.length) (fs : List Fld) (hl : fs.length < 1152921504606846976) (m : Nat) (hm : m = fs.length) (hb : fs.length ≤ 8) (w : Bs) (hw : w.length < 4294967281) :
 ACall EE 42 [.eptr 0 2 n 0, str (ba w)] [.arr 2 (es ++ [.agg [str qn, .sl 1 2 0 m]]), .arr 2 (mapE Fld.enc fs)] fun v H' => (fldE fs w ≠ 0 ∧ v = int (fldE fs w) ∧ H' = [.arr 2 (es ++ [.agg [str qn, .sl 1 2 0 m]]), .arr 2 (mapE Fld.enc fs)]) ∨ (fldE fs w = 0 ∧ v = int 0 ∧ H' = [.arr 2 (es ++ [.agg [str qn, .sl 2 2 0 (m + 1)]]), .dead, .arr 2 (mapE Fld.enc fs ++ [Fld.enc (newF w)])]) := by
 obtain ⟨E, hE⟩ : ∃ E, E = fldE fs w := ⟨_, rfl⟩
 rw [← hE, newF_enc]
 rw [fldE] at hE
 have pc := P_Cut 58 w hw
 rw [← one_ba] at pc
 have hcl := cut_len 58 w
 have pn := P_fieldName (cutL 58 w) (by omega)
 have pp := P_position fs (cutL 58 w) hl
 have kcl := Fld.closedI fs
 have kcL := Fld.closedL fs
 obtain ⟨q0, q1, q2⟩ := kw_eq (cutR 58 w)
 have hk := lastK_eq (cutR 58 w)
 rw [← hk] at hE ⊢
 clear hk hcl
 generalize hb3 : fnameB (cutL 58 w) = b3 at *
 generalize decide (cutR 58 w = bInt) = b0 at *
 generalize decide (cutR 58 w = bBool) = b1 at *
 generalize decide (cutR 58 w = bStr) = b2 at *
 generalize Fld.pos fs (cutL 58 w) = P at *
 generalize ba (cutL 58 w) = sl at *
 generalize ba (cutR 58 w) = sr at *
 generalize decide ((58 : UInt8) ∈ w) = b4 at *
 generalize ba w = s at *
 obtain ⟨K, hK⟩ : ∃ K, K = lastK b0 b1 b2 := ⟨_, rfl⟩
 rw [← hK] at hE ⊢
 refine wordsN ?_; unhygienic intros
 generalize hfe : mapE Fld.enc fs = fe at *
 have hel : fe.length = fs.length := by rw [← hfe, mapE_len]
 have n1 : bNot true = false := by simp only [ee]; rfl
 have w0 : sEq (Classical.choice kwBox_ne).i sr = b0 := by simp only [ee]; exact q0
 have w1 : sEq (Classical.choice kwBox_ne).b sr = b1 := by simp only [ee]; exact q1
 have w2 : sEq (Classical.choice kwBox_ne).s sr = b2 := by simp only [ee]; exact q2
 have n0 : bNot false = true := by simp only [ee]; rfl
 clear q0 q1 q2
 obtain ⟨L, hL⟩ : ∃ L, L = es ++ [.agg [str qn, .sl 1 2 0 m]] := ⟨_, rfl⟩
 rw [← hL]
 have hat : atN L n = .agg [str qn, .sl 1 2 0 m] := by simp only [ee]; rw [hL, hn]; simp
 have hset : ∀ x, setA L n x = es ++ [x] := fun x => by simp only [ee]; rw [hL, hn]; simp
 have hlen : n < L.length := by rw [hL, hn]; simp
 have kcS : AV.closedL [AV.agg [str sl, int K]] = true := by simp [AV.closedL, closed_agg, closed_v]
 have ke1 : addN m (lenN (partA [AV.agg [str sl, int K]] 0 1)) = m + 1 := by simp only [ee]; rfl
 have ke2 : catA (dropA fe 0) (partA [AV.agg [str sl, int K]] 0 1) = fe ++ [.agg [str sl, int K]] := by simp only [ee]; rfl
 have kz : AV.closedL (fe ++ [AV.agg [str sl, int K]]) = true := closedL_append kcL kcS
 have hsub1 : ∀ (σ : Nat → Sub) (b b' : Nat), σ b = .to b' → AV.subL σ (es ++ [.agg [str qn, .sl b 2 0 (m + 1)]]) = es ++ [.agg [str qn, .sl b' 2 0 (m + 1)]] := fun σ b b' h => by rw [subL_append, subL_closed _ hes]; simp [AV.subL, AV.sub, h]
 refine rcall_body (fn := Tryd.f42) (n := 61) (ac := Trydc42) (rvs := [.t 4]) rfl Trydp42 rfl rfl rfl ?_
 refine goA 60 ?_
 refine oPA pc ?_
 refine goA 60 ?_
 refine on_loopP (ι := Int × Int) (fun p => ([(18, int p.1), (17, .agg [str (Classical.choice kwBox_ne).i, str (Classical.choice kwBox_ne).b, str (Classical.choice kwBox_ne).s]), (8, int p.2), (6, str sr), (5, str sl), (0, .eptr 0 2 n 0)], [.arr 2 L, .arr 2 fe])) (fun p => (p.1 = 0 ∧ p.2 = -1) ∨ (p.1 = 1 ∧ p.2 = cond b0 0 (-1)) ∨ (p.1 = 2 ∧ p.2 = cond b1 1 (cond b0 0 (-1))) ∨ (p.1 = 3 ∧ p.2 = K)) (fun p => (3 - p.1).toNat) (0, -1) (.inl ⟨rfl, rfl⟩) ?_ ?_
 · exact (ent_fw ⟨.refl _, .refl _, .refl _, .refl _, .refl _, .refl _, trivial⟩)
 rintro ⟨i, k⟩ g
 dsimp only at g ⊢
 rcases g with ⟨rfl, hk⟩ | ⟨rfl, hk⟩ | ⟨rfl, hk⟩ | ⟨rfl, hk⟩
 · have hc : iLt 0 3 = true := by simp only [ee]; rfl
   have ha : iAdd .i64 0 1 = 1 := by simp only [ee]; rfl
   cases b0 with
   | true =>
    refine goB hX 0 (by conv => lhs; cbv; try simp only [hc, w0, ha]; cbv; try simp only [hc, w0, ha]; cbv; try simp only [hc, w0, ha]; cbv; try simp only [hc, w0, ha]; cbv) ?_
    refine goB hX 1 (by conv => lhs; cbv; try simp only [hc, w0, ha]; cbv; try simp only [hc, w0, ha]; cbv; try simp only [hc, w0, ha]; cbv; try simp only [hc, w0, ha]; cbv) ?_
    refine goA 60 ?_
    refine loopP_next (iAdd .i64 0 1, 0) (.inr (.inl ⟨ha, rfl⟩)) (by dsimp only; rw [ha]; decide) (ent_fw ⟨.refl _, .refl _, .refl _, .refl _, .refl _, .refl _, trivial⟩)
   | false =>
    refine goB hX 0 (by conv => lhs; cbv; try simp only [hc, w0, ha]; cbv; try simp only [hc, w0, ha]; cbv; try simp only [hc, w0, ha]; cbv; try simp only [hc, w0, ha]; cbv) ?_
    refine goB hX 1 (by conv => lhs; cbv; try simp only [hc, w0, ha]; cbv; try simp only [hc, w0, ha]; cbv; try simp only [hc, w0, ha]; cbv; try simp only [hc, w0, ha]; cbv) ?_
    refine goA 60 ?_
    refine loopP_next (iAdd .i64 0 1, k) (.inr (.inl ⟨ha, hk⟩)) (by dsimp only; rw [ha]; decide) (ent_fw ⟨.refl _, .refl _, .refl _, .refl _, .refl _, .refl _, trivial⟩)
 · have hc : iLt 1 3 = true := by simp only [ee]; rfl
   have ha : iAdd .i64 1 1 = 2 := by simp only [ee]; rfl
   cases b1 with
   | true =>
    refine goB hX 0 (by conv => lhs; cbv; try simp only [hc, w1, ha]; cbv; try simp only [hc, w1, ha]; cbv; try simp only [hc, w1, ha]; cbv; try simp only [hc, w1, ha]; cbv) ?_
    refine goB hX 1 (by conv => lhs; cbv; try simp only [hc, w1, ha]; cbv; try simp only [hc, w1, ha]; cbv; try simp only [hc, w1, ha]; cbv; try simp only [hc, w1, ha]; cbv) ?_
    refine goA 60 ?_
    refine loopP_next (iAdd .i64 1 1, 1) (.inr (.inr (.inl ⟨ha, rfl⟩))) (by dsimp only; rw [ha]; decide) (ent_fw ⟨.refl _, .refl _, .refl _, .refl _, .refl _, .refl _, trivial⟩)
   | false =>
    refine goB hX 0 (by conv => lhs; cbv; try simp only [hc, w1, ha]; cbv; try simp only [hc, w1, ha]; cbv; try simp only [hc, w1, ha]; cbv; try simp only [hc, w1, ha]; cbv) ?_
    refine goB hX 1 (by conv => lhs; cbv; try simp only [hc, w1, ha]; cbv; try simp only [hc, w1, ha]; cbv; try simp only [hc, w1, ha]; cbv; try simp only [hc, w1, ha]; cbv) ?_
    refine goA 60 ?_
    refine loopP_next (iAdd .i64 1 1, k) (.inr (.inr (.inl ⟨ha, hk⟩))) (by dsimp only; rw [ha]; decide) (ent_fw ⟨.refl _, .refl _, .refl _, .refl _, .refl _, .refl _, trivial⟩)
 · have hc : iLt 2 3 = true := by simp only [ee]; rfl
   have ha : iAdd .i64 2 1 = 3 := by simp only [ee]; rfl
   cases b2 with
   | true =>
    refine goB hX 0 (by conv => lhs; cbv; try simp only [hc, w2, ha]; cbv; try simp only [hc, w2, ha]; cbv; try simp only [hc, w2, ha]; cbv; try simp only [hc, w2, ha]; cbv) ?_
    refine goB hX 1 (by conv => lhs; cbv; try simp only [hc, w2, ha]; cbv; try simp only [hc, w2, ha]; cbv; try simp only [hc, w2, ha]; cbv; try simp only [hc, w2, ha]; cbv) ?_
    refine goA 60 ?_
    refine loopP_next (iAdd .i64 2 1, 2) (.inr (.inr (.inr ⟨ha, hK.symm⟩))) (by dsimp only; rw [ha]; decide) (ent_fw ⟨.refl _, .refl _, .refl _, .refl _, .refl _, .refl _, trivial⟩)
   | false =>
    refine goB hX 0 (by conv => lhs; cbv; try simp only [hc, w2, ha]; cbv; try simp only [hc, w2, ha]; cbv; try simp only [hc, w2, ha]; cbv; try simp only [hc, w2, ha]; cbv) ?_
    refine goB hX 1 (by conv => lhs; cbv; try simp only [hc, w2, ha]; cbv; try simp only [hc, w2, ha]; cbv; try simp only [hc, w2, ha]; cbv; try simp only [hc, w2, ha]; cbv) ?_
    refine goA 60 ?_
    refine loopP_next (iAdd .i64 2 1, k) (.inr (.inr (.inr ⟨ha, hk.trans hK.symm⟩))) (by dsimp only; rw [ha]; decide) (ent_fw ⟨.refl _, .refl _, .refl _, .refl _, .refl _, .refl _, trivial⟩)
 subst hk
 clear hK w0 w1 w2
 have hc : iLt 3 3 = false := by simp only [ee]; rfl
 by_cases h1 : k < 0
 · have k1 : iLt k 0 = true := by simp only [ee]; simpa using h1
   rw [if_pos h1] at hE
   subst hE
   refine goB hX 0 (by conv => lhs; cbv; try simp only [hc, k1]; cbv; try simp only [hc, k1]; cbv; try simp only [hc, k1]; cbv; try simp only [hc, k1]; cbv) ?_
   refine goA 60 ?_
   refine loopP_exit ?_
   refine goB hX 0 (by conv => lhs; cbv; try simp only [hc, k1]; cbv; try simp only [hc, k1]; cbv; try simp only [hc, k1]; cbv; try simp only [hc, k1]; cbv) ?_
   refine goA 60 ?_
   (exact o_ret (.refl _ _ _ _ _) rfl (.inl ⟨by decide, rfl, rfl⟩))
 have k1 : iLt k 0 = false := by simp only [ee]; simpa using h1
 rw [if_neg h1] at hE
 by_cases h2 : fs.length = 8
 · have k2 : iEq (iOf m) 8 = true := by simp only [ee]; simp; omega
   rw [if_pos h2] at hE
   subst hE
   refine goB hX 0 (by conv => lhs; cbv; try simp only [hc, k1, k2, hat]; cbv; try simp only [hc, k1, k2, hat]; cbv; try simp only [hc, k1, k2, hat]; cbv; try simp only [hc, k1, k2, hat]; cbv) ?_
   refine goA 60 ?_
   refine loopP_exit ?_
   refine goB hX 0 (by conv => lhs; cbv; try simp only [hc, k1, k2, hat]; cbv; try simp only [hc, k1, k2, hat]; cbv; try simp only [hc, k1, k2, hat]; cbv; try simp only [hc, k1, k2, hat]; cbv) ?_
   refine goB hX 1 (by conv => lhs; cbv; try simp only [hc, k1, k2, hat]; cbv; try simp only [hc, k1, k2, hat]; cbv; try simp only [hc, k1, k2, hat]; cbv; try simp only [hc, k1, k2, hat]; cbv) ?_
   refine goA 60 ?_
   (exact o_ret (.refl _ _ _ _ _) rfl (.inl ⟨by decide, rfl, rfl⟩))
 have k2 : iEq (iOf m) 8 = false := by simp only [ee]; simp; omega
 rw [if_neg h2] at hE
 cases b3 with
 | false =>
  rw [if_pos (by simp)] at hE
  subst hE
  refine goB hX 0 (by conv => lhs; cbv; try simp only [hc, k1, k2, n0, hat]; cbv; try simp only [hc, k1, k2, n0, hat]; cbv; try simp only [hc, k1, k2, n0, hat]; cbv; try simp only [hc, k1, k2, n0, hat]; cbv) ?_
  refine goA 60 ?_
  refine loopP_exit ?_
  refine goB hX 0 (by conv => lhs; cbv; try simp only [hc, k1, k2, n0, hat]; cbv; try simp only [hc, k1, k2, n0, hat]; cbv; try simp only [hc, k1, k2, n0, hat]; cbv; try simp only [hc, k1, k2, n0, hat]; cbv) ?_
  refine goB hX 1 (by conv => lhs; cbv; try simp only [hc, k1, k2, n0, hat]; cbv; try simp only [hc, k1, k2, n0, hat]; cbv; try simp only [hc, k1, k2, n0, hat]; cbv; try simp only [hc, k1, k2, n0, hat]; cbv) ?_
  refine goA 60 ?_
  refine oPA pn ?_
  refine goB hX 0 (by conv => lhs; cbv; try simp only [hc, k1, k2, n0, hat]; cbv; try simp only [hc, k1, k2, n0, hat]; cbv; try simp only [hc, k1, k2, n0, hat]; cbv; try simp only [hc, k1, k2, n0, hat]; cbv) ?_
  refine goA 60 ?_
  (exact o_ret (.refl _ _ _ _ _) rfl (.inl ⟨by decide, rfl, rfl⟩))
 | true =>
 rw [if_neg (by simp)] at hE
 by_cases h3 : 0 ≤ P
 · have k3 : iLe 0 P = true := by simp only [ee]; simpa using h3
   rw [if_pos h3] at hE
   subst hE
   refine goB hX 0 (by conv => lhs; cbv; try simp only [hc, k1, k2, k3, n1, hat]; cbv; try simp only [hc, k1, k2, k3, n1, hat]; cbv; try simp only [hc, k1, k2, k3, n1, hat]; cbv; try simp only [hc, k1, k2, k3, n1, hat]; cbv) ?_
   refine goA 60 ?_
   refine loopP_exit ?_
   refine goB hX 0 (by conv => lhs; cbv; try simp only [hc, k1, k2, k3, n1, hat]; cbv; try simp only [hc, k1, k2, k3, n1, hat]; cbv; try simp only [hc, k1, k2, k3, n1, hat]; cbv; try simp only [hc, k1, k2, k3, n1, hat]; cbv) ?_
   refine goB hX 1 (by conv => lhs; cbv; try simp only [hc, k1, k2, k3, n1, hat]; cbv; try simp only [hc, k1, k2, k3, n1, hat]; cbv; try simp only [hc, k1, k2, k3, n1, hat]; cbv; try simp only [hc, k1, k2, k3, n1, hat]; cbv) ?_
   refine goA 60 ?_
   refine oPA pn ?_
   refine goB hX 0 (by conv => lhs; cbv; try simp only [hc, k1, k2, k3, n1, hat]; cbv; try simp only [hc, k1, k2, k3, n1, hat]; cbv; try simp only [hc, k1, k2, k3, n1, hat]; cbv; try simp only [hc, k1, k2, k3, n1, hat]; cbv) ?_
   refine goB hX 1 (by conv => lhs; cbv; try simp only [hc, k1, k2, k3, n1, hat]; cbv; try simp only [hc, k1, k2, k3, n1, hat]; cbv; try simp only [hc, k1, k2, k3, n1, hat]; cbv; try simp only [hc, k1, k2, k3, n1, hat]; cbv) ?_
   refine on_lend rfl rfl pp rfl ⟨[.gone, .isl 2 (fe)], ⟨trivial, ⟨_, rfl, (subL_closed _ kcL).symm⟩, trivial⟩, ⟨.of (sub_whole rfl (by omega)), .refl _, trivial⟩⟩ ?_
   refine goB hX 0 (by conv => lhs; cbv; try simp only [hc, k1, k2, k3, n1, hat]; cbv; try simp only [hc, k1, k2, k3, n1, hat]; cbv; try simp only [hc, k1, k2, k3, n1, hat]; cbv; try simp only [hc, k1, k2, k3, n1, hat]; cbv) ?_
   refine goA 60 ?_
   (exact o_ret (.refl _ _ _ _ _) rfl (.inl ⟨by decide, rfl, rfl⟩))
 have k3 : iLe 0 P = false := by simp only [ee]; simpa using h3
 rw [if_neg h3] at hE
 subst hE
 refine goB hX 0 (by conv => lhs; cbv; try simp only [hc, k1, k2, k3, n1, hat]; cbv; try simp only [hc, k1, k2, k3, n1, hat]; cbv; try simp only [hc, k1, k2, k3, n1, hat]; cbv; try simp only [hc, k1, k2, k3, n1, hat]; cbv) ?_
 refine goA 60 ?_
 refine loopP_exit ?_
 refine goB hX 0 (by conv => lhs; cbv; try simp only [hc, k1, k2, k3, n1, hat]; cbv; try simp only [hc, k1, k2, k3, n1, hat]; cbv; try simp only [hc, k1, k2, k3, n1, hat]; cbv; try simp only [hc, k1, k2, k3, n1, hat]; cbv) ?_
 refine goB hX 1 (by conv => lhs; cbv; try simp only [hc, k1, k2, k3, n1, hat]; cbv; try simp only [hc, k1, k2, k3, n1, hat]; cbv; try simp only [hc, k1, k2, k3, n1, hat]; cbv; try simp only [hc, k1, k2, k3, n1, hat]; cbv) ?_
 refine goA 60 ?_
 refine oPA pn ?_
 refine goB hX 0 (by conv => lhs; cbv; try simp only [hc, k1, k2, k3, n1, hat]; cbv; try simp only [hc, k1, k2, k3, n1, hat]; cbv; try simp only [hc, k1, k2, k3, n1, hat]; cbv; try simp only [hc, k1, k2, k3, n1, hat]; cbv) ?_
 refine goB hX 1 (by conv => lhs; cbv; try simp only [hc, k1, k2, k3, n1, hat]; cbv; try simp only [hc, k1, k2, k3, n1, hat]; cbv; try simp only [hc, k1, k2, k3, n1, hat]; cbv; try simp only [hc, k1, k2, k3, n1, hat]; cbv) ?_
 refine on_lend rfl rfl pp rfl ⟨[.gone, .isl 2 (fe)], ⟨trivial, ⟨_, rfl, (subL_closed _ kcL).symm⟩, trivial⟩, ⟨.of (sub_whole rfl (by omega)), .refl _, trivial⟩⟩ ?_
 refine goB hX 0 (by conv => lhs; cbv; try simp only [hc, k1, k2, k3, n1, hat]; cbv; try simp only [hc, k1, k2, k3, n1, hat]; cbv; try simp only [hc, k1, k2, k3, n1, hat]; cbv; try simp only [hc, k1, k2, k3, n1, hat]; cbv) ?_
 refine goB hX 1 (by conv => lhs; cbv; try simp only [hc, k1, k2, k3, n1, hat]; cbv; try simp only [hc, k1, k2, k3, n1, hat]; cbv; try simp only [hc, k1, k2, k3, n1, hat]; cbv; try simp only [hc, k1, k2, k3, n1, hat]; cbv) ?_
 (rw [ke1, ke2, hset]; exact o_ret (F2 := [(4, int 0)]) (H2 := [.arr 2 (es ++ [.agg [str qn, .sl 2 2 0 (m + 1)]]), .dead, .arr 2 (fe ++ [.agg [str sl, int k]])]) (ent_subN [.to 0, .gone, .gone, .to 2] [some 0, some 1, some 3] ⟨rfl, rfl, trivial⟩ (by simp) (by simp) ⟨⟨by simp, rfl⟩, trivial, trivial, ⟨by simp, rfl⟩, trivial⟩ ⟨osrc_arrS (b := 0) rfl rfl rfl (by exact hsub1 (ofL [.to 0, .gone, .gone, .to 2]) 3 2 rfl), .dead, osrc_arr (b := 3) rfl rfl rfl rfl kz, trivial⟩ ⟨.refl _, trivial⟩) rfl (.inr ⟨rfl, rfl, rfl⟩))
theorem enters_schema_split_1 : Enters EE.P 56 := enters_of (fn := Tryd.f56) (n := 34) (ac := Trydc56) rfl (by decide) Trydp56
theorem cut_word {w r : Bs} (h1 : ∀ c ∈ w, nsp c = true) (h2 : stops r) (h10 : (10 : UInt8) ∉ w ++ r) : cutL 32 (w ++ r) = w := by
 have hw : (32 : UInt8) ∉ w := not_in (by decide) h1
 cases r with
 | nil => rw [List.append_nil]; exact cutL_free hw
 | cons c r =>
  have h2 : nsp c = false := h2
  rcases nsp_of h2 with k | k
  · have : c = 32 := ch_inj k
    subst this; exact cutL_app r hw
  · have : c = 10 := ch_inj k
    subst this; exact absurd (by simp) h10
theorem C_split1 (A0 A1 A2 A3 A4 A5 A6 : List Tok → AObj) (Lp : AObj) (C0 C1 : List Tok → AObj) (G : List Tok → Prop) (S : AHeap → Prop)
 (l : Bs) (hl : l.length < 4294967281) (h10 : (10 : UInt8) ∉ l) (H0 : AHeap) (hN : H0.length = 8) (h0 : HEnt EE 8 7 H0 [A0 [], A1 [], A2 [], A3 [], A4 [], A5 [], A6 [], Lp, C0 [], C1 []]) (hG : G [])
  (hy : ∀ d q r, toks l 0 true = d ++ q :: r → G d → AYield EE 7 [int (q.at' : Int), str (ba q.w)] [A0 d, A1 d, A2 d, A3 d, A4 d, A5 d, A6 d, Lp, C0 d, C1 d] (YdR EE (G (d ++ [q])) [A0 (d ++ [q]), A1 (d ++ [q]), A2 (d ++ [q]), A3 (d ++ [q]), A4 (d ++ [q]), A5 (d ++ [q]), A6 (d ++ [q]), Lp, C0 (d ++ [q]), C1 (d ++ [q])] S)) :
  ACall EE 56 [.yld 7, .iptr [str (ba l)]] H0 (fun _ H1 => (G (toks l 0 true) ∧ H1 = [A0 (toks l 0 true), A1 (toks l 0 true), A2 (toks l 0 true), A3 (toks l 0 true), A4 (toks l 0 true), A5 (toks l 0 true), A6 (toks l 0 true), Lp, C0 (toks l 0 true), C1 (toks l 0 true)]) ∨ S H1) := by
 have hsz := ba_size l
 have hget := fun d c r h => ba_get l d r c h
 have hcut := fun i j => ba_cut l i j
 generalize hT : toks l 0 true = T at *
 generalize ba l = s at *
 refine wordsN ?_; unhygienic intros
 have hn : sLen s = (l.length : Int) := by simp only [ee]; rw [hsz]
 have hat : ∀ d c r, l = d ++ c :: r → ∀ i : Int, i = d.length → sAt s i = ch c := fun d c r h i hi => by
  subst hi; simp only [ee, ch]; rw [Int.toNat_natCast, hget d c r h]
 have hct : ∀ x y, l = x ++ y → ∀ i : Int, i = x.length → sCut s i (sLen s) = ba y := fun x y h i hi => by
  rw [hn]; subst hi; simp only [ee]; rw [Int.toNat_natCast, Int.toNat_natCast, hcut, h]
  congr 1
  rw [List.take_of_length_le (Nat.le_refl _), List.drop_left]
 have hnt : bNot true = false := by simp [ee]
 have hnf : bNot false = true := by simp [ee]
 clear hget hcut
 refine rcall_body (fn := Tryd.f56) (n := 34) (ac := Trydc56) (rvs := []) rfl Trydp56 rfl rfl rfl ?_
 rw [hN]
 refine on_ent (h0.ent (F' := [(0, .yld 7), (1, .iptr [str s])]) ⟨.refl _, .refl _, trivial⟩) ?_
 refine goA 60 ?_
 refine on_loopP (ι := Bs × Bs × List Tok × Bool × Int) (fun p => ([(3, int p.2.2.2.2), (1, .iptr [str s]), (0, .yld 7)], [A0 p.2.2.1, A1 p.2.2.1, A2 p.2.2.1, A3 p.2.2.1, A4 p.2.2.1, A5 p.2.2.1, A6 p.2.2.1, Lp, C0 p.2.2.1, C1 p.2.2.1])) (fun p => l = p.1 ++ p.2.1 ∧ p.2.2.2.2 = p.1.length ∧ T = p.2.2.1 ++ toks p.2.1 p.1.length p.2.2.2.1 ∧ G p.2.2.1) (fun p => p.2.1.length) ([], l, [], true, 0) ⟨rfl, rfl, by rw [← hT]; rfl, hG⟩ ?_ ?_
 · exact ent_fw ⟨.refl _, .refl _, .refl _, trivial⟩
 rintro ⟨x, y, d, f, i⟩ ⟨g1, gi, gt, gG⟩
 dsimp only at g1 gi gt gG ⊢
 have L1 := congrArg List.length g1
 rw [List.length_append] at L1
 rcases toks_cases y with rfl | ⟨y, rfl⟩ | ⟨y, rfl⟩ | ⟨w, y, rfl, q0, q1, q2⟩
 · have hc : iLt i (sLen s) = false := by rw [hn]; simp only [ee]; simp at L1 ⊢; omega
   rw [toks_nil, List.append_nil] at gt
   refine goB hX 0 (by conv => lhs; cbv; try simp only [hc]; cbv; try simp only [hc]; cbv; try simp only [hc]; cbv; try simp only [hc]; cbv) ?_
   refine goA 60 ?_
   refine loopP_exit ?_
   refine goA 60 ?_
   exact o_norm (.refl _ _ _ _ _) rfl (.inl ⟨by rw [gt]; exact gG, by rw [gt]⟩)
 · exact absurd (by rw [g1]; simp) h10
 · have hc : iLt i (sLen s) = true := by rw [hn]; simp only [ee]; simp at L1 ⊢; omega
   have hb : i < sLen s := by rw [hn]; simp at L1; omega
   have ht := hat x 32 y g1 i gi
   have k : iEq (ch 32) 32 = true := by simp only [ee]; rfl
   have hi2 : iAdd .i64 i 1 = ((x ++ [32]).length : Int) := by rw [List.length_append]; exact inc_w e_iAdd gi (by omega)
   rw [toks_sp] at gt
   refine goB hX 0 (by conv => lhs; cbv; try simp only [hc, ht, k]; cbv; try simp only [hc, ht, k]; cbv; try simp only [hc, ht, k]; cbv; try simp only [hc, ht, k]; cbv) ?_
   refine goB hX 1 (by conv => lhs; cbv; try simp only [hc, ht, k]; cbv; try simp only [hc, ht, k]; cbv; try simp only [hc, ht, k]; cbv; try simp only [hc, ht, k]; cbv) ?_
   refine goB hX 1 (by conv => lhs; cbv; try simp only [hc, ht, k]; cbv; try simp only [hc, ht, k]; cbv; try simp only [hc, ht, k]; cbv; try simp only [hc, ht, k]; cbv) ?_
   refine goA 60 ?_
   exact loopP_next (x ++ [32], y, d, f, iAdd .i64 i 1) ⟨by simp [g1], hi2, by rw [gt]; simp, gG⟩ (by simp) (ent_fw ⟨.refl _, .refl _, .refl _, trivial⟩)
 · have hwp := List.length_pos_iff.2 q0
   have hc : iLt i (sLen s) = true := by rw [hn]; simp only [ee]; simp at L1 ⊢; omega
   have hb : i < sLen s := by rw [hn]; simp at L1; omega
   have hb0 : 0 ≤ i := by omega
   have hcu := hct x (w ++ y) g1 i gi
   have hwl : (cutL 32 (w ++ y)) = w := cut_word q1 q2 (fun h => h10 (by rw [g1]; simp only [List.mem_append] at h ⊢; exact .inr h))
   have pc := P_Cut 32 (w ++ y) (by omega)
   rw [← one_ba, hwl] at pc
   rw [toks_word x.length f q0 q1 q2] at gt
   have hyy := hy d _ _ gt gG
   dsimp only at hyy
   rw [← gi] at hyy
   have hws : sLen (ba w) = (w.length : Int) := by simp only [ee]; rw [ba_size]
   have hi2 : iAdd .i64 i (sLen (ba w)) = ((x ++ w).length : Int) := by
    rw [List.length_append] at L1
    rw [hws, List.length_append, gi, add_w e_iAdd (by omega) (by omega)]; omega
   have gt2 : T = (d ++ [⟨x.length, f, w⟩]) ++ toks y (x ++ w).length false := by rw [gt]; simp
   obtain ⟨c0, w0, rfl⟩ : ∃ c0 w0, w = c0 :: w0 := by
    cases w with
    | nil => exact absurd rfl q0
    | cons c w => exact ⟨c, w, rfl⟩
   have ht := hat x c0 (w0 ++ y) (by rw [g1]; simp) i gi
   have k : iEq (ch c0) 32 = false := by simp only [ee]; exact beq_eq_false_iff_ne.2 (nsp_ne (q1 c0 (by simp))).1
   generalize c0 :: w0 = w at *
   generalize ba w = ws at *
   generalize ba (cutR 32 (w ++ y)) = cr at *
   generalize decide ((32 : UInt8) ∈ w ++ y) = cb at *
   generalize ba (w ++ y) = wy at *
   clear hat hct hy
   refine goB hX 0 (by conv => lhs; cbv; try simp only [hc, ht, k, hcu]; cbv; try simp only [hc, ht, k, hcu]; cbv; try simp only [hc, ht, k, hcu]; cbv; try simp only [hc, ht, k, hcu]; cbv) ?_
   refine goB hX 1 (by conv => lhs; cbv; try simp only [hc, ht, k, hcu]; cbv; try simp only [hc, ht, k, hcu]; cbv; try simp only [hc, ht, k, hcu]; cbv; try simp only [hc, ht, k, hcu]; cbv) ?_
   refine goB hX 1 (by conv => lhs; cbv; try simp only [hc, ht, k, hcu]; cbv; try simp only [hc, ht, k, hcu]; cbv; try simp only [hc, ht, k, hcu]; cbv; try simp only [hc, ht, k, hcu]; cbv) ?_
   refine oPA pc ?_
   refine goA 60 ?_
   refine on_callv rfl rfl rfl rfl hyy ?_
   rintro v1 H1 (⟨rfl, hG1, he⟩ | ⟨rfl, hS⟩)
   rotate_left
   · refine goB hX 1 (by conv => lhs; cbv; try simp only [hnf]; cbv; try simp only [hnf]; cbv; try simp only [hnf]; cbv; try simp only [hnf]; cbv) ?_
     refine loopP_ret ?_
     refine goA 60 ?_
     exact o_ret (.refl _ _ _ _ _) rfl (.inr hS)
   refine on_entO (he.ent (F' := [(28, .val (.bool true)), (4, str ws), (3, int i), (1, .iptr [str s]), (0, .yld 7)]) ⟨.refl _, .refl _, .refl _, .refl _, .refl _, trivial⟩) ?_
   refine goB hX 1 (by conv => lhs; cbv; try simp only [hnt]; cbv; try simp only [hnt]; cbv; try simp only [hnt]; cbv; try simp only [hnt]; cbv) ?_
   refine goA 60 ?_
   exact loopP_next (x ++ w, y, d ++ [Tok.mk x.length f w], false, iAdd .i64 i (sLen ws)) ⟨by rw [g1]; simp, hi2, gt2, hG1⟩ (by simp; omega) (ent_fw ⟨.refl _, .refl _, .refl _, trivial⟩)
theorem P_split (l : Bs) : PCall EE 40 [str (ba l)] (.fn 56 [.iptr [str (ba l)]]) := by
 generalize ba l = s at *
 refine wordsN ?_; unhygienic intros
 refine fn_body (fn := Tryd.f40) (n := 4) (ac := Trydc40) (rvs := [.t 2]) rfl (by decide) Trydp40 rfl rfl rfl ?_
 refine goA 60 ?_
 refine fn_ret rfl rfl ⟨[.icells [str s]], ⟨⟨_, rfl, rfl⟩, trivial⟩, .of rfl⟩
theorem on_split {n N : Nat} {Q : AExit → AFr → AHeap → Prop} {k : List KI} {F : AFr} {f : Opd} {ps : List Nat} {a b : ACode} {o0 o1 o2 o3 o4 o5 o6 : AObj} (A0 A1 A2 A3 A4 A5 A6 C0 C1 : List Tok → AObj) (G : List Tok → Prop) (l : Bs) (hl : l.length < 4294967281) (h10 : (10 : UInt8) ∉ l)
 (hf : f.ev EE.G F = .fn 56 [.iptr [str (ba l)]]) (hps : ps.length = 2) (hG : G [])
 (h0 : HEnt EE 8 7 [o0, o1, o2, o3, o4, o5, o6, .loop F n ps a b .ready none] [A0 [], A1 [], A2 [], A3 [], A4 [], A5 [], A6 [], .loop F n ps a b .ready none, C0 [], C1 []])
 (hend : G (toks l 0 true) → Holds EE n N Q (.out .normal) k F [A0 (toks l 0 true), A1 (toks l 0 true), A2 (toks l 0 true), A3 (toks l 0 true), A4 (toks l 0 true), A5 (toks l 0 true), A6 (toks l 0 true), .dead, C0 (toks l 0 true), C1 (toks l 0 true)])
 (hy : ∀ d q r, toks l 0 true = d ++ q :: r → G d → Holds EE n 10 (AssignQ EE 7 10 F n ps a b (YdR EE (G (d ++ [q])) [A0 (d ++ [q]), A1 (d ++ [q]), A2 (d ++ [q]), A3 (d ++ [q]), A4 (d ++ [q]), A5 (d ++ [q]), A6 (d ++ [q]), .loop F n ps a b .ready none, C0 (d ++ [q]), C1 (d ++ [q])] (StopS EE n N Q k F ps a b))) (.code a) [] (bindF F ps [int (q.at' : Int), str (ba q.w)])
  [A0 d, A1 d, A2 d, A3 d, A4 d, A5 d, A6 d, .loop F n ps a b .ready none, C0 d, C1 d]) :
 Holds EE n N Q (.code (.rfun f ps a b)) k F [o0, o1, o2, o3, o4, o5, o6] := by
 refine on_rfun hf enters_schema_split_1 ?_
 refine ACall.mono (C_split1 A0 A1 A2 A3 A4 A5 A6 (.loop F n ps a b .ready none) C0 C1 G (StopS EE n N Q k F ps a b) l hl h10 _ rfl h0 hG (fun d q r h hg => yield_round (l := 7) rfl hps (hy d q r h hg))) ?_
 rintro v H1 (⟨hg, rfl⟩ | ⟨e, h1, h2⟩)
 · exact ⟨.ready, none, rfl, by simp, hend hg⟩
 · exact ⟨.done, some e, h1, by simp, h2⟩
theorem first_of {c : UInt8} : ∀ {l : Bs}, c ∈ l → ∃ d r, l = d ++ c :: r ∧ c ∉ d
 | x :: l, h => by
  by_cases e : x = c
  · exact ⟨[], l, by rw [e]; rfl, by simp⟩
  · obtain ⟨d, r, e1, e2⟩ := first_of (l := l) (by
     rcases List.mem_cons.1 h with h | h
     · exact absurd h.symm e
     · exact h)
    exact ⟨x :: d, r, by rw [e1]; rfl, by simp [e2, Ne.symm e]⟩
def tkl : List Bs → Nat → List Tok
 | [], _ => []
 | x :: r, a => toks x a true ++ tkl r (a + x.length + 1)
def tot : List Bs → Nat
 | [] => 0
 | x :: r => x.length + 1 + tot r
theorem split_facts : ∀ (n : Nat) (s : Bs) (a : Nat), s.length ≤ n → toks s a true = tkl (splitC 10 s) a ∧ tot (splitC 10 s) = s.length + 1 ∧ ∀ x ∈ splitC 10 s, (10 : UInt8) ∉ x
 | n, s, a, hn => by
  by_cases h : (10 : UInt8) ∈ s
  · obtain ⟨d, r, rfl, hd⟩ := first_of h
    rw [List.length_append, List.length_cons] at hn
    cases n with
    | zero => omega
    | succ n =>
     obtain ⟨i1, i2, i3⟩ := split_facts n r (a + d.length + 1) (by omega)
     rw [splitC_app r hd, toks_line d.length d r a true (Nat.le_refl _) hd, tkl, tot, i1, i2, List.length_append, List.length_cons]
     refine ⟨rfl, by omega, fun x hx => ?_⟩
     rcases List.mem_cons.1 hx with rfl | hx
     · exact hd
     · exact i3 x hx
  · rw [splitC_free h]
    refine ⟨by simp [tkl], by simp [tot], fun x hx => ?_⟩
    simp at hx; rw [hx]; exact h
def sh2 (a : Nat) (d : List Tok) : List Tok := d.map fun t => ⟨a + t.at', t.fst, t.w⟩
theorem toks_sh (l : Bs) (a : Nat) (f : Bool) : toks l a f = sh2 a (toks l 0 f) := by
 have := toks_shift l.length l a 0 f (Nat.le_refl _)
 rwa [Nat.add_zero] at this
def fld (l0 : List Sch) (d : List Tok) : List Sch := d.foldl (fun l t => stepL l t.fst t.w) l0
theorem fld_snoc (l0 : List Sch) (d : List Tok) (q : Tok) : fld l0 (d ++ [q]) = stepL (fld l0 d) q.fst q.w := by simp [fld]
theorem toks_rest : ∀ (n : Nat) (l : Bs) (a : Nat), l.length ≤ n → (10 : UInt8) ∉ l → ∀ t ∈ toks l a false, t.fst = false
 | 0, l, a, hn, h, t, ht => by
  cases l with
  | nil => rw [toks_nil] at ht; cases ht
  | cons c d => simp at hn
 | n + 1, l, a, hn, h, t, ht => by
  rcases toks_cases l with rfl | ⟨d, rfl⟩ | ⟨d, rfl⟩ | ⟨w, d, rfl, h0, h1, h2⟩
  · rw [toks_nil] at ht; cases ht
  · simp at h
  · rw [toks_sp] at ht
    exact toks_rest n d (a + 1) (by simp at hn; omega) (by simp at h; exact h) t ht
  · have hl : d.length ≤ n := by
     have := List.length_pos_iff.2 h0
     simp at hn; omega
    rw [toks_word a false h0 h1 h2] at ht
    rcases List.mem_cons.1 ht with rfl | ht
    · rfl
    · exact toks_rest n d _ hl (fun hh => h (by simp [hh])) t ht
theorem toks_first : ∀ (n : Nat) (l : Bs) (a : Nat), l.length ≤ n → (10 : UInt8) ∉ l → toks l a true = [] ∨ ∃ t r, toks l a true = t :: r ∧ t.fst = true ∧ ∀ u ∈ r, u.fst = false
 | 0, l, a, hn, h => by
  cases l with
  | nil => exact .inl (toks_nil _ _)
  | cons c d => simp at hn
 | n + 1, l, a, hn, h => by
  rcases toks_cases l with rfl | ⟨d, rfl⟩ | ⟨d, rfl⟩ | ⟨w, d, rfl, h0, h1, h2⟩
  · exact .inl (toks_nil _ _)
  · simp at h
  · rw [toks_sp]
    exact toks_first n d (a + 1) (by simp at hn; omega) (by simp at h; exact h)
  · rw [toks_word a true h0 h1 h2]
    exact .inr ⟨_, _, rfl, rfl, fun u hu => toks_rest d.length d _ (Nat.le_refl _) (fun hh => h (by simp [hh])) u hu⟩
theorem fst_of {l : Bs} {d r : List Tok} {q : Tok} (h10 : (10 : UInt8) ∉ l) (h : toks l 0 true = d ++ q :: r) : q.fst = d.isEmpty := by
 rcases toks_first l.length l 0 (Nat.le_refl _) h10 with e | ⟨t, r', e, e1, e2⟩
 · rw [e] at h; simp at h
 · rw [e] at h
   cases d with
   | nil =>
    simp only [List.nil_append, List.cons.injEq] at h
    rw [← h.1, e1]; rfl
   | cons x d =>
    simp only [List.cons_append, List.cons.injEq] at h
    exact e2 q (by rw [h.2]; simp)
def Gp (a : Nat) (l0 : List Sch) (d : List Tok) : Prop := (∀ x, rdT (sh2 a d ++ x) l0 = rdT x (fld l0 d)) ∧ chkAll (fld l0 d) = 0 ∧ (d ≠ [] → fld l0 d ≠ [])
theorem Gp_nil {a : Nat} {l0 : List Sch} (h : chkAll l0 = 0) : Gp a l0 [] := ⟨fun _ => rfl, h, fun h => absurd rfl h⟩
theorem Gp_step {a : Nat} {l0 : List Sch} {d : List Tok} {q : Tok} (h : Gp a l0 d) (hq : q.fst = d.isEmpty) (he : stepE (fld l0 d) q.fst q.w = 0) : Gp a l0 (d ++ [q]) := by
 obtain ⟨h1, h2, h3⟩ := h
 have hs := step_ok (w := q.w) (b := q.fst) h2 (by
  cases d with
  | nil => exact .inl hq
  | cons x d => exact .inr (h3 (by simp))) he
 refine ⟨fun x => ?_, by rw [fld_snoc]; exact hs.1, fun _ => by rw [fld_snoc]; exact hs.2⟩
 have : sh2 a (d ++ [q]) ++ x = sh2 a d ++ (⟨a + q.at', q.fst, q.w⟩ :: x) := by simp [sh2]
 rw [this, h1, rdT, if_neg (by simp only; rw [he]; simp), fld_snoc]
theorem Gp_err {a : Nat} {l0 : List Sch} {d r : List Tok} {q : Tok} {x : List Tok} (h : Gp a l0 d) (he : stepE (fld l0 d) q.fst q.w ≠ 0) : rdT (sh2 a (d ++ q :: r) ++ x) l0 = ([], ((a + q.at' : Nat) : Int), stepE (fld l0 d) q.fst q.w) := by
 have : sh2 a (d ++ q :: r) ++ x = sh2 a d ++ (⟨a + q.at', q.fst, q.w⟩ :: (sh2 a r ++ x)) := by simp [sh2]
 rw [this, h.1, rdT, if_pos he]
theorem chk_len {l : List Sch} (h : chkAll l = 0) : l.length ≤ 16 ∧ ∀ q ∈ l, q.fs.length ≤ 8 := by
 obtain ⟨h1, h2, _⟩ := (chkAll_zero l).1 h
 exact ⟨h1, fun q hq => ((Sch.chk_zero q).1 (h2 q hq)).2.1⟩
theorem wkL_app {M : Nat} : ∀ {a a' b b' : List AV}, WkL M a a' → WkL M b b' → WkL M (a ++ b) (a' ++ b')
 | [], [], _, _, _, h => h
 | _ :: _, _ :: _, _, _, h, h2 => ⟨h.1, wkL_app h.2 h2⟩
 | [], _ :: _, _, _, h, _ => h.elim
 | _ :: _, [], _, _, h, _ => h.elim
theorem osrc_arrW {H : AHeap} {M : Nat} {σ : Nat → Sub} {τ : Nat → Option Nat} {b' b k : Nat} {es es' : List AV} (hH : H[b]? = some (.arr k es)) (ht : τ b' = some b) (hs : σ b = .to b') (hw : WkL M (AV.subL σ es) es') (h1 : ∀ e ∈ es, e.cells.length = k) (h2 : ∀ e ∈ es', e.cells.length = k) : OSrc H M σ τ b' (.arr k es') :=
 .some b _ _ hH ht hs (.arr k es es' hw fun i e e' a b => by rw [h1 e (List.mem_of_getElem? a), h2 e' (List.mem_of_getElem? b)])
theorem Sch.cells2 (l : List Sch) : ∀ e ∈ mapE Sch.enc l, e.cells.length = 2 := by
 intro e he
 rw [mapE_eq] at he
 obtain ⟨q, _, rfl⟩ := List.mem_map.1 he
 rw [Sch.enc_eq]; rfl
def OV (l : List Sch) (ov : AV) (oa : AObj) : Prop := (l = [] ∧ ov = .val (.slice none 0 0) ∧ oa = .dead) ∨ (l ≠ [] ∧ ov = .sl 5 2 0 l.length ∧ oa = .arr 2 (mapE Sch.enc l))
theorem OV.ov {l : List Sch} {ov : AV} {oa : AObj} (h : OV l ov oa) (σ : Nat → Sub) (hs : σ 5 = .to 5) : ov.sub σ = ov := by
 rcases h with ⟨_, rfl, _⟩ | ⟨_, rfl, _⟩
 · rfl
 · simp only [AV.sub, hs]
theorem OV.oa {l : List Sch} {ov : AV} {oa : AObj} (h : OV l ov oa) (σ : Nat → Sub) : oa.sub σ = oa := by
 rcases h with ⟨_, _, rfl⟩ | ⟨_, _, rfl⟩
 · rfl
 · simp only [AObj.sub, subL_closed _ (Sch.closedL l)]
def fV (fs : List Fld) : AV := match fs with
 | [] => .val (.slice none 0 0)
 | _ :: r => .sl 9 2 0 (r.length + 1)
noncomputable def fA (fs : List Fld) : AObj := match fs with
 | [] => .dead
 | f :: r => .arr 2 (mapE Fld.enc (f :: r))
def f3 (ov : AV) (l : List Sch) (b : Bool) : AObj := cond b (.cells [ov]) (.cells [.sl 8 2 0 l.length])
def f5 (oa : AObj) (b : Bool) : AObj := cond b oa .dead
noncomputable def f8 (l : List Sch) (b : Bool) : AObj := cond b .dead (match l.getLast? with
 | some q => .arr 2 (mapE Sch.enc l.dropLast ++ [.agg [str (ba q.nm), fV q.fs]])
 | none => .dead)
noncomputable def f9 (l : List Sch) (b : Bool) : AObj := cond b .dead (match l.getLast? with
 | some q => fA q.fs
 | none => .dead)
theorem f8_app (a : List Sch) (q : Sch) : f8 (a ++ [q]) false = .arr 2 (mapE Sch.enc a ++ [.agg [str (ba q.nm), fV q.fs]]) := by simp [f8]
theorem f9_app (a : List Sch) (q : Sch) : f9 (a ++ [q]) false = fA q.fs := by simp [f9]
theorem f3_f (ov : AV) (l : List Sch) : f3 ov l false = .cells [.sl 8 2 0 l.length] := rfl
theorem f3_t (ov : AV) (l : List Sch) : f3 ov l true = .cells [ov] := rfl
theorem f5_t (oa : AObj) : f5 oa true = oa := rfl
theorem f8_t (l : List Sch) : f8 l true = .dead := rfl
theorem f9_t (l : List Sch) : f9 l true = .dead := rfl
theorem fld_nil (l : List Sch) : fld l [] = l := rfl
theorem fV_nil : fV [] = .val (.slice none 0 0) := rfl
theorem fA_nil : fA [] = .dead := rfl
theorem fV_cons (f : Fld) (r : List Fld) : fV (f :: r) = .sl 9 2 0 (r.length + 1) := rfl
theorem fA_cons (f : Fld) (r : List Fld) : fA (f :: r) = .arr 2 (mapE Fld.enc (f :: r)) := rfl
theorem len_snocS (a : List Sch) (q : Sch) : (a ++ [q]).length = a.length + 1 := by simp
theorem mapE_nil {α : Type} (g : α → AV) : mapE g [] = [] := by rw [mapE_eq]; rfl
theorem f5_f (oa : AObj) : f5 oa false = .dead := rfl
theorem emp_snoc {α : Type} (d : List α) (q : α) : (d ++ [q]).isEmpty = false := by cases d <;> rfl
theorem fV_snoc (fs : List Fld) (f : Fld) : fV (fs ++ [f]) = .sl 9 2 0 (fs.length + 1) := by cases fs <;> simp [fV]
theorem fA_snoc (fs : List Fld) (f : Fld) : fA (fs ++ [f]) = .arr 2 (mapE Fld.enc fs ++ [f.enc]) := by
 rw [← mapE_snoc]
 cases fs <;> rfl
theorem on_eqH {E : Env} {n N : Nat} {Q : AExit → AFr → AHeap → Prop} {c : Cur} {k : List KI} {F : AFr} {H H2 : AHeap} (h : H = H2) (g : Holds E n N Q c k F H2) : Holds E n N Q c k F H := h ▸ g
theorem stepE_t (l : List Sch) (w : Bs) : stepE l true w = begE l w := rfl
theorem stepL_t (l : List Sch) (w : Bs) : stepL l true w = l ++ [⟨w, []⟩] := rfl
theorem stepE_f (a : List Sch) (q : Sch) (w : Bs) : stepE (a ++ [q]) false w = fldE q.fs w := by
 show fldE (lastF (a ++ [q])) w = _
 rw [lastF_app]
theorem stepL_f (a : List Sch) (q : Sch) (w : Bs) : stepL (a ++ [q]) false w = a ++ [⟨q.nm, q.fs ++ [newF w]⟩] := addF_app a q (newF w)
theorem tot_len : ∀ l : List Bs, l.length ≤ tot l
 | [] => by simp [tot]
 | x :: l => by
  have := tot_len l
  rw [tot, List.length_cons]; omega
theorem P_Parse (s : Bs) (hs : s.length < 4294967281) : PCall EE 17 [str (ba s)] (.tup [.isl 2 (mapE Sch.enc (prs s).1), int (prs s).2.1, int (prs s).2.2]) := by
 have ps := P_Split 10 s hs
 rw [← one_ba] at ps
 have hsz := ba_size s
 by_cases h16 : 65536 < s.length
 · have e : prs s = ([], 0, 13) := if_pos h16
   rw [e]
   dsimp only
   rw [mapE_eq, List.map_nil]
   generalize ba s = b at *
   clear ps
   refine wordsN ?_; unhygienic intros
   have k : iLt 65536 (sLen b) = true := by simp only [ee]; simp; omega
   refine fn_body (fn := Tryd.f17) (n := 63) (ac := Trydc17) (rvs := [.cell 2 1 false, .cell 3 1 false, .cell 4 1 false]) rfl (by decide) Trydp17 rfl rfl rfl ?_
   refine goB hX 0 (by conv => lhs; cbv; try simp only [k]; cbv; try simp only [k]; cbv; try simp only [k]; cbv; try simp only [k]; cbv) ?_
   refine goA 60 ?_
   refine fn_ret rfl rfl ?_
   exact ⟨[.gone, .gone, .gone], ⟨trivial, trivial, trivial, trivial⟩, .tup' ⟨.nilI _, .refl _, .refl _, trivial⟩⟩
 have e : prs s = rdT (tkl (splitC 10 s) 0) [] := by rw [prs, if_neg h16, (split_facts s.length s 0 (Nat.le_refl _)).1]
 obtain ⟨-, htot, h10⟩ := split_facts s.length s 0 (Nat.le_refl _)
 rw [e]
 clear e
 generalize splitC 10 s = LS at *
 have hLl := tot_len LS
 obtain ⟨R, hR⟩ : ∃ R, R = rdT (tkl LS 0) [] := ⟨_, rfl⟩
 rw [← hR]
 generalize ba s = b at *
 refine wordsN ?_; unhygienic intros
 have k : iLt 65536 (sLen b) = false := by simp only [ee]; simp; omega
 have kcl : (AV.isl 1 (mapE (fun p => str (ba p)) LS)).closed = true := by simp only [AV.closed]; exact closed_mapE (fun _ => rfl) LS
 generalize hes : mapE (fun p => str (ba p)) LS = es at *
 have hel : es.length = LS.length := by rw [← hes, mapE_len]
 have hnt : bNot true = false := by simp only [ee]; rfl
 refine fn_body (fn := Tryd.f17) (n := 63) (ac := Trydc17) (rvs := [.cell 2 1 false, .cell 3 1 false, .cell 4 1 false]) rfl (by decide) Trydp17 rfl rfl rfl ?_
 refine goB hX 0 (by conv => lhs; cbv; try simp only [k]; cbv; try simp only [k]; cbv; try simp only [k]; cbv; try simp only [k]; cbv) ?_
 refine goA 60 ?_
 refine oPA ps ?_
 refine goA 60 ?_
 refine on_loopP (ι := List Bs × List Bs × Int × Nat × List Sch × Int × AV × AObj) (fun p => ([(21, int p.2.2.1), (20, int (lenA es)), (19, .isl 1 es), (2, .ptr 0 0), (3, .ptr 1 0), (4, .ptr 2 0), (5, .ptr 3 0), (6, .ptr 4 0)], [.cells [.val (.slice none 0 0)], .cells [int 0], .cells [int 0], .cells [p.2.2.2.2.2.2.1], .cells [int p.2.2.2.2.2.1], p.2.2.2.2.2.2.2])) (fun p => LS = p.1 ++ p.2.1 ∧ p.2.2.1 = p.1.length ∧ R = rdT (tkl p.2.1 p.2.2.2.1) p.2.2.2.2.1 ∧ chkAll p.2.2.2.2.1 = 0 ∧ p.2.2.2.1 + tot p.2.1 = s.length + 1 ∧ p.2.2.2.2.2.1 = p.2.2.2.1 ∧ OV p.2.2.2.2.1 p.2.2.2.2.2.2.1 p.2.2.2.2.2.2.2) (fun p => p.2.1.length) ([], LS, 0, 0, [], 0, .val (.slice none 0 0), .dead) ⟨rfl, rfl, hR, rfl, by simpa using htot, rfl, .inl ⟨rfl, rfl, rfl⟩⟩ ?_ ?_
 · exact (ent_sub [.to 0, .to 1, .to 2, .to 3, .to 4] [some 0, some 1, some 2, some 3, some 4, none] ⟨⟨by simp, rfl⟩, ⟨by simp, rfl⟩, ⟨by simp, rfl⟩, ⟨by simp, rfl⟩, ⟨by simp, rfl⟩, trivial⟩ ⟨osrc_cells (b := 0) rfl rfl rfl ⟨.refl _, trivial⟩, osrc_cells (b := 1) rfl rfl rfl ⟨.refl _, trivial⟩, osrc_cells (b := 2) rfl rfl rfl ⟨.refl _, trivial⟩, osrc_cells (b := 3) rfl rfl rfl ⟨.refl _, trivial⟩, osrc_cells (b := 4) rfl rfl rfl ⟨.refl _, trivial⟩, .dead, trivial⟩ ⟨.refl _, .refl _, .cl kcl, .refl _, .refl _, .refl _, .refl _, .refl _, trivial⟩)
 rintro ⟨dl, rl, i, a, l0, ai, ov, oa⟩ ⟨g1, gi, gR, gc, gt, ga, gO⟩
 dsimp only at g1 gi gR gc gt ga gO ⊢
 have hl16 := (chk_len gc).1
 cases rl with
 | nil =>
  have L1 := len_split g1
  try simp only [List.length] at L1
  have hc : iLt i (lenA es) = false := lt_f e_iLt e_lenA (by omega)
  have gR2 : R = (l0, 0, 0) := gR
  rw [gR2]
  dsimp only
  rcases gO with ⟨rfl, rfl, rfl⟩ | ⟨hne, rfl, rfl⟩
  · rw [mapE_eq, List.map_nil]
    refine goB hX 0 (by conv => lhs; cbv; try simp only [hc]; cbv; try simp only [hc]; cbv; try simp only [hc]; cbv; try simp only [hc]; cbv) ?_
    refine goA 60 ?_
    refine loopP_exit ?_
    refine goA 60 ?_
    refine fn_ret rfl rfl ?_
    exact ⟨[.gone, .gone, .gone, .gone, .gone, .gone], ⟨trivial, trivial, trivial, trivial, trivial, trivial, trivial⟩, .tup' ⟨.nilI _, .refl _, .refl _, trivial⟩⟩
  · have kcS := Sch.closedL l0
    have kcI := Sch.closedI l0
    generalize hel2 : mapE Sch.enc l0 = el at *
    have hll : el.length = l0.length := by rw [← hel2, mapE_len]
    generalize l0.length = n0 at *
    refine goB hX 0 (by conv => lhs; cbv; try simp only [hc]; cbv; try simp only [hc]; cbv; try simp only [hc]; cbv; try simp only [hc]; cbv) ?_
    refine goA 60 ?_
    refine loopP_exit ?_
    refine goA 60 ?_
    refine fn_ret rfl rfl ?_
    exact ⟨[.gone, .gone, .gone, .gone, .gone, .isl 2 (el)], ⟨trivial, trivial, trivial, trivial, trivial, ⟨_, rfl, (subL_closed _ kcS).symm⟩, trivial⟩, .tup' ⟨.of (sub_whole rfl (by omega)), .refl _, .refl _, trivial⟩⟩
 | cons x rl =>
  have L1 := len_split g1
  try simp only [List.length] at L1
  have hc : iLt i (lenA es) = true := lt_t e_iLt e_lenA (by omega)
  have hat := el_at e_atA hes g1 gi
  have hi2 : iAdd .i64 i 1 = ((dl ++ [x]).length : Int) := by rw [List.length_append]; exact inc_w e_iAdd gi (by omega)
  have hx10 : (10 : UInt8) ∉ x := h10 x (by rw [g1]; simp)
  have pq := P_split x
  rw [tot] at gt
  rw [tkl, toks_sh x a true] at gR
  have hxL : List.length x < 4294967281 := by omega
  have hgt2 : a + x.length + 1 + tot rl = s.length + 1 := by rw [← gt]; simp only [Nat.add_assoc]
  have hxl : sLen (ba x) = (x.length : Int) := by simp only [ee]; rw [ba_size]
  have hxb : (AV.fn 56 [.iptr [str (ba x)]]).closed = true := rfl
  have hnat : iAdd .i64 ai (iAdd .i64 (sLen (ba x)) 1) = ((a + x.length + 1 : Nat) : Int) := by
   rw [inc_w e_iAdd hxl (by omega), ga, add_w e_iAdd (by omega) (by omega)]; omega
  have hsx : ∃ xb, xb = ba x := ⟨_, rfl⟩
  obtain ⟨xb, hxe⟩ := hsx
  rw [← hxe] at hat pq hxl hxb hnat
  refine goB hX 0 (by conv => lhs; cbv; try simp only [hc, hat]; cbv; try simp only [hc, hat]; cbv; try simp only [hc, hat]; cbv; try simp only [hc, hat]; cbv) ?_
  refine goB hX 1 (by conv => lhs; cbv; try simp only [hc, hat]; cbv; try simp only [hc, hat]; cbv; try simp only [hc, hat]; cbv; try simp only [hc, hat]; cbv) ?_
  refine oPA pq ?_
  refine goA 60 ?_
  refine on_ent (F' := [(26, .fn 56 [.iptr [str xb]]), (21, int i), (20, int (lenA es)), (19, .isl 1 es), (2, .ptr 0 0), (3, .ptr 1 0), (4, .ptr 2 0), (5, .ptr 3 0), (6, .ptr 4 0), (8, str xb), (9, .ptr 6 0)]) (H' := [.cells [.val (.slice none 0 0)], .cells [int 0], .cells [int 0], .cells [ov], .cells [int ai], oa, .cells [bool true]]) (ent_fw ⟨.refl _, .refl _, .refl _, .refl _, .refl _, .refl _, .refl _, .refl _, .refl _, .refl _, .refl _, trivial⟩) ?_
  refine on_split (fun _ => .cells [.val (.slice none 0 0)]) (fun _ => .cells [int 0]) (fun _ => .cells [int 0]) (fun d => f3 ov (fld l0 d) d.isEmpty) (fun _ => .cells [int ai]) (fun d => f5 oa d.isEmpty) (fun d => .cells [bool d.isEmpty]) (fun d => f8 (fld l0 d) d.isEmpty) (fun d => f9 (fld l0 d) d.isEmpty) (Gp a l0) x hxL hx10 (by rw [← hxe]; rfl) rfl (Gp_nil gc) ?_ (fun hG => ?_) (fun d q r hd hG => ?_)
  · exact (hent_sub [.to 0, .to 1, .to 2, .to 3, .to 4, .to 5, .to 6, .to 7] [some 0, some 1, some 2, some 3, some 4, some 5, some 6, some 7, none, none] rfl ⟨rfl, rfl, rfl, rfl, rfl, rfl, rfl, rfl, trivial⟩ (by simp) (by simp) ⟨⟨by simp, rfl⟩, ⟨by simp, rfl⟩, ⟨by simp, rfl⟩, ⟨by simp, rfl⟩, ⟨by simp, rfl⟩, ⟨by simp, rfl⟩, ⟨by simp, rfl⟩, ⟨by simp, rfl⟩, trivial⟩ ⟨osrc_cells (b := 0) rfl rfl rfl ⟨.refl _, trivial⟩, osrc_cells (b := 1) rfl rfl rfl ⟨.refl _, trivial⟩, osrc_cells (b := 2) rfl rfl rfl ⟨.refl _, trivial⟩, osrc_cells (b := 3) rfl rfl rfl ⟨.of (gO.ov _ rfl), trivial⟩, osrc_cells (b := 4) rfl rfl rfl ⟨.refl _, trivial⟩, .same 5 _ _ rfl rfl rfl (gO.oa _), osrc_cells (b := 6) rfl rfl rfl ⟨.refl _, trivial⟩, .some 7 _ _ rfl rfl rfl (.loop _ _ _ _ _ _ _ _ ⟨.cl hxb, .refl _, .refl _, .cl kcl, .refl _, .refl _, .refl _, .refl _, .refl _, .refl _, .refl _, trivial⟩), .dead, .dead, trivial⟩)
  · generalize toks x 0 true = T at *
    clear hat pq hx10 ps hsz h16 htot h10 hLl hxL
    cases T with
    | nil =>
     have gR2 : R = rdT (tkl rl (a + x.length + 1)) l0 := gR
     refine goA 0 ?_
     refine goA 60 ?_
     exact loopP_next (dl ++ [x], rl, iAdd .i64 i 1, a + x.length + 1, l0, iAdd .i64 ai (iAdd .i64 (sLen xb) 1), ov, oa) ⟨by simp [g1], hi2, gR2, gc, hgt2, hnat, gO⟩ (by simp) (ent_sub [.to 0, .to 1, .to 2, .to 3, .to 4, .to 5] [some 0, some 1, some 2, some 3, some 4, some 5] ⟨⟨by simp, rfl⟩, ⟨by simp, rfl⟩, ⟨by simp, rfl⟩, ⟨by simp, rfl⟩, ⟨by simp, rfl⟩, ⟨by simp, rfl⟩, trivial⟩ ⟨osrc_cells (b := 0) rfl rfl rfl ⟨.refl _, trivial⟩, osrc_cells (b := 1) rfl rfl rfl ⟨.refl _, trivial⟩, osrc_cells (b := 2) rfl rfl rfl ⟨.refl _, trivial⟩, osrc_cells (b := 3) rfl rfl rfl ⟨.of (gO.ov _ rfl), trivial⟩, osrc_cells (b := 4) rfl rfl rfl ⟨.refl _, trivial⟩, .same 5 _ _ rfl rfl rfl (gO.oa _), trivial⟩ ⟨.refl _, .refl _, .cl kcl, .refl _, .refl _, .refl _, .refl _, .refl _, trivial⟩)
    | cons t0 T =>
     obtain ⟨hG1, hG2, hG3⟩ := hG
     have hne := hG3 (by simp)
     rw [hG1] at gR
     obtain ⟨b', q', hfl⟩ : ∃ b' q', fld l0 (t0 :: T) = b' ++ [q'] := ⟨_, _, (List.dropLast_concat_getLast hne).symm⟩
     rw [hfl] at gR hG2
     simp only [hfl, List.isEmpty_cons, f3_f, f5_f, f8_app, f9_app]
     clear hfl hG1 hG3 hne
     obtain ⟨n8, hn8⟩ : ∃ n8, n8 = (b' ++ [q']).length := ⟨_, rfl⟩
     rw [← hn8]
     have kes := Sch.closedL b'
     have hc2 := Sch.cells2 (b' ++ [q'])
     have hc3 : ∀ v : AV, ∀ e ∈ mapE Sch.enc b' ++ [.agg [str (ba q'.nm), v]], e.cells.length = 2 := fun v e he => by
      rcases List.mem_append.1 he with he | he
      · exact Sch.cells2 b' e he
      · simp at he; subst he; rfl
     have hse : mapE Sch.enc (b' ++ [q']) = mapE Sch.enc b' ++ [.agg [str (ba q'.nm), .isl 2 (mapE Fld.enc q'.fs)]] := by rw [mapE_snoc, Sch.enc_eq q']
     rcases hfs : q'.fs with _ | ⟨f, fr⟩
     · rw [fV_nil, fA_nil]
       rw [hfs, mapE_nil] at hse
       obtain ⟨L8, hL8⟩ : ∃ L8, L8 = mapE Sch.enc b' ++ [.agg [str (ba q'.nm), .val (.slice none 0 0)]] := ⟨_, rfl⟩
       have hW : ∀ (M : Nat) (σ : Nat → Sub), WkL M (AV.subL σ L8) (mapE Sch.enc (b' ++ [q'])) := fun M σ => by
        rw [hL8, subL_append, subL_closed _ kes, hse]
        exact wkL_app (WkL.refl _ _) ⟨.agg' ⟨.refl _, .nilI 2, trivial⟩, trivial⟩
       have hc4 := hc3 (.val (.slice none 0 0))
       rw [← hL8] at hc4 ⊢
       refine goA 0 ?_
       refine goA 60 ?_
       exact loopP_next (dl ++ [x], rl, iAdd .i64 i 1, a + x.length + 1, b' ++ [q'], iAdd .i64 ai (iAdd .i64 (sLen xb) 1), .sl 5 2 0 n8, .arr 2 (mapE Sch.enc (b' ++ [q']))) ⟨by simp [g1], hi2, gR, hG2, hgt2, hnat, .inr ⟨by simp, by rw [hn8], rfl⟩⟩ (by simp) (ent_sub [.to 0, .to 1, .to 2, .to 3, .to 4, .gone, .gone, .gone, .to 5] [some 0, some 1, some 2, some 3, some 4, some 8] ⟨⟨by simp, rfl⟩, ⟨by simp, rfl⟩, ⟨by simp, rfl⟩, ⟨by simp, rfl⟩, ⟨by simp, rfl⟩, trivial, trivial, trivial, ⟨by simp, rfl⟩, trivial⟩ ⟨osrc_cells (b := 0) rfl rfl rfl ⟨.refl _, trivial⟩, osrc_cells (b := 1) rfl rfl rfl ⟨.refl _, trivial⟩, osrc_cells (b := 2) rfl rfl rfl ⟨.refl _, trivial⟩, osrc_cells (b := 3) rfl rfl rfl ⟨.refl _, trivial⟩, osrc_cells (b := 4) rfl rfl rfl ⟨.refl _, trivial⟩, osrc_arrW (b := 8) rfl rfl rfl (hW _ _) hc4 hc2, trivial⟩ ⟨.refl _, .refl _, .cl kcl, .refl _, .refl _, .refl _, .refl _, .refl _, trivial⟩)
     · rw [fV_cons, fA_cons]
       rw [hfs] at hse
       have kfe := Fld.closedL (f :: fr)
       have hfn : (mapE Fld.enc (f :: fr)).length = fr.length + 1 := by rw [mapE_len]; rfl
       generalize mapE Fld.enc (f :: fr) = fe at *
       generalize fr.length + 1 = m at *
       obtain ⟨L8, hL8⟩ : ∃ L8, L8 = mapE Sch.enc b' ++ [.agg [str (ba q'.nm), .sl 9 2 0 m]] := ⟨_, rfl⟩
       have hW : ∀ (M : Nat) (σ : Nat → Sub), σ 9 = .isl 2 fe → WkL M (AV.subL σ L8) (mapE Sch.enc (b' ++ [q'])) := fun M σ hs9 => by
        rw [hL8, subL_append, subL_closed _ kes, hse]
        refine wkL_app (WkL.refl _ _) ⟨.agg' ⟨.refl _, .of ?_, trivial⟩, trivial⟩
        exact sub_whole hs9 (by omega)
       have hc4 := hc3 (.sl 9 2 0 m)
       rw [← hL8] at hc4 ⊢
       refine goA 0 ?_
       refine goA 60 ?_
       exact loopP_next (dl ++ [x], rl, iAdd .i64 i 1, a + x.length + 1, b' ++ [q'], iAdd .i64 ai (iAdd .i64 (sLen xb) 1), .sl 5 2 0 n8, .arr 2 (mapE Sch.enc (b' ++ [q']))) ⟨by simp [g1], hi2, gR, hG2, hgt2, hnat, .inr ⟨by simp, by rw [hn8], rfl⟩⟩ (by simp) (ent_sub [.to 0, .to 1, .to 2, .to 3, .to 4, .gone, .gone, .gone, .to 5, .isl 2 fe] [some 0, some 1, some 2, some 3, some 4, some 8] ⟨⟨by simp, rfl⟩, ⟨by simp, rfl⟩, ⟨by simp, rfl⟩, ⟨by simp, rfl⟩, ⟨by simp, rfl⟩, trivial, trivial, trivial, ⟨by simp, rfl⟩, ⟨_, rfl, (subL_closed _ kfe).symm⟩, trivial⟩ ⟨osrc_cells (b := 0) rfl rfl rfl ⟨.refl _, trivial⟩, osrc_cells (b := 1) rfl rfl rfl ⟨.refl _, trivial⟩, osrc_cells (b := 2) rfl rfl rfl ⟨.refl _, trivial⟩, osrc_cells (b := 3) rfl rfl rfl ⟨.refl _, trivial⟩, osrc_cells (b := 4) rfl rfl rfl ⟨.refl _, trivial⟩, osrc_arrW (b := 8) rfl rfl rfl (hW _ _ rfl) hc4 hc2, trivial⟩ ⟨.refl _, .refl _, .cl kcl, .refl _, .refl _, .refl _, .refl _, .refl _, trivial⟩)
  · have hqf := fst_of hx10 hd
    have hqa := toks_at x.length x 0 true (Nat.le_refl _) q (by rw [hd]; simp)
    rw [hd] at gR
    have hgs := Gp_step hG hqf
    have hge := fun he => gR.trans (Gp_err hG he)
    obtain ⟨hG1, hG2, hG3⟩ := hG
    obtain ⟨qt, qf, qw⟩ := q
    dsimp only at hqf hqa hgs hge
    subst hqf
    obtain ⟨hq1, hq2, hq3, hq4⟩ := hqa
    have hql : qw.length < 4294967281 := by rw [Nat.zero_add] at hq2; exact Nat.lt_of_le_of_lt (Nat.le_trans (Nat.le_add_left _ _) hq2) hxL
    have hqt : qt ≤ x.length := by rw [Nat.zero_add] at hq2; exact Nat.le_trans (Nat.le_add_right _ _) hq2
    clear hq1 hq2 hq3 hq4 hd gR
    simp only [fld_snoc, emp_snoc]
    obtain ⟨qi, hqi⟩ : ∃ qi : Int, qi = (qt : Int) := ⟨_, rfl⟩
    have hadd : iAdd .i64 ai qi = ((a + qt : Nat) : Int) := by rw [add_w e_iAdd (by rw [ga, hqi]; omega) (by rw [ga, hqi]; omega), ga, hqi]; omega
    rw [← hqi]
    clear hat pq hx10 ps hsz h16 htot h10 hLl hxL hnat hi2
    cases d with
    | nil =>
     simp only [fld_nil, List.isEmpty_nil, stepL_t, f3_t, f5_t, f8_t, f9_t, f8_app, f9_app, f3_f, f5_f, fV_nil, fA_nil, len_snocS]
     simp only [fld_nil, List.isEmpty_nil, stepE_t] at hgs hge
     have hws : qw.length < 1152921504606846976 := by omega
     by_cases he : begE l0 qw = 0
     · have hg2 := hgs he
       clear hgs hge hG1 hG2 hG3
       rcases gO with ⟨rfl, rfl, rfl⟩ | ⟨hne, rfl, rfl⟩
       · have hB := C_begin0 qw hws he
         rw [mapE_nil]
         generalize ba qw = wb at *
         refine goA 60 ?_
         refine rnd_assign rfl ?_
         refine goA 60 ?_
         refine on_fcall [] rfl rfl enters_schema_begin hB (by decide) (by simp) rfl rfl ?_
         rintro v0 H1 ⟨rfl, rfl⟩ -
         have kE : iNe 0 0 = false := by simp only [ee]; rfl
         refine goB hX 0 (by conv => lhs; cbv; try simp only [kE]; cbv; try simp only [kE]; cbv; try simp only [kE]; cbv; try simp only [kE]; cbv) ?_
         refine goA 60 ?_
         exact rnd_next rfl hg2 (hent_sub [.to 0, .to 1, .to 2, .to 3, .to 4, .gone, .to 6, .to 7, .gone, .gone, .to 8] [some 0, some 1, some 2, some 3, some 4, some 5, some 6, some 7, some 10, none] rfl ⟨rfl, rfl, rfl, rfl, rfl, rfl, rfl, rfl, trivial⟩ (by simp) (by simp) ⟨⟨by simp, rfl⟩, ⟨by simp, rfl⟩, ⟨by simp, rfl⟩, ⟨by simp, rfl⟩, ⟨by simp, rfl⟩, trivial, ⟨by simp, rfl⟩, ⟨by simp, rfl⟩, trivial, trivial, ⟨by simp, rfl⟩, trivial⟩ ⟨osrc_cells (b := 0) rfl rfl rfl ⟨.refl _, trivial⟩, osrc_cells (b := 1) rfl rfl rfl ⟨.refl _, trivial⟩, osrc_cells (b := 2) rfl rfl rfl ⟨.refl _, trivial⟩, osrc_cells (b := 3) rfl rfl rfl ⟨.refl _, trivial⟩, osrc_cells (b := 4) rfl rfl rfl ⟨.refl _, trivial⟩, .dead, osrc_cells (b := 6) rfl rfl rfl ⟨.refl _, trivial⟩, .some 7 _ _ rfl rfl rfl (.loop _ _ _ _ _ _ _ _ ⟨.cl hxb, .refl _, .refl _, .cl kcl, .refl _, .refl _, .refl _, .refl _, .refl _, .refl _, .refl _, trivial⟩), osrc_arr (b := 10) rfl rfl rfl rfl rfl, .dead, trivial⟩)
       · have hB := C_begin1 l0 qw (by omega) hws he _ rfl hl16
         have kes := Sch.closedL l0
         have kez : AV.closedL (mapE Sch.enc l0 ++ [.agg [str (ba qw), .val (.slice none 0 0)]]) = true := closedL_append kes rfl
         have hm := subL_closed (subIn [5] 10) kez
         obtain ⟨LZ, hLZ⟩ : ∃ LZ, LZ = mapE Sch.enc l0 ++ [.agg [str (ba qw), .val (.slice none 0 0)]] := ⟨_, rfl⟩
         rw [← hLZ] at hm kez hB ⊢
         generalize mapE Sch.enc l0 = el at *
         generalize ba qw = wb at *
         obtain ⟨n0, hn0⟩ : ∃ n0, n0 = l0.length := ⟨_, rfl⟩
         rw [← hn0] at hB ⊢
         refine goA 60 ?_
         refine rnd_assign rfl ?_
         refine goA 60 ?_
         refine on_fcall [5] rfl rfl enters_schema_begin hB (by decide) (by simp) (by show _ = [AObj.arr 2 (AV.subL _ el)]; rw [subL_closed _ kes]) rfl ?_
         rintro v0 H1 ⟨rfl, rfl⟩ -
         refine on_eqH (by change [_, _, _, _, _, _, _, _, _, _, AObj.arr 2 (AV.subL (subIn [5] 10) LZ)] = _; rw [hm]) ?_
         have kE : iNe 0 0 = false := by simp only [ee]; rfl
         refine goB hX 0 (by conv => lhs; cbv; try simp only [kE]; cbv; try simp only [kE]; cbv; try simp only [kE]; cbv; try simp only [kE]; cbv) ?_
         refine goA 60 ?_
         exact rnd_next rfl hg2 (hent_sub [.to 0, .to 1, .to 2, .to 3, .to 4, .gone, .to 6, .to 7, .gone, .gone, .to 8] [some 0, some 1, some 2, some 3, some 4, some 5, some 6, some 7, some 10, none] rfl ⟨rfl, rfl, rfl, rfl, rfl, rfl, rfl, rfl, trivial⟩ (by simp) (by simp) ⟨⟨by simp, rfl⟩, ⟨by simp, rfl⟩, ⟨by simp, rfl⟩, ⟨by simp, rfl⟩, ⟨by simp, rfl⟩, trivial, ⟨by simp, rfl⟩, ⟨by simp, rfl⟩, trivial, trivial, ⟨by simp, rfl⟩, trivial⟩ ⟨osrc_cells (b := 0) rfl rfl rfl ⟨.refl _, trivial⟩, osrc_cells (b := 1) rfl rfl rfl ⟨.refl _, trivial⟩, osrc_cells (b := 2) rfl rfl rfl ⟨.refl _, trivial⟩, osrc_cells (b := 3) rfl rfl rfl ⟨.refl _, trivial⟩, osrc_cells (b := 4) rfl rfl rfl ⟨.refl _, trivial⟩, .dead, osrc_cells (b := 6) rfl rfl rfl ⟨.refl _, trivial⟩, .some 7 _ _ rfl rfl rfl (.loop _ _ _ _ _ _ _ _ ⟨.cl hxb, .refl _, .refl _, .cl kcl, .refl _, .refl _, .refl _, .refl _, .refl _, .refl _, .refl _, trivial⟩), osrc_arr (b := 10) rfl rfl rfl rfl kez, .dead, trivial⟩)
     · have hR2 := hge he
       have hB := P_beginE l0 qw (by omega) hws he
       clear hgs hge hG1 hG2 hG3
       rw [hR2]
       simp only [mapE_nil]
       obtain ⟨E, hE⟩ : ∃ E, E = begE l0 qw := ⟨_, rfl⟩
       rw [← hE] at hB he ⊢
       have kE : iNe E 0 = true := by simp only [ee]; simpa using he
       clear hR2 hE
       rcases gO with ⟨rfl, rfl, rfl⟩ | ⟨hne, rfl, rfl⟩
       · rw [mapE_nil] at hB ⊢
         generalize ((a + qt : Nat) : Int) = PO at *
         generalize ba qw = wb at *
         refine goA 60 ?_
         refine rnd_assign rfl ?_
         refine goA 60 ?_
         refine on_lend rfl rfl hB rfl ⟨[.gone, .gone, .gone, .gone, .gone, .gone, .gone, .gone, .gone, .gone], ⟨trivial, trivial, trivial, trivial, trivial, trivial, trivial, trivial, trivial, trivial, trivial⟩, ⟨.nilI _, .refl _, trivial⟩⟩ ?_
         refine goB hX 0 (by conv => lhs; cbv; try simp only [hadd, kE]; cbv; try simp only [hadd, kE]; cbv; try simp only [hadd, kE]; cbv; try simp only [hadd, kE]; cbv) ?_
         refine goA 60 ?_
         refine tr_drawB rfl (by conv => lhs; cbv) rfl ?_
         refine tgA ?_
         refine tr_nil ⟨rfl, by simp [LooksL, lookAll], ?_⟩
         refine goA 60 ?_
         refine rnd_stop (by simp) rfl ?_
         refine goA 60 ?_
         refine loopP_ret ?_
         refine goA 60 ?_
         refine fn_ret rfl rfl ?_
         exact ⟨[.gone, .gone, .gone, .gone, .gone, .gone, .gone, .gone, .gone, .gone], ⟨trivial, trivial, trivial, trivial, trivial, trivial, trivial, trivial, trivial, trivial, trivial⟩, .tup' ⟨.nilI _, .of (congrArg int (by assumption)), .refl _, trivial⟩⟩
       · have kes := Sch.closedL l0
         have kei := Sch.closedI l0
         have kln := mapE_len Sch.enc l0
         obtain ⟨LZ, hLZ⟩ : ∃ LZ, LZ = mapE Sch.enc l0 ++ [.agg [str (ba qw), .val (.slice none 0 0)]] := ⟨_, rfl⟩
         rw [← hLZ]
         generalize mapE Sch.enc l0 = el at *
         generalize ((a + qt : Nat) : Int) = PO at *
         generalize ba qw = wb at *
         obtain ⟨n0, hn0⟩ : ∃ n0, n0 = l0.length := ⟨_, rfl⟩
         rw [← hn0] at kln ⊢
         refine goA 60 ?_
         refine rnd_assign rfl ?_
         refine goA 60 ?_
         refine on_lend rfl rfl hB rfl ⟨[.gone, .gone, .gone, .gone, .gone, .isl 2 (el), .gone, .gone, .gone, .gone], ⟨trivial, trivial, trivial, trivial, trivial, ⟨_, rfl, (subL_closed _ kes).symm⟩, trivial, trivial, trivial, trivial, trivial⟩, ⟨.of (sub_whole rfl (by omega)), .refl _, trivial⟩⟩ ?_
         refine goB hX 0 (by conv => lhs; cbv; try simp only [hadd, kE]; cbv; try simp only [hadd, kE]; cbv; try simp only [hadd, kE]; cbv; try simp only [hadd, kE]; cbv) ?_
         refine goA 60 ?_
         refine tr_drawB rfl (by conv => lhs; cbv) rfl ?_
         refine tgA ?_
         refine tr_nil ⟨rfl, by simp [LooksL, lookAll], ?_⟩
         refine goA 60 ?_
         refine rnd_stop (by simp) rfl ?_
         refine goA 60 ?_
         refine loopP_ret ?_
         refine goA 60 ?_
         refine fn_ret rfl rfl ?_
         exact ⟨[.gone, .gone, .gone, .gone, .gone, .gone, .gone, .gone, .gone, .gone], ⟨trivial, trivial, trivial, trivial, trivial, trivial, trivial, trivial, trivial, trivial, trivial⟩, .tup' ⟨.nilI _, .of (congrArg int (by assumption)), .refl _, trivial⟩⟩
    | cons t0 d =>
     have hne := hG3 (by simp)
     obtain ⟨b', q', hfl⟩ : ∃ b' q', fld l0 (t0 :: d) = b' ++ [q'] := ⟨_, _, (List.dropLast_concat_getLast hne).symm⟩
     rw [hfl] at hG2
     simp only [hfl, List.isEmpty_cons, stepE_f] at hgs hge
     simp only [hfl, List.isEmpty_cons, stepL_f, f3_f, f5_f, f8_app, f9_app, fV_snoc, fA_snoc, len_snocS]
     clear hfl hG1 hG3 hne
     have h8 : q'.fs.length ≤ 8 := (chk_len hG2).2 q' (by simp)
     have h16b := (chk_len hG2).1
     rw [len_snocS] at h16b
     have kes := Sch.closedL b'
     have kem := mapE_len Sch.enc b'
     generalize mapE Sch.enc b' = el at *
     obtain ⟨n, hn⟩ : ∃ n, n = el.length := ⟨_, rfl⟩
     obtain ⟨m1, hm1⟩ : ∃ m1, m1 = b'.length + 1 := ⟨_, rfl⟩
     obtain ⟨J, hJ⟩ : ∃ J : Int, J = (n : Int) := ⟨_, rfl⟩
     rw [← hm1]
     have kJ : iSub .i64 (iOf m1) 1 = J := by
      have e1 : iOf m1 = ((n + 1 : Nat) : Int) := by simp only [ee]; rw [hm1, hn, kem]
      rw [e1, e_iSub]
      show IntKind.i64.wrap _ = _
      rw [wrap64 (by omega) (by omega), hJ]; omega
     have kx : idxN 0 J = n := by simp only [ee]; rw [hJ]; simp
     have hJ0 : 0 ≤ J := by omega
     have hJ1 : J < iOf m1 := by simp only [ee]; omega
     obtain ⟨E, hE⟩ : ∃ E, E = fldE q'.fs qw := ⟨_, rfl⟩
     rw [← hE] at hgs hge
     have kF := Fld.closed (newF qw)
     have kEn : iNe E 0 = decide (E ≠ 0) := by simp only [ee]; rw [Bool.eq_iff_iff]; simp
     have kE0 : iNe 0 0 = false := by simp only [ee]; rfl
     rcases hfs : q'.fs with _ | ⟨f, fr⟩
     · rw [fV_nil, fA_nil]
       rw [hfs] at hE
       have hB := C_field0 (ba q'.nm) el kes n hn qw hql
       rw [← hE] at hB
       rw [mapE_nil]
       simp only [List.length_nil, List.nil_append, Nat.zero_add]
       obtain ⟨L8, hL8⟩ : ∃ L8, L8 = el ++ [.agg [str (ba q'.nm), .val (.slice none 0 0)]] := ⟨_, rfl⟩
       obtain ⟨L9, hL9⟩ : ∃ L9, L9 = el ++ [.agg [str (ba q'.nm), .sl 10 2 0 1]] := ⟨_, rfl⟩
       obtain ⟨LT, hLT⟩ : ∃ LT, LT = el ++ [.agg [str (ba q'.nm), .sl 9 2 0 1]] := ⟨_, rfl⟩
       have hm8 : AV.subL (subIn [8] 10) (el ++ [.agg [str (ba q'.nm), .val (.slice none 0 0)]]) = L8 := by rw [hL8, subL_append, subL_closed _ kes]; rfl
       have hm9 : AV.subL (subIn [8] 10) (el ++ [.agg [str (ba q'.nm), .sl 1 2 0 1]]) = L9 := by rw [hL9, subL_append, subL_closed _ kes]; rfl
       have hmT : ∀ σ : Nat → Sub, σ 10 = .to 9 → AV.subL σ L9 = LT := fun σ hσ => by rw [hL9, hLT, subL_append, subL_closed _ kes]; simp [AV.subL, AV.sub, hσ]
       have kfz : AV.closedL [Fld.enc (newF qw)] = true := by simp [AV.closedL, kF]
       have hmF := subL_closed (subIn [8] 10) kfz
       rw [← hL8, ← hLT]
       generalize Fld.enc (newF qw) = fe at *
       generalize ba qw = wb at *
       have hargs : [AObj.arr 2 (el ++ [.agg [str (ba q'.nm), .val (.slice none 0 0)]])] = [AObj.arr 2 (AV.subL (subOut [8]) L8)] := by rw [hL8, subL_append, subL_closed _ kes]; rfl
       refine goA 60 ?_
       refine rnd_assign rfl ?_
       refine goB hX 0 (by conv => lhs; cbv; try simp only [kJ, kx]; cbv; try simp only [kJ, kx]; cbv; try simp only [kJ, kx]; cbv; try simp only [kJ, kx]; cbv) ?_
       refine goB hX 1 (by conv => lhs; cbv; try simp only [kJ, kx]; cbv; try simp only [kJ, kx]; cbv; try simp only [kJ, kx]; cbv; try simp only [kJ, kx]; cbv) ?_
       refine on_fcall [8] rfl rfl enters_schema_field hB (by decide) (by simp) hargs rfl ?_
       rintro v0 H1 (⟨h0, rfl, rfl⟩ | ⟨h0, rfl, rfl⟩) -
       · have kE : iNe E 0 = true := by rw [kEn]; simpa using h0
         have hR2 := hge h0
         refine on_eqH (by change [_, _, _, _, _, _, _, _, AObj.arr 2 (AV.subL (subIn [8] 10) (el ++ [.agg [str (ba q'.nm), .val (.slice none 0 0)]])), _] = _; rw [hm8]) ?_
         rw [hR2]
         simp only [mapE_nil]
         generalize ((a + qt : Nat) : Int) = PO at *
         clear hge hgs hR2 hm8 hm9 hmT hmF hB hargs
         refine goB hX 0 (by conv => lhs; cbv; try simp only [hadd, kE]; cbv; try simp only [hadd, kE]; cbv; try simp only [hadd, kE]; cbv; try simp only [hadd, kE]; cbv) ?_
         refine goA 60 ?_
         refine tr_drawB rfl (by conv => lhs; cbv) rfl ?_
         refine tgA ?_
         refine tr_nil ⟨rfl, by simp [LooksL, lookAll], ?_⟩
         refine goA 60 ?_
         refine rnd_stop (by simp) rfl ?_
         refine goA 60 ?_
         refine loopP_ret ?_
         refine goA 60 ?_
         refine fn_ret rfl rfl ?_
         exact ⟨[.gone, .gone, .gone, .gone, .gone, .gone, .gone, .gone, .gone, .gone], ⟨trivial, trivial, trivial, trivial, trivial, trivial, trivial, trivial, trivial, trivial, trivial⟩, .tup' ⟨.nilI _, .of (congrArg int (by assumption)), .refl _, trivial⟩⟩
       · have hg2 := hgs h0
         refine on_eqH (by change [_, _, _, _, _, _, _, _, AObj.arr 2 (AV.subL (subIn [8] 10) (el ++ [.agg [str (ba q'.nm), .sl 1 2 0 1]])), _, AObj.arr 2 (AV.subL (subIn [8] 10) [fe])] = _; rw [hm9, hmF]) ?_
         clear hge hgs hm8 hm9 hmF hB hargs
         refine goB hX 0 (by conv => lhs; cbv; try simp only [kE0]; cbv; try simp only [kE0]; cbv; try simp only [kE0]; cbv; try simp only [kE0]; cbv) ?_
         refine goA 60 ?_
         exact rnd_next rfl hg2 (hent_sub [.to 0, .to 1, .to 2, .to 3, .to 4, .gone, .to 6, .to 7, .to 8, .gone, .to 9] [some 0, some 1, some 2, some 3, some 4, some 5, some 6, some 7, some 8, some 10] rfl ⟨rfl, rfl, rfl, rfl, rfl, rfl, rfl, rfl, trivial⟩ (by simp) (by simp) ⟨⟨by simp, rfl⟩, ⟨by simp, rfl⟩, ⟨by simp, rfl⟩, ⟨by simp, rfl⟩, ⟨by simp, rfl⟩, trivial, ⟨by simp, rfl⟩, ⟨by simp, rfl⟩, ⟨by simp, rfl⟩, trivial, ⟨by simp, rfl⟩, trivial⟩ ⟨osrc_cells (b := 0) rfl rfl rfl ⟨.refl _, trivial⟩, osrc_cells (b := 1) rfl rfl rfl ⟨.refl _, trivial⟩, osrc_cells (b := 2) rfl rfl rfl ⟨.refl _, trivial⟩, osrc_cells (b := 3) rfl rfl rfl ⟨.refl _, trivial⟩, osrc_cells (b := 4) rfl rfl rfl ⟨.refl _, trivial⟩, .dead, osrc_cells (b := 6) rfl rfl rfl ⟨.refl _, trivial⟩, .some 7 _ _ rfl rfl rfl (.loop _ _ _ _ _ _ _ _ ⟨.cl hxb, .refl _, .refl _, .cl kcl, .refl _, .refl _, .refl _, .refl _, .refl _, .refl _, .refl _, trivial⟩), osrc_arrS (b := 8) rfl rfl rfl (by exact hmT _ rfl), osrc_arr (b := 10) rfl rfl rfl rfl kfz, trivial⟩)
     · rw [fV_cons, fA_cons]
       rw [hfs] at hE h8
       have hB := C_field1 (ba q'.nm) el kes n hn (f :: fr) (by omega) (f :: fr).length rfl h8 qw hql
       rw [← hE] at hB
       have kfe := Fld.closedL (f :: fr)
       have hfl : (f :: fr).length = fr.length + 1 := rfl
       rw [hfl] at hB ⊢
       generalize fr.length + 1 = m at *
       generalize mapE Fld.enc (f :: fr) = fe at *
       obtain ⟨L8, hL8⟩ : ∃ L8, L8 = el ++ [.agg [str (ba q'.nm), .sl 9 2 0 m]] := ⟨_, rfl⟩
       obtain ⟨L9, hL9⟩ : ∃ L9, L9 = el ++ [.agg [str (ba q'.nm), .sl 10 2 0 (m + 1)]] := ⟨_, rfl⟩
       obtain ⟨LT, hLT⟩ : ∃ LT, LT = el ++ [.agg [str (ba q'.nm), .sl 9 2 0 (m + 1)]] := ⟨_, rfl⟩
       have hm8 : AV.subL (subIn [8, 9] 10) (el ++ [.agg [str (ba q'.nm), .sl 1 2 0 m]]) = L8 := by rw [hL8, subL_append, subL_closed _ kes]; rfl
       have hm9 : AV.subL (subIn [8, 9] 10) (el ++ [.agg [str (ba q'.nm), .sl 2 2 0 (m + 1)]]) = L9 := by rw [hL9, subL_append, subL_closed _ kes]; rfl
       have hmT : ∀ σ : Nat → Sub, σ 10 = .to 9 → AV.subL σ L9 = LT := fun σ hσ => by rw [hL9, hLT, subL_append, subL_closed _ kes]; simp [AV.subL, AV.sub, hσ]
       have kfz : AV.closedL (fe ++ [Fld.enc (newF qw)]) = true := closedL_append kfe (by simp [AV.closedL, kF])
       have hmF := subL_closed (subIn [8, 9] 10) kfz
       have hmE := subL_closed (subIn [8, 9] 10) kfe
       have hargs : [AObj.arr 2 (el ++ [.agg [str (ba q'.nm), .sl 1 2 0 m]]), AObj.arr 2 fe] = [AObj.arr 2 (AV.subL (subOut [8, 9]) L8), AObj.arr 2 (AV.subL (subOut [8, 9]) fe)] := by rw [hL8, subL_append, subL_closed _ kes, subL_closed _ kfe]; rfl
       obtain ⟨LF, hLF⟩ : ∃ LF, LF = fe ++ [Fld.enc (newF qw)] := ⟨_, rfl⟩
       rw [← hLF] at hmF hB kfz ⊢
       rw [← hL8, ← hLT]
       generalize ba qw = wb at *
       refine goA 60 ?_
       refine rnd_assign rfl ?_
       refine goB hX 0 (by conv => lhs; cbv; try simp only [kJ, kx]; cbv; try simp only [kJ, kx]; cbv; try simp only [kJ, kx]; cbv; try simp only [kJ, kx]; cbv) ?_
       refine goB hX 1 (by conv => lhs; cbv; try simp only [kJ, kx]; cbv; try simp only [kJ, kx]; cbv; try simp only [kJ, kx]; cbv; try simp only [kJ, kx]; cbv) ?_
       refine on_fcall [8, 9] rfl rfl enters_schema_field hB (by decide) (by simp) hargs rfl ?_
       rintro v0 H1 (⟨h0, rfl, rfl⟩ | ⟨h0, rfl, rfl⟩) -
       · have kE : iNe E 0 = true := by rw [kEn]; simpa using h0
         have hR2 := hge h0
         refine on_eqH (by change [_, _, _, _, _, _, _, _, AObj.arr 2 (AV.subL (subIn [8, 9] 10) (el ++ [.agg [str (ba q'.nm), .sl 1 2 0 m]])), AObj.arr 2 (AV.subL (subIn [8, 9] 10) fe)] = _; rw [hm8, hmE]) ?_
         rw [hR2]
         simp only [mapE_nil]
         generalize ((a + qt : Nat) : Int) = PO at *
         clear hge hgs hR2 hm8 hm9 hmT hmF hmE hB hargs
         refine goB hX 0 (by conv => lhs; cbv; try simp only [hadd, kE]; cbv; try simp only [hadd, kE]; cbv; try simp only [hadd, kE]; cbv; try simp only [hadd, kE]; cbv) ?_
         refine goA 60 ?_
         refine tr_drawB rfl (by conv => lhs; cbv) rfl ?_
         refine tgA ?_
         refine tr_nil ⟨rfl, by simp [LooksL, lookAll], ?_⟩
         refine goA 60 ?_
         refine rnd_stop (by simp) rfl ?_
         refine goA 60 ?_
         refine loopP_ret ?_
         refine goA 60 ?_
         refine fn_ret rfl rfl ?_
         exact ⟨[.gone, .gone, .gone, .gone, .gone, .gone, .gone, .gone, .gone, .gone], ⟨trivial, trivial, trivial, trivial, trivial, trivial, trivial, trivial, trivial, trivial, trivial⟩, .tup' ⟨.nilI _, .of (congrArg int (by assumption)), .refl _, trivial⟩⟩
       · have hg2 := hgs h0
         refine on_eqH (by change [_, _, _, _, _, _, _, _, AObj.arr 2 (AV.subL (subIn [8, 9] 10) (el ++ [.agg [str (ba q'.nm), .sl 2 2 0 (m + 1)]])), AObj.dead, AObj.arr 2 (AV.subL (subIn [8, 9] 10) LF)] = _; rw [hm9, hmF]) ?_
         clear hge hgs hm8 hm9 hmF hmE hB hargs
         refine goB hX 0 (by conv => lhs; cbv; try simp only [kE0]; cbv; try simp only [kE0]; cbv; try simp only [kE0]; cbv; try simp only [kE0]; cbv) ?_
         refine goA 60 ?_
         exact rnd_next rfl hg2 (hent_sub [.to 0, .to 1, .to 2, .to 3, .to 4, .gone, .to 6, .to 7, .to 8, .gone, .to 9] [some 0, some 1, some 2, some 3, some 4, some 5, some 6, some 7, some 8, some 10] rfl ⟨rfl, rfl, rfl, rfl, rfl, rfl, rfl, rfl, trivial⟩ (by simp) (by simp) ⟨⟨by simp, rfl⟩, ⟨by simp, rfl⟩, ⟨by simp, rfl⟩, ⟨by simp, rfl⟩, ⟨by simp, rfl⟩, trivial, ⟨by simp, rfl⟩, ⟨by simp, rfl⟩, ⟨by simp, rfl⟩, trivial, ⟨by simp, rfl⟩, trivial⟩ ⟨osrc_cells (b := 0) rfl rfl rfl ⟨.refl _, trivial⟩, osrc_cells (b := 1) rfl rfl rfl ⟨.refl _, trivial⟩, osrc_cells (b := 2) rfl rfl rfl ⟨.refl _, trivial⟩, osrc_cells (b := 3) rfl rfl rfl ⟨.refl _, trivial⟩, osrc_cells (b := 4) rfl rfl rfl ⟨.refl _, trivial⟩, .dead, osrc_cells (b := 6) rfl rfl rfl ⟨.refl _, trivial⟩, .some 7 _ _ rfl rfl rfl (.loop _ _ _ _ _ _ _ _ ⟨.cl hxb, .refl _, .refl _, .cl kcl, .refl _, .refl _, .refl _, .refl _, .refl _, .refl _, .refl _, trivial⟩), osrc_arrS (b := 8) rfl rfl rfl (by exact hmT _ rfl), osrc_arr (b := 10) rfl rfl rfl rfl kfz, trivial⟩)
end Go.Am
end
section
set_option maxHeartbeats 16000000
set_option maxRecDepth 20000
namespace Go.Am
open Go.Proofs Go.Shelf
theorem C_String0 : ACall EE 48 [.ptr 0 0] [.cells [.bsh 87 0 false, .val (.slice none 0 0)]] fun v H' => v = str ⟨#[]⟩ ∧ H' = [.cells [.bsh 87 0 false, .val (.slice none 0 0)]] :=
 bstring0_acall (E := EE) Tryd.lays169 Tryd.Builder_Extra_169
def BO (s : Bs) (o0 o1 : AObj) : Prop := (s = [] ∧ o0 = .cells [.bsh 87 0 false, .val (.slice none 0 0)] ∧ o1 = .dead) ∨ (s ≠ [] ∧ o0 = .cells [.bsh 87 0 true, .bsl 5 1 (byteA (ba s)).length] ∧ o1 = .arr 1 (byteA (ba s)))
theorem BO.sub {s : Bs} {o0 o1 : AObj} (h : BO s o0 o1) (σ : Nat → Sub) (h0 : σ 0 = .to 0) (h1 : σ 1 = .to 1) : o0.sub σ = o0 ∧ o1.sub σ = o1 := by
 rcases h with ⟨_, rfl, rfl⟩ | ⟨_, rfl, rfl⟩
 · exact ⟨by simp [AObj.sub, AV.subL, AV.sub, h0], rfl⟩
 · exact ⟨by simp [AObj.sub, AV.subL, AV.sub, h0, h1], by simp only [AObj.sub, subL_closed _ (byteA_closed s)]⟩
theorem C_WriteU (s x : Bs) (hx : x ≠ []) (hl : x.length ≤ 1048576) (hd : s.length ≤ 1048576) (o0 o1 : AObj) (h : BO s o0 o1) :
 ACall EE 47 [.ptr 0 0, str (ba x)] [o0, o1] fun v H' => v = .tup [int x.length, .val .nilIface] ∧ H' = [.cells [.bsh 87 0 true, .bsl 5 2 (byteA (ba (s ++ x))).length], .dead, .arr 1 (byteA (ba (s ++ x)))] := by
 rcases h with ⟨rfl, rfl, rfl⟩ | ⟨_, rfl, rfl⟩
 · have hm := subL_closed (subIn [0] 2) (byteA_closed x)
   have e : byteA (ba ([] ++ x)) = byteA (ba x) := by rw [List.nil_append]
   rw [e]
   exact ACall.at [0] (C_Write0 x hx hl) (by decide) (by simp) rfl rfl rfl (by show [_, _, AObj.arr 1 (AV.subL (subIn [0] 2) (byteA (ba x)))] = _; rw [hm]; rfl)
 · exact C_Write true s x hl hd
theorem P_Format (l : List Sch) (hl : l.length < 1152921504606846976) (hs : ∀ q ∈ l, q.Short) : PCall EE 20 [.isl 2 (mapE Sch.enc l)] (.tup [str (ba (if chkAll l ≠ 0 then [] else fmt l)), int (chkAll l)]) := by
 have kcl := Sch.closedI l
 have pc := P_CheckAll l hl hs
 have h0 : (⟨#[]⟩ : ByteArray) = ba [] := by rw [ba_eq]
 have hchk := fun h => (chkAll_zero l).1 h
 have hflen := fun h => fmt_len (l := l) h
 generalize chkAll l = ec at *
 refine wordsN ?_; unhygienic intros
 generalize hes : mapE Sch.enc l = es at *
 have hel : es.length = l.length := by rw [← hes, mapE_len]
 by_cases n0 : ec ≠ 0
 · have k0 : iNe ec 0 = true := by simp only [ee]; simpa using n0
   rw [if_pos n0, ← h0]
   refine fn_body (fn := Tryd.f20) (n := 45) (ac := Trydc20) (rvs := [.t 2, .t 3]) rfl (by decide) Trydp20 rfl rfl rfl ?_
   refine goA 60 ?_
   refine oPA pc ?_
   refine goB hX 0 (by conv => lhs; cbv; try simp only [k0]; cbv; try simp only [k0]; cbv; try simp only [k0]; cbv; try simp only [k0]; cbv) ?_
   refine goA 60 ?_
   refine fn_ret rfl rfl ?_
   exact ⟨[], trivial, .refl _⟩
 have k0 : iNe ec 0 = false := by simp only [ee]; simpa using n0
 rw [if_neg n0]
 have e0 : ec = 0 := by simpa using n0
 subst e0
 obtain ⟨-, hchk, -⟩ := hchk rfl
 have hflen := hflen rfl
 clear n0
 refine fn_body (fn := Tryd.f20) (n := 45) (ac := Trydc20) (rvs := [.t 2, .t 3]) rfl (by decide) Trydp20 rfl rfl rfl ?_
 refine goA 60 ?_
 refine oPA pc ?_
 refine goB hX 0 (by conv => lhs; cbv; try simp only [k0]; cbv; try simp only [k0]; cbv; try simp only [k0]; cbv; try simp only [k0]; cbv) ?_
 refine goA 60 ?_
 refine on_loopP (ι := List Sch × List Sch × Int × AObj × AObj) (fun p => ([(17, int p.2.2.1), (16, int (lenA es)), (15, .isl 2 es), (5, .ptr 0 0)], [p.2.2.2.1, p.2.2.2.2])) (fun p => l = p.1 ++ p.2.1 ∧ p.2.2.1 = p.1.length ∧ BO (fmt p.1) p.2.2.2.1 p.2.2.2.2) (fun p => p.2.1.length) ([], l, 0, .cells [.bsh 87 0 false, .val (.slice none 0 0)], .dead) ⟨rfl, rfl, .inl ⟨rfl, rfl, rfl⟩⟩ ?_ ?_
 · exact (ent_sub [.to 0] [some 0, none] ⟨⟨by simp, rfl⟩, trivial⟩ ⟨osrc_cells (b := 0) rfl rfl rfl ⟨.refl _, .refl _, trivial⟩, .dead, trivial⟩ ⟨.refl _, .refl _, .cl kcl, .refl _, trivial⟩)
 rintro ⟨d, r, i, o0, o1⟩ ⟨g1, gi, gB⟩
 dsimp only at g1 gi gB ⊢
 cases r with
 | nil =>
  have L1 := len_split g1
  try simp only [List.length] at L1
  have hc : iLt i (lenA es) = false := lt_f e_iLt e_lenA (by omega)
  rw [List.append_nil] at g1
  rw [← g1] at gB
  clear hs pc hchk
  rcases gB with ⟨e1, rfl, rfl⟩ | ⟨hne, rfl, rfl⟩
  · rw [e1, ← h0]
    refine goB hX 0 (by conv => lhs; cbv; try simp only [hc]; cbv; try simp only [hc]; cbv; try simp only [hc]; cbv; try simp only [hc]; cbv) ?_
    refine goB hX 1 (by conv => lhs; cbv; try simp only [hc]; cbv; try simp only [hc]; cbv; try simp only [hc]; cbv; try simp only [hc]; cbv) ?_
    refine goA 60 ?_
    refine loopP_exit ?_
    refine goA 60 ?_
    refine on_fcall [0] rfl rfl enters___strings_Builder__String C_String0 (by decide) (by simp) rfl rfl ?_
    rintro v0 H1 ⟨rfl, rfl⟩ -
    refine goA 60 ?_
    refine fn_ret rfl rfl ?_
    exact ⟨[.gone, .gone], ⟨trivial, trivial, trivial⟩, .refl _⟩
  · have hB := C_String true (fmt l) hne (by omega)
    have kbc := byteA_closed (fmt l)
    generalize ba (fmt l) = tb at *
    obtain ⟨n, hn⟩ : ∃ n, n = (byteA tb).length := ⟨_, rfl⟩
    rw [← hn] at hB ⊢
    generalize byteA tb = bs at *
    refine goB hX 0 (by conv => lhs; cbv; try simp only [hc]; cbv; try simp only [hc]; cbv; try simp only [hc]; cbv; try simp only [hc]; cbv) ?_
    refine goB hX 1 (by conv => lhs; cbv; try simp only [hc]; cbv; try simp only [hc]; cbv; try simp only [hc]; cbv; try simp only [hc]; cbv) ?_
    refine goA 60 ?_
    refine loopP_exit ?_
    refine goA 60 ?_
    refine on_fcall [0, 1] rfl rfl enters___strings_Builder__String hB (by decide) (by simp) (by show _ = [_, AObj.arr 1 (AV.subL _ bs)]; rw [subL_closed _ kbc]; rfl) rfl ?_
    rintro v0 H1 ⟨rfl, rfl⟩ -
    refine goA 60 ?_
    refine fn_ret rfl rfl ?_
    exact ⟨[.gone, .gone], ⟨trivial, trivial, trivial⟩, .refl _⟩
 | cons q r =>
  have L1 := len_split g1
  try simp only [List.length] at L1
  have hc : iLt i (lenA es) = true := lt_t e_iLt e_lenA (by omega)
  have hat := el_at e_atA hes g1 gi
  have hi2 : iAdd .i64 i 1 = ((d ++ [q]).length : Int) := by rw [List.length_append]; exact inc_w e_iAdd gi (by omega)
  rw [Sch.enc_eq] at hat
  have hq := hchk q (by rw [g1]; simp)
  obtain ⟨hq1, hq2, hq3, hq4⟩ := (Sch.chk_zero q).1 hq
  obtain ⟨hnn, hq24, -, -⟩ := nameB_ch hq1
  have hfd := fmt_pre g1
  have kcf := Fld.closedI q.fs
  have hB := C_WriteU (fmt d) q.nm hnn (by omega) (by omega) o0 o1 gB
  obtain ⟨s0, s1⟩ := gB.sub (subOut [0, 1]) rfl rfl
  have gB2 : BO (fmt d ++ q.nm) (.cells [.bsh 87 0 true, .bsl 5 1 (byteA (ba (fmt d ++ q.nm))).length]) (.arr 1 (byteA (ba (fmt d ++ q.nm)))) := .inr ⟨by simp [hnn], rfl, rfl⟩
  have kbc := byteA_closed (fmt d ++ q.nm)
  have hm := subL_closed (subIn [0, 1] 3) kbc
  generalize ba q.nm = qn at *
  generalize hfe : mapE Fld.enc q.fs = fe at *
  have hfl : fe.length = q.fs.length := by rw [← hfe, mapE_len]
  obtain ⟨n1, hn1⟩ : ∃ n1, n1 = (byteA (ba (fmt d ++ q.nm))).length := ⟨_, rfl⟩
  rw [← hn1] at hB gB2
  generalize byteA (ba (fmt d ++ q.nm)) = bs1 at *
  obtain ⟨z, hz⟩ : ∃ z : Int, z = (q.nm.length : Int) := ⟨_, rfl⟩
  rw [← hz] at hB
  clear hs pc hchk
  refine goB hX 0 (by conv => lhs; cbv; try simp only [hc, hat]; cbv; try simp only [hc, hat]; cbv; try simp only [hc, hat]; cbv; try simp only [hc, hat]; cbv) ?_
  refine goB hX 1 (by conv => lhs; cbv; try simp only [hc, hat]; cbv; try simp only [hc, hat]; cbv; try simp only [hc, hat]; cbv; try simp only [hc, hat]; cbv) ?_
  refine on_fcall [0, 1] rfl rfl enters___strings_Builder__WriteString hB (by decide) (by simp) (by show _ = [AObj.sub _ o0, AObj.sub _ o1]; rw [s0, s1]) rfl ?_
  rintro v0 H1 ⟨rfl, rfl⟩ -
  refine on_eqH (by change [_, _, _, AObj.arr 1 (AV.subL (subIn [0, 1] 3) bs1)] = _; rw [hm]) ?_
  refine goA 60 ?_
  refine on_loopP (ι := List Fld × List Fld × Int × AObj × AObj) (fun p => ([(27, int p.2.2.1), (26, int (lenA fe)), (25, .isl 2 fe), (17, int i), (16, int (lenA es)), (15, .isl 2 es), (5, .ptr 0 0)], [p.2.2.2.1, p.2.2.2.2])) (fun p => q.fs = p.1 ++ p.2.1 ∧ p.2.2.1 = p.1.length ∧ BO (fmt d ++ q.nm ++ p.1.flatMap fmtF) p.2.2.2.1 p.2.2.2.2 ∧ (p.1.flatMap fmtF).length ≤ p.1.length * 32) (fun p => p.2.1.length) ([], q.fs, 0, .cells [.bsh 87 0 true, .bsl 5 1 n1], .arr 1 bs1) ⟨rfl, rfl, by rw [List.flatMap_nil, List.append_nil]; exact gB2, by simp⟩ ?_ ?_
  · exact (ent_sub [.to 0, .gone, .gone, .to 1] [some 0, some 3] ⟨⟨by simp, rfl⟩, trivial, trivial, ⟨by simp, rfl⟩, trivial⟩ ⟨osrc_cells (b := 0) rfl rfl rfl ⟨.refl _, .refl _, trivial⟩, osrc_arr (b := 3) rfl rfl rfl rfl kbc, trivial⟩ ⟨.refl _, .refl _, .cl kcf, .refl _, .refl _, .cl kcl, .refl _, trivial⟩)
  rintro ⟨d2, r2, k, p0, p1⟩ ⟨f1, fi, fB, fl⟩
  dsimp only at f1 fi fB fl ⊢
  clear hB hm kbc gB gB2 s0 s1 hz hn1 hnn
  obtain ⟨s0, s1⟩ := fB.sub (subOut [0, 1]) rfl rfl
  cases r2 with
  | nil =>
   have L2 := len_split f1
   try simp only [List.length] at L2
   have hc2 : iLt k (lenA fe) = false := lt_f e_iLt e_lenA (by omega)
   rw [List.append_nil] at f1
   have hB := C_WriteU _ [10] (by simp) (by simp) (by simp only [List.length_append]; omega) p0 p1 fB
   rw [← one_ba] at hB
   have e10 : fmt d ++ q.nm ++ d2.flatMap fmtF ++ [10] = fmt (d ++ [q]) := by rw [fmt_snoc, f1]; simp
   rw [e10] at hB
   have gB2 : BO (fmt (d ++ [q])) (.cells [.bsh 87 0 true, .bsl 5 1 (byteA (ba (fmt (d ++ [q])))).length]) (.arr 1 (byteA (ba (fmt (d ++ [q]))))) := .inr ⟨by rw [← e10]; simp, rfl, rfl⟩
   have kbc := byteA_closed (fmt (d ++ [q]))
   have hm := subL_closed (subIn [0, 1] 2) kbc
   obtain ⟨n1, hn1⟩ : ∃ n1, n1 = (byteA (ba (fmt (d ++ [q])))).length := ⟨_, rfl⟩
   rw [← hn1] at hB gB2
   generalize byteA (ba (fmt (d ++ [q]))) = bs2 at *
   refine goB hX 0 (by conv => lhs; cbv; try simp only [hc2]; cbv; try simp only [hc2]; cbv; try simp only [hc2]; cbv; try simp only [hc2]; cbv) ?_
   refine goB hX 1 (by conv => lhs; cbv; try simp only [hc2]; cbv; try simp only [hc2]; cbv; try simp only [hc2]; cbv; try simp only [hc2]; cbv) ?_
   refine goA 60 ?_
   refine loopP_exit ?_
   refine goA 60 ?_
   refine on_fcall [0, 1] rfl rfl enters___strings_Builder__WriteString hB (by decide) (by simp) (by show _ = [AObj.sub _ p0, AObj.sub _ p1]; rw [s0, s1]) rfl ?_
   rintro v0 H1 ⟨rfl, rfl⟩ -
   refine on_eqH (by change [_, _, AObj.arr 1 (AV.subL (subIn [0, 1] 2) bs2)] = _; rw [hm]) ?_
   refine goA 60 ?_
   exact loopP_next (d ++ [q], r, iAdd .i64 i 1, .cells [.bsh 87 0 true, .bsl 5 1 n1], .arr 1 bs2) ⟨by simp [g1], hi2, gB2⟩ (by simp) (ent_sub [.to 0, .gone, .to 1] [some 0, some 2] ⟨⟨by simp, rfl⟩, trivial, ⟨by simp, rfl⟩, trivial⟩ ⟨osrc_cells (b := 0) rfl rfl rfl ⟨.refl _, .refl _, trivial⟩, osrc_arr (b := 2) rfl rfl rfl rfl kbc, trivial⟩ ⟨.refl _, .refl _, .cl kcl, .refl _, trivial⟩)
  | cons f r2 =>
   have L2 := len_split f1
   try simp only [List.length] at L2
   have hc2 : iLt k (lenA fe) = true := lt_t e_iLt e_lenA (by omega)
   have hat2 := el_at e_atA hfe f1 fi
   rw [Fld.enc_eq] at hat2
   have hk2 : iAdd .i64 k 1 = ((d2 ++ [f]).length : Int) := by rw [List.length_append]; exact inc_w e_iAdd fi (by omega)
   obtain ⟨hf1, hf2, hf3⟩ := hq3 f (by rw [f1]; simp)
   obtain ⟨hkw, _⟩ := kwd hf2 hf3
   simp only [fnameB, Bool.and_eq_true] at hf1
   have hn24 := (nameB_ch hf1.1).2.1
   have hkl := kw_len f.kd
   have hrow : rowA [str (Classical.choice kwBox_ne).i, str (Classical.choice kwBox_ne).b, str (Classical.choice kwBox_ne).s] f.kd 1 = [str (ba (kw f.kd))] := by simp only [e_rowA]; exact hkw
   have hcat : ∀ (u v : Bs), sCat (ba u) (ba v) = ba (u ++ v) := fun u v => by simp only [ee]; rw [ba_app]
   have hszs : ∀ u : Bs, (ba u).size = u.length := fun u => ba_size u
   have s1' : sCat ⟨#[32]⟩ (ba f.nm) = ba (32 :: f.nm) := by rw [one_ba, hcat]; rfl
   have s2' : sCat (ba (32 :: f.nm)) ⟨#[58]⟩ = ba (32 :: (f.nm ++ [58])) := by rw [one_ba, hcat]; rfl
   have s3' : sCat (ba (32 :: (f.nm ++ [58]))) (ba (kw f.kd)) = ba (fmtF f) := by rw [hcat, fmtF]; simp
   have z0 : (ByteArray.mk (Array.mk [32])).size = 1 := rfl
   have z1 : (ByteArray.mk (Array.mk [58])).size = 1 := rfl
   have z2 := hszs f.nm
   have z3 := hszs (32 :: f.nm)
   have z4 := hszs (32 :: (f.nm ++ [58]))
   have z5 := hszs (kw f.kd)
   have hfF : (fmtF f).length = f.nm.length + (kw f.kd).length + 2 := by rw [fmtF]; simp only [List.length_cons, List.length_append]; omega
   simp only [List.length_cons, List.length_append, List.length_nil] at z3 z4
   have hfl2 : ((d2 ++ [f]).flatMap fmtF).length ≤ (d2 ++ [f]).length * 32 := by
    rw [List.flatMap_append, List.length_append, List.length_append]
    simp only [List.flatMap_cons, List.flatMap_nil, List.append_nil, List.length_cons, List.length_nil]
    omega
   have hB := C_WriteU _ (fmtF f) (by simp [fmtF]) (by omega) (by simp only [List.length_append]; omega) p0 p1 fB
   have e10 : fmt d ++ q.nm ++ d2.flatMap fmtF ++ fmtF f = fmt d ++ q.nm ++ (d2 ++ [f]).flatMap fmtF := by simp
   rw [e10] at hB
   have gB2 : BO (fmt d ++ q.nm ++ (d2 ++ [f]).flatMap fmtF) (.cells [.bsh 87 0 true, .bsl 5 1 (byteA (ba (fmt d ++ q.nm ++ (d2 ++ [f]).flatMap fmtF))).length]) (.arr 1 (byteA (ba (fmt d ++ q.nm ++ (d2 ++ [f]).flatMap fmtF)))) := .inr ⟨by simp [fmtF], rfl, rfl⟩
   have kbc := byteA_closed (fmt d ++ q.nm ++ (d2 ++ [f]).flatMap fmtF)
   have hm := subL_closed (subIn [0, 1] 3) kbc
   obtain ⟨n1, hn1⟩ : ∃ n1, n1 = (byteA (ba (fmt d ++ q.nm ++ (d2 ++ [f]).flatMap fmtF))).length := ⟨_, rfl⟩
   rw [← hn1] at hB gB2
   generalize byteA (ba (fmt d ++ q.nm ++ (d2 ++ [f]).flatMap fmtF)) = bs2 at *
   obtain ⟨z, hz⟩ : ∃ z : Int, z = ((fmtF f).length : Int) := ⟨_, rfl⟩
   rw [← hz] at hB
   clear hkw
   generalize ba (fmtF f) = w4 at *
   generalize ba (32 :: (f.nm ++ [58])) = w3 at *
   generalize ba (32 :: f.nm) = w2 at *
   generalize ba f.nm = w1 at *
   generalize ba (kw f.kd) = w5 at *
   generalize f.kd = fk at *
   clear hcat hszs
   have hargs : [p0, p1] = [AObj.sub (subOut [0, 1]) p0, AObj.sub (subOut [0, 1]) p1] := by rw [s0, s1]
   refine goB hX 0 (by conv => lhs; cbv; try simp only [hc, hat, hc2, hat2, hrow, s1', s2', s3']; cbv; try simp only [hc, hat, hc2, hat2, hrow, s1', s2', s3']; cbv; try simp only [hc, hat, hc2, hat2, hrow, s1', s2', s3']; cbv; try simp only [hc, hat, hc2, hat2, hrow, s1', s2', s3']; cbv) ?_
   refine goB hX 1 (by conv => lhs; cbv; try simp only [hc, hat, hc2, hat2, hrow, s1', s2', s3']; cbv; try simp only [hc, hat, hc2, hat2, hrow, s1', s2', s3']; cbv; try simp only [hc, hat, hc2, hat2, hrow, s1', s2', s3']; cbv; try simp only [hc, hat, hc2, hat2, hrow, s1', s2', s3']; cbv) ?_
   refine tr_drawB rfl (by conv => lhs; cbv) rfl ?_
   refine tgB hX (by conv => lhs; cbv; try simp only [s1', s2', s3', hrow]; cbv; try simp only [s1', s2', s3', hrow]; cbv; try simp only [s1', s2', s3', hrow]; cbv; try simp only [s1', s2', s3', hrow]; cbv) ?_
   refine tr_ecall (args := [.ptr 0 0, str w4]) (v := .tup [int z, .val .nilIface]) (H1 := [.cells [.bsh 87 0 true, .bsl 5 3 n1], .dead, .cells [str w1, int fk], .arr 1 bs2]) rfl rfl rfl enters___strings_Builder__WriteString (ACall.at [0, 1] hB (by decide) (by simp) hargs rfl rfl (by show [_, _, _, AObj.arr 1 (AV.subL (subIn [0, 1] 3) bs2)] = _; rw [hm]; rfl)) ?_
   refine tr_nil ⟨rfl, ?_, ?_⟩
   · simp only [LooksL, lookAll, List.cons_append, List.nil_append]; and_intros <;> first | trivial | (intro hp; first | rfl | exact absurd (show false = true from hp) Bool.false_ne_true)
   refine goA 60 ?_
   exact loopP_next (d2 ++ [f], r2, iAdd .i64 k 1, .cells [.bsh 87 0 true, .bsl 5 1 n1], .arr 1 bs2) ⟨by simp [f1], hk2, gB2, hfl2⟩ (by simp) (ent_sub [.to 0, .gone, .gone, .to 1] [some 0, some 3] ⟨⟨by simp, rfl⟩, trivial, trivial, ⟨by simp, rfl⟩, trivial⟩ ⟨osrc_cells (b := 0) rfl rfl rfl ⟨.refl _, .refl _, trivial⟩, osrc_arr (b := 3) rfl rfl rfl rfl kbc, trivial⟩ ⟨.refl _, .refl _, .cl kcf, .refl _, .refl _, .cl kcl, .refl _, trivial⟩)
end Go.Am
end
