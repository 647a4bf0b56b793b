/- Contracts of the program's functions, for every argument that meets the conditions that each theorem names. -/
import Derived.Test.YtdbikeconboifaaGreatDoorAm6
import Derived.Test.YtdbikeconboifaaGreatDoorCt2
import Derived.Test.YtdbikeconboifaaGreatDoorCt4
import Derived.Test.YtdbikeconboifaaGreatDoorCt3
section
set_option maxHeartbeats 16000000
set_option maxRecDepth 100000
namespace Go.Am
open Go.Proofs
theorem P_ref08_Depth : ∀ p : Ex, p.Sm → PCall EE 64 [p.enc] (int p.dep) := by
 refine Ex.ind ?_
 intro o a v f k x ih hs
 obtain ⟨xk, xn, xt⟩ := x
 have hlen := hs.len
 have hih : ∀ q ∈ a, PCall EE 64 [q.enc] (int q.dep) := fun q hq => ih q hq (hs.arg hq)
 have hcl := Ex.closedI a
 have hcnt : Ex.cntL a ≤ 1048576 := by unfold Ex.Sm at hs; simp only [Ex.cnt] at hs; omega
 have hde := fun q : Ex => Ex.dep_le q
 simp only [Ex.dep]
 obtain ⟨R, hR⟩ : ∃ R, R = Ex.depL 0 a := ⟨_, rfl⟩
 rw [← hR, Ex.enc_mk]
 refine wordsN ?_; unhygienic intros
 generalize hes : mapE Ex.enc a = es at *
 have hel : es.length = a.length := by rw [← hes, mapE_len]
 refine fn_body (fn := Tryz.f64) (n := 22) (ac := Tryzc64) (rvs := [.t 2]) rfl (by decide) Tryzp64 rfl rfl rfl ?_
 refine goA 60 ?_
 refine on_loopP (ι := List Ex × List Ex × Int × Int) (fun p => ([(3, int p.2.2.2), (4, int p.2.2.1), (1, .ptr 0 0)], [.cells [int o, .isl 8 es, int v, int f, int k, int xk, int xn, str xt]])) (fun p => a = p.1 ++ p.2.1 ∧ p.2.2.1 = p.1.length ∧ p.2.2.2 ≤ 1048576 ∧ 0 ≤ p.2.2.2 ∧ R = Ex.depL p.2.2.2.toNat p.2.1) (fun p => p.2.1.length) ([], a, 0, 0) ⟨rfl, rfl, by simp, by simp, hR⟩ ?_ ?_
 · exact (ent_sub [.to 0] [some 0] ⟨⟨by simp, rfl⟩, trivial⟩ ⟨osrc_cells (b := 0) rfl rfl rfl ⟨.refl _, .cl hcl, .refl _, .refl _, .refl _, .refl _, .refl _, .refl _, trivial⟩, trivial⟩ ⟨.refl _, .refl _, .refl _, trivial⟩)
 rintro ⟨d, r, i, dd⟩ ⟨g1, gi, gn, gp, gt⟩
 dsimp only at g1 gi gn gp gt ⊢
 cases r with
 | nil =>
  have L1 := len_split g1
  try simp only [List.length_cons, List.length_nil] at L1
  have hc : iLt i (lenA es) = false := lt_f e_iLt e_lenA (by omega)
  rw [Ex.depL] at gt
  have ha1 : iAdd .i64 dd 1 = ((R + 1 : Nat) : Int) := by rw [add_w e_iAdd (by omega) (by omega)]; omega
  refine goB hX 0 (by conv => lhs; cbv; try simp only [hc]; cbv; try simp only [hc]; cbv; try simp only [hc]; cbv; try simp only [hc]; cbv) ?_
  refine goA 60 ?_
  refine loopP_exit ?_
  refine goA 60 ?_
  refine fn_ret rfl rfl (.val ?_)
  exact congrArg (Value.int .i64) ha1
 | cons q r =>
  have L1 := len_split g1
  try simp only [List.length_cons, List.length_nil] at L1
  have hc : iLt i (lenA es) = true := lt_t e_iLt e_lenA (by omega)
  have hat := el_at e_atA hes g1 gi
  have hq := hih q (by rw [g1]; simp)
  have hqc := Ex.closed q
  have hqd := hde q
  rw [g1, Ex.cntL_append, Ex.cntL] at hcnt
  obtain ⟨qO, qA, qV, qF, qK, qXk, qXn, qXt, hx⟩ := Ex.form q
  rw [hx] at hq hat hqc
  rw [Ex.depL] at gt
  generalize hqn : (q.dep : Int) = qn at hq
  have hd2 : iMax dd qn = ((max dd.toNat q.dep : Nat) : Int) := by simp only [ee]; split <;> omega
  have hd3 : (iMax dd qn).toNat = max dd.toNat q.dep := by omega
  have hi2 : iAdd .i64 i 1 = ((d ++ [q]).length : Int) := by rw [List.length_append]; exact inc_w e_iAdd gi (by omega)
  refine goB hX 0 (by conv => lhs; cbv; try simp only [hc, hat]; cbv; try simp only [hc, hat]; cbv; try simp only [hc, hat]; cbv; try simp only [hc, hat]; cbv) ?_
  refine goB hX 1 (by conv => lhs; cbv; try simp only [hc, hat]; cbv; try simp only [hc, hat]; cbv; try simp only [hc, hat]; cbv; try simp only [hc, hat]; cbv) ?_
  refine pcA hq ?_
  refine goA 60 ?_
  refine loopP_next (d ++ [q], r, iAdd .i64 i 1, iMax dd qn) ⟨by simp [g1], hi2, by show iMax dd qn ≤ 1048576; omega, by show 0 ≤ iMax dd qn; omega, hd3 ▸ gt⟩ (by simp) (ent_sub [.to 0] [some 0] ⟨⟨by simp, rfl⟩, trivial⟩ ⟨osrc_cells (b := 0) rfl rfl rfl ⟨.refl _, .cl hcl, .refl _, .refl _, .refl _, .refl _, .refl _, .refl _, trivial⟩, trivial⟩ ⟨.refl _, .refl _, .refl _, trivial⟩)
theorem P_ref09_Depth : ∀ p : Pat, p.Sm → PCall EE 30 [p.enc] (int p.dep) := by
 refine Pat.ind ?_
 intro o a t v s n c ih hs
 obtain ⟨co, ca, cv, cf, ck, xk, xn, xt⟩ := c
 have hlen := hs.len
 have hih : ∀ q ∈ a, PCall EE 30 [q.enc] (int q.dep) := fun q hq => ih q hq (hs.arg hq)
 have hcl := Pat.closedI a
 have hce := Ex.closedI ca
 have hcnt : Pat.cntL a ≤ 1048576 := by have hs := hs.1; simp only [Pat.cnt] at hs; omega
 have hde := fun q : Pat => Pat.dep_le q
 simp only [Pat.dep]
 obtain ⟨R, hR⟩ : ∃ R, R = Pat.depL 0 a := ⟨_, rfl⟩
 rw [← hR, Pat.enc_mk]
 refine wordsN ?_; unhygienic intros
 generalize hes : mapE Pat.enc a = es at *
 generalize mapE Ex.enc ca = ec at *
 have hel : es.length = a.length := by rw [← hes, mapE_len]
 refine fn_body (fn := Tryz.f30) (n := 22) (ac := Tryzc30) (rvs := [.t 2]) rfl (by decide) Tryzp30 rfl rfl rfl ?_
 refine goA 60 ?_
 refine on_loopP (ι := List Pat × List Pat × Int × Int) (fun p => ([(3, int p.2.2.2), (4, int p.2.2.1), (1, .ptr 0 0)], [.cells [int o, .isl 14 es, int t, int v, int s, int n, int co, .isl 8 ec, int cv, int cf, int ck, int xk, int xn, str xt]])) (fun p => a = p.1 ++ p.2.1 ∧ p.2.2.1 = p.1.length ∧ p.2.2.2 ≤ 1048576 ∧ 0 ≤ p.2.2.2 ∧ R = Pat.depL p.2.2.2.toNat p.2.1) (fun p => p.2.1.length) ([], a, 0, 0) ⟨rfl, rfl, by simp, by simp, hR⟩ ?_ ?_
 · exact (ent_sub [.to 0] [some 0] ⟨⟨by simp, rfl⟩, trivial⟩ ⟨osrc_cells (b := 0) rfl rfl rfl ⟨.refl _, .cl hcl, .refl _, .refl _, .refl _, .refl _, .refl _, .cl hce, .refl _, .refl _, .refl _, .refl _, .refl _, .refl _, trivial⟩, trivial⟩ ⟨.refl _, .refl _, .refl _, trivial⟩)
 rintro ⟨d, r, i, dd⟩ ⟨g1, gi, gn, gp, gt⟩
 dsimp only at g1 gi gn gp gt ⊢
 cases r with
 | nil =>
  have L1 := len_split g1
  try simp only [List.length_cons, List.length_nil] at L1
  have hc : iLt i (lenA es) = false := lt_f e_iLt e_lenA (by omega)
  rw [Pat.depL] at gt
  have ha1 : iAdd .i64 dd 1 = ((R + 1 : Nat) : Int) := by rw [add_w e_iAdd (by omega) (by omega)]; omega
  refine goB hX 0 (by conv => lhs; cbv; try simp only [hc]; cbv; try simp only [hc]; cbv; try simp only [hc]; cbv; try simp only [hc]; cbv) ?_
  refine goA 60 ?_
  refine loopP_exit ?_
  refine goA 60 ?_
  refine fn_ret rfl rfl (.val ?_)
  exact congrArg (Value.int .i64) ha1
 | cons q r =>
  have L1 := len_split g1
  try simp only [List.length_cons, List.length_nil] at L1
  have hc : iLt i (lenA es) = true := lt_t e_iLt e_lenA (by omega)
  have hat := el_at e_atA hes g1 gi
  have hq := hih q (by rw [g1]; simp)
  have hqc := Pat.closed q
  have hqd := hde q
  rw [g1, Pat.cntL_append, Pat.cntL] at hcnt
  obtain ⟨qO, qA, qT, qV, qS, qN, qCo, qCa, qCv, qCf, qCk, qXk, qXn, qXt, hx⟩ := Pat.form q
  rw [hx] at hq hat hqc
  rw [Pat.depL] at gt
  generalize hqn : (q.dep : Int) = qn at hq
  have hd2 : iMax dd qn = ((max dd.toNat q.dep : Nat) : Int) := by simp only [ee]; split <;> omega
  have hd3 : (iMax dd qn).toNat = max dd.toNat q.dep := by omega
  have hi2 : iAdd .i64 i 1 = ((d ++ [q]).length : Int) := by rw [List.length_append]; exact inc_w e_iAdd gi (by omega)
  refine goB hX 0 (by conv => lhs; cbv; try simp only [hc, hat]; cbv; try simp only [hc, hat]; cbv; try simp only [hc, hat]; cbv; try simp only [hc, hat]; cbv) ?_
  refine goB hX 1 (by conv => lhs; cbv; try simp only [hc, hat]; cbv; try simp only [hc, hat]; cbv; try simp only [hc, hat]; cbv; try simp only [hc, hat]; cbv) ?_
  refine pcA hq ?_
  refine goA 60 ?_
  refine loopP_next (d ++ [q], r, iAdd .i64 i 1, iMax dd qn) ⟨by simp [g1], hi2, by show iMax dd qn ≤ 1048576; omega, by show 0 ≤ iMax dd qn; omega, hd3 ▸ gt⟩ (by simp) (ent_sub [.to 0] [some 0] ⟨⟨by simp, rfl⟩, trivial⟩ ⟨osrc_cells (b := 0) rfl rfl rfl ⟨.refl _, .cl hcl, .refl _, .refl _, .refl _, .refl _, .refl _, .cl hce, .refl _, .refl _, .refl _, .refl _, .refl _, .refl _, trivial⟩, trivial⟩ ⟨.refl _, .refl _, .refl _, trivial⟩)
def suitsR (k : Int) (v : Vl) : Bool := decide (v.kind = 0 ∨ k = 0 ∨ k = 4 ∨ k = 5)
theorem P_ref07_Suits (k : Int) (v : Vl) : PCall EE 118 [int k, v.enc] (bool (suitsR k v)) := by
 obtain ⟨R, hR⟩ : ∃ R, R = suitsR k v := ⟨_, rfl⟩
 rw [← hR]
 unfold suitsR at hR
 obtain ⟨xk, xn, xt⟩ := v
 dsimp only at hR
 show PCall EE _ [int k, .agg [int xk, int xn, str xt]] _
 refine wordsN ?_; unhygienic intros
 refine fn_body (fn := Tryz.f118) (n := 20) (ac := Tryzc118) (rvs := [.t 4]) rfl (by decide) Tryzp118 rfl rfl rfl ?_
 refine goA 60 ?_
 refine fn_ret rfl rfl (.val ?_)
 exact congrArg Value.bool (by rw [hR, Bool.eq_iff_iff]; simp only [ee]; simp [or_assoc])
theorem P_ref01_Check (v : Vl) : PCall EE 117 [v.enc] (int v.chk) := by
 obtain ⟨R, hR⟩ : ∃ R, R = v.chk := ⟨_, rfl⟩
 rw [← hR]
 have h0 : v.text = ⟨#[]⟩ ↔ v.text.toList = [] := by
  constructor
  · intro h; rw [h]; simp
  · intro h; exact bs_inj (by rw [h]; simp)
 have hz : v.text.toList = [] → (v.text.size : Int) = 0 := fun h => by rw [h0.2 h]; rfl
 unfold Vl.chk Vl.sizeE at hR
 obtain ⟨xk, xn, xt⟩ := v
 dsimp only at hR h0 hz
 simp only [ne_eq, h0] at hR
 show PCall EE _ [.agg [int xk, int xn, str xt]] _
 refine wordsN ?_; unhygienic intros
 have hsn : ∀ s : ByteArray, (s.toList == (ByteArray.mk #[]).toList) = decide (s.toList = []) := by
  intro s
  have hn : (ByteArray.mk #[]).toList = [] := by simp
  rw [hn]
  cases s.toList <;> rfl
 refine fn_body (fn := Tryz.f117) (n := 47) (ac := Tryzc117) (rvs := [.t 2]) rfl (by decide) Tryzp117 rfl rfl rfl ?_
 refine goA 0 ?_
 refine on_cond rfl (fun c1 => ?_) (fun c1 => ?_)
 ·
  simp [ee] at c1
  refine goA 60 ?_
  refine fn_ret rfl rfl (.val ?_)
  exact congrArg (Value.int .i64) (by rw [hR]; simp only [ee, hsn] at *; clear ee hX; grind)
 ·
  simp [ee] at c1
  refine goA 0 ?_
  refine on_cond rfl (fun c2 => ?_) (fun c2 => ?_)
  ·
   simp [ee] at c2
   refine goA 0 ?_
   refine on_cond rfl (fun c3 => ?_) (fun c3 => ?_)
   ·
    simp [ee] at c3
    refine goA 60 ?_
    refine fn_ret rfl rfl (.val ?_)
    exact congrArg (Value.int .i64) (by rw [hR]; simp only [ee, hsn] at *; clear ee hX; grind)
   ·
    simp [ee] at c3
    refine goA 0 ?_
    refine on_cond rfl (fun c4 => ?_) (fun c4 => ?_)
    ·
     simp [ee] at c4
     refine goA 60 ?_
     refine fn_ret rfl rfl (.val ?_)
     exact congrArg (Value.int .i64) (by rw [hR]; simp only [ee, hsn] at *; clear ee hX; grind)
    ·
     simp [ee] at c4
     refine goA 60 ?_
     refine fn_ret rfl rfl (.val ?_)
     exact congrArg (Value.int .i64) (by rw [hR]; simp only [ee, hsn] at *; clear ee hX; grind)
  ·
   simp [ee] at c2
   refine goA 0 ?_
   refine on_cond rfl (fun c5 => ?_) (fun c5 => ?_)
   ·
    simp [ee] at c5
    refine goA 60 ?_
    refine fn_ret rfl rfl (.val ?_)
    exact congrArg (Value.int .i64) (by rw [hR]; simp only [ee, hsn] at *; clear ee hX; grind)
   ·
    simp [ee] at c5
    refine goA 0 ?_
    refine nsB hX (by conv => lhs; cbv) ?_
    refine goA 0 ?_
    refine on_cond rfl (fun c6 => ?_) (fun c6 => ?_)
    ·
     simp [ee] at c6
     refine goA 60 ?_
     refine fn_ret rfl rfl (.val ?_)
     exact congrArg (Value.int .i64) (by rw [hR]; simp only [ee, hsn] at *; clear ee hX; grind)
    ·
     simp [ee] at c6
     refine goA 60 ?_
     refine fn_ret rfl rfl (.val ?_)
     exact congrArg (Value.int .i64) (by rw [hR]; simp only [ee, hsn] at *; clear ee hX; grind)
theorem P_ref08_uses (o : Int) : PCall EE 104 [int o] (.tup [bool (usesV o), bool (usesF o)]) := by
 obtain ⟨R, hR⟩ : ∃ R, R = usesV o := ⟨_, rfl⟩
 obtain ⟨R2, hR2⟩ : ∃ R, R = usesF o := ⟨_, rfl⟩
 rw [← hR, ← hR2]
 unfold usesV at hR
 unfold usesF at hR2
 refine wordsN ?_; unhygienic intros
 refine fn_body (fn := Tryz.f104) (n := 21) (ac := Tryzc104) (rvs := [.t 2, .t 3]) rfl (by decide) Tryzp104 rfl rfl rfl ?_
 refine goA 60 ?_
 refine fn_ret rfl rfl ?_
 exact Fz.none (.tup' ⟨.of (congrArg bool (by rw [hR, Bool.eq_iff_iff]; simp only [ee]; simp; omega)), .of (congrArg bool (by rw [hR2, Bool.eq_iff_iff]; simp only [ee]; simp)), trivial⟩)
def arityR (o : Int) : Int := if o < 0 ∨ 12 < o then -1 else if o < 5 then 0 else if o = 12 then 1 else 2
theorem P_ref08_arity (o : Int) : PCall EE 116 [int o] (int (arityR o)) := by
 obtain ⟨R, hR⟩ : ∃ R, R = arityR o := ⟨_, rfl⟩
 rw [← hR]
 unfold arityR at hR
 refine wordsN ?_; unhygienic intros
 refine fn_body (fn := Tryz.f116) (n := 20) (ac := Tryzc116) (rvs := [.t 2]) rfl (by decide) Tryzp116 rfl rfl rfl ?_
 refine goA 0 ?_
 refine on_cond rfl (fun c1 => ?_) (fun c1 => ?_)
 ·
  simp [ee] at c1
  refine goA 0 ?_
  refine on_cond rfl (fun c2 => ?_) (fun c2 => ?_)
  ·
   simp [ee] at c2
   refine goA 60 ?_
   refine fn_ret rfl rfl (.val ?_)
   exact congrArg (Value.int .i64) (by rw [hR]; (repeat' split) <;> first | rfl | omega)
  ·
   simp [ee] at c2
   refine goA 0 ?_
   refine on_cond rfl (fun c3 => ?_) (fun c3 => ?_)
   ·
    simp [ee] at c3
    refine goA 60 ?_
    refine fn_ret rfl rfl (.val ?_)
    exact congrArg (Value.int .i64) (by rw [hR]; (repeat' split) <;> first | rfl | omega)
   ·
    simp [ee] at c3
    refine goA 0 ?_
    refine on_cond rfl (fun c4 => ?_) (fun c4 => ?_)
    ·
     simp [ee] at c4
     refine goA 0 ?_
     refine on_cond rfl (fun c5 => ?_) (fun c5 => ?_)
     ·
      simp [ee] at c5
      refine goA 60 ?_
      refine fn_ret rfl rfl (.val ?_)
      exact congrArg (Value.int .i64) (by rw [hR]; (repeat' split) <;> first | rfl | omega)
     ·
      simp [ee] at c5
      refine goA 60 ?_
      refine fn_ret rfl rfl (.val ?_)
      exact congrArg (Value.int .i64) (by rw [hR]; (repeat' split) <;> first | rfl | omega)
    ·
     simp [ee] at c4
     refine goA 0 ?_
     refine on_cond rfl (fun c6 => ?_) (fun c6 => ?_)
     ·
      simp [ee] at c6
      refine goA 0 ?_
      refine on_cond rfl (fun c7 => ?_) (fun c7 => ?_)
      ·
       simp [ee] at c7
       refine goA 60 ?_
       refine fn_ret rfl rfl (.val ?_)
       exact congrArg (Value.int .i64) (by rw [hR]; (repeat' split) <;> first | rfl | omega)
      ·
       simp [ee] at c7
       refine goA 60 ?_
       refine fn_ret rfl rfl (.val ?_)
       exact congrArg (Value.int .i64) (by rw [hR]; (repeat' split) <;> first | rfl | omega)
     ·
      simp [ee] at c6
      refine goA 0 ?_
      refine on_cond rfl (fun c8 => ?_) (fun c8 => ?_)
      ·
       simp [ee] at c8
       refine goA 0 ?_
       refine on_cond rfl (fun c9 => ?_) (fun c9 => ?_)
       ·
        simp [ee] at c9
        refine goA 60 ?_
        refine fn_ret rfl rfl (.val ?_)
        exact congrArg (Value.int .i64) (by rw [hR]; (repeat' split) <;> first | rfl | omega)
       ·
        simp [ee] at c9
        refine goA 60 ?_
        refine fn_ret rfl rfl (.val ?_)
        exact congrArg (Value.int .i64) (by rw [hR]; (repeat' split) <;> first | rfl | omega)
      ·
       simp [ee] at c8
       refine goA 0 ?_
       refine on_cond rfl (fun c10 => ?_) (fun c10 => ?_)
       ·
        simp [ee] at c10
        refine goA 0 ?_
        refine on_cond rfl (fun c11 => ?_) (fun c11 => ?_)
        ·
         simp [ee] at c11
         refine goA 60 ?_
         refine fn_ret rfl rfl (.val ?_)
         exact congrArg (Value.int .i64) (by rw [hR]; (repeat' split) <;> first | rfl | omega)
        ·
         simp [ee] at c11
         refine goA 60 ?_
         refine fn_ret rfl rfl (.val ?_)
         exact congrArg (Value.int .i64) (by rw [hR]; (repeat' split) <;> first | rfl | omega)
       ·
        simp [ee] at c10
        refine goA 0 ?_
        refine on_cond rfl (fun c12 => ?_) (fun c12 => ?_)
        ·
         simp [ee] at c12
         refine goA 0 ?_
         refine on_cond rfl (fun c13 => ?_) (fun c13 => ?_)
         ·
          simp [ee] at c13
          refine goA 60 ?_
          refine fn_ret rfl rfl (.val ?_)
          exact congrArg (Value.int .i64) (by rw [hR]; (repeat' split) <;> first | rfl | omega)
         ·
          simp [ee] at c13
          refine goA 60 ?_
          refine fn_ret rfl rfl (.val ?_)
          exact congrArg (Value.int .i64) (by rw [hR]; (repeat' split) <;> first | rfl | omega)
        ·
         simp [ee] at c12
         refine goA 0 ?_
         refine on_cond rfl (fun c14 => ?_) (fun c14 => ?_)
         ·
          simp [ee] at c14
          refine goA 0 ?_
          refine on_cond rfl (fun c15 => ?_) (fun c15 => ?_)
          ·
           simp [ee] at c15
           refine goA 60 ?_
           refine fn_ret rfl rfl (.val ?_)
           exact congrArg (Value.int .i64) (by rw [hR]; (repeat' split) <;> first | rfl | omega)
          ·
           simp [ee] at c15
           refine goA 60 ?_
           refine fn_ret rfl rfl (.val ?_)
           exact congrArg (Value.int .i64) (by rw [hR]; (repeat' split) <;> first | rfl | omega)
         ·
          simp [ee] at c14
          refine goA 0 ?_
          refine on_cond rfl (fun c16 => ?_) (fun c16 => ?_)
          ·
           simp [ee] at c16
           refine goA 60 ?_
           refine fn_ret rfl rfl (.val ?_)
           exact congrArg (Value.int .i64) (by rw [hR]; (repeat' split) <;> first | rfl | omega)
          ·
           simp [ee] at c16
           refine goA 60 ?_
           refine fn_ret rfl rfl (.val ?_)
           exact congrArg (Value.int .i64) (by rw [hR]; (repeat' split) <;> first | rfl | omega)
 ·
  simp [ee] at c1
  refine goA 0 ?_
  refine on_cond rfl (fun c17 => ?_) (fun c17 => ?_)
  ·
   simp [ee] at c17
   refine goA 0 ?_
   refine on_cond rfl (fun c18 => ?_) (fun c18 => ?_)
   ·
    simp [ee] at c18
    refine goA 60 ?_
    refine fn_ret rfl rfl (.val ?_)
    exact congrArg (Value.int .i64) (by rw [hR]; (repeat' split) <;> first | rfl | omega)
   ·
    simp [ee] at c18
    refine goA 0 ?_
    refine on_cond rfl (fun c19 => ?_) (fun c19 => ?_)
    ·
     simp [ee] at c19
     refine goA 60 ?_
     refine fn_ret rfl rfl (.val ?_)
     exact congrArg (Value.int .i64) (by rw [hR]; (repeat' split) <;> first | rfl | omega)
    ·
     simp [ee] at c19
     refine goA 0 ?_
     refine on_cond rfl (fun c20 => ?_) (fun c20 => ?_)
     ·
      simp [ee] at c20
      refine goA 0 ?_
      refine on_cond rfl (fun c21 => ?_) (fun c21 => ?_)
      ·
       simp [ee] at c21
       refine goA 60 ?_
       refine fn_ret rfl rfl (.val ?_)
       exact congrArg (Value.int .i64) (by rw [hR]; (repeat' split) <;> first | rfl | omega)
      ·
       simp [ee] at c21
       refine goA 60 ?_
       refine fn_ret rfl rfl (.val ?_)
       exact congrArg (Value.int .i64) (by rw [hR]; (repeat' split) <;> first | rfl | omega)
     ·
      simp [ee] at c20
      refine goA 0 ?_
      refine on_cond rfl (fun c22 => ?_) (fun c22 => ?_)
      ·
       simp [ee] at c22
       refine goA 0 ?_
       refine on_cond rfl (fun c23 => ?_) (fun c23 => ?_)
       ·
        simp [ee] at c23
        refine goA 60 ?_
        refine fn_ret rfl rfl (.val ?_)
        exact congrArg (Value.int .i64) (by rw [hR]; (repeat' split) <;> first | rfl | omega)
       ·
        simp [ee] at c23
        refine goA 60 ?_
        refine fn_ret rfl rfl (.val ?_)
        exact congrArg (Value.int .i64) (by rw [hR]; (repeat' split) <;> first | rfl | omega)
      ·
       simp [ee] at c22
       refine goA 0 ?_
       refine on_cond rfl (fun c24 => ?_) (fun c24 => ?_)
       ·
        simp [ee] at c24
        refine goA 0 ?_
        refine on_cond rfl (fun c25 => ?_) (fun c25 => ?_)
        ·
         simp [ee] at c25
         refine goA 60 ?_
         refine fn_ret rfl rfl (.val ?_)
         exact congrArg (Value.int .i64) (by rw [hR]; (repeat' split) <;> first | rfl | omega)
        ·
         simp [ee] at c25
         refine goA 60 ?_
         refine fn_ret rfl rfl (.val ?_)
         exact congrArg (Value.int .i64) (by rw [hR]; (repeat' split) <;> first | rfl | omega)
       ·
        simp [ee] at c24
        refine goA 0 ?_
        refine on_cond rfl (fun c26 => ?_) (fun c26 => ?_)
        ·
         simp [ee] at c26
         refine goA 0 ?_
         refine on_cond rfl (fun c27 => ?_) (fun c27 => ?_)
         ·
          simp [ee] at c27
          refine goA 60 ?_
          refine fn_ret rfl rfl (.val ?_)
          exact congrArg (Value.int .i64) (by rw [hR]; (repeat' split) <;> first | rfl | omega)
         ·
          simp [ee] at c27
          refine goA 60 ?_
          refine fn_ret rfl rfl (.val ?_)
          exact congrArg (Value.int .i64) (by rw [hR]; (repeat' split) <;> first | rfl | omega)
        ·
         simp [ee] at c26
         refine goA 0 ?_
         refine on_cond rfl (fun c28 => ?_) (fun c28 => ?_)
         ·
          simp [ee] at c28
          refine goA 0 ?_
          refine on_cond rfl (fun c29 => ?_) (fun c29 => ?_)
          ·
           simp [ee] at c29
           refine goA 60 ?_
           refine fn_ret rfl rfl (.val ?_)
           exact congrArg (Value.int .i64) (by rw [hR]; (repeat' split) <;> first | rfl | omega)
          ·
           simp [ee] at c29
           refine goA 60 ?_
           refine fn_ret rfl rfl (.val ?_)
           exact congrArg (Value.int .i64) (by rw [hR]; (repeat' split) <;> first | rfl | omega)
         ·
          simp [ee] at c28
          refine goA 0 ?_
          refine on_cond rfl (fun c30 => ?_) (fun c30 => ?_)
          ·
           simp [ee] at c30
           refine goA 0 ?_
           refine on_cond rfl (fun c31 => ?_) (fun c31 => ?_)
           ·
            simp [ee] at c31
            refine goA 60 ?_
            refine fn_ret rfl rfl (.val ?_)
            exact congrArg (Value.int .i64) (by rw [hR]; (repeat' split) <;> first | rfl | omega)
           ·
            simp [ee] at c31
            refine goA 60 ?_
            refine fn_ret rfl rfl (.val ?_)
            exact congrArg (Value.int .i64) (by rw [hR]; (repeat' split) <;> first | rfl | omega)
          ·
           simp [ee] at c30
           refine goA 0 ?_
           refine on_cond rfl (fun c32 => ?_) (fun c32 => ?_)
           ·
            simp [ee] at c32
            refine goA 60 ?_
            refine fn_ret rfl rfl (.val ?_)
            exact congrArg (Value.int .i64) (by rw [hR]; (repeat' split) <;> first | rfl | omega)
           ·
            simp [ee] at c32
            refine goA 60 ?_
            refine fn_ret rfl rfl (.val ?_)
            exact congrArg (Value.int .i64) (by rw [hR]; (repeat' split) <;> first | rfl | omega)
  ·
   simp [ee] at c17
   refine goA 0 ?_
   refine on_cond rfl (fun c33 => ?_) (fun c33 => ?_)
   ·
    simp [ee] at c33
    refine goA 0 ?_
    refine on_cond rfl (fun c34 => ?_) (fun c34 => ?_)
    ·
     simp [ee] at c34
     refine goA 60 ?_
     refine fn_ret rfl rfl (.val ?_)
     exact congrArg (Value.int .i64) (by rw [hR]; (repeat' split) <;> first | rfl | omega)
    ·
     simp [ee] at c34
     refine goA 0 ?_
     refine on_cond rfl (fun c35 => ?_) (fun c35 => ?_)
     ·
      simp [ee] at c35
      refine goA 60 ?_
      refine fn_ret rfl rfl (.val ?_)
      exact congrArg (Value.int .i64) (by rw [hR]; (repeat' split) <;> first | rfl | omega)
     ·
      simp [ee] at c35
      refine goA 0 ?_
      refine on_cond rfl (fun c36 => ?_) (fun c36 => ?_)
      ·
       simp [ee] at c36
       refine goA 0 ?_
       refine on_cond rfl (fun c37 => ?_) (fun c37 => ?_)
       ·
        simp [ee] at c37
        refine goA 60 ?_
        refine fn_ret rfl rfl (.val ?_)
        exact congrArg (Value.int .i64) (by rw [hR]; (repeat' split) <;> first | rfl | omega)
       ·
        simp [ee] at c37
        refine goA 60 ?_
        refine fn_ret rfl rfl (.val ?_)
        exact congrArg (Value.int .i64) (by rw [hR]; (repeat' split) <;> first | rfl | omega)
      ·
       simp [ee] at c36
       refine goA 0 ?_
       refine on_cond rfl (fun c38 => ?_) (fun c38 => ?_)
       ·
        simp [ee] at c38
        refine goA 0 ?_
        refine on_cond rfl (fun c39 => ?_) (fun c39 => ?_)
        ·
         simp [ee] at c39
         refine goA 60 ?_
         refine fn_ret rfl rfl (.val ?_)
         exact congrArg (Value.int .i64) (by rw [hR]; (repeat' split) <;> first | rfl | omega)
        ·
         simp [ee] at c39
         refine goA 60 ?_
         refine fn_ret rfl rfl (.val ?_)
         exact congrArg (Value.int .i64) (by rw [hR]; (repeat' split) <;> first | rfl | omega)
       ·
        simp [ee] at c38
        refine goA 0 ?_
        refine on_cond rfl (fun c40 => ?_) (fun c40 => ?_)
        ·
         simp [ee] at c40
         refine goA 0 ?_
         refine on_cond rfl (fun c41 => ?_) (fun c41 => ?_)
         ·
          simp [ee] at c41
          refine goA 60 ?_
          refine fn_ret rfl rfl (.val ?_)
          exact congrArg (Value.int .i64) (by rw [hR]; (repeat' split) <;> first | rfl | omega)
         ·
          simp [ee] at c41
          refine goA 60 ?_
          refine fn_ret rfl rfl (.val ?_)
          exact congrArg (Value.int .i64) (by rw [hR]; (repeat' split) <;> first | rfl | omega)
        ·
         simp [ee] at c40
         refine goA 0 ?_
         refine on_cond rfl (fun c42 => ?_) (fun c42 => ?_)
         ·
          simp [ee] at c42
          refine goA 0 ?_
          refine on_cond rfl (fun c43 => ?_) (fun c43 => ?_)
          ·
           simp [ee] at c43
           refine goA 60 ?_
           refine fn_ret rfl rfl (.val ?_)
           exact congrArg (Value.int .i64) (by rw [hR]; (repeat' split) <;> first | rfl | omega)
          ·
           simp [ee] at c43
           refine goA 60 ?_
           refine fn_ret rfl rfl (.val ?_)
           exact congrArg (Value.int .i64) (by rw [hR]; (repeat' split) <;> first | rfl | omega)
         ·
          simp [ee] at c42
          refine goA 0 ?_
          refine on_cond rfl (fun c44 => ?_) (fun c44 => ?_)
          ·
           simp [ee] at c44
           refine goA 0 ?_
           refine on_cond rfl (fun c45 => ?_) (fun c45 => ?_)
           ·
            simp [ee] at c45
            refine goA 60 ?_
            refine fn_ret rfl rfl (.val ?_)
            exact congrArg (Value.int .i64) (by rw [hR]; (repeat' split) <;> first | rfl | omega)
           ·
            simp [ee] at c45
            refine goA 60 ?_
            refine fn_ret rfl rfl (.val ?_)
            exact congrArg (Value.int .i64) (by rw [hR]; (repeat' split) <;> first | rfl | omega)
          ·
           simp [ee] at c44
           refine goA 0 ?_
           refine on_cond rfl (fun c46 => ?_) (fun c46 => ?_)
           ·
            simp [ee] at c46
            refine goA 0 ?_
            refine on_cond rfl (fun c47 => ?_) (fun c47 => ?_)
            ·
             simp [ee] at c47
             refine goA 60 ?_
             refine fn_ret rfl rfl (.val ?_)
             exact congrArg (Value.int .i64) (by rw [hR]; (repeat' split) <;> first | rfl | omega)
            ·
             simp [ee] at c47
             refine goA 60 ?_
             refine fn_ret rfl rfl (.val ?_)
             exact congrArg (Value.int .i64) (by rw [hR]; (repeat' split) <;> first | rfl | omega)
           ·
            simp [ee] at c46
            refine goA 0 ?_
            refine on_cond rfl (fun c48 => ?_) (fun c48 => ?_)
            ·
             simp [ee] at c48
             refine goA 60 ?_
             refine fn_ret rfl rfl (.val ?_)
             exact congrArg (Value.int .i64) (by rw [hR]; (repeat' split) <;> first | rfl | omega)
            ·
             simp [ee] at c48
             refine goA 60 ?_
             refine fn_ret rfl rfl (.val ?_)
             exact congrArg (Value.int .i64) (by rw [hR]; (repeat' split) <;> first | rfl | omega)
   ·
    simp [ee] at c33
    refine goA 0 ?_
    refine on_cond rfl (fun c49 => ?_) (fun c49 => ?_)
    ·
     simp [ee] at c49
     refine goA 0 ?_
     refine on_cond rfl (fun c50 => ?_) (fun c50 => ?_)
     ·
      simp [ee] at c50
      refine goA 60 ?_
      refine fn_ret rfl rfl (.val ?_)
      exact congrArg (Value.int .i64) (by rw [hR]; (repeat' split) <;> first | rfl | omega)
     ·
      simp [ee] at c50
      refine goA 0 ?_
      refine on_cond rfl (fun c51 => ?_) (fun c51 => ?_)
      ·
       simp [ee] at c51
       refine goA 60 ?_
       refine fn_ret rfl rfl (.val ?_)
       exact congrArg (Value.int .i64) (by rw [hR]; (repeat' split) <;> first | rfl | omega)
      ·
       simp [ee] at c51
       refine goA 0 ?_
       refine on_cond rfl (fun c52 => ?_) (fun c52 => ?_)
       ·
        simp [ee] at c52
        refine goA 0 ?_
        refine on_cond rfl (fun c53 => ?_) (fun c53 => ?_)
        ·
         simp [ee] at c53
         refine goA 60 ?_
         refine fn_ret rfl rfl (.val ?_)
         exact congrArg (Value.int .i64) (by rw [hR]; (repeat' split) <;> first | rfl | omega)
        ·
         simp [ee] at c53
         refine goA 60 ?_
         refine fn_ret rfl rfl (.val ?_)
         exact congrArg (Value.int .i64) (by rw [hR]; (repeat' split) <;> first | rfl | omega)
       ·
        simp [ee] at c52
        refine goA 0 ?_
        refine on_cond rfl (fun c54 => ?_) (fun c54 => ?_)
        ·
         simp [ee] at c54
         refine goA 0 ?_
         refine on_cond rfl (fun c55 => ?_) (fun c55 => ?_)
         ·
          simp [ee] at c55
          refine goA 60 ?_
          refine fn_ret rfl rfl (.val ?_)
          exact congrArg (Value.int .i64) (by rw [hR]; (repeat' split) <;> first | rfl | omega)
         ·
          simp [ee] at c55
          refine goA 60 ?_
          refine fn_ret rfl rfl (.val ?_)
          exact congrArg (Value.int .i64) (by rw [hR]; (repeat' split) <;> first | rfl | omega)
        ·
         simp [ee] at c54
         refine goA 0 ?_
         refine on_cond rfl (fun c56 => ?_) (fun c56 => ?_)
         ·
          simp [ee] at c56
          refine goA 0 ?_
          refine on_cond rfl (fun c57 => ?_) (fun c57 => ?_)
          ·
           simp [ee] at c57
           refine goA 60 ?_
           refine fn_ret rfl rfl (.val ?_)
           exact congrArg (Value.int .i64) (by rw [hR]; (repeat' split) <;> first | rfl | omega)
          ·
           simp [ee] at c57
           refine goA 60 ?_
           refine fn_ret rfl rfl (.val ?_)
           exact congrArg (Value.int .i64) (by rw [hR]; (repeat' split) <;> first | rfl | omega)
         ·
          simp [ee] at c56
          refine goA 0 ?_
          refine on_cond rfl (fun c58 => ?_) (fun c58 => ?_)
          ·
           simp [ee] at c58
           refine goA 0 ?_
           refine on_cond rfl (fun c59 => ?_) (fun c59 => ?_)
           ·
            simp [ee] at c59
            refine goA 60 ?_
            refine fn_ret rfl rfl (.val ?_)
            exact congrArg (Value.int .i64) (by rw [hR]; (repeat' split) <;> first | rfl | omega)
           ·
            simp [ee] at c59
            refine goA 60 ?_
            refine fn_ret rfl rfl (.val ?_)
            exact congrArg (Value.int .i64) (by rw [hR]; (repeat' split) <;> first | rfl | omega)
          ·
           simp [ee] at c58
           refine goA 0 ?_
           refine on_cond rfl (fun c60 => ?_) (fun c60 => ?_)
           ·
            simp [ee] at c60
            refine goA 0 ?_
            refine on_cond rfl (fun c61 => ?_) (fun c61 => ?_)
            ·
             simp [ee] at c61
             refine goA 60 ?_
             refine fn_ret rfl rfl (.val ?_)
             exact congrArg (Value.int .i64) (by rw [hR]; (repeat' split) <;> first | rfl | omega)
            ·
             simp [ee] at c61
             refine goA 60 ?_
             refine fn_ret rfl rfl (.val ?_)
             exact congrArg (Value.int .i64) (by rw [hR]; (repeat' split) <;> first | rfl | omega)
           ·
            simp [ee] at c60
            refine goA 0 ?_
            refine on_cond rfl (fun c62 => ?_) (fun c62 => ?_)
            ·
             simp [ee] at c62
             refine goA 0 ?_
             refine on_cond rfl (fun c63 => ?_) (fun c63 => ?_)
             ·
              simp [ee] at c63
              refine goA 60 ?_
              refine fn_ret rfl rfl (.val ?_)
              exact congrArg (Value.int .i64) (by rw [hR]; (repeat' split) <;> first | rfl | omega)
             ·
              simp [ee] at c63
              refine goA 60 ?_
              refine fn_ret rfl rfl (.val ?_)
              exact congrArg (Value.int .i64) (by rw [hR]; (repeat' split) <;> first | rfl | omega)
            ·
             simp [ee] at c62
             refine goA 0 ?_
             refine on_cond rfl (fun c64 => ?_) (fun c64 => ?_)
             ·
              simp [ee] at c64
              refine goA 60 ?_
              refine fn_ret rfl rfl (.val ?_)
              exact congrArg (Value.int .i64) (by rw [hR]; (repeat' split) <;> first | rfl | omega)
             ·
              simp [ee] at c64
              refine goA 60 ?_
              refine fn_ret rfl rfl (.val ?_)
              exact congrArg (Value.int .i64) (by rw [hR]; (repeat' split) <;> first | rfl | omega)
    ·
     simp [ee] at c49
     refine goA 0 ?_
     refine on_cond rfl (fun c65 => ?_) (fun c65 => ?_)
     ·
      simp [ee] at c65
      refine goA 60 ?_
      refine fn_ret rfl rfl (.val ?_)
      exact congrArg (Value.int .i64) (by rw [hR]; (repeat' split) <;> first | rfl | omega)
     ·
      simp [ee] at c65
      refine goA 0 ?_
      refine on_cond rfl (fun c66 => ?_) (fun c66 => ?_)
      ·
       simp [ee] at c66
       refine goA 60 ?_
       refine fn_ret rfl rfl (.val ?_)
       exact congrArg (Value.int .i64) (by rw [hR]; (repeat' split) <;> first | rfl | omega)
      ·
       simp [ee] at c66
       refine goA 0 ?_
       refine on_cond rfl (fun c67 => ?_) (fun c67 => ?_)
       ·
        simp [ee] at c67
        refine goA 0 ?_
        refine on_cond rfl (fun c68 => ?_) (fun c68 => ?_)
        ·
         simp [ee] at c68
         refine goA 60 ?_
         refine fn_ret rfl rfl (.val ?_)
         exact congrArg (Value.int .i64) (by rw [hR]; (repeat' split) <;> first | rfl | omega)
        ·
         simp [ee] at c68
         refine goA 60 ?_
         refine fn_ret rfl rfl (.val ?_)
         exact congrArg (Value.int .i64) (by rw [hR]; (repeat' split) <;> first | rfl | omega)
       ·
        simp [ee] at c67
        refine goA 0 ?_
        refine on_cond rfl (fun c69 => ?_) (fun c69 => ?_)
        ·
         simp [ee] at c69
         refine goA 0 ?_
         refine on_cond rfl (fun c70 => ?_) (fun c70 => ?_)
         ·
          simp [ee] at c70
          refine goA 60 ?_
          refine fn_ret rfl rfl (.val ?_)
          exact congrArg (Value.int .i64) (by rw [hR]; (repeat' split) <;> first | rfl | omega)
         ·
          simp [ee] at c70
          refine goA 60 ?_
          refine fn_ret rfl rfl (.val ?_)
          exact congrArg (Value.int .i64) (by rw [hR]; (repeat' split) <;> first | rfl | omega)
        ·
         simp [ee] at c69
         refine goA 0 ?_
         refine on_cond rfl (fun c71 => ?_) (fun c71 => ?_)
         ·
          simp [ee] at c71
          refine goA 0 ?_
          refine on_cond rfl (fun c72 => ?_) (fun c72 => ?_)
          ·
           simp [ee] at c72
           refine goA 60 ?_
           refine fn_ret rfl rfl (.val ?_)
           exact congrArg (Value.int .i64) (by rw [hR]; (repeat' split) <;> first | rfl | omega)
          ·
           simp [ee] at c72
           refine goA 60 ?_
           refine fn_ret rfl rfl (.val ?_)
           exact congrArg (Value.int .i64) (by rw [hR]; (repeat' split) <;> first | rfl | omega)
         ·
          simp [ee] at c71
          refine goA 0 ?_
          refine on_cond rfl (fun c73 => ?_) (fun c73 => ?_)
          ·
           simp [ee] at c73
           refine goA 0 ?_
           refine on_cond rfl (fun c74 => ?_) (fun c74 => ?_)
           ·
            simp [ee] at c74
            refine goA 60 ?_
            refine fn_ret rfl rfl (.val ?_)
            exact congrArg (Value.int .i64) (by rw [hR]; (repeat' split) <;> first | rfl | omega)
           ·
            simp [ee] at c74
            refine goA 60 ?_
            refine fn_ret rfl rfl (.val ?_)
            exact congrArg (Value.int .i64) (by rw [hR]; (repeat' split) <;> first | rfl | omega)
          ·
           simp [ee] at c73
           refine goA 0 ?_
           refine on_cond rfl (fun c75 => ?_) (fun c75 => ?_)
           ·
            simp [ee] at c75
            refine goA 0 ?_
            refine on_cond rfl (fun c76 => ?_) (fun c76 => ?_)
            ·
             simp [ee] at c76
             refine goA 60 ?_
             refine fn_ret rfl rfl (.val ?_)
             exact congrArg (Value.int .i64) (by rw [hR]; (repeat' split) <;> first | rfl | omega)
            ·
             simp [ee] at c76
             refine goA 60 ?_
             refine fn_ret rfl rfl (.val ?_)
             exact congrArg (Value.int .i64) (by rw [hR]; (repeat' split) <;> first | rfl | omega)
           ·
            simp [ee] at c75
            refine goA 0 ?_
            refine on_cond rfl (fun c77 => ?_) (fun c77 => ?_)
            ·
             simp [ee] at c77
             refine goA 0 ?_
             refine on_cond rfl (fun c78 => ?_) (fun c78 => ?_)
             ·
              simp [ee] at c78
              refine goA 60 ?_
              refine fn_ret rfl rfl (.val ?_)
              exact congrArg (Value.int .i64) (by rw [hR]; (repeat' split) <;> first | rfl | omega)
             ·
              simp [ee] at c78
              refine goA 60 ?_
              refine fn_ret rfl rfl (.val ?_)
              exact congrArg (Value.int .i64) (by rw [hR]; (repeat' split) <;> first | rfl | omega)
            ·
             simp [ee] at c77
             refine goA 0 ?_
             refine on_cond rfl (fun c79 => ?_) (fun c79 => ?_)
             ·
              simp [ee] at c79
              refine goA 60 ?_
              refine fn_ret rfl rfl (.val ?_)
              exact congrArg (Value.int .i64) (by rw [hR]; (repeat' split) <;> first | rfl | omega)
             ·
              simp [ee] at c79
              refine goA 60 ?_
              refine fn_ret rfl rfl (.val ?_)
              exact congrArg (Value.int .i64) (by rw [hR]; (repeat' split) <;> first | rfl | omega)
theorem P_ref08_node (e : Ex) (hlen : e.args.length < 1048576) : PCall EE 107 [e.enc] (int e.nodeE) := by
 have hu := P_ref08_uses e.op
 have har := P_ref08_arity e.op
 have hk := P_ref01_Check e.val
 have hsu := P_ref07_Suits e.kind e.val
 have h0 := @Vl.eq0 e.val
 have hcl := Ex.closed e
 obtain ⟨R, hR⟩ : ∃ R, R = e.nodeE := ⟨_, rfl⟩
 rw [← hR]
 have hss : 1 ≤ e.kind → suitsF e.kind e.val = suitsR e.kind e.val := fun h => by
  unfold suitsF suitsR; rw [Bool.eq_iff_iff]; simp; omega
 have hab : arityB e.op = decide (0 ≤ arityR e.op) := by
  unfold arityB arityR; rw [Bool.eq_iff_iff]; simp; (repeat' split) <;> omega
 have han : 0 ≤ arityR e.op → arityN e.op = arityR e.op := fun h => by
  unfold arityR at h; unfold arityN arityR; (repeat' split) <;> simp_all
 have hvl : e.val.enc = .agg [int e.val.kind, int e.val.num, str e.val.text] := rfl
 rw [hvl] at hk hsu
 unfold Ex.nodeE Ex.formB Ex.consE at hR
 generalize usesV e.op = uv at *
 generalize usesF e.op = uf at *
 generalize arityN e.op = an at *
 generalize arityB e.op = ab at *
 generalize arityR e.op = ar at *
 generalize suitsF e.kind e.val = sf at *
 generalize suitsR e.kind e.val = sr at *
 generalize e.val.chk = ck at *
 obtain ⟨o, a, v, f, k, ⟨xk, xn, xt⟩⟩ := e
 simp only [Ex.op, Ex.kind, Ex.val, Ex.args, Ex.var, Ex.fld] at *
 rw [Ex.enc_mk] at hcl ⊢
 dsimp only at *
 refine wordsN ?_; unhygienic intros
 generalize hes : mapE Ex.enc a = es at *
 have hel : es.length = a.length := by rw [← hes, mapE_len]
 refine fn_body (fn := Tryz.f107) (n := 131) (ac := Tryzc107) (rvs := [.t 2]) rfl (by decide) Tryzp107 rfl rfl rfl ?_
 refine goA 60 ?_
 refine pcA har ?_
 refine goA 0 ?_
 refine on_cond rfl (fun c1 => ?_) (fun c1 => ?_)
 ·
  simp [ee] at c1
  refine goA 60 ?_
  refine fn_ret rfl rfl (.val ?_)
  exact congrArg (Value.int .i64) (by rw [hR]; clear ee hX; grind)
 ·
  simp [ee] at c1
  refine goA 0 ?_
  refine on_cond rfl (fun c2 => ?_) (fun c2 => ?_)
  ·
   simp [ee] at c2
   refine goA 60 ?_
   refine fn_ret rfl rfl (.val ?_)
   exact congrArg (Value.int .i64) (by rw [hR]; clear ee hX; grind)
  ·
   simp [ee] at c2
   refine goA 60 ?_
   refine pcA hu ?_
   refine goA 0 ?_
   refine nsB hX (by conv => lhs; cbv) ?_
   refine goA 0 ?_
   refine nsB hX (by conv => lhs; cbv) ?_
   refine goA 0 ?_
   refine on_cond rfl (fun c3 => ?_) (fun c3 => ?_)
   ·
    simp [ee] at c3
    refine goA 60 ?_
    refine fn_ret rfl rfl (.val ?_)
    exact congrArg (Value.int .i64) (by rw [hR]; clear ee hX; grind)
   ·
    simp [ee] at c3
    refine goA 0 ?_
    refine nsB hX (by conv => lhs; cbv) ?_
    refine goA 0 ?_
    refine on_cond rfl (fun c4 => ?_) (fun c4 => ?_)
    ·
     simp [ee] at c4
     refine goA 60 ?_
     refine fn_ret rfl rfl (.val ?_)
     exact congrArg (Value.int .i64) (by rw [hR]; clear ee hX; grind)
    ·
     simp [ee] at c4
     refine goA 0 ?_
     refine on_cond rfl (fun c5 => ?_) (fun c5 => ?_)
     ·
      simp [ee] at c5
      refine goA 60 ?_
      refine pcA hk ?_
      refine goA 0 ?_
      refine on_cond rfl (fun c6 => ?_) (fun c6 => ?_)
      ·
       simp [ee] at c6
       refine goA 60 ?_
       refine fn_ret rfl rfl (.val ?_)
       exact congrArg (Value.int .i64) (by rw [hR]; clear ee hX; grind)
      ·
       simp [ee] at c6
       refine goA 0 ?_
       refine on_guard rfl rfl (fun c7 => ?_) (fun c7 => ?_)
       ·
        simp [ee] at c7
        refine goA 60 ?_
        refine pcG hsu ?_
        refine goA 0 ?_
        refine goA 1 ?_
        refine goA 1 ?_
        refine nsB hX (by conv => lhs; cbv) ?_
        refine goA 0 ?_
        refine on_cond rfl (fun c8 => ?_) (fun c8 => ?_)
        ·
         simp [ee] at c8
         refine goA 60 ?_
         refine fn_ret rfl rfl (.val ?_)
         exact congrArg (Value.int .i64) (by rw [hR]; clear ee hX; grind)
        ·
         simp [ee] at c8
         refine goA 0 ?_
         refine nsB hX (by conv => lhs; cbv) ?_
         refine goA 0 ?_
         refine nsB hX (by conv => lhs; cbv) ?_
         refine goA 0 ?_
         refine nsB hX (by conv => lhs; cbv) ?_
         refine goA 0 ?_
         refine on_cond rfl (fun c9 => ?_) (fun c9 => ?_)
         ·
          simp [ee] at c9
          refine goA 60 ?_
          refine fn_ret rfl rfl (.val ?_)
          exact congrArg (Value.int .i64) (by rw [hR]; clear ee hX; grind)
         ·
          simp [ee] at c9
          refine goA 60 ?_
          refine fn_ret rfl rfl (.val ?_)
          exact congrArg (Value.int .i64) (by rw [hR]; clear ee hX; grind)
       ·
        simp [ee] at c7
        refine goA 60 ?_
        refine on_gskip rfl rfl ?_
        refine goA 0 ?_
        refine goA 1 ?_
        refine nsB hX (by conv => lhs; cbv) ?_
        refine goA 0 ?_
        refine nsB hX (by conv => lhs; cbv) ?_
        refine goA 0 ?_
        refine nsB hX (by conv => lhs; cbv) ?_
        refine goA 0 ?_
        refine on_cond rfl (fun c10 => ?_) (fun c10 => ?_)
        ·
         simp [ee] at c10
         refine goA 60 ?_
         refine fn_ret rfl rfl (.val ?_)
         exact congrArg (Value.int .i64) (by rw [hR]; clear ee hX; grind)
        ·
         simp [ee] at c10
         refine goA 60 ?_
         refine fn_ret rfl rfl (.val ?_)
         exact congrArg (Value.int .i64) (by rw [hR]; clear ee hX; grind)
     ·
      simp [ee] at c5
      refine goA 0 ?_
      refine on_guard rfl rfl (fun c11 => ?_) (fun c11 => ?_)
      ·
       simp [ee] at c11
       refine goA 60 ?_
       refine pcG hsu ?_
       refine goA 0 ?_
       refine goA 1 ?_
       refine goA 1 ?_
       refine nsB hX (by conv => lhs; cbv) ?_
       refine goA 0 ?_
       refine on_cond rfl (fun c12 => ?_) (fun c12 => ?_)
       ·
        simp [ee] at c12
        refine goA 60 ?_
        refine fn_ret rfl rfl (.val ?_)
        exact congrArg (Value.int .i64) (by rw [hR]; clear ee hX; grind)
       ·
        simp [ee] at c12
        refine goA 0 ?_
        refine nsB hX (by conv => lhs; cbv) ?_
        refine goA 0 ?_
        refine nsB hX (by conv => lhs; cbv) ?_
        refine goA 0 ?_
        refine nsB hX (by conv => lhs; cbv) ?_
        refine goA 0 ?_
        refine on_cond rfl (fun c13 => ?_) (fun c13 => ?_)
        ·
         simp [ee] at c13
         refine goA 60 ?_
         refine fn_ret rfl rfl (.val ?_)
         exact congrArg (Value.int .i64) (by rw [hR]; clear ee hX; grind)
        ·
         simp [ee] at c13
         refine goA 60 ?_
         refine fn_ret rfl rfl (.val ?_)
         exact congrArg (Value.int .i64) (by rw [hR]; clear ee hX; grind)
      ·
       simp [ee] at c11
       refine goA 60 ?_
       refine on_gskip rfl rfl ?_
       refine goA 0 ?_
       refine goA 1 ?_
       refine nsB hX (by conv => lhs; cbv) ?_
       refine goA 0 ?_
       refine nsB hX (by conv => lhs; cbv) ?_
       refine goA 0 ?_
       refine nsB hX (by conv => lhs; cbv) ?_
       refine goA 0 ?_
       refine on_cond rfl (fun c14 => ?_) (fun c14 => ?_)
       ·
        simp [ee] at c14
        refine goA 60 ?_
        refine fn_ret rfl rfl (.val ?_)
        exact congrArg (Value.int .i64) (by rw [hR]; clear ee hX; grind)
       ·
        simp [ee] at c14
        refine goA 60 ?_
        refine fn_ret rfl rfl (.val ?_)
        exact congrArg (Value.int .i64) (by rw [hR]; clear ee hX; grind)
theorem Ex.reb_mk (to : List Int) (o a v f k x) : (Ex.mk o a v f k x).reb (renG to) = .mk o (Ex.rebL (renG to) a) (if usesV o then to.getD v.toNat 0 else v) f k x := by
 rw [Ex.reb, renG]
 simp only [Ex.op, Ex.args, Ex.var, Ex.fld, Ex.kind, Ex.val]
 split <;> simp_all
theorem P_ref08_nodes : ∀ e : Ex, e.Sm → PCall EE 92 [e.enc] (int (firstE Ex.nodeE e.nodes)) := by
 refine Ex.ind ?_
 intro o a v f k x ih hs
 have hlen := hs.len
 have hih : ∀ q ∈ a, PCall EE 92 [q.enc] (int (firstE Ex.nodeE q.nodes)) := fun q hq => ih q hq (hs.arg hq)
 have hcl := Ex.closedI a
 have hh := P_ref08_node (.mk o a v f k x) (by exact hlen)
 have hpc := Ex.closed (.mk o a v f k x)
 rw [Ex.nodes]
 obtain ⟨R, hR⟩ : ∃ R, R = firstE Ex.nodeE (Ex.mk o a v f k x :: Ex.nodesL a) := ⟨_, rfl⟩
 rw [← hR]
 rw [firstE] at hR
 obtain ⟨xk, xn, xt⟩ := x
 rw [Ex.enc_mk] at hpc hh ⊢
 dsimp only at hpc hh ⊢
 clear ih hs
 refine wordsN ?_; unhygienic intros
 generalize hes : mapE Ex.enc a = es at *
 have hel : es.length = a.length := by rw [← hes, mapE_len]
 generalize (Ex.mk o a v f k { kind := xk, num := xn, text := xt }).nodeE = fp at *
 refine fn_body (fn := Tryz.f92) (n := 27) (ac := Tryzc92) (rvs := [.t 2]) rfl (by decide) Tryzp92 rfl rfl rfl ?_
 by_cases h1 : fp = 0
 rotate_left
 · have w1 : iNe fp 0 = true := by simp only [ee]; simpa using h1
   have hR : R = fp := by rw [hR, if_pos h1]
   refine goA 60 ?_
   refine pcA hh ?_
   refine goB hX 0 (by conv => lhs; cbv; try simp only [w1]; cbv; try simp only [w1]; cbv; try simp only [w1]; cbv; try simp only [w1]; cbv) ?_
   refine goA 60 ?_
   refine fn_ret rfl rfl (.val ?_)
   exact congrArg (Value.int .i64) hR.symm
 have w1 : iNe fp 0 = false := by simp only [ee]; simpa using h1
 have hR : R = firstE Ex.nodeE (Ex.nodesL a) := by rw [hR, if_neg (by simpa using h1)]
 refine goA 60 ?_
 refine pcA hh ?_
 refine goB hX 0 (by conv => lhs; cbv; try simp only [w1]; cbv; try simp only [w1]; cbv; try simp only [w1]; cbv; try simp only [w1]; cbv) ?_
 refine goA 60 ?_
 refine on_loopP (ι := List Ex × List Ex × Int) (fun p => ([(4, int p.2.2), (1, .ptr 0 0)], [.cells [int o, .isl 8 es, int v, int f, int k, int xk, int xn, str xt]])) (fun p => a = p.1 ++ p.2.1 ∧ p.2.2 = p.1.length ∧ R = firstE Ex.nodeE (Ex.nodesL p.2.1)) (fun p => p.2.1.length) ([], a, 0) ⟨rfl, rfl, hR⟩ ?_ ?_
 · exact (ent_sub [.to 0] [some 0] ⟨⟨by simp, rfl⟩, trivial⟩ ⟨osrc_cells (b := 0) rfl rfl rfl ⟨.refl _, .cl hcl, .refl _, .refl _, .refl _, .refl _, .refl _, .refl _, trivial⟩, trivial⟩ ⟨.refl _, .refl _, trivial⟩)
 rintro ⟨d, r, i⟩ ⟨g1, gi, gR⟩
 dsimp only at g1 gi gR ⊢
 cases r with
 | nil =>
  have L1 := len_split g1
  try simp only [List.length_cons, List.length_nil] at L1
  have hc : iLt i (lenA es) = false := lt_f e_iLt e_lenA (by omega)
  have gR : R = 0 := gR
  refine goB hX 0 (by conv => lhs; cbv; try simp only [hc]; cbv; try simp only [hc]; cbv; try simp only [hc]; cbv; try simp only [hc]; cbv) ?_
  refine goA 60 ?_
  refine loopP_exit ?_
  refine goA 60 ?_
  refine fn_ret rfl rfl (.val ?_)
  exact congrArg (Value.int .i64) gR.symm
 | cons q r =>
  have L1 := len_split g1
  try simp only [List.length_cons, List.length_nil] at L1
  have hc : iLt i (lenA es) = true := lt_t e_iLt e_lenA (by omega)
  have hat := el_at e_atA hes g1 gi
  have hq := hih q (by rw [g1]; simp)
  have hqc := Ex.closed q
  rw [Ex.nodesL, firstE_append] at gR
  obtain ⟨qO, qA, qV, qF, qK, qXk, qXn, qXt, hx⟩ := Ex.form q
  rw [hx] at hat hqc hq
  have hi2 : iAdd .i64 i 1 = ((d ++ [q]).length : Int) := by rw [List.length_append]; exact inc_w e_iAdd gi (by omega)
  generalize firstE Ex.nodeE q.nodes = fq at *
  by_cases h2 : fq = 0
  · have w2 : iNe fq 0 = false := by simp only [ee]; simpa using h2
    rw [if_neg (by simpa using h2)] at gR
    refine goB hX 0 (by conv => lhs; cbv; try simp only [hc, hat, w2]; cbv; try simp only [hc, hat, w2]; cbv; try simp only [hc, hat, w2]; cbv; try simp only [hc, hat, w2]; cbv) ?_
    refine goB hX 1 (by conv => lhs; cbv; try simp only [hc, hat, w2]; cbv; try simp only [hc, hat, w2]; cbv; try simp only [hc, hat, w2]; cbv; try simp only [hc, hat, w2]; cbv) ?_
    refine pcA hq ?_
    refine goB hX 0 (by conv => lhs; cbv; try simp only [hc, hat, w2]; cbv; try simp only [hc, hat, w2]; cbv; try simp only [hc, hat, w2]; cbv; try simp only [hc, hat, w2]; cbv) ?_
    refine goA 60 ?_
    refine loopP_next (d ++ [q], r, iAdd .i64 i 1) ⟨by simp [g1], hi2, gR⟩ (by simp) (ent_sub [.to 0] [some 0] ⟨⟨by simp, rfl⟩, trivial⟩ ⟨osrc_cells (b := 0) rfl rfl rfl ⟨.refl _, .cl hcl, .refl _, .refl _, .refl _, .refl _, .refl _, .refl _, trivial⟩, trivial⟩ ⟨.refl _, .refl _, trivial⟩)
  · have w2 : iNe fq 0 = true := by simp only [ee]; simpa using h2
    rw [if_pos h2] at gR
    refine goB hX 0 (by conv => lhs; cbv; try simp only [hc, hat, w2]; cbv; try simp only [hc, hat, w2]; cbv; try simp only [hc, hat, w2]; cbv; try simp only [hc, hat, w2]; cbv) ?_
    refine goB hX 1 (by conv => lhs; cbv; try simp only [hc, hat, w2]; cbv; try simp only [hc, hat, w2]; cbv; try simp only [hc, hat, w2]; cbv; try simp only [hc, hat, w2]; cbv) ?_
    refine pcA hq ?_
    refine goB hX 0 (by conv => lhs; cbv; try simp only [hc, hat, w2]; cbv; try simp only [hc, hat, w2]; cbv; try simp only [hc, hat, w2]; cbv; try simp only [hc, hat, w2]; cbv) ?_
    refine goA 60 ?_
    refine loopP_ret ?_
    refine goA 60 ?_
    refine fn_ret rfl rfl (.val ?_)
    exact congrArg (Value.int .i64) gR.symm
theorem P_ref08_Check (e : Ex) (hs : e.Sm) : PCall EE 81 [e.enc] (int e.chk) := by
 have h1 := P_ref08_Count 64 (by decide) e hs
 have h2 := P_ref08_Depth e hs
 have h3 := P_ref08_nodes e hs
 have htot := Ex.tot_iff e 64
 have hcl := Ex.closed e
 obtain ⟨R, hR⟩ : ∃ R, R = e.chk := ⟨_, rfl⟩
 rw [← hR]
 unfold Ex.chk at hR
 obtain ⟨tt, htt⟩ : ∃ z : Int, z = e.tot 64 := ⟨_, rfl⟩
 obtain ⟨dp, hdp⟩ : ∃ z : Int, z = e.dep := ⟨_, rfl⟩
 rw [← htt] at h1
 rw [← hdp] at h2
 generalize firstE Ex.nodeE e.nodes = fe at *
 obtain ⟨eO, eA, eV, eF, eK, eXk, eXn, eXt, hx⟩ := Ex.form e
 rw [hx] at h1 h2 h3 hcl ⊢
 refine wordsN ?_; unhygienic intros
 refine fn_body (fn := Tryz.f81) (n := 11) (ac := Tryzc81) (rvs := [.t 2]) rfl (by decide) Tryzp81 rfl rfl rfl ?_
 by_cases g1 : tt ≤ 64
 rotate_left
 · have k1 : iLt 64 tt = true := by simp only [ee]; simp; omega
   rw [if_pos (by omega)] at hR
   refine goA 60 ?_
   refine pcA h1 ?_
   refine goB hX 0 (by conv => lhs; cbv; try simp only [k1]; cbv; try simp only [k1]; cbv; try simp only [k1]; cbv; try simp only [k1]; cbv) ?_
   refine goA 60 ?_
   refine fn_ret rfl rfl (.val ?_)
   exact congrArg (Value.int .i64) hR.symm
 have k1 : iLt 64 tt = false := by simp only [ee]; simp; omega
 rw [if_neg (by omega)] at hR
 by_cases g2 : dp ≤ 12
 rotate_left
 · have k2 : iLt 12 dp = true := by simp only [ee]; simp; omega
   rw [if_pos (by omega)] at hR
   refine goA 60 ?_
   refine pcA h1 ?_
   refine goB hX 0 (by conv => lhs; cbv; try simp only [k1, k2]; cbv; try simp only [k1, k2]; cbv; try simp only [k1, k2]; cbv; try simp only [k1, k2]; cbv) ?_
   refine goA 60 ?_
   refine pcA h2 ?_
   refine goB hX 0 (by conv => lhs; cbv; try simp only [k1, k2]; cbv; try simp only [k1, k2]; cbv; try simp only [k1, k2]; cbv; try simp only [k1, k2]; cbv) ?_
   refine goA 60 ?_
   refine fn_ret rfl rfl (.val ?_)
   exact congrArg (Value.int .i64) hR.symm
 have k2 : iLt 12 dp = false := by simp only [ee]; simp; omega
 rw [if_neg (by omega)] at hR
 refine goA 60 ?_
 refine pcA h1 ?_
 refine goB hX 0 (by conv => lhs; cbv; try simp only [k1, k2]; cbv; try simp only [k1, k2]; cbv; try simp only [k1, k2]; cbv; try simp only [k1, k2]; cbv) ?_
 refine goA 60 ?_
 refine pcA h2 ?_
 refine goB hX 0 (by conv => lhs; cbv; try simp only [k1, k2]; cbv; try simp only [k1, k2]; cbv; try simp only [k1, k2]; cbv; try simp only [k1, k2]; cbv) ?_
 refine goA 60 ?_
 refine pcA h3 ?_
 refine goA 60 ?_
 refine fn_ret rfl rfl (.val ?_)
 exact congrArg (Value.int .i64) hR.symm
theorem Ex.rebL_snoc (G : Ex → Ex) (d : List Ex) (q : Ex) : Ex.rebL G (d ++ [q]) = Ex.rebL G d ++ [q.reb G] := by rw [Ex.rebL_append]; rfl
theorem Ex.nodeE_some (to : List Int) (e : Ex) : firstE (renE to) e.nodes = if renE to e ≠ 0 then renE to e else firstE (renE to) (Ex.nodesL e.args) := by rw [Ex.nodes_eq, firstE]
theorem P_ref08_ren (to : List Int) (htl : to.length < 1048577) : ∀ e : Ex, e.Sm → (∀ q ∈ e.nodes, usesV q.op = true → 0 ≤ q.var) → PCall EE 89 [e.enc, .isl 1 (mapE int to)] (.tup [(if firstE (renE to) e.nodes = 0 then e.reb (renG to) else Ex0).enc, int (firstE (renE to) e.nodes)]) := by
 refine Ex.ind ?_
 intro o a v f k x ih hs hv
 have hlen := hs.len
 have hih : ∀ q ∈ a, _ := fun q hq => ih q hq (hs.arg hq) fun q2 hq2 => hv q2 (by
  rw [Ex.nodes]
  obtain ⟨d, r, rfl⟩ := List.append_of_mem hq
  simp [Ex.nodesL_append, Ex.nodesL, hq2])
 have hv0 := hv _ (by rw [Ex.nodes]; exact List.mem_cons_self)
 simp only [Ex.op, Ex.var] at hv0
 have hcl := Ex.closedI a
 have hpc := Ex.closed (.mk o a v f k x)
 have hu := P_ref08_uses o
 have hct := closedL_int to
 have hcI := closedI_int to
 have hrm := Ex.reb_mk to o a v f k x
 have e0 := Ex0.form
 obtain ⟨E, hE⟩ : ∃ E, E = firstE (renE to) (Ex.mk o a v f k x).nodes := ⟨_, rfl⟩
 rw [← hE]
 obtain ⟨X, hXX⟩ : ∃ X, X = if E = 0 then (Ex.mk o a v f k x).reb (renG to) else Ex0 := ⟨_, rfl⟩
 rw [← hXX]
 rw [hrm] at hXX
 rw [Ex.nodeE_some] at hE
 simp only [Ex.args] at hE
 have hrE : renE to (.mk o a v f k x) = if usesV o = false then 0 else if (to.length : Int) ≤ v then 6 else if to.getD v.toNat 0 < 0 ∨ 16 ≤ to.getD v.toNat 0 then 2 else 0 := rfl
 rw [hrE] at hE
 have hgt : usesV o = true → ¬ (to.length : Int) ≤ v → (mapE int to).getD v.toNat .undef = int (to.getD v.toNat 0) := fun a b => by
  have := hv0 a
  rw [mapE_eq, List.getD_eq_getElem?_getD, List.getElem?_map, List.getD_eq_getElem?_getD, List.getElem?_eq_getElem (by omega)]; rfl
 have hll : (mapE int to).length = to.length := mapE_len ..
 obtain ⟨xk, xn, xt⟩ := x
 rw [Ex.enc_mk] at hpc ⊢
 dsimp only at hpc ⊢
 clear ih hs hv hrm hrE
 refine wordsN ?_; unhygienic intros
 generalize hes : mapE Ex.enc a = es at *
 have hel : es.length = a.length := by rw [← hes, mapE_len]
 generalize mapE int to = ts at *
 generalize to.getD v.toNat 0 = tv at *
 have hat : usesV o = true → ¬ (to.length : Int) ≤ v → atA ts v = int tv := fun a b => by simp only [ee]; exact hgt a b
 clear hgt
 generalize usesV o = uv at *
 generalize usesF o = uf at *
 have hnil : mapE Ex.enc [] = [] := by rw [mapE_eq]; rfl
 refine fn_body (fn := Tryz.f89) (n := 76) (ac := Tryzc89) (rvs := [.cell 4 8 true, .t 5]) rfl (by decide) Tryzp89 rfl rfl rfl ?_
 have hnl2 : mapE Ex.enc (Ex.rebL (renG to) []) = [] := by rw [show Ex.rebL (renG to) [] = [] from rfl]; exact hnil
 cases uv
 case' true =>
  rw [if_neg (show ¬ ((true : Bool) = false) by decide)] at hE
  have hv0 := hv0 rfl
  have k3t : (to.length : Int) ≤ v → iLe (lenA ts) v = true := fun h => by simp only [ee]; simp; omega
  by_cases hl : (to.length : Int) ≤ v
  · have k3 := k3t hl
    rw [if_pos hl, if_pos (by decide)] at hE
    rw [if_neg (by omega)] at hXX
    rw [hXX, hE, e0]
    refine goA 60 ?_
    refine pcA hu ?_
    refine goB hX 0 (by conv => lhs; cbv; try simp only [k3]; cbv; try simp only [k3]; cbv; try simp only [k3]; cbv; try simp only [k3]; cbv) ?_
    refine goB hX 1 (by conv => lhs; cbv; try simp only [k3]; cbv; try simp only [k3]; cbv; try simp only [k3]; cbv; try simp only [k3]; cbv) ?_
    refine goA 60 ?_
    refine fn_ret rfl rfl ?_
    exact ⟨[.gone, .gone, .gone], ⟨trivial, trivial, trivial, trivial⟩, .tup' ⟨.agg' ⟨.refl _, .nilI _, .refl _, .refl _, .refl _, .refl _, .refl _, .refl _, trivial⟩, .refl _, trivial⟩⟩
  have k3 : iLe (lenA ts) v = false := by simp only [ee]; simp; omega
  have hat := hat rfl hl
  rw [if_neg hl] at hE
  by_cases ht : tv < 0 ∨ 16 ≤ tv
  · have k5 : bOr (iLt tv 0) (iLe 16 tv) = true := by simp only [ee]; simpa using ht
    rw [if_pos ht, if_pos (by decide)] at hE
    rw [if_neg (by omega)] at hXX
    rw [hXX, hE, e0]
    refine goA 60 ?_
    refine pcA hu ?_
    refine goB hX 0 (by conv => lhs; cbv; try simp only [k3, hat, k5]; cbv; try simp only [k3, hat, k5]; cbv; try simp only [k3, hat, k5]; cbv; try simp only [k3, hat, k5]; cbv) ?_
    refine goB hX 1 (by conv => lhs; cbv; try simp only [k3, hat, k5]; cbv; try simp only [k3, hat, k5]; cbv; try simp only [k3, hat, k5]; cbv; try simp only [k3, hat, k5]; cbv) ?_
    refine goB hX 1 (by conv => lhs; cbv; try simp only [k3, hat, k5]; cbv; try simp only [k3, hat, k5]; cbv; try simp only [k3, hat, k5]; cbv; try simp only [k3, hat, k5]; cbv) ?_
    refine goA 60 ?_
    refine fn_ret rfl rfl ?_
    exact ⟨[.gone, .gone, .gone], ⟨trivial, trivial, trivial, trivial⟩, .tup' ⟨.agg' ⟨.refl _, .nilI _, .refl _, .refl _, .refl _, .refl _, .refl _, .refl _, trivial⟩, .refl _, trivial⟩⟩
  have k5 : bOr (iLt tv 0) (iLe 16 tv) = false := by simp only [ee]; simp; omega
  rw [if_neg ht, if_neg (by decide)] at hE
  rw [if_pos rfl] at hXX
  refine goA 60 ?_
  refine pcA hu ?_
  refine goB hX 0 (by conv => lhs; cbv; try simp only [k3, hat, k5]; cbv; try simp only [k3, hat, k5]; cbv; try simp only [k3, hat, k5]; cbv; try simp only [k3, hat, k5]; cbv) ?_
  refine goB hX 1 (by conv => lhs; cbv; try simp only [k3, hat, k5]; cbv; try simp only [k3, hat, k5]; cbv; try simp only [k3, hat, k5]; cbv; try simp only [k3, hat, k5]; cbv) ?_
  refine goB hX 1 (by conv => lhs; cbv; try simp only [k3, hat, k5]; cbv; try simp only [k3, hat, k5]; cbv; try simp only [k3, hat, k5]; cbv; try simp only [k3, hat, k5]; cbv) ?_
  refine goB hX 1 (by conv => lhs; cbv; try simp only [k3, hat, k5]; cbv; try simp only [k3, hat, k5]; cbv; try simp only [k3, hat, k5]; cbv; try simp only [k3, hat, k5]; cbv) ?_
  refine on_ent (F' := [(9, int 0), (1, .isl 1 ts), (2, .ptr 0 0), (4, .ptr 1 0), (5, int 0), (6, .ptr 2 0)]) (H' := [.cells [int o, .isl 8 es, int v, int f, int k, int xk, int xn, str xt], .cells [int 0, .val (.slice none 0 0), int 0, int 0, int 0, int 0, int 0, str ⟨#[]⟩], .cells [int o, .val (.slice none 0 0), int tv, int f, int k, int xk, int xn, str xt]]) ?_ ?_
  · exact (ent_sub [.to 0, .to 1, .to 2] [some 0, some 1, some 2] ⟨⟨by simp, rfl⟩, ⟨by simp, rfl⟩, ⟨by simp, rfl⟩, trivial⟩ ⟨osrc_cells (b := 0) rfl rfl rfl ⟨.refl _, .cl hcl, .refl _, .refl _, .refl _, .refl _, .refl _, .refl _, trivial⟩, osrc_cells (b := 1) rfl rfl rfl ⟨.refl _, .refl _, .refl _, .refl _, .refl _, .refl _, .refl _, .refl _, trivial⟩, osrc_cells (b := 2) rfl rfl rfl ⟨.refl _, .refl _, .refl _, .refl _, .refl _, .refl _, .refl _, .refl _, trivial⟩, trivial⟩ ⟨.refl _, .cl hcI, .refl _, .refl _, .refl _, .refl _, trivial⟩)
  obtain ⟨nv, hnv⟩ : ∃ z, z = tv := ⟨_, rfl⟩
  rw [← hnv] at hXX ⊢
  clear hnv ht hl k3 k5 hat hv0 k3t
 case' false =>
  rw [if_pos rfl, if_neg (by decide)] at hE
  rw [if_neg (by decide : ¬ ((false : Bool) = true))] at hXX
  refine goA 60 ?_
  refine pcA hu ?_
  refine goA 60 ?_
  refine on_ent (F' := [(9, int 0), (1, .isl 1 ts), (2, .ptr 0 0), (4, .ptr 1 0), (5, int 0), (6, .ptr 2 0)]) (H' := [.cells [int o, .isl 8 es, int v, int f, int k, int xk, int xn, str xt], .cells [int 0, .val (.slice none 0 0), int 0, int 0, int 0, int 0, int 0, str ⟨#[]⟩], .cells [int o, .val (.slice none 0 0), int v, int f, int k, int xk, int xn, str xt]]) ?_ ?_
  · exact (ent_sub [.to 0, .to 1, .to 2] [some 0, some 1, some 2] ⟨⟨by simp, rfl⟩, ⟨by simp, rfl⟩, ⟨by simp, rfl⟩, trivial⟩ ⟨osrc_cells (b := 0) rfl rfl rfl ⟨.refl _, .cl hcl, .refl _, .refl _, .refl _, .refl _, .refl _, .refl _, trivial⟩, osrc_cells (b := 1) rfl rfl rfl ⟨.refl _, .refl _, .refl _, .refl _, .refl _, .refl _, .refl _, .refl _, trivial⟩, osrc_cells (b := 2) rfl rfl rfl ⟨.refl _, .refl _, .refl _, .refl _, .refl _, .refl _, .refl _, .refl _, trivial⟩, trivial⟩ ⟨.refl _, .cl hcI, .refl _, .refl _, .refl _, .refl _, trivial⟩)
  obtain ⟨nv, hnv⟩ : ∃ z, z = v := ⟨_, rfl⟩
  rw [show (AObj.cells [int o, .val (.slice none 0 0), int v, int f, int k, int xk, int xn, str xt]) = .cells [int o, .val (.slice none 0 0), int nv, int f, int k, int xk, int xn, str xt] by rw [hnv]]
  rw [← hnv] at hXX
  clear hnv hv0 hat
 all_goals
  refine on_loopP (ι := Int × Nat × List AV × List Ex × List Ex) (fun p => ([(9, int p.1), (1, .isl 1 ts), (2, .ptr 0 0), (4, .ptr 1 0), (5, int 0), (6, .ptr 2 0)], [.cells [int o, .isl 8 es, int v, int f, int k, int xk, int xn, str xt], .cells [int 0, .val (.slice none 0 0), int 0, int 0, int 0, int 0, int 0, str ⟨#[]⟩], .cells [int o, .sl 3 8 0 p.2.1, int nv, int f, int k, int xk, int xn, str xt], .arr 8 p.2.2.1])) (fun p => a = p.2.2.2.1 ++ p.2.2.2.2 ∧ p.1 = p.2.2.2.1.length ∧ p.2.1 = p.2.2.1.length ∧ p.2.2.1 = mapE Ex.enc (Ex.rebL (renG to) p.2.2.2.1) ∧ E = firstE (renE to) (Ex.nodesL p.2.2.2.2)) (fun p => p.2.2.2.2.length) (0, 0, [], [], a) ⟨rfl, rfl, rfl, hnl2.symm, hE⟩ ?_ ?_
  · exact (ent_sub [.to 0, .to 1, .to 2] [some 0, some 1, some 2, none] ⟨⟨by simp, rfl⟩, ⟨by simp, rfl⟩, ⟨by simp, rfl⟩, trivial⟩ ⟨osrc_cells (b := 0) rfl rfl rfl ⟨.refl _, .cl hcl, .refl _, .refl _, .refl _, .refl _, .refl _, .refl _, trivial⟩, osrc_cells (b := 1) rfl rfl rfl ⟨.refl _, .refl _, .refl _, .refl _, .refl _, .refl _, .refl _, .refl _, trivial⟩, osrc_cells (b := 2) rfl rfl rfl ⟨.refl _, .nilS _ _ _ (by simp), .refl _, .refl _, .refl _, .refl _, .refl _, .refl _, trivial⟩, .none _ rfl, trivial⟩ ⟨.refl _, .cl hcI, .refl _, .refl _, .refl _, .refl _, trivial⟩)
  rintro ⟨i, m, w, d, r⟩ ⟨g1, gi, gm, gw, gE⟩
  dsimp only at g1 gi gm gw gE ⊢
  have hcw : AV.closedL w = true := by rw [gw]; exact Ex.closedL _
  have hwl : w.length = d.length := by rw [gw, mapE_len, Ex.rebL_len]
  have hfw : fitB 8 w = true := by rw [gw]; exact fitEx _
  cases r with
  | nil =>
   have L1 := len_split g1
   try simp only [List.length_cons, List.length_nil] at L1
   have hc : iLt i (lenA es) = false := lt_f e_iLt e_lenA (by omega)
   have gE : E = 0 := gE
   rw [List.append_nil] at g1
   rw [if_pos gE] at hXX
   rw [hXX, Ex.enc_mk, g1, ← gw, gE]
   refine goB hX 0 (by conv => lhs; cbv; try simp only [hc]; cbv; try simp only [hc]; cbv; try simp only [hc]; cbv; try simp only [hc]; cbv) ?_
   refine goA 60 ?_
   refine loopP_exit ?_
   refine goA 60 ?_
   refine fn_ret rfl rfl ?_
   exact ⟨[.gone, .gone, .gone, .isl 8 (w)], ⟨trivial, trivial, trivial, ⟨_, rfl, (subL_closed _ hcw).symm⟩, trivial⟩, .tup' ⟨.agg' ⟨.refl _, .of (sub_whole rfl (by assumption)), .refl _, .refl _, .refl _, .refl _, .refl _, .refl _, trivial⟩, .refl _, trivial⟩⟩
  | cons q r =>
   have L1 := len_split g1
   try simp only [List.length_cons, List.length_nil] at L1
   have hc : iLt i (lenA es) = true := lt_t e_iLt e_lenA (by omega)
   have hat := el_at e_atA hes g1 gi
   have hq := hih q (by rw [g1]; simp)
   have hqc := Ex.closed q
   rw [Ex.nodesL, firstE_append] at gE
   have hsn := Ex.rebL_snoc (renG to) d q
   have hi2 : iAdd .i64 i 1 = ((d ++ [q]).length : Int) := by rw [List.length_append]; exact inc_w e_iAdd gi (by omega)
   generalize firstE (renE to) q.nodes = fq at *
   generalize hqr : q.reb (renG to) = qr at *
   have hrc := Ex.closed qr
   by_cases h2 : fq = 0
   · have w2 : iNe fq 0 = false := by simp only [ee]; simpa using h2
     rw [if_neg (by simpa using h2)] at gE
     rw [if_pos h2] at hq
     obtain ⟨qO, qA, qV, qF, qK, qXk, qXn, qXt, hx⟩ := Ex.form q
     obtain ⟨qrO, qrA, qrV, qrF, qrK, qrXk, qrXn, qrXt, hy⟩ := Ex.form qr
     rw [hx] at hat hqc hq
     rw [hy] at hq hrc
     have u1 : catA (dropA w 0) (partA [.agg [int qrO, .isl 8 qrA, int qrV, int qrF, int qrK, int qrXk, int qrXn, str qrXt]] 0 1) = mapE Ex.enc (Ex.rebL (renG to) (d ++ [q])) := by rw [hsn, mapE_eq, List.map_append, ← mapE_eq, ← gw, List.map_cons, List.map_nil, hy]; simp only [ee]; simp
     have u2 : addN m (lenN (partA [.agg [int qrO, .isl 8 qrA, int qrV, int qrF, int qrK, int qrXk, int qrXn, str qrXt]] 0 1)) = (catA (dropA w 0) (partA [.agg [int qrO, .isl 8 qrA, int qrV, int qrF, int qrK, int qrXk, int qrXn, str qrXt]] 0 1)).length := by simp only [ee]; simp [gm]
     have u3 : AV.closedL (catA (dropA w 0) (partA [.agg [int qrO, .isl 8 qrA, int qrV, int qrF, int qrK, int qrXk, int qrXn, str qrXt]] 0 1)) = true := by rw [u1]; exact Ex.closedL _
     refine goB hX 0 (by conv => lhs; cbv; try simp only [hc, hat, w2]; cbv; try simp only [hc, hat, w2]; cbv; try simp only [hc, hat, w2]; cbv; try simp only [hc, hat, w2]; cbv) ?_
     refine goB hX 1 (by conv => lhs; cbv; try simp only [hc, hat, w2]; cbv; try simp only [hc, hat, w2]; cbv; try simp only [hc, hat, w2]; cbv; try simp only [hc, hat, w2]; cbv) ?_
     refine pcA hq ?_
     refine goB hX 0 (by conv => lhs; cbv; try simp only [hc, hat, w2]; cbv; try simp only [hc, hat, w2]; cbv; try simp only [hc, hat, w2]; cbv; try simp only [hc, hat, w2]; cbv) ?_
     refine goA 60 ?_
     refine loopP_next (iAdd .i64 i 1, addN m (lenN (partA [.agg [int qrO, .isl 8 qrA, int qrV, int qrF, int qrK, int qrXk, int qrXn, str qrXt]] 0 1)), catA (dropA w 0) (partA [.agg [int qrO, .isl 8 qrA, int qrV, int qrF, int qrK, int qrXk, int qrXn, str qrXt]] 0 1), d ++ [q], r) ⟨by simp [g1], hi2, u2, u1, gE⟩ (by simp) (ent_sub [.to 0, .to 1, .to 2, .gone, .gone, .gone, .to 3] [some 0, some 1, some 2, some 6] ⟨⟨by simp, rfl⟩, ⟨by simp, rfl⟩, ⟨by simp, rfl⟩, trivial, trivial, trivial, ⟨by simp, rfl⟩, trivial⟩ ⟨osrc_cells (b := 0) rfl rfl rfl ⟨.refl _, .cl hcl, .refl _, .refl _, .refl _, .refl _, .refl _, .refl _, trivial⟩, osrc_cells (b := 1) rfl rfl rfl ⟨.refl _, .refl _, .refl _, .refl _, .refl _, .refl _, .refl _, .refl _, trivial⟩, osrc_cells (b := 2) rfl rfl rfl ⟨.refl _, .refl _, .refl _, .refl _, .refl _, .refl _, .refl _, .refl _, trivial⟩, osrc_arr (b := 6) rfl rfl rfl rfl u3, trivial⟩ ⟨.refl _, .cl hcI, .refl _, .refl _, .refl _, .refl _, trivial⟩)
   · have w2 : iNe fq 0 = true := by simp only [ee]; simpa using h2
     rw [if_pos h2] at gE
     rw [if_neg h2, e0] at hq
     rw [if_neg (by omega)] at hXX
     rw [hXX, gE, e0]
     obtain ⟨qO, qA, qV, qF, qK, qXk, qXn, qXt, hx⟩ := Ex.form q
     rw [hx] at hat hqc hq
     refine goB hX 0 (by conv => lhs; cbv; try simp only [hc, hat, w2]; cbv; try simp only [hc, hat, w2]; cbv; try simp only [hc, hat, w2]; cbv; try simp only [hc, hat, w2]; cbv) ?_
     refine goB hX 1 (by conv => lhs; cbv; try simp only [hc, hat, w2]; cbv; try simp only [hc, hat, w2]; cbv; try simp only [hc, hat, w2]; cbv; try simp only [hc, hat, w2]; cbv) ?_
     refine pcA hq ?_
     refine goB hX 0 (by conv => lhs; cbv; try simp only [hc, hat, w2]; cbv; try simp only [hc, hat, w2]; cbv; try simp only [hc, hat, w2]; cbv; try simp only [hc, hat, w2]; cbv) ?_
     refine goA 60 ?_
     refine loopP_ret ?_
     refine goA 60 ?_
     refine fn_ret rfl rfl ?_
     exact ⟨[.gone, .gone, .gone, .gone, .gone], ⟨trivial, trivial, trivial, trivial, trivial, trivial⟩, .tup' ⟨.agg' ⟨.refl _, .nilI _, .refl _, .refl _, .refl _, .refl _, .refl _, .refl _, trivial⟩, .refl _, trivial⟩⟩
theorem P_ref08_Rename (to : List Int) (htl : to.length < 1048577) (e : Ex) (hs : e.Sm) : PCall EE 75 [e.enc, .isl 1 (mapE int to)] (.tup [(e.rename to).enc, int (e.renErr to)]) := by
 have h1 := P_ref08_Check e hs
 have h2 := fun (h : e.chk = 0) => P_ref08_ren to htl e hs fun q hq hu => (Ex.nodeE_var (Ex.chk_nodes h q hq) hu).1
 have hcl := Ex.closed e
 have hct := closedL_int to
 have hcI := closedI_int to
 have e0 := Ex0.form
 obtain ⟨X, hX1⟩ : ∃ X, X = e.rename to := ⟨_, rfl⟩
 obtain ⟨E, hE⟩ : ∃ X, X = e.renErr to := ⟨_, rfl⟩
 rw [← hX1, ← hE]
 unfold Ex.rename at hX1
 rw [← hE] at hX1
 unfold Ex.renErr at hE
 generalize e.chk = ck at *
 generalize firstE (renE to) e.nodes = fe at *
 generalize e.reb (renG to) = er at *
 obtain ⟨eO, eA, eV, eF, eK, eXk, eXn, eXt, hx⟩ := Ex.form e
 rw [hx] at h1 h2 hcl ⊢
 refine wordsN ?_; unhygienic intros
 refine fn_body (fn := Tryz.f75) (n := 18) (ac := Tryzc75) (rvs := [.cell 4 8 true, .t 5]) rfl (by decide) Tryzp75 rfl rfl rfl ?_
 by_cases hk : ck = 0
 rotate_left
 · have k1 : iNe ck 0 = true := by simp only [ee]; simpa using hk
   rw [if_pos hk] at hE
   rw [if_neg (by omega)] at hX1
   rw [hX1, hE, e0]
   refine goA 60 ?_
   refine pcA h1 ?_
   refine goB hX 0 (by conv => lhs; cbv; try simp only [k1]; cbv; try simp only [k1]; cbv; try simp only [k1]; cbv; try simp only [k1]; cbv) ?_
   refine goA 60 ?_
   refine fn_ret rfl rfl ?_
   exact ⟨[.gone, .gone], ⟨trivial, trivial, trivial⟩, .tup' ⟨.agg' ⟨.refl _, .nilI _, .refl _, .refl _, .refl _, .refl _, .refl _, .refl _, trivial⟩, .refl _, trivial⟩⟩
 have k1 : iNe ck 0 = false := by simp only [ee]; simpa using hk
 rw [if_neg (by simpa using hk)] at hE
 have h2 := h2 hk
 rw [← hE, ← hX1] at h2
 obtain ⟨XO, XA, XV, XF, XK, XXk, XXn, XXt, hy⟩ := Ex.form X
 have hyc := Ex.closed X
 rw [hy] at h2 hyc ⊢
 refine goA 60 ?_
 refine pcA h1 ?_
 refine goB hX 0 (by conv => lhs; cbv; try simp only [k1]; cbv; try simp only [k1]; cbv; try simp only [k1]; cbv; try simp only [k1]; cbv) ?_
 refine goA 60 ?_
 refine pcA h2 ?_
 refine goA 60 ?_
 refine fn_ret rfl rfl ?_
 exact ⟨[.gone, .gone], ⟨trivial, trivial, trivial⟩, .tup' ⟨.cl hyc, .refl _, trivial⟩⟩
theorem P_Negates (p : Pat) : PCall EE 52 [p.enc] (bool (decide (p.op = 5 ∨ p.op = 9))) := by
 obtain ⟨R, hR⟩ : ∃ R, R = decide (p.op = 5 ∨ p.op = 9) := ⟨_, rfl⟩
 rw [← hR]
 have hcl := Pat.closed p
 obtain ⟨pO, pA, pT, pV, pS, pN, pCo, pCa, pCv, pCf, pCk, pXk, pXn, pXt, hx, hxc, hpO, hpA, hpT, hpV, hpS, hpN⟩ := Pat.form2 p
 rw [hx] at hcl ⊢
 rw [← hpO] at hR
 refine wordsN ?_; unhygienic intros
 refine fn_body (fn := Tryz.f52) (n := 11) (ac := Tryzc52) (rvs := [.t 2]) rfl (by decide) Tryzp52 rfl rfl rfl ?_
 refine goA 60 ?_
 refine fn_ret rfl rfl (.val ?_)
 exact congrArg Value.bool (by rw [hR, Bool.eq_iff_iff]; simp only [ee]; simp)
theorem P_Times (p : Pat) : PCall EE 53 [p.enc] (bool (spanF p.op)) := by
 obtain ⟨R, hR⟩ : ∃ R, R = spanF p.op := ⟨_, rfl⟩
 rw [← hR]
 unfold spanF at hR
 have hcl := Pat.closed p
 obtain ⟨pO, pA, pT, pV, pS, pN, pCo, pCa, pCv, pCf, pCk, pXk, pXn, pXt, hx, hxc, hpO, hpA, hpT, hpV, hpS, hpN⟩ := Pat.form2 p
 rw [hx] at hcl ⊢
 rw [← hpO] at hR
 refine wordsN ?_; unhygienic intros
 refine fn_body (fn := Tryz.f53) (n := 11) (ac := Tryzc53) (rvs := [.t 2]) rfl (by decide) Tryzp53 rfl rfl rfl ?_
 refine goA 60 ?_
 refine fn_ret rfl rfl (.val ?_)
 exact congrArg Value.bool (by rw [hR, Bool.eq_iff_iff]; simp only [ee]; simp)
theorem P_variable (p : Pat) : PCall EE 51 [p.enc] (bool (typedF p.op)) := by
 have h1 := P_Negates p
 obtain ⟨R, hR⟩ : ∃ R, R = typedF p.op := ⟨_, rfl⟩
 rw [← hR]
 unfold typedF at hR
 have hcl := Pat.closed p
 obtain ⟨pO, pA, pT, pV, pS, pN, pCo, pCa, pCv, pCf, pCk, pXk, pXn, pXt, hx, hxc, hpO, hpA, hpT, hpV, hpS, hpN⟩ := Pat.form2 p
 rw [hx] at h1 hcl ⊢
 rw [← hpO] at hR h1
 refine wordsN ?_; unhygienic intros
 refine fn_body (fn := Tryz.f51) (n := 10) (ac := Tryzc51) (rvs := [.t 2]) rfl (by decide) Tryzp51 rfl rfl rfl ?_
 refine goA 0 ?_
 refine on_guard rfl rfl (fun c1 => ?_) (fun c1 => ?_)
 ·
  simp [ee] at c1
  refine goA 60 ?_
  refine fn_ret rfl rfl (.val ?_)
  exact congrArg Value.bool (by rw [hR]; clear ee hX; grind)
 ·
  simp [ee] at c1
  refine goA 60 ?_
  refine pcG h1 ?_
  refine goA 60 ?_
  refine fn_ret rfl rfl (.val ?_)
  exact congrArg Value.bool (by rw [hR]; clear ee hX; grind)
theorem P_condition (p : Pat) : PCall EE 74 [p.enc] (bool (condF p.op)) := by
 have h1 := P_variable p
 obtain ⟨R, hR⟩ : ∃ R, R = condF p.op := ⟨_, rfl⟩
 rw [← hR]
 have h2 : condF p.op = (typedF p.op || decide (p.op = 7)) := by unfold condF typedF; rw [Bool.eq_iff_iff]; simp; omega
 rw [h2] at hR
 generalize typedF p.op = ty at *
 have hcl := Pat.closed p
 obtain ⟨pO, pA, pT, pV, pS, pN, pCo, pCa, pCv, pCf, pCk, pXk, pXn, pXt, hx, hxc, hpO, hpA, hpT, hpV, hpS, hpN⟩ := Pat.form2 p
 rw [hx] at h1 hcl ⊢
 rw [← hpO] at hR
 refine wordsN ?_; unhygienic intros
 refine fn_body (fn := Tryz.f74) (n := 10) (ac := Tryzc74) (rvs := [.t 2]) rfl (by decide) Tryzp74 rfl rfl rfl ?_
 refine goA 60 ?_
 refine pcA h1 ?_
 refine goA 60 ?_
 refine fn_ret rfl rfl (.val ?_)
 exact congrArg Value.bool (by rw [hR]; first | (rw [Bool.eq_iff_iff]; simp only [ee]; simp; done) | (simp only [ee] at *; simp at *; simp [*]))
theorem P_bad (u : Bool) (n m : Int) : PCall EE 80 [bool u, int n, int m] (bool (u && decide (n < 0 ∨ m < n))) := by
 obtain ⟨R, hR⟩ : ∃ R, R = (u && decide (n < 0 ∨ m < n)) := ⟨_, rfl⟩
 rw [← hR]
 refine wordsN ?_; unhygienic intros
 refine fn_body (fn := Tryz.f80) (n := 17) (ac := Tryzc80) (rvs := [.t 6]) rfl (by decide) Tryzp80 rfl rfl rfl ?_
 refine goA 0 ?_
 refine nsB hX (by conv => lhs; cbv) ?_
 refine goA 60 ?_
 refine fn_ret rfl rfl (.val ?_)
 exact congrArg Value.bool (by rw [hR]; first | (rw [Bool.eq_iff_iff]; simp only [ee]; simp; done) | (simp only [ee] at *; simp at *; simp [*]))
theorem P_ref09_arity (p : Pat) (hlen : p.args.length < 1048576) : PCall EE 79 [p.enc] (bool (decide (if p.op = 0 then p.args.length = 0 else if p.op = 1 ∨ p.op = 2 ∨ p.op = 3 then 2 ≤ p.args.length else if p.op = 8 then p.args.length = 2 else p.args.length = 1))) := by
 obtain ⟨R, hR⟩ : ∃ R, R = (decide (if p.op = 0 then p.args.length = 0 else if p.op = 1 ∨ p.op = 2 ∨ p.op = 3 then 2 ≤ p.args.length else if p.op = 8 then p.args.length = 2 else p.args.length = 1)) := ⟨_, rfl⟩
 rw [← hR]
 have hcl := Pat.closed p
 obtain ⟨pO, pA, pT, pV, pS, pN, pCo, pCa, pCv, pCf, pCk, pXk, pXn, pXt, hx, hxc, hpO, hpA, hpT, hpV, hpS, hpN⟩ := Pat.form2 p
 have hel : pA.length = p.args.length := by rw [hpA, mapE_len]
 rw [hx] at hcl ⊢
 rw [← hpO] at hR
 clear hpA
 generalize p.args.length = n at *
 refine wordsN ?_; unhygienic intros
 refine fn_body (fn := Tryz.f79) (n := 29) (ac := Tryzc79) (rvs := [.t 2]) rfl (by decide) Tryzp79 rfl rfl rfl ?_
 refine goA 0 ?_
 refine on_cond rfl (fun c1 => ?_) (fun c1 => ?_)
 ·
  simp [ee] at c1
  refine goA 60 ?_
  refine fn_ret rfl rfl (.val ?_)
  exact congrArg Value.bool (by rw [hR, Bool.eq_iff_iff]; simp only [ee]; clear ee hX; simp; grind)
 ·
  simp [ee] at c1
  refine goA 0 ?_
  refine on_cond rfl (fun c2 => ?_) (fun c2 => ?_)
  ·
   simp [ee] at c2
   refine goA 0 ?_
   refine on_cond rfl (fun c3 => ?_) (fun c3 => ?_)
   ·
    simp [ee] at c3
    refine goA 60 ?_
    refine fn_ret rfl rfl (.val ?_)
    exact congrArg Value.bool (by rw [hR, Bool.eq_iff_iff]; simp only [ee]; clear ee hX; simp; grind)
   ·
    simp [ee] at c3
    refine goA 0 ?_
    refine on_cond rfl (fun c4 => ?_) (fun c4 => ?_)
    ·
     simp [ee] at c4
     refine goA 60 ?_
     refine fn_ret rfl rfl (.val ?_)
     exact congrArg Value.bool (by rw [hR, Bool.eq_iff_iff]; simp only [ee]; clear ee hX; simp; grind)
    ·
     simp [ee] at c4
     refine goA 60 ?_
     refine fn_ret rfl rfl (.val ?_)
     exact congrArg Value.bool (by rw [hR, Bool.eq_iff_iff]; simp only [ee]; clear ee hX; simp; grind)
  ·
   simp [ee] at c2
   refine goA 0 ?_
   refine on_cond rfl (fun c5 => ?_) (fun c5 => ?_)
   ·
    simp [ee] at c5
    refine goA 0 ?_
    refine on_cond rfl (fun c6 => ?_) (fun c6 => ?_)
    ·
     simp [ee] at c6
     refine goA 60 ?_
     refine fn_ret rfl rfl (.val ?_)
     exact congrArg Value.bool (by rw [hR, Bool.eq_iff_iff]; simp only [ee]; clear ee hX; simp; grind)
    ·
     simp [ee] at c6
     refine goA 0 ?_
     refine on_cond rfl (fun c7 => ?_) (fun c7 => ?_)
     ·
      simp [ee] at c7
      refine goA 60 ?_
      refine fn_ret rfl rfl (.val ?_)
      exact congrArg Value.bool (by rw [hR, Bool.eq_iff_iff]; simp only [ee]; clear ee hX; simp; grind)
     ·
      simp [ee] at c7
      refine goA 60 ?_
      refine fn_ret rfl rfl (.val ?_)
      exact congrArg Value.bool (by rw [hR, Bool.eq_iff_iff]; simp only [ee]; clear ee hX; simp; grind)
   ·
    simp [ee] at c5
    refine goA 0 ?_
    refine on_cond rfl (fun c8 => ?_) (fun c8 => ?_)
    ·
     simp [ee] at c8
     refine goA 60 ?_
     refine fn_ret rfl rfl (.val ?_)
     exact congrArg Value.bool (by rw [hR, Bool.eq_iff_iff]; simp only [ee]; clear ee hX; simp; grind)
    ·
     simp [ee] at c8
     refine goA 0 ?_
     refine on_cond rfl (fun c9 => ?_) (fun c9 => ?_)
     ·
      simp [ee] at c9
      refine goA 60 ?_
      refine fn_ret rfl rfl (.val ?_)
      exact congrArg Value.bool (by rw [hR, Bool.eq_iff_iff]; simp only [ee]; clear ee hX; simp; grind)
     ·
      simp [ee] at c9
      refine goA 60 ?_
      refine fn_ret rfl rfl (.val ?_)
      exact congrArg Value.bool (by rw [hR, Bool.eq_iff_iff]; simp only [ee]; clear ee hX; simp; grind)
open Classical in
theorem nodeE_red (p : Pat) (hl : p.args.length ≤ 64) : p.nodeE = (if p.op < 0 ∨ 10 < p.op then 1 else if ¬ (if p.op = 0 then p.args.length = 0 else if p.op = 1 ∨ p.op = 2 ∨ p.op = 3 then 2 ≤ p.args.length else if p.op = 8 then p.args.length = 2 else p.args.length = 1) then 15
 else if (typedF p.op && decide (p.ty < 0 ∨ 15 < p.ty)) = true ∨ (typedF p.op && decide (p.var < 0 ∨ 15 < p.var)) = true ∨ (scopeF p.op && decide (p.scope < 0 ∨ 63 < p.scope)) = true ∨ (spanF p.op && decide (p.span < 0 ∨ 1099511627776 < p.span)) = true then 2
 else if condF p.op = true ∧ p.cond.chk ≠ 0 then p.cond.chk
 else if (typedF p.op = false ∧ (p.ty ≠ 0 ∨ p.var ≠ 0)) ∨ (scopeF p.op = false ∧ p.scope ≠ 0) ∨ (spanF p.op = false ∧ p.span ≠ 0) ∨ (condF p.op = false ∧ p.cond ≠ Ex0) then 3 else 0) := by
 unfold Pat.nodeE
 by_cases h1 : p.op < 0 ∨ 11 ≤ p.op
 · rw [if_pos h1, if_pos (show p.op < 0 ∨ 10 < p.op by omega)]
 rw [if_neg h1, if_neg (show ¬ (p.op < 0 ∨ 10 < p.op) by omega)]
 have h2 : ((p.args.length : Int) < leastF p.op ∨ mostF p.op < p.args.length) ↔ ¬ (if p.op = 0 then p.args.length = 0 else if p.op = 1 ∨ p.op = 2 ∨ p.op = 3 then 2 ≤ p.args.length else if p.op = 8 then p.args.length = 2 else p.args.length = 1) := by
  unfold leastF mostF
  (repeat' split) <;> omega
 by_cases h3 : (p.args.length : Int) < leastF p.op ∨ mostF p.op < p.args.length
 · rw [if_pos h3, if_pos (h2.1 h3)]
 rw [if_neg h3, if_neg (fun h => h3 (h2.2 h))]
 have h4 : ((typedF p.op && decide (p.ty < 0 ∨ 15 < p.ty)) = true ∨ (typedF p.op && decide (p.var < 0 ∨ 15 < p.var)) = true ∨ (scopeF p.op && decide (p.scope < 0 ∨ 63 < p.scope)) = true ∨ (spanF p.op && decide (p.span < 0 ∨ 1099511627776 < p.span)) = true) ↔
  (typedF p.op = true ∧ (p.ty < 0 ∨ 15 < p.ty ∨ p.var < 0 ∨ 15 < p.var)) ∨ (scopeF p.op = true ∧ (p.scope < 0 ∨ 63 < p.scope)) ∨ (spanF p.op = true ∧ (p.span < 0 ∨ 1099511627776 < p.span)) := by
  cases typedF p.op <;> cases scopeF p.op <;> cases spanF p.op <;> simp <;> omega
 by_cases h5 : (typedF p.op = true ∧ (p.ty < 0 ∨ 15 < p.ty ∨ p.var < 0 ∨ 15 < p.var)) ∨ (scopeF p.op = true ∧ (p.scope < 0 ∨ 63 < p.scope)) ∨ (spanF p.op = true ∧ (p.span < 0 ∨ 1099511627776 < p.span))
 · rw [if_pos h5, if_pos (h4.2 h5)]
 rw [if_neg h5, if_neg (fun h => h5 (h4.1 h))]
 by_cases h6 : condF p.op = true ∧ p.cond.chk ≠ 0
 · rw [if_pos h6, if_pos h6]
 rw [if_neg h6, if_neg h6]
 by_cases h7 : (condF p.op = false ∧ p.cond ≠ Ex0) ∨ (typedF p.op = false ∧ (p.ty ≠ 0 ∨ p.var ≠ 0)) ∨ (scopeF p.op = false ∧ p.scope ≠ 0) ∨ (spanF p.op = false ∧ p.span ≠ 0)
 · rw [if_pos h7]
   refine (if_pos ?_).symm
   rcases h7 with h | h | h | h
   · exact .inr (.inr (.inr h))
   · exact .inl h
   · exact .inr (.inl h)
   · exact .inr (.inr (.inl h))
 · rw [if_neg h7]
   refine (if_neg ?_).symm
   rintro (h | h | h | h)
   · exact h7 (.inr (.inl h))
   · exact h7 (.inr (.inr (.inl h)))
   · exact h7 (.inr (.inr (.inr h)))
   · exact h7 (.inl h)
theorem P_ref09_node (p : Pat) (hs : p.Sm) (hlen : p.args.length ≤ 64) : PCall EE 55 [p.enc] (int p.nodeE) := by
 have h1 := P_ref09_arity p (by omega)
 have h2 := P_variable p
 have h3 := P_Negates p
 have h4 := P_Times p
 have h5 := P_condition p
 have h6 := P_ref08_Check p.cond hs.cond'
 have h7 := P_ref08_Same p.cond Ex0 hs.cond'
 rw [Ex0.form] at h7
 have hsc : scopeF p.op = (decide (p.op = 5 ∨ p.op = 9) || spanF p.op) := by unfold scopeF spanF; rw [Bool.eq_iff_iff]; simp; omega
 obtain ⟨R, hR⟩ : ∃ R, R = p.nodeE := ⟨_, rfl⟩
 rw [← hR]
 have hb : p.cond ≠ Ex0 ↔ eqB p.cond Ex0 = false := ⟨fun h => eqB_f h, fun h e => (by rw [eqB_t e] at h; cases h)⟩
 rw [nodeE_red p hlen, hsc] at hR
 simp only [hb] at hR
 clear hb
 have hcl := Pat.closed p
 have hccl := Ex.closed p.cond
 generalize hab : (decide (if p.op = 0 then p.args.length = 0 else if p.op = 1 ∨ p.op = 2 ∨ p.op = 3 then 2 ≤ p.args.length else if p.op = 8 then p.args.length = 2 else p.args.length = 1)) = ab at *
 have hab2 : (if p.op = 0 then p.args.length = 0 else if p.op = 1 ∨ p.op = 2 ∨ p.op = 3 then 2 ≤ p.args.length else if p.op = 8 then p.args.length = 2 else p.args.length = 1) ↔ ab = true := by rw [← hab]; simp
 simp only [hab2] at hR
 clear hab hab2 hsc
 have hco : (typedF p.op = true ∧ decide (p.op = 5 ∨ p.op = 9) = false ∧ spanF p.op = false ∧ condF p.op = true) ∨ (typedF p.op = true ∧ decide (p.op = 5 ∨ p.op = 9) = true ∧ spanF p.op = false ∧ condF p.op = true) ∨ (typedF p.op = false ∧ decide (p.op = 5 ∨ p.op = 9) = false ∧ spanF p.op = true ∧ condF p.op = false) ∨
  (typedF p.op = false ∧ decide (p.op = 5 ∨ p.op = 9) = false ∧ spanF p.op = false ∧ condF p.op = true) ∨ (typedF p.op = false ∧ decide (p.op = 5 ∨ p.op = 9) = false ∧ spanF p.op = false ∧ condF p.op = false) := by
  unfold typedF spanF condF
  simp only [decide_eq_true_eq, decide_eq_false_iff_not]
  omega
 generalize typedF p.op = ty at *
 generalize decide (p.op = 5 ∨ p.op = 9) = ng at *
 generalize spanF p.op = sp at *
 generalize condF p.op = cd at *
 generalize eqB p.cond Ex0 = eq at *
 generalize p.cond.chk = ck at *
 obtain ⟨pO, pA, pT, pV, pS, pN, pCo, pCa, pCv, pCf, pCk, pXk, pXn, pXt, hx, hxc, hpO, hpA, hpT, hpV, hpS, hpN⟩ := Pat.form2 p
 rw [hx] at h1 h2 h3 h4 h5 hcl ⊢
 rw [hxc] at h6 h7 hccl
 rw [← hpO, ← hpT, ← hpV, ← hpS, ← hpN] at hR
 have b1 := P_bad ty pT 15
 have b2 := P_bad ty pV 15
 have b3t := P_bad true pS 63
 have b3f := P_bad false pS 63
 have b4 := P_bad sp pN 1099511627776
 generalize decide (pT < 0 ∨ 15 < pT) = d1 at *
 generalize decide (pV < 0 ∨ 15 < pV) = d2 at *
 generalize decide (pS < 0 ∨ 63 < pS) = d3 at *
 generalize decide (pN < 0 ∨ 1099511627776 < pN) = d4 at *
 clear hpO hpA hpT hpV hpS hpN hx hxc hs hlen
 refine wordsN ?_; unhygienic intros
 refine fn_body (fn := Tryz.f55) (n := 100) (ac := Tryzc55) (rvs := [.t 2]) rfl (by decide) Tryzp55 rfl rfl rfl ?_
 rcases hco with ⟨rfl, rfl, rfl, rfl⟩ | ⟨rfl, rfl, rfl, rfl⟩ | ⟨rfl, rfl, rfl, rfl⟩ | ⟨rfl, rfl, rfl, rfl⟩ | ⟨rfl, rfl, rfl, rfl⟩
 ·
  refine goA 0 ?_
  refine on_cond rfl (fun c1 => ?_) (fun c1 => ?_)
  ·
   simp [ee] at c1
   refine goA 60 ?_
   refine fn_ret rfl rfl (.val ?_)
   exact congrArg (Value.int .i64) (by rw [hR]; clear ee hX; grind)
  ·
   simp [ee] at c1
   refine goA 60 ?_
   refine pcA h1 ?_
   refine goA 0 ?_
   refine on_cond rfl (fun c2 => ?_) (fun c2 => ?_)
   ·
    simp [ee] at c2
    refine goA 60 ?_
    refine fn_ret rfl rfl (.val ?_)
    exact congrArg (Value.int .i64) (by rw [hR]; clear ee hX; grind)
   ·
    simp [ee] at c2
    refine goA 60 ?_
    refine tr_drawB rfl (by conv => lhs; cbv) rfl ?_
    refine tgA ?_
    refine pcT h2 ?_
    refine tgA ?_
    refine pcT h3 ?_
    refine tgA ?_
    refine tr_ung rfl ?_
    refine tgA ?_
    refine tr_ung rfl ?_
    refine pcT h4 ?_
    refine tgA ?_
    refine pcT h5 ?_
    refine tgA ?_
    refine tr_nil ⟨rfl, by simp [LooksL, lookAll], ?_⟩
    refine goA 60 ?_
    refine tr_drawB rfl (by conv => lhs; cbv) rfl ?_
    refine tgA ?_
    refine pcT b1 ?_
    refine tgA ?_
    cases d1
    ·
     refine tr_ung rfl ?_
     refine tgA ?_
     refine tr_ung rfl ?_
     refine tgA ?_
     refine tr_ung rfl ?_
     refine tgA ?_
     refine tr_ung rfl ?_
     refine pcT b2 ?_
     refine tgA ?_
     cases d2
     ·
      refine tr_ung rfl ?_
      refine tgA ?_
      refine tr_ung rfl ?_
      refine tgA ?_
      refine tr_ung rfl ?_
      refine tgA ?_
      refine tr_ung rfl ?_
      refine pcT b3f ?_
      refine tgA ?_
      refine tr_ung rfl ?_
      refine tgA ?_
      refine tr_ung rfl ?_
      refine pcT h4 ?_
      refine tr_ung rfl ?_
      refine tgA ?_
      refine tr_ung rfl ?_
      refine tgA ?_
      refine tr_ung rfl ?_
      refine pcT b4 ?_
      refine tgA ?_
      refine tr_nil ⟨rfl, by simp [LooksL, lookAll], ?_⟩
      refine goA 60 ?_
      refine pcA h6 ?_
      refine goA 0 ?_
      refine on_cond rfl (fun c3 => ?_) (fun c3 => ?_)
      ·
       simp [ee] at c3
       refine goA 60 ?_
       refine fn_ret rfl rfl (.val ?_)
       exact congrArg (Value.int .i64) (by rw [hR]; clear ee hX; grind)
      ·
       simp [ee] at c3
       refine goA 0 ?_
       refine nsB hX (by conv => lhs; cbv) ?_
       refine goA 0 ?_
       refine nsB hX (by conv => lhs; cbv) ?_
       refine goA 0 ?_
       refine on_guard rfl rfl (fun c4 => ?_) (fun c4 => ?_)
       ·
        simp [ee] at c4
        refine goA 60 ?_
        refine on_gskip rfl rfl ?_
        refine goA 60 ?_
        refine on_gskip rfl rfl ?_
        refine goA 60 ?_
        refine fn_ret rfl rfl (.val ?_)
        exact congrArg (Value.int .i64) (by rw [hR]; clear ee hX; grind)
       ·
        simp [ee] at c4
        refine goA 60 ?_
        refine pcG h4 ?_
        refine goA 0 ?_
        refine goA 1 ?_
        refine goA 1 ?_
        refine nsB hX (by conv => lhs; cbv) ?_
        refine goA 0 ?_
        refine on_guard rfl rfl (fun c5 => ?_) (fun c5 => ?_)
        ·
         simp [ee] at c5
         refine goA 60 ?_
         refine on_gskip rfl rfl ?_
         refine goA 60 ?_
         refine fn_ret rfl rfl (.val ?_)
         exact congrArg (Value.int .i64) (by rw [hR]; clear ee hX; grind)
        ·
         simp [ee] at c5
         refine goA 1 ?_
         refine goA 1 ?_
         refine goA 1 ?_
         refine on_guard rfl rfl (fun c6 => ?_) (fun c6 => ?_)
         ·
          simp [ee] at c6
         ·
          simp [ee] at c6
          refine goA 1 ?_
          refine goA 1 ?_
          refine goA 1 ?_
          refine goA 1 ?_
          refine goA 1 ?_
          refine on_cond rfl (fun c7 => ?_) (fun c7 => ?_)
          ·
           simp [ee] at c7
          ·
           simp [ee] at c7
           refine goA 60 ?_
           refine fn_ret rfl rfl (.val ?_)
           exact congrArg (Value.int .i64) (by rw [hR]; clear ee hX; grind)
     ·
      refine tr_skipq (.inl rfl) ?_
      refine tr_skipq (.inl rfl) ?_
      refine tr_skipq (.inl rfl) ?_
      refine tr_skipq (.inl rfl) ?_
      refine tgA ?_
      refine tr_skipq (.inl rfl) ?_
      refine tr_skipq (.inl rfl) ?_
      refine tr_skipq (.inl rfl) ?_
      refine tr_skipq (.inl rfl) ?_
      refine tr_skipq (.inl rfl) ?_
      refine tgA ?_
      refine tr_nil ⟨rfl, by simp [LooksL, lookAll], ?_⟩
      refine goA 60 ?_
      refine fn_ret rfl rfl (.val ?_)
      exact congrArg (Value.int .i64) (by rw [hR]; clear ee hX; grind)
    ·
     refine tr_skipq (.inl rfl) ?_
     refine tr_skipq (.inl rfl) ?_
     refine tr_skipq (.inl rfl) ?_
     refine tr_skipq (.inl rfl) ?_
     refine tgA ?_
     refine tr_skipq (.inl rfl) ?_
     refine tr_skipq (.inl rfl) ?_
     refine tr_skipq (.inl rfl) ?_
     refine tr_skipq (.inl rfl) ?_
     refine tgA ?_
     refine tr_skipq (.inl rfl) ?_
     refine tr_skipq (.inl rfl) ?_
     refine tr_skipq (.inl rfl) ?_
     refine tr_skipq (.inl rfl) ?_
     refine tr_skipq (.inl rfl) ?_
     refine tgA ?_
     refine tr_nil ⟨rfl, by simp [LooksL, lookAll], ?_⟩
     refine goA 60 ?_
     refine fn_ret rfl rfl (.val ?_)
     exact congrArg (Value.int .i64) (by rw [hR]; clear ee hX; grind)
 ·
  refine goA 0 ?_
  refine on_cond rfl (fun c1 => ?_) (fun c1 => ?_)
  ·
   simp [ee] at c1
   refine goA 60 ?_
   refine fn_ret rfl rfl (.val ?_)
   exact congrArg (Value.int .i64) (by rw [hR]; clear ee hX; grind)
  ·
   simp [ee] at c1
   refine goA 60 ?_
   refine pcA h1 ?_
   refine goA 0 ?_
   refine on_cond rfl (fun c2 => ?_) (fun c2 => ?_)
   ·
    simp [ee] at c2
    refine goA 60 ?_
    refine fn_ret rfl rfl (.val ?_)
    exact congrArg (Value.int .i64) (by rw [hR]; clear ee hX; grind)
   ·
    simp [ee] at c2
    refine goA 60 ?_
    refine tr_drawB rfl (by conv => lhs; cbv) rfl ?_
    refine tgA ?_
    refine pcT h2 ?_
    refine tgA ?_
    refine pcT h3 ?_
    refine tgA ?_
    refine tr_skipq (.inl rfl) ?_
    refine tr_skipq (.inl rfl) ?_
    refine tgA ?_
    refine pcT h5 ?_
    refine tgA ?_
    refine tr_nil ⟨rfl, by simp [LooksL, lookAll], ?_⟩
    refine goA 60 ?_
    refine tr_drawB rfl (by conv => lhs; cbv) rfl ?_
    refine tgA ?_
    refine pcT b1 ?_
    refine tgA ?_
    cases d1
    ·
     refine tr_ung rfl ?_
     refine tgA ?_
     refine tr_ung rfl ?_
     refine tgA ?_
     refine tr_ung rfl ?_
     refine tgA ?_
     refine tr_ung rfl ?_
     refine pcT b2 ?_
     refine tgA ?_
     cases d2
     ·
      refine tr_ung rfl ?_
      refine tgA ?_
      refine tr_ung rfl ?_
      refine tgA ?_
      refine tr_ung rfl ?_
      refine tgA ?_
      refine tr_ung rfl ?_
      refine pcT b3t ?_
      refine tgA ?_
      cases d3
      ·
       refine tr_ung rfl ?_
       refine tgA ?_
       refine tr_ung rfl ?_
       refine pcT h4 ?_
       refine tr_ung rfl ?_
       refine tgA ?_
       refine tr_ung rfl ?_
       refine tgA ?_
       refine tr_ung rfl ?_
       refine pcT b4 ?_
       refine tgA ?_
       refine tr_nil ⟨rfl, by simp [LooksL, lookAll], ?_⟩
       refine goA 60 ?_
       refine pcA h6 ?_
       refine goA 0 ?_
       refine on_cond rfl (fun c3 => ?_) (fun c3 => ?_)
       ·
        simp [ee] at c3
        refine goA 60 ?_
        refine fn_ret rfl rfl (.val ?_)
        exact congrArg (Value.int .i64) (by rw [hR]; clear ee hX; grind)
       ·
        simp [ee] at c3
        refine goA 0 ?_
        refine nsB hX (by conv => lhs; cbv) ?_
        refine goA 0 ?_
        refine nsB hX (by conv => lhs; cbv) ?_
        refine goA 0 ?_
        refine on_guard rfl rfl (fun c4 => ?_) (fun c4 => ?_)
        ·
         simp [ee] at c4
        ·
         simp [ee] at c4
         refine goA 60 ?_
         refine pcG h4 ?_
         refine goA 0 ?_
         refine goA 1 ?_
         refine goA 1 ?_
         refine nsB hX (by conv => lhs; cbv) ?_
         refine goA 0 ?_
         refine on_guard rfl rfl (fun c5 => ?_) (fun c5 => ?_)
         ·
          simp [ee] at c5
          refine goA 60 ?_
          refine on_gskip rfl rfl ?_
          refine goA 60 ?_
          refine fn_ret rfl rfl (.val ?_)
          exact congrArg (Value.int .i64) (by rw [hR]; clear ee hX; grind)
         ·
          simp [ee] at c5
          refine goA 1 ?_
          refine goA 1 ?_
          refine goA 1 ?_
          refine on_guard rfl rfl (fun c6 => ?_) (fun c6 => ?_)
          ·
           simp [ee] at c6
          ·
           simp [ee] at c6
           refine goA 1 ?_
           refine goA 1 ?_
           refine goA 1 ?_
           refine goA 1 ?_
           refine goA 1 ?_
           refine on_cond rfl (fun c7 => ?_) (fun c7 => ?_)
           ·
            simp [ee] at c7
           ·
            simp [ee] at c7
            refine goA 60 ?_
            refine fn_ret rfl rfl (.val ?_)
            exact congrArg (Value.int .i64) (by rw [hR]; clear ee hX; grind)
      ·
       refine tr_skipq (.inl rfl) ?_
       refine tr_skipq (.inl rfl) ?_
       refine tr_skipq (.inl rfl) ?_
       refine tr_skipq (.inl rfl) ?_
       refine tr_skipq (.inl rfl) ?_
       refine tgA ?_
       refine tr_nil ⟨rfl, by simp [LooksL, lookAll], ?_⟩
       refine goA 60 ?_
       refine fn_ret rfl rfl (.val ?_)
       exact congrArg (Value.int .i64) (by rw [hR]; clear ee hX; grind)
     ·
      refine tr_skipq (.inl rfl) ?_
      refine tr_skipq (.inl rfl) ?_
      refine tr_skipq (.inl rfl) ?_
      refine tr_skipq (.inl rfl) ?_
      refine tgA ?_
      refine tr_skipq (.inl rfl) ?_
      refine tr_skipq (.inl rfl) ?_
      refine tr_skipq (.inl rfl) ?_
      refine tr_skipq (.inl rfl) ?_
      refine tr_skipq (.inl rfl) ?_
      refine tgA ?_
      refine tr_nil ⟨rfl, by simp [LooksL, lookAll], ?_⟩
      refine goA 60 ?_
      refine fn_ret rfl rfl (.val ?_)
      exact congrArg (Value.int .i64) (by rw [hR]; clear ee hX; grind)
    ·
     refine tr_skipq (.inl rfl) ?_
     refine tr_skipq (.inl rfl) ?_
     refine tr_skipq (.inl rfl) ?_
     refine tr_skipq (.inl rfl) ?_
     refine tgA ?_
     refine tr_skipq (.inl rfl) ?_
     refine tr_skipq (.inl rfl) ?_
     refine tr_skipq (.inl rfl) ?_
     refine tr_skipq (.inl rfl) ?_
     refine tgA ?_
     refine tr_skipq (.inl rfl) ?_
     refine tr_skipq (.inl rfl) ?_
     refine tr_skipq (.inl rfl) ?_
     refine tr_skipq (.inl rfl) ?_
     refine tr_skipq (.inl rfl) ?_
     refine tgA ?_
     refine tr_nil ⟨rfl, by simp [LooksL, lookAll], ?_⟩
     refine goA 60 ?_
     refine fn_ret rfl rfl (.val ?_)
     exact congrArg (Value.int .i64) (by rw [hR]; clear ee hX; grind)
 ·
  refine goA 0 ?_
  refine on_cond rfl (fun c1 => ?_) (fun c1 => ?_)
  ·
   simp [ee] at c1
   refine goA 60 ?_
   refine fn_ret rfl rfl (.val ?_)
   exact congrArg (Value.int .i64) (by rw [hR]; clear ee hX; grind)
  ·
   simp [ee] at c1
   refine goA 60 ?_
   refine pcA h1 ?_
   refine goA 0 ?_
   refine on_cond rfl (fun c2 => ?_) (fun c2 => ?_)
   ·
    simp [ee] at c2
    refine goA 60 ?_
    refine fn_ret rfl rfl (.val ?_)
    exact congrArg (Value.int .i64) (by rw [hR]; clear ee hX; grind)
   ·
    simp [ee] at c2
    refine goA 60 ?_
    refine tr_drawB rfl (by conv => lhs; cbv) rfl ?_
    refine tgA ?_
    refine pcT h2 ?_
    refine tgA ?_
    refine pcT h3 ?_
    refine tgA ?_
    refine tr_ung rfl ?_
    refine tgA ?_
    refine tr_ung rfl ?_
    refine pcT h4 ?_
    refine tgA ?_
    refine pcT h5 ?_
    refine tgA ?_
    refine tr_nil ⟨rfl, by simp [LooksL, lookAll], ?_⟩
    refine goA 60 ?_
    refine tr_drawB rfl (by conv => lhs; cbv) rfl ?_
    refine tgA ?_
    refine pcT b1 ?_
    refine tgA ?_
    refine tr_ung rfl ?_
    refine tgA ?_
    refine tr_ung rfl ?_
    refine tgA ?_
    refine tr_ung rfl ?_
    refine tgA ?_
    refine tr_ung rfl ?_
    refine pcT b2 ?_
    refine tgA ?_
    refine tr_ung rfl ?_
    refine tgA ?_
    refine tr_ung rfl ?_
    refine tgA ?_
    refine tr_ung rfl ?_
    refine tgA ?_
    refine tr_ung rfl ?_
    refine pcT b3t ?_
    refine tgA ?_
    cases d3
    ·
     refine tr_ung rfl ?_
     refine tgA ?_
     refine tr_ung rfl ?_
     refine pcT h4 ?_
     refine tr_ung rfl ?_
     refine tgA ?_
     refine tr_ung rfl ?_
     refine tgA ?_
     refine tr_ung rfl ?_
     refine pcT b4 ?_
     refine tgA ?_
     refine tr_nil ⟨rfl, by simp [LooksL, lookAll], ?_⟩
     refine goA 0 ?_
     refine on_cond rfl (fun c3 => ?_) (fun c3 => ?_)
     ·
      refine goA 60 ?_
      refine fn_ret rfl rfl (.val ?_)
      exact congrArg (Value.int .i64) (by rw [hR]; clear ee hX; grind)
     ·
      refine goA 0 ?_
      refine goA 1 ?_
      refine nsB hX (by conv => lhs; cbv) ?_
      refine goA 0 ?_
      refine nsB hX (by conv => lhs; cbv) ?_
      refine goA 0 ?_
      refine on_guard rfl rfl (fun c4 => ?_) (fun c4 => ?_)
      ·
       simp [ee] at c4
       refine goA 60 ?_
       refine on_gskip rfl rfl ?_
       refine goA 60 ?_
       refine on_gskip rfl rfl ?_
       refine goA 60 ?_
       refine fn_ret rfl rfl (.val ?_)
       exact congrArg (Value.int .i64) (by rw [hR]; clear ee hX; grind)
      ·
       simp [ee] at c4
       refine goA 60 ?_
       refine pcG h4 ?_
       refine goA 0 ?_
       refine goA 1 ?_
       refine goA 1 ?_
       refine nsB hX (by conv => lhs; cbv) ?_
       refine goA 0 ?_
       refine on_guard rfl rfl (fun c5 => ?_) (fun c5 => ?_)
       ·
        simp [ee] at c5
       ·
        simp [ee] at c5
        refine goA 1 ?_
        refine goA 1 ?_
        refine goA 1 ?_
        refine on_guard rfl rfl (fun c6 => ?_) (fun c6 => ?_)
        ·
         simp [ee] at c6
         refine goA 60 ?_
         refine on_lend rfl rfl h7 rfl ⟨[.gone], ⟨trivial, trivial⟩, ⟨.cl hccl, .agg' ⟨.refl _, .nilI _, .refl _, .refl _, .refl _, .refl _, .refl _, .refl _, trivial⟩, trivial⟩⟩ ?_
         refine goA 0 ?_
         refine goA 1 ?_
         refine on_cond rfl (fun c7 => ?_) (fun c7 => ?_)
         ·
          simp [ee] at c7
          refine goA 60 ?_
          refine fn_ret rfl rfl (.val ?_)
          exact congrArg (Value.int .i64) (by rw [hR]; clear ee hX; grind)
         ·
          simp [ee] at c7
          refine goA 60 ?_
          refine fn_ret rfl rfl (.val ?_)
          exact congrArg (Value.int .i64) (by rw [hR]; clear ee hX; grind)
        ·
         simp [ee] at c6
    ·
     refine tr_skipq (.inl rfl) ?_
     refine tr_skipq (.inl rfl) ?_
     refine tr_skipq (.inl rfl) ?_
     refine tr_skipq (.inl rfl) ?_
     refine tr_skipq (.inl rfl) ?_
     refine tgA ?_
     refine tr_nil ⟨rfl, by simp [LooksL, lookAll], ?_⟩
     refine goA 60 ?_
     refine fn_ret rfl rfl (.val ?_)
     exact congrArg (Value.int .i64) (by rw [hR]; clear ee hX; grind)
 ·
  refine goA 0 ?_
  refine on_cond rfl (fun c1 => ?_) (fun c1 => ?_)
  ·
   simp [ee] at c1
   refine goA 60 ?_
   refine fn_ret rfl rfl (.val ?_)
   exact congrArg (Value.int .i64) (by rw [hR]; clear ee hX; grind)
  ·
   simp [ee] at c1
   refine goA 60 ?_
   refine pcA h1 ?_
   refine goA 0 ?_
   refine on_cond rfl (fun c2 => ?_) (fun c2 => ?_)
   ·
    simp [ee] at c2
    refine goA 60 ?_
    refine fn_ret rfl rfl (.val ?_)
    exact congrArg (Value.int .i64) (by rw [hR]; clear ee hX; grind)
   ·
    simp [ee] at c2
    refine goA 60 ?_
    refine tr_drawB rfl (by conv => lhs; cbv) rfl ?_
    refine tgA ?_
    refine pcT h2 ?_
    refine tgA ?_
    refine pcT h3 ?_
    refine tgA ?_
    refine tr_ung rfl ?_
    refine tgA ?_
    refine tr_ung rfl ?_
    refine pcT h4 ?_
    refine tgA ?_
    refine pcT h5 ?_
    refine tgA ?_
    refine tr_nil ⟨rfl, by simp [LooksL, lookAll], ?_⟩
    refine goA 60 ?_
    refine tr_drawB rfl (by conv => lhs; cbv) rfl ?_
    refine tgA ?_
    refine pcT b1 ?_
    refine tgA ?_
    refine tr_ung rfl ?_
    refine tgA ?_
    refine tr_ung rfl ?_
    refine tgA ?_
    refine tr_ung rfl ?_
    refine tgA ?_
    refine tr_ung rfl ?_
    refine pcT b2 ?_
    refine tgA ?_
    refine tr_ung rfl ?_
    refine tgA ?_
    refine tr_ung rfl ?_
    refine tgA ?_
    refine tr_ung rfl ?_
    refine tgA ?_
    refine tr_ung rfl ?_
    refine pcT b3f ?_
    refine tgA ?_
    refine tr_ung rfl ?_
    refine tgA ?_
    refine tr_ung rfl ?_
    refine pcT h4 ?_
    refine tr_ung rfl ?_
    refine tgA ?_
    refine tr_ung rfl ?_
    refine tgA ?_
    refine tr_ung rfl ?_
    refine pcT b4 ?_
    refine tgA ?_
    refine tr_nil ⟨rfl, by simp [LooksL, lookAll], ?_⟩
    refine goA 60 ?_
    refine pcA h6 ?_
    refine goA 0 ?_
    refine on_cond rfl (fun c3 => ?_) (fun c3 => ?_)
    ·
     simp [ee] at c3
     refine goA 60 ?_
     refine fn_ret rfl rfl (.val ?_)
     exact congrArg (Value.int .i64) (by rw [hR]; clear ee hX; grind)
    ·
     simp [ee] at c3
     refine goA 0 ?_
     refine nsB hX (by conv => lhs; cbv) ?_
     refine goA 0 ?_
     refine nsB hX (by conv => lhs; cbv) ?_
     refine goA 0 ?_
     refine on_guard rfl rfl (fun c4 => ?_) (fun c4 => ?_)
     ·
      simp [ee] at c4
      refine goA 60 ?_
      refine on_gskip rfl rfl ?_
      refine goA 60 ?_
      refine on_gskip rfl rfl ?_
      refine goA 60 ?_
      refine fn_ret rfl rfl (.val ?_)
      exact congrArg (Value.int .i64) (by rw [hR]; clear ee hX; grind)
     ·
      simp [ee] at c4
      refine goA 60 ?_
      refine pcG h4 ?_
      refine goA 0 ?_
      refine goA 1 ?_
      refine goA 1 ?_
      refine nsB hX (by conv => lhs; cbv) ?_
      refine goA 0 ?_
      refine on_guard rfl rfl (fun c5 => ?_) (fun c5 => ?_)
      ·
       simp [ee] at c5
       refine goA 60 ?_
       refine on_gskip rfl rfl ?_
       refine goA 60 ?_
       refine fn_ret rfl rfl (.val ?_)
       exact congrArg (Value.int .i64) (by rw [hR]; clear ee hX; grind)
      ·
       simp [ee] at c5
       refine goA 1 ?_
       refine goA 1 ?_
       refine goA 1 ?_
       refine on_guard rfl rfl (fun c6 => ?_) (fun c6 => ?_)
       ·
        simp [ee] at c6
       ·
        simp [ee] at c6
        refine goA 1 ?_
        refine goA 1 ?_
        refine goA 1 ?_
        refine goA 1 ?_
        refine goA 1 ?_
        refine on_cond rfl (fun c7 => ?_) (fun c7 => ?_)
        ·
         simp [ee] at c7
        ·
         simp [ee] at c7
         refine goA 60 ?_
         refine fn_ret rfl rfl (.val ?_)
         exact congrArg (Value.int .i64) (by rw [hR]; clear ee hX; grind)
 ·
  refine goA 0 ?_
  refine on_cond rfl (fun c1 => ?_) (fun c1 => ?_)
  ·
   simp [ee] at c1
   refine goA 60 ?_
   refine fn_ret rfl rfl (.val ?_)
   exact congrArg (Value.int .i64) (by rw [hR]; clear ee hX; grind)
  ·
   simp [ee] at c1
   refine goA 60 ?_
   refine pcA h1 ?_
   refine goA 0 ?_
   refine on_cond rfl (fun c2 => ?_) (fun c2 => ?_)
   ·
    simp [ee] at c2
    refine goA 60 ?_
    refine fn_ret rfl rfl (.val ?_)
    exact congrArg (Value.int .i64) (by rw [hR]; clear ee hX; grind)
   ·
    simp [ee] at c2
    refine goA 60 ?_
    refine tr_drawB rfl (by conv => lhs; cbv) rfl ?_
    refine tgA ?_
    refine pcT h2 ?_
    refine tgA ?_
    refine pcT h3 ?_
    refine tgA ?_
    refine tr_ung rfl ?_
    refine tgA ?_
    refine tr_ung rfl ?_
    refine pcT h4 ?_
    refine tgA ?_
    refine pcT h5 ?_
    refine tgA ?_
    refine tr_nil ⟨rfl, by simp [LooksL, lookAll], ?_⟩
    refine goA 60 ?_
    refine tr_drawB rfl (by conv => lhs; cbv) rfl ?_
    refine tgA ?_
    refine pcT b1 ?_
    refine tgA ?_
    refine tr_ung rfl ?_
    refine tgA ?_
    refine tr_ung rfl ?_
    refine tgA ?_
    refine tr_ung rfl ?_
    refine tgA ?_
    refine tr_ung rfl ?_
    refine pcT b2 ?_
    refine tgA ?_
    refine tr_ung rfl ?_
    refine tgA ?_
    refine tr_ung rfl ?_
    refine tgA ?_
    refine tr_ung rfl ?_
    refine tgA ?_
    refine tr_ung rfl ?_
    refine pcT b3f ?_
    refine tgA ?_
    refine tr_ung rfl ?_
    refine tgA ?_
    refine tr_ung rfl ?_
    refine pcT h4 ?_
    refine tr_ung rfl ?_
    refine tgA ?_
    refine tr_ung rfl ?_
    refine tgA ?_
    refine tr_ung rfl ?_
    refine pcT b4 ?_
    refine tgA ?_
    refine tr_nil ⟨rfl, by simp [LooksL, lookAll], ?_⟩
    refine goA 0 ?_
    refine goA 1 ?_
    refine goA 1 ?_
    refine nsB hX (by conv => lhs; cbv) ?_
    refine goA 0 ?_
    refine nsB hX (by conv => lhs; cbv) ?_
    refine goA 0 ?_
    refine on_guard rfl rfl (fun c3 => ?_) (fun c3 => ?_)
    ·
     simp [ee] at c3
     refine goA 60 ?_
     refine on_gskip rfl rfl ?_
     refine goA 60 ?_
     refine on_gskip rfl rfl ?_
     refine goA 60 ?_
     refine fn_ret rfl rfl (.val ?_)
     exact congrArg (Value.int .i64) (by rw [hR]; clear ee hX; grind)
    ·
     simp [ee] at c3
     refine goA 60 ?_
     refine pcG h4 ?_
     refine goA 0 ?_
     refine goA 1 ?_
     refine goA 1 ?_
     refine nsB hX (by conv => lhs; cbv) ?_
     refine goA 0 ?_
     refine on_guard rfl rfl (fun c4 => ?_) (fun c4 => ?_)
     ·
      simp [ee] at c4
      refine goA 60 ?_
      refine on_gskip rfl rfl ?_
      refine goA 60 ?_
      refine fn_ret rfl rfl (.val ?_)
      exact congrArg (Value.int .i64) (by rw [hR]; clear ee hX; grind)
     ·
      simp [ee] at c4
      refine goA 1 ?_
      refine goA 1 ?_
      refine goA 1 ?_
      refine on_guard rfl rfl (fun c5 => ?_) (fun c5 => ?_)
      ·
       simp [ee] at c5
       refine goA 60 ?_
       refine on_lend rfl rfl h7 rfl ⟨[.gone], ⟨trivial, trivial⟩, ⟨.cl hccl, .agg' ⟨.refl _, .nilI _, .refl _, .refl _, .refl _, .refl _, .refl _, .refl _, trivial⟩, trivial⟩⟩ ?_
       refine goA 0 ?_
       refine goA 1 ?_
       refine on_cond rfl (fun c6 => ?_) (fun c6 => ?_)
       ·
        simp [ee] at c6
        refine goA 60 ?_
        refine fn_ret rfl rfl (.val ?_)
        exact congrArg (Value.int .i64) (by rw [hR]; clear ee hX; grind)
       ·
        simp [ee] at c6
        refine goA 60 ?_
        refine fn_ret rfl rfl (.val ?_)
        exact congrArg (Value.int .i64) (by rw [hR]; clear ee hX; grind)
      ·
       simp [ee] at c5
mutual
def Pat.tot (lim : Nat) : Pat → Nat
 | .mk _ a _ _ _ _ _ => Pat.totL lim 1 a
def Pat.totL (lim : Nat) : Nat → List Pat → Nat
 | n, [] => n
 | n, e :: r => if n ≤ lim then Pat.totL lim (n + e.tot lim) r else n
end
theorem Pat.totL_le {lim : Nat} {l : List Pat} (h : ∀ e ∈ l, e.tot lim ≤ e.cnt) : ∀ n, Pat.totL lim n l ≤ n + Pat.cntL l := by
 induction l with
 | nil => intro n; simp [Pat.totL]
 | cons e r ih =>
  intro n
  have h1 := h e (by simp)
  have h2 := ih (fun e he => h e (by simp [he])) (n + e.tot lim)
  simp only [Pat.totL, Pat.cntL]; split <;> omega
theorem Pat.tot_le (lim : Nat) : ∀ e : Pat, e.tot lim ≤ e.cnt := Pat.ind fun o a t v s n c h => by
 have := Pat.totL_le h 1
 simp only [Pat.tot, Pat.cnt]; omega
theorem Pat.totL_eq {lim : Nat} {l : List Pat} (h : ∀ e ∈ l, e.cnt ≤ lim → e.tot lim = e.cnt) : ∀ n, n + Pat.cntL l ≤ lim → Pat.totL lim n l = n + Pat.cntL l := by
 induction l with
 | nil => intro n _; simp [Pat.totL, Pat.cntL]
 | cons e r ih =>
  intro n hn
  simp only [Pat.cntL] at hn ⊢
  have h1 := h e (by simp) (by omega)
  rw [Pat.totL, if_pos (by omega), ih (fun e he => h e (by simp [he])) _ (by omega)]; omega
theorem Pat.tot_eq {lim : Nat} : ∀ e : Pat, e.cnt ≤ lim → e.tot lim = e.cnt := Pat.ind fun o a t v s n c h hl => by
 simp only [Pat.tot, Pat.cnt] at hl ⊢
 exact Pat.totL_eq h 1 hl
theorem Pat.totL_gt {lim : Nat} {l : List Pat} (h : ∀ e ∈ l, lim < e.cnt → lim < e.tot lim) : ∀ n, lim < n + Pat.cntL l → lim < Pat.totL lim n l := by
 induction l with
 | nil => intro n hn; simpa [Pat.totL, Pat.cntL] using hn
 | cons e r ih =>
  intro n hn
  simp only [Pat.cntL] at hn
  rw [Pat.totL]
  split
  · refine ih (fun e he => h e (by simp [he])) _ ?_
    by_cases hc : e.cnt ≤ lim
    · rw [Pat.tot_eq e hc]; omega
    · have := h e (by simp) (by omega); omega
  · omega
theorem Pat.tot_gt {lim : Nat} : ∀ e : Pat, lim < e.cnt → lim < e.tot lim := Pat.ind fun o a t v s n c h hl => by
 simp only [Pat.tot, Pat.cnt] at hl ⊢
 exact Pat.totL_gt h 1 hl
theorem Pat.tot_iff (e : Pat) (lim : Nat) : e.tot lim ≤ lim ↔ e.cnt ≤ lim := by
 by_cases h : e.cnt ≤ lim
 · rw [Pat.tot_eq e h]
 · have := Pat.tot_gt (lim := lim) e (by omega); omega
theorem P_ref09_Total (lim : Nat) (hlim : lim ≤ 1099511627776) : ∀ p : Pat, p.Sm → PCall EE 29 [p.enc, int lim] (int (p.tot lim)) := by
 generalize hli : (lim : Int) = li
 refine Pat.ind ?_
 intro o a t v s n c ih hs
 obtain ⟨co, ca, cv, cf, ck, xk, xn, xt⟩ := c
 have hlen := hs.len
 have hih : ∀ q ∈ a, PCall EE 29 [q.enc, int li] (int (q.tot lim)) := fun q hq => ih q hq (hs.arg hq)
 have hcl := Pat.closedI a
 have hce := Ex.closedI ca
 have hcnt : Pat.cntL a ≤ 1048576 := by have hs := hs.1; simp only [Pat.cnt] at hs; omega
 have hde := fun q : Pat => Pat.tot_le lim q
 simp only [Pat.tot]
 obtain ⟨R, hR⟩ : ∃ R, R = Pat.totL lim 1 a := ⟨_, rfl⟩
 rw [← hR, Pat.enc_mk]
 refine wordsN ?_; unhygienic intros
 generalize hes : mapE Pat.enc a = es at *
 generalize mapE Ex.enc ca = ec at *
 have hel : es.length = a.length := by rw [← hes, mapE_len]
 refine fn_body (fn := Tryz.f29) (n := 29) (ac := Tryzc29) (rvs := [.t 4]) rfl (by decide) Tryzp29 rfl rfl rfl ?_
 refine goA 60 ?_
 refine on_loopP (ι := List Pat × List Pat × Int × Int) (fun p => ([(5, int p.2.2.2), (6, int p.2.2.1), (1, int li), (2, .ptr 0 0)], [.cells [int o, .isl 14 es, int t, int v, int s, int n, int co, .isl 8 ec, int cv, int cf, int ck, int xk, int xn, str xt]])) (fun p => a = p.1 ++ p.2.1 ∧ p.2.2.1 = p.1.length ∧ p.2.2.2 ≤ 1 + Pat.cntL p.1 ∧ 0 ≤ p.2.2.2 ∧ R = Pat.totL lim p.2.2.2.toNat p.2.1) (fun p => p.2.1.length) ([], a, 0, 1) ⟨rfl, rfl, by simp [Pat.cntL], by simp, hR⟩ ?_ ?_
 · exact (ent_sub [.to 0] [some 0] ⟨⟨by simp, rfl⟩, trivial⟩ ⟨osrc_cells (b := 0) rfl rfl rfl ⟨.refl _, .cl hcl, .refl _, .refl _, .refl _, .refl _, .refl _, .cl hce, .refl _, .refl _, .refl _, .refl _, .refl _, .refl _, trivial⟩, trivial⟩ ⟨.refl _, .refl _, .refl _, .refl _, trivial⟩)
 rintro ⟨d, r, i, nn⟩ ⟨g1, gi, gn, gp, gt⟩
 dsimp only at g1 gi gn gp gt ⊢
 have hnt : (nn.toNat : Int) = nn := Int.toNat_of_nonneg gp
 cases r with
 | nil =>
  have L1 := len_split g1
  try simp only [List.length_cons, List.length_nil] at L1
  have hc : iLt i (lenA es) = false := lt_f e_iLt e_lenA (by omega)
  rw [Pat.totL] at gt
  have hv : nn = (R : Int) := by omega
  have hb : ∀ b, bAnd false b = false := by simp [ee]
  refine goB hX 0 (by conv => lhs; cbv; try simp only [hc, hb]; cbv; try simp only [hc, hb]; cbv; try simp only [hc, hb]; cbv; try simp only [hc, hb]; cbv) ?_
  refine goA 60 ?_
  refine loopP_exit ?_
  refine goA 60 ?_
  refine fn_ret rfl rfl (.val ?_)
  exact congrArg (Value.int .i64) hv
 | cons q r =>
  have L1 := len_split g1
  try simp only [List.length_cons, List.length_nil] at L1
  have hc : iLt i (lenA es) = true := lt_t e_iLt e_lenA (by omega)
  have hat := el_at e_atA hes g1 gi
  have hq := hih q (by rw [g1]; simp)
  have hqc := Pat.closed q
  have hqd := hde q
  rw [g1, Pat.cntL_append, Pat.cntL] at hcnt
  obtain ⟨qO, qA, qT, qV, qS, qN, qCo, qCa, qCv, qCf, qCk, qXk, qXn, qXt, hx⟩ := Pat.form q
  rw [hx] at hq hat hqc
  have hb : ∀ b, bAnd true b = b := by simp [ee]
  rw [Pat.totL] at gt
  by_cases hle : nn ≤ li
  · have h2 : iLe nn li = true := by simp [ee]; omega
    rw [if_pos (by omega)] at gt
    generalize hqn : (q.tot lim : Int) = qn at hq
    have hn2 : iAdd .i64 nn qn = nn + qn := add_w e_iAdd (by omega) (by omega)
    have hi2 : iAdd .i64 i 1 = ((d ++ [q]).length : Int) := by rw [List.length_append]; exact inc_w e_iAdd gi (by omega)
    have hn4 : iAdd .i64 nn qn ≤ 1 + Pat.cntL (d ++ [q]) ∧ 0 ≤ iAdd .i64 nn qn := by rw [Pat.cntL_append, Pat.cntL, Pat.cntL, hn2]; omega
    have hn3 : (iAdd .i64 nn qn).toNat = nn.toNat + q.tot lim := by omega
    refine goB hX 0 (by conv => lhs; cbv; try simp only [hc, hat, hb, h2]; cbv; try simp only [hc, hat, hb, h2]; cbv; try simp only [hc, hat, hb, h2]; cbv; try simp only [hc, hat, hb, h2]; cbv) ?_
    refine goB hX 1 (by conv => lhs; cbv; try simp only [hc, hat, hb, h2]; cbv; try simp only [hc, hat, hb, h2]; cbv; try simp only [hc, hat, hb, h2]; cbv; try simp only [hc, hat, hb, h2]; cbv) ?_
    refine pcA hq ?_
    refine goA 60 ?_
    refine loopP_next (d ++ [q], r, iAdd .i64 i 1, iAdd .i64 nn qn) ⟨by simp [g1], hi2, hn4.1, hn4.2, hn3 ▸ gt⟩ (by simp) (ent_sub [.to 0] [some 0] ⟨⟨by simp, rfl⟩, trivial⟩ ⟨osrc_cells (b := 0) rfl rfl rfl ⟨.refl _, .cl hcl, .refl _, .refl _, .refl _, .refl _, .refl _, .cl hce, .refl _, .refl _, .refl _, .refl _, .refl _, .refl _, trivial⟩, trivial⟩ ⟨.refl _, .refl _, .refl _, .refl _, trivial⟩)
  · have h2 : iLe nn li = false := by simp [ee]; omega
    rw [if_neg (by omega)] at gt
    have hv : nn = (R : Int) := by omega
    refine goB hX 0 (by conv => lhs; cbv; try simp only [hc, hat, hb, h2]; cbv; try simp only [hc, hat, hb, h2]; cbv; try simp only [hc, hat, hb, h2]; cbv; try simp only [hc, hat, hb, h2]; cbv) ?_
    refine goA 60 ?_
    refine loopP_exit ?_
    refine goA 60 ?_
    refine fn_ret rfl rfl (.val ?_)
    exact congrArg (Value.int .i64) hv
theorem cnt_node : ∀ p : Pat, ∀ q ∈ p.nodes, q.cnt ≤ p.cnt ∧ q.dep ≤ p.dep ∧ (∀ x ∈ q.nodes, x ∈ p.nodes) := by
 refine Pat.ind fun o a t v s n c ih q hq => ?_
 rw [Pat.nodes, List.mem_cons] at hq
 rcases hq with rfl | hq
 · exact ⟨Nat.le_refl _, Nat.le_refl _, fun x hx => hx⟩
 · obtain ⟨e, he, hqe⟩ := Pat.mem_nodesL hq
   obtain ⟨h1, h2, h3⟩ := ih e he q hqe
   have h4 := Pat.cnt_mem he
   have h5 : e.dep ≤ Pat.depL 0 a := by
    have : ∀ (l : List Pat) (d : Nat), d ≤ Pat.depL d l ∧ ∀ e ∈ l, e.dep ≤ Pat.depL d l := by
     intro l
     induction l with
     | nil => intro d; simp [Pat.depL]
     | cons x r ih =>
      intro d
      have := ih (max d x.dep)
      rw [Pat.depL]
      refine ⟨by omega, fun e he => ?_⟩
      rcases List.mem_cons.1 he with rfl | he
      · omega
      · exact this.2 e he
    exact (this a 0).2 e he
   refine ⟨by rw [Pat.cnt]; omega, by rw [Pat.dep]; omega, fun x hx => ?_⟩
   rw [Pat.nodes]
   refine List.mem_cons_of_mem _ ?_
   obtain ⟨l1, l2, rfl⟩ := List.append_of_mem he
   rw [Pat.nodesL_append, Pat.nodesL]
   simp [h3 x hx]
theorem P_ref09_CheckRest (p : Pat) (hs : p.Sm) : PCall EE 20 [p.enc] (int p.chkR) := by
 have h1 := P_ref09_Total 64 (by decide) p hs
 have h2 := P_ref09_Depth p hs
 have h3 := P_ref09_Nodes p hs
 have htot := Pat.tot_iff p 64
 have hnd := hs.node
 have hcn := cnt_node p
 have hcl := Pat.closed p
 obtain ⟨R, hR⟩ : ∃ R, R = p.chkR := ⟨_, rfl⟩
 rw [← hR]
 unfold Pat.chkR at hR
 obtain ⟨tt, htt⟩ : ∃ z : Int, z = p.tot 64 := ⟨_, rfl⟩
 obtain ⟨dp, hdp⟩ : ∃ z : Int, z = p.dep := ⟨_, rfl⟩
 rw [← htt] at h1
 rw [← hdp] at h2
 have hnl := Pat.nodes_len p
 have hqn : p.cnt ≤ 64 → ∀ q ∈ p.nodes, PCall EE 55 [q.enc] (int q.nodeE) := fun hc q hq => P_ref09_node q (hnd q hq) (by
  have h1 := (hcn q hq).1
  obtain ⟨o, a, t, v, s, n, c⟩ := q
  have := Pat.cntL_len a
  simp only [Pat.cnt, Pat.args] at h1 ⊢
  omega)
 have hnc := Pat.closedI p.nodes
 generalize hnn : p.nodes = nl at *
 obtain ⟨pO, pA, pT, pV, pS, pN, pCo, pCa, pCv, pCf, pCk, pXk, pXn, pXt, hx⟩ := Pat.form p
 rw [hx] at h1 h2 h3 hcl ⊢
 refine wordsN ?_; unhygienic intros
 generalize hes : mapE Pat.enc nl = es at *
 have hel : es.length = nl.length := by rw [← hes, mapE_len]
 refine fn_body (fn := Tryz.f20) (n := 28) (ac := Tryzc20) (rvs := [.t 2]) rfl (by decide) Tryzp20 rfl rfl rfl ?_
 by_cases g1 : tt ≤ 64
 rotate_left
 · have k1 : iLt 64 tt = true := by simp only [ee]; simp; omega
   rw [if_pos (by omega)] at hR
   refine goA 60 ?_
   refine pcA h1 ?_
   refine goB hX 0 (by conv => lhs; cbv; try simp only [k1]; cbv; try simp only [k1]; cbv; try simp only [k1]; cbv; try simp only [k1]; cbv) ?_
   refine goA 60 ?_
   refine fn_ret rfl rfl (.val ?_)
   exact congrArg (Value.int .i64) hR.symm
 have k1 : iLt 64 tt = false := by simp only [ee]; simp; omega
 rw [if_neg (by omega)] at hR
 have hqn := hqn (by omega)
 by_cases g2 : dp ≤ 12
 rotate_left
 · have k2 : iLt 12 dp = true := by simp only [ee]; simp; omega
   rw [if_pos (by omega)] at hR
   refine goA 60 ?_
   refine pcA h1 ?_
   refine goB hX 0 (by conv => lhs; cbv; try simp only [k1, k2]; cbv; try simp only [k1, k2]; cbv; try simp only [k1, k2]; cbv; try simp only [k1, k2]; cbv) ?_
   refine goA 60 ?_
   refine pcA h2 ?_
   refine goB hX 0 (by conv => lhs; cbv; try simp only [k1, k2]; cbv; try simp only [k1, k2]; cbv; try simp only [k1, k2]; cbv; try simp only [k1, k2]; cbv) ?_
   refine goA 60 ?_
   refine fn_ret rfl rfl (.val ?_)
   exact congrArg (Value.int .i64) hR.symm
 have k2 : iLt 12 dp = false := by simp only [ee]; simp; omega
 rw [if_neg (by omega)] at hR
 refine goA 60 ?_
 refine pcA h1 ?_
 refine goB hX 0 (by conv => lhs; cbv; try simp only [k1, k2]; cbv; try simp only [k1, k2]; cbv; try simp only [k1, k2]; cbv; try simp only [k1, k2]; cbv) ?_
 refine goA 60 ?_
 refine pcA h2 ?_
 refine goB hX 0 (by conv => lhs; cbv; try simp only [k1, k2]; cbv; try simp only [k1, k2]; cbv; try simp only [k1, k2]; cbv; try simp only [k1, k2]; cbv) ?_
 refine goA 60 ?_
 refine pcA h3 ?_
 refine goA 60 ?_
 refine on_loopP (ι := List Pat × List Pat × Int) (fun p => ([(4, int p.2.2), (3, .isl 14 es)], [])) (fun p => nl = p.1 ++ p.2.1 ∧ p.2.2 = p.1.length ∧ R = firstE Pat.nodeE p.2.1) (fun p => p.2.1.length) ([], nl, 0) ⟨rfl, rfl, hR⟩ ?_ ?_
 · exact (ent_sub [.gone] [] ⟨trivial, trivial⟩ trivial ⟨.refl _, .cl hnc, trivial⟩)
 rintro ⟨d, r, i⟩ ⟨g1, gi, gR⟩
 dsimp only at g1 gi gR ⊢
 cases r with
 | nil =>
  have L1 := len_split g1
  try simp only [List.length_cons, List.length_nil] at L1
  have hc : iLt i (lenA es) = false := lt_f e_iLt e_lenA (by omega)
  have gR : R = 0 := gR
  refine goB hX 0 (by conv => lhs; cbv; try simp only [hc]; cbv; try simp only [hc]; cbv; try simp only [hc]; cbv; try simp only [hc]; cbv) ?_
  refine goA 60 ?_
  refine loopP_exit ?_
  refine goA 60 ?_
  refine fn_ret rfl rfl (.val ?_)
  exact congrArg (Value.int .i64) gR.symm
 | cons q r =>
  have L1 := len_split g1
  try simp only [List.length_cons, List.length_nil] at L1
  have hc : iLt i (lenA es) = true := lt_t e_iLt e_lenA (by omega)
  have hat := el_at e_atA hes g1 gi
  have hq := hqn q (by rw [g1]; simp)
  have hqc := Pat.closed q
  rw [firstE] at gR
  obtain ⟨qO, qA, qT, qV, qS, qN, qCo, qCa, qCv, qCf, qCk, qXk, qXn, qXt, hy⟩ := Pat.form q
  rw [hy] at hat hqc hq
  have hi2 : iAdd .i64 i 1 = ((d ++ [q]).length : Int) := by rw [List.length_append]; exact inc_w e_iAdd gi (by omega)
  generalize q.nodeE = fq at *
  by_cases h2 : fq = 0
  · have w2 : iNe fq 0 = false := by simp only [ee]; simpa using h2
    rw [if_neg (by simpa using h2)] at gR
    refine goB hX 0 (by conv => lhs; cbv; try simp only [hc, hat, w2]; cbv; try simp only [hc, hat, w2]; cbv; try simp only [hc, hat, w2]; cbv; try simp only [hc, hat, w2]; cbv) ?_
    refine goB hX 1 (by conv => lhs; cbv; try simp only [hc, hat, w2]; cbv; try simp only [hc, hat, w2]; cbv; try simp only [hc, hat, w2]; cbv; try simp only [hc, hat, w2]; cbv) ?_
    refine pcA hq ?_
    refine goB hX 0 (by conv => lhs; cbv; try simp only [hc, hat, w2]; cbv; try simp only [hc, hat, w2]; cbv; try simp only [hc, hat, w2]; cbv; try simp only [hc, hat, w2]; cbv) ?_
    refine goA 60 ?_
    refine loopP_next (d ++ [q], r, iAdd .i64 i 1) ⟨by simp [g1], hi2, gR⟩ (by simp) (ent_sub [] [] trivial trivial ⟨.refl _, .cl hnc, trivial⟩)
  · have w2 : iNe fq 0 = true := by simp only [ee]; simpa using h2
    rw [if_pos h2] at gR
    refine goB hX 0 (by conv => lhs; cbv; try simp only [hc, hat, w2]; cbv; try simp only [hc, hat, w2]; cbv; try simp only [hc, hat, w2]; cbv; try simp only [hc, hat, w2]; cbv) ?_
    refine goB hX 1 (by conv => lhs; cbv; try simp only [hc, hat, w2]; cbv; try simp only [hc, hat, w2]; cbv; try simp only [hc, hat, w2]; cbv; try simp only [hc, hat, w2]; cbv) ?_
    refine pcA hq ?_
    refine goB hX 0 (by conv => lhs; cbv; try simp only [hc, hat, w2]; cbv; try simp only [hc, hat, w2]; cbv; try simp only [hc, hat, w2]; cbv; try simp only [hc, hat, w2]; cbv) ?_
    refine goA 60 ?_
    refine loopP_ret ?_
    refine goA 60 ?_
    refine fn_ret rfl rfl (.val ?_)
    exact congrArg (Value.int .i64) gR.symm
def properB (l : List Pat) : Bool := l.all fun q => decide (q.op < 8)
theorem P_proper (nl : List Pat) (hlen : nl.length < 1048577) : PCall EE 45 [.isl 14 (mapE Pat.enc nl)] (bool (properB nl)) := by
 obtain ⟨R, hR⟩ : ∃ R, R = properB nl := ⟨_, rfl⟩
 rw [← hR]
 have hnc := Pat.closedI nl
 refine wordsN ?_; unhygienic intros
 generalize hes : mapE Pat.enc nl = es at *
 have hel : es.length = nl.length := by rw [← hes, mapE_len]
 refine fn_body (fn := Tryz.f45) (n := 16) (ac := Tryzc45) (rvs := [.t 2]) rfl (by decide) Tryzp45 rfl rfl rfl ?_
 refine goA 60 ?_
 refine on_loopP (ι := List Pat × List Pat × Int) (fun p => ([(3, int p.2.2), (0, .isl 14 es)], [])) (fun p => nl = p.1 ++ p.2.1 ∧ p.2.2 = p.1.length ∧ R = properB p.2.1) (fun p => p.2.1.length) ([], nl, 0) ⟨rfl, rfl, hR⟩ ?_ ?_
 · exact (ent_sub [] [] trivial trivial ⟨.refl _, .cl hnc, trivial⟩)
 rintro ⟨d, r, i⟩ ⟨g1, gi, gR⟩
 dsimp only at g1 gi gR ⊢
 cases r with
 | nil =>
  have L1 := len_split g1
  try simp only [List.length_cons, List.length_nil] at L1
  have hc : iLt i (lenA es) = false := lt_f e_iLt e_lenA (by omega)
  have gR : R = true := gR
  refine goB hX 0 (by conv => lhs; cbv; try simp only [hc]; cbv; try simp only [hc]; cbv; try simp only [hc]; cbv; try simp only [hc]; cbv) ?_
  refine goA 60 ?_
  refine loopP_exit ?_
  refine goA 60 ?_
  refine fn_ret rfl rfl (.val ?_)
  exact congrArg Value.bool gR.symm
 | cons q r =>
  have L1 := len_split g1
  try simp only [List.length_cons, List.length_nil] at L1
  have hc : iLt i (lenA es) = true := lt_t e_iLt e_lenA (by omega)
  have hat := el_at e_atA hes g1 gi
  have gR : R = (decide (q.op < 8) && properB r) := gR
  obtain ⟨qO, qA, qT, qV, qS, qN, qCo, qCa, qCv, qCf, qCk, qXk, qXn, qXt, hy, hyc, hqO, hqA, hqT, hqV, hqS, hqN⟩ := Pat.form2 q
  rw [hy] at hat
  rw [← hqO] at gR
  have hi2 : iAdd .i64 i 1 = ((d ++ [q]).length : Int) := by rw [List.length_append]; exact inc_w e_iAdd gi (by omega)
  by_cases h2 : qO < 8
  · have w2 : iLe 8 qO = false := by simp only [ee]; simp; omega
    have gR : R = properB r := by rw [gR]; simp [h2]
    refine goB hX 0 (by conv => lhs; cbv; try simp only [hc, hat, w2]; cbv; try simp only [hc, hat, w2]; cbv; try simp only [hc, hat, w2]; cbv; try simp only [hc, hat, w2]; cbv) ?_
    refine goB hX 1 (by conv => lhs; cbv; try simp only [hc, hat, w2]; cbv; try simp only [hc, hat, w2]; cbv; try simp only [hc, hat, w2]; cbv; try simp only [hc, hat, w2]; cbv) ?_
    refine goA 60 ?_
    refine loopP_next (d ++ [q], r, iAdd .i64 i 1) ⟨by simp [g1], hi2, gR⟩ (by simp) (ent_sub [] [] trivial trivial ⟨.refl _, .cl hnc, trivial⟩)
  · have w2 : iLe 8 qO = true := by simp only [ee]; simp; omega
    have gR : R = false := by rw [gR]; simp [h2]
    refine goB hX 0 (by conv => lhs; cbv; try simp only [hc, hat, w2]; cbv; try simp only [hc, hat, w2]; cbv; try simp only [hc, hat, w2]; cbv; try simp only [hc, hat, w2]; cbv) ?_
    refine goB hX 1 (by conv => lhs; cbv; try simp only [hc, hat, w2]; cbv; try simp only [hc, hat, w2]; cbv; try simp only [hc, hat, w2]; cbv; try simp only [hc, hat, w2]; cbv) ?_
    refine goA 60 ?_
    refine loopP_ret ?_
    refine goA 60 ?_
    refine fn_ret rfl rfl (.val ?_)
    exact congrArg Value.bool gR.symm
theorem scopeF_or (o : Int) : scopeF o = (decide (o = 5 ∨ o = 9) || spanF o) := by unfold scopeF spanF; rw [Bool.eq_iff_iff]; simp; omega
theorem Pat.enc_c (o a t v s n) {c : Ex} {cs : List AV} (h : c.enc = .agg cs) : (Pat.mk o a t v s n c).enc = .agg ([int o, .isl 14 (mapE Pat.enc a), int t, int v, int s, int n] ++ cs) := by
 obtain ⟨co, ca, cv, cf, ck, cx⟩ := c
 rw [Ex.enc_mk] at h
 injection h with h
 rw [Pat.enc_mk, ← h]; rfl
end Go.Am
end
