/- Contracts of the program's functions, for every argument that meets the conditions that each theorem names. -/
import Derived.Test.YtdbikeconboifaaGreatDoorAm6
import Derived.Test.YtdbikeconboifaaGreatDoorCt2
import Derived.Test.YtdbikeconboifaaGreatDoorCt4
import Derived.Test.YtdbikeconboifaaGreatDoorCt3
section
set_option maxHeartbeats 16000000
set_option maxRecDepth 100000
namespace Go.Am
open Go.Proofs
def suitsR (k : Int) (v : Vl) : Bool := decide (v.kind = 0 ∨ k = 0 ∨ k = 4 ∨ k = 5)
theorem P_ref07_Suits (k : Int) (v : Vl) : PCall EE 118 [int k, v.enc] (bool (suitsR k v)) := by
 obtain ⟨R, hR⟩ : ∃ R, R = suitsR k v := ⟨_, rfl⟩
 rw [← hR]
 unfold suitsR at hR
 obtain ⟨xk, xn, xt⟩ := v
 dsimp only at hR
 show PCall EE _ [int k, .agg [int xk, int xn, str xt]] _
 refine wordsN ?_; unhygienic intros
 refine fn_body (fn := Tryz.f118) (n := 20) (ac := Tryzc118) (rvs := [.t 4]) rfl (by decide) Tryzp118 rfl rfl rfl ?_
 refine goA 60 ?_
 refine fn_ret rfl rfl (.val ?_)
 exact congrArg Value.bool (by rw [hR, Bool.eq_iff_iff]; simp only [ee]; simp [or_assoc])
theorem P_ref01_Check (v : Vl) : PCall EE 117 [v.enc] (int v.chk) := by
 obtain ⟨R, hR⟩ : ∃ R, R = v.chk := ⟨_, rfl⟩
 rw [← hR]
 have h0 : v.text = ⟨#[]⟩ ↔ v.text.toList = [] := by
  constructor
  · intro h; rw [h]; simp
  · intro h; exact bs_inj (by rw [h]; simp)
 have hz : v.text.toList = [] → (v.text.size : Int) = 0 := fun h => by rw [h0.2 h]; rfl
 unfold Vl.chk Vl.sizeE at hR
 obtain ⟨xk, xn, xt⟩ := v
 dsimp only at hR h0 hz
 simp only [ne_eq, h0] at hR
 show PCall EE _ [.agg [int xk, int xn, str xt]] _
 refine wordsN ?_; unhygienic intros
 have hsn : ∀ s : ByteArray, (s.toList == (ByteArray.mk #[]).toList) = decide (s.toList = []) := by
  intro s
  have hn : (ByteArray.mk #[]).toList = [] := by simp
  rw [hn]
  cases s.toList <;> rfl
 refine fn_body (fn := Tryz.f117) (n := 47) (ac := Tryzc117) (rvs := [.t 2]) rfl (by decide) Tryzp117 rfl rfl rfl ?_
 refine goA 0 ?_
 refine on_cond rfl (fun c1 => ?_) (fun c1 => ?_)
 ·
  simp [ee] at c1
  refine goA 60 ?_
  refine fn_ret rfl rfl (.val ?_)
  exact congrArg (Value.int .i64) (by rw [hR]; simp only [ee, hsn] at *; clear ee hX; grind)
 ·
  simp [ee] at c1
  refine goA 0 ?_
  refine on_cond rfl (fun c2 => ?_) (fun c2 => ?_)
  ·
   simp [ee] at c2
   refine goA 0 ?_
   refine on_cond rfl (fun c3 => ?_) (fun c3 => ?_)
   ·
    simp [ee] at c3
    refine goA 60 ?_
    refine fn_ret rfl rfl (.val ?_)
    exact congrArg (Value.int .i64) (by rw [hR]; simp only [ee, hsn] at *; clear ee hX; grind)
   ·
    simp [ee] at c3
    refine goA 0 ?_
    refine on_cond rfl (fun c4 => ?_) (fun c4 => ?_)
    ·
     simp [ee] at c4
     refine goA 60 ?_
     refine fn_ret rfl rfl (.val ?_)
     exact congrArg (Value.int .i64) (by rw [hR]; simp only [ee, hsn] at *; clear ee hX; grind)
    ·
     simp [ee] at c4
     refine goA 60 ?_
     refine fn_ret rfl rfl (.val ?_)
     exact congrArg (Value.int .i64) (by rw [hR]; simp only [ee, hsn] at *; clear ee hX; grind)
  ·
   simp [ee] at c2
   refine goA 0 ?_
   refine on_cond rfl (fun c5 => ?_) (fun c5 => ?_)
   ·
    simp [ee] at c5
    refine goA 60 ?_
    refine fn_ret rfl rfl (.val ?_)
    exact congrArg (Value.int .i64) (by rw [hR]; simp only [ee, hsn] at *; clear ee hX; grind)
   ·
    simp [ee] at c5
    refine goA 0 ?_
    refine nsB hX (by conv => lhs; cbv) ?_
    refine goA 0 ?_
    refine on_cond rfl (fun c6 => ?_) (fun c6 => ?_)
    ·
     simp [ee] at c6
     refine goA 60 ?_
     refine fn_ret rfl rfl (.val ?_)
     exact congrArg (Value.int .i64) (by rw [hR]; simp only [ee, hsn] at *; clear ee hX; grind)
    ·
     simp [ee] at c6
     refine goA 60 ?_
     refine fn_ret rfl rfl (.val ?_)
     exact congrArg (Value.int .i64) (by rw [hR]; simp only [ee, hsn] at *; clear ee hX; grind)
theorem P_ref08_uses (o : Int) : PCall EE 104 [int o] (.tup [bool (usesV o), bool (usesF o)]) := by
 obtain ⟨R, hR⟩ : ∃ R, R = usesV o := ⟨_, rfl⟩
 obtain ⟨R2, hR2⟩ : ∃ R, R = usesF o := ⟨_, rfl⟩
 rw [← hR, ← hR2]
 unfold usesV at hR
 unfold usesF at hR2
 refine wordsN ?_; unhygienic intros
 refine fn_body (fn := Tryz.f104) (n := 21) (ac := Tryzc104) (rvs := [.t 2, .t 3]) rfl (by decide) Tryzp104 rfl rfl rfl ?_
 refine goA 60 ?_
 refine fn_ret rfl rfl ?_
 exact Fz.none (.tup' ⟨.of (congrArg bool (by rw [hR, Bool.eq_iff_iff]; simp only [ee]; simp; omega)), .of (congrArg bool (by rw [hR2, Bool.eq_iff_iff]; simp only [ee]; simp)), trivial⟩)
def arityR (o : Int) : Int := if o < 0 ∨ 12 < o then -1 else if o < 5 then 0 else if o = 12 then 1 else 2
theorem P_ref08_arity (o : Int) : PCall EE 116 [int o] (int (arityR o)) := by
 obtain ⟨R, hR⟩ : ∃ R, R = arityR o := ⟨_, rfl⟩
 rw [← hR]
 unfold arityR at hR
 refine wordsN ?_; unhygienic intros
 refine fn_body (fn := Tryz.f116) (n := 20) (ac := Tryzc116) (rvs := [.t 2]) rfl (by decide) Tryzp116 rfl rfl rfl ?_
 refine goA 0 ?_
 refine on_cond rfl (fun c1 => ?_) (fun c1 => ?_)
 ·
  simp [ee] at c1
  refine goA 0 ?_
  refine on_cond rfl (fun c2 => ?_) (fun c2 => ?_)
  ·
   simp [ee] at c2
   refine goA 60 ?_
   refine fn_ret rfl rfl (.val ?_)
   exact congrArg (Value.int .i64) (by rw [hR]; (repeat' split) <;> first | rfl | omega)
  ·
   simp [ee] at c2
   refine goA 0 ?_
   refine on_cond rfl (fun c3 => ?_) (fun c3 => ?_)
   ·
    simp [ee] at c3
    refine goA 60 ?_
    refine fn_ret rfl rfl (.val ?_)
    exact congrArg (Value.int .i64) (by rw [hR]; (repeat' split) <;> first | rfl | omega)
   ·
    simp [ee] at c3
    refine goA 0 ?_
    refine on_cond rfl (fun c4 => ?_) (fun c4 => ?_)
    ·
     simp [ee] at c4
     refine goA 0 ?_
     refine on_cond rfl (fun c5 => ?_) (fun c5 => ?_)
     ·
      simp [ee] at c5
      refine goA 60 ?_
      refine fn_ret rfl rfl (.val ?_)
      exact congrArg (Value.int .i64) (by rw [hR]; (repeat' split) <;> first | rfl | omega)
     ·
      simp [ee] at c5
      refine goA 60 ?_
      refine fn_ret rfl rfl (.val ?_)
      exact congrArg (Value.int .i64) (by rw [hR]; (repeat' split) <;> first | rfl | omega)
    ·
     simp [ee] at c4
     refine goA 0 ?_
     refine on_cond rfl (fun c6 => ?_) (fun c6 => ?_)
     ·
      simp [ee] at c6
      refine goA 0 ?_
      refine on_cond rfl (fun c7 => ?_) (fun c7 => ?_)
      ·
       simp [ee] at c7
       refine goA 60 ?_
       refine fn_ret rfl rfl (.val ?_)
       exact congrArg (Value.int .i64) (by rw [hR]; (repeat' split) <;> first | rfl | omega)
      ·
       simp [ee] at c7
       refine goA 60 ?_
       refine fn_ret rfl rfl (.val ?_)
       exact congrArg (Value.int .i64) (by rw [hR]; (repeat' split) <;> first | rfl | omega)
     ·
      simp [ee] at c6
      refine goA 0 ?_
      refine on_cond rfl (fun c8 => ?_) (fun c8 => ?_)
      ·
       simp [ee] at c8
       refine goA 0 ?_
       refine on_cond rfl (fun c9 => ?_) (fun c9 => ?_)
       ·
        simp [ee] at c9
        refine goA 60 ?_
        refine fn_ret rfl rfl (.val ?_)
        exact congrArg (Value.int .i64) (by rw [hR]; (repeat' split) <;> first | rfl | omega)
       ·
        simp [ee] at c9
        refine goA 60 ?_
        refine fn_ret rfl rfl (.val ?_)
        exact congrArg (Value.int .i64) (by rw [hR]; (repeat' split) <;> first | rfl | omega)
      ·
       simp [ee] at c8
       refine goA 0 ?_
       refine on_cond rfl (fun c10 => ?_) (fun c10 => ?_)
       ·
        simp [ee] at c10
        refine goA 0 ?_
        refine on_cond rfl (fun c11 => ?_) (fun c11 => ?_)
        ·
         simp [ee] at c11
         refine goA 60 ?_
         refine fn_ret rfl rfl (.val ?_)
         exact congrArg (Value.int .i64) (by rw [hR]; (repeat' split) <;> first | rfl | omega)
        ·
         simp [ee] at c11
         refine goA 60 ?_
         refine fn_ret rfl rfl (.val ?_)
         exact congrArg (Value.int .i64) (by rw [hR]; (repeat' split) <;> first | rfl | omega)
       ·
        simp [ee] at c10
        refine goA 0 ?_
        refine on_cond rfl (fun c12 => ?_) (fun c12 => ?_)
        ·
         simp [ee] at c12
         refine goA 0 ?_
         refine on_cond rfl (fun c13 => ?_) (fun c13 => ?_)
         ·
          simp [ee] at c13
          refine goA 60 ?_
          refine fn_ret rfl rfl (.val ?_)
          exact congrArg (Value.int .i64) (by rw [hR]; (repeat' split) <;> first | rfl | omega)
         ·
          simp [ee] at c13
          refine goA 60 ?_
          refine fn_ret rfl rfl (.val ?_)
          exact congrArg (Value.int .i64) (by rw [hR]; (repeat' split) <;> first | rfl | omega)
        ·
         simp [ee] at c12
         refine goA 0 ?_
         refine on_cond rfl (fun c14 => ?_) (fun c14 => ?_)
         ·
          simp [ee] at c14
          refine goA 0 ?_
          refine on_cond rfl (fun c15 => ?_) (fun c15 => ?_)
          ·
           simp [ee] at c15
           refine goA 60 ?_
           refine fn_ret rfl rfl (.val ?_)
           exact congrArg (Value.int .i64) (by rw [hR]; (repeat' split) <;> first | rfl | omega)
          ·
           simp [ee] at c15
           refine goA 60 ?_
           refine fn_ret rfl rfl (.val ?_)
           exact congrArg (Value.int .i64) (by rw [hR]; (repeat' split) <;> first | rfl | omega)
         ·
          simp [ee] at c14
          refine goA 0 ?_
          refine on_cond rfl (fun c16 => ?_) (fun c16 => ?_)
          ·
           simp [ee] at c16
           refine goA 60 ?_
           refine fn_ret rfl rfl (.val ?_)
           exact congrArg (Value.int .i64) (by rw [hR]; (repeat' split) <;> first | rfl | omega)
          ·
           simp [ee] at c16
           refine goA 60 ?_
           refine fn_ret rfl rfl (.val ?_)
           exact congrArg (Value.int .i64) (by rw [hR]; (repeat' split) <;> first | rfl | omega)
 ·
  simp [ee] at c1
  refine goA 0 ?_
  refine on_cond rfl (fun c17 => ?_) (fun c17 => ?_)
  ·
   simp [ee] at c17
   refine goA 0 ?_
   refine on_cond rfl (fun c18 => ?_) (fun c18 => ?_)
   ·
    simp [ee] at c18
    refine goA 60 ?_
    refine fn_ret rfl rfl (.val ?_)
    exact congrArg (Value.int .i64) (by rw [hR]; (repeat' split) <;> first | rfl | omega)
   ·
    simp [ee] at c18
    refine goA 0 ?_
    refine on_cond rfl (fun c19 => ?_) (fun c19 => ?_)
    ·
     simp [ee] at c19
     refine goA 60 ?_
     refine fn_ret rfl rfl (.val ?_)
     exact congrArg (Value.int .i64) (by rw [hR]; (repeat' split) <;> first | rfl | omega)
    ·
     simp [ee] at c19
     refine goA 0 ?_
     refine on_cond rfl (fun c20 => ?_) (fun c20 => ?_)
     ·
      simp [ee] at c20
      refine goA 0 ?_
      refine on_cond rfl (fun c21 => ?_) (fun c21 => ?_)
      ·
       simp [ee] at c21
       refine goA 60 ?_
       refine fn_ret rfl rfl (.val ?_)
       exact congrArg (Value.int .i64) (by rw [hR]; (repeat' split) <;> first | rfl | omega)
      ·
       simp [ee] at c21
       refine goA 60 ?_
       refine fn_ret rfl rfl (.val ?_)
       exact congrArg (Value.int .i64) (by rw [hR]; (repeat' split) <;> first | rfl | omega)
     ·
      simp [ee] at c20
      refine goA 0 ?_
      refine on_cond rfl (fun c22 => ?_) (fun c22 => ?_)
      ·
       simp [ee] at c22
       refine goA 0 ?_
       refine on_cond rfl (fun c23 => ?_) (fun c23 => ?_)
       ·
        simp [ee] at c23
        refine goA 60 ?_
        refine fn_ret rfl rfl (.val ?_)
        exact congrArg (Value.int .i64) (by rw [hR]; (repeat' split) <;> first | rfl | omega)
       ·
        simp [ee] at c23
        refine goA 60 ?_
        refine fn_ret rfl rfl (.val ?_)
        exact congrArg (Value.int .i64) (by rw [hR]; (repeat' split) <;> first | rfl | omega)
      ·
       simp [ee] at c22
       refine goA 0 ?_
       refine on_cond rfl (fun c24 => ?_) (fun c24 => ?_)
       ·
        simp [ee] at c24
        refine goA 0 ?_
        refine on_cond rfl (fun c25 => ?_) (fun c25 => ?_)
        ·
         simp [ee] at c25
         refine goA 60 ?_
         refine fn_ret rfl rfl (.val ?_)
         exact congrArg (Value.int .i64) (by rw [hR]; (repeat' split) <;> first | rfl | omega)
        ·
         simp [ee] at c25
         refine goA 60 ?_
         refine fn_ret rfl rfl (.val ?_)
         exact congrArg (Value.int .i64) (by rw [hR]; (repeat' split) <;> first | rfl | omega)
       ·
        simp [ee] at c24
        refine goA 0 ?_
        refine on_cond rfl (fun c26 => ?_) (fun c26 => ?_)
        ·
         simp [ee] at c26
         refine goA 0 ?_
         refine on_cond rfl (fun c27 => ?_) (fun c27 => ?_)
         ·
          simp [ee] at c27
          refine goA 60 ?_
          refine fn_ret rfl rfl (.val ?_)
          exact congrArg (Value.int .i64) (by rw [hR]; (repeat' split) <;> first | rfl | omega)
         ·
          simp [ee] at c27
          refine goA 60 ?_
          refine fn_ret rfl rfl (.val ?_)
          exact congrArg (Value.int .i64) (by rw [hR]; (repeat' split) <;> first | rfl | omega)
        ·
         simp [ee] at c26
         refine goA 0 ?_
         refine on_cond rfl (fun c28 => ?_) (fun c28 => ?_)
         ·
          simp [ee] at c28
          refine goA 0 ?_
          refine on_cond rfl (fun c29 => ?_) (fun c29 => ?_)
          ·
           simp [ee] at c29
           refine goA 60 ?_
           refine fn_ret rfl rfl (.val ?_)
           exact congrArg (Value.int .i64) (by rw [hR]; (repeat' split) <;> first | rfl | omega)
          ·
           simp [ee] at c29
           refine goA 60 ?_
           refine fn_ret rfl rfl (.val ?_)
           exact congrArg (Value.int .i64) (by rw [hR]; (repeat' split) <;> first | rfl | omega)
         ·
          simp [ee] at c28
          refine goA 0 ?_
          refine on_cond rfl (fun c30 => ?_) (fun c30 => ?_)
          ·
           simp [ee] at c30
           refine goA 0 ?_
           refine on_cond rfl (fun c31 => ?_) (fun c31 => ?_)
           ·
            simp [ee] at c31
            refine goA 60 ?_
            refine fn_ret rfl rfl (.val ?_)
            exact congrArg (Value.int .i64) (by rw [hR]; (repeat' split) <;> first | rfl | omega)
           ·
            simp [ee] at c31
            refine goA 60 ?_
            refine fn_ret rfl rfl (.val ?_)
            exact congrArg (Value.int .i64) (by rw [hR]; (repeat' split) <;> first | rfl | omega)
          ·
           simp [ee] at c30
           refine goA 0 ?_
           refine on_cond rfl (fun c32 => ?_) (fun c32 => ?_)
           ·
            simp [ee] at c32
            refine goA 60 ?_
            refine fn_ret rfl rfl (.val ?_)
            exact congrArg (Value.int .i64) (by rw [hR]; (repeat' split) <;> first | rfl | omega)
           ·
            simp [ee] at c32
            refine goA 60 ?_
            refine fn_ret rfl rfl (.val ?_)
            exact congrArg (Value.int .i64) (by rw [hR]; (repeat' split) <;> first | rfl | omega)
  ·
   simp [ee] at c17
   refine goA 0 ?_
   refine on_cond rfl (fun c33 => ?_) (fun c33 => ?_)
   ·
    simp [ee] at c33
    refine goA 0 ?_
    refine on_cond rfl (fun c34 => ?_) (fun c34 => ?_)
    ·
     simp [ee] at c34
     refine goA 60 ?_
     refine fn_ret rfl rfl (.val ?_)
     exact congrArg (Value.int .i64) (by rw [hR]; (repeat' split) <;> first | rfl | omega)
    ·
     simp [ee] at c34
     refine goA 0 ?_
     refine on_cond rfl (fun c35 => ?_) (fun c35 => ?_)
     ·
      simp [ee] at c35
      refine goA 60 ?_
      refine fn_ret rfl rfl (.val ?_)
      exact congrArg (Value.int .i64) (by rw [hR]; (repeat' split) <;> first | rfl | omega)
     ·
      simp [ee] at c35
      refine goA 0 ?_
      refine on_cond rfl (fun c36 => ?_) (fun c36 => ?_)
      ·
       simp [ee] at c36
       refine goA 0 ?_
       refine on_cond rfl (fun c37 => ?_) (fun c37 => ?_)
       ·
        simp [ee] at c37
        refine goA 60 ?_
        refine fn_ret rfl rfl (.val ?_)
        exact congrArg (Value.int .i64) (by rw [hR]; (repeat' split) <;> first | rfl | omega)
       ·
        simp [ee] at c37
        refine goA 60 ?_
        refine fn_ret rfl rfl (.val ?_)
        exact congrArg (Value.int .i64) (by rw [hR]; (repeat' split) <;> first | rfl | omega)
      ·
       simp [ee] at c36
       refine goA 0 ?_
       refine on_cond rfl (fun c38 => ?_) (fun c38 => ?_)
       ·
        simp [ee] at c38
        refine goA 0 ?_
        refine on_cond rfl (fun c39 => ?_) (fun c39 => ?_)
        ·
         simp [ee] at c39
         refine goA 60 ?_
         refine fn_ret rfl rfl (.val ?_)
         exact congrArg (Value.int .i64) (by rw [hR]; (repeat' split) <;> first | rfl | omega)
        ·
         simp [ee] at c39
         refine goA 60 ?_
         refine fn_ret rfl rfl (.val ?_)
         exact congrArg (Value.int .i64) (by rw [hR]; (repeat' split) <;> first | rfl | omega)
       ·
        simp [ee] at c38
        refine goA 0 ?_
        refine on_cond rfl (fun c40 => ?_) (fun c40 => ?_)
        ·
         simp [ee] at c40
         refine goA 0 ?_
         refine on_cond rfl (fun c41 => ?_) (fun c41 => ?_)
         ·
          simp [ee] at c41
          refine goA 60 ?_
          refine fn_ret rfl rfl (.val ?_)
          exact congrArg (Value.int .i64) (by rw [hR]; (repeat' split) <;> first | rfl | omega)
         ·
          simp [ee] at c41
          refine goA 60 ?_
          refine fn_ret rfl rfl (.val ?_)
          exact congrArg (Value.int .i64) (by rw [hR]; (repeat' split) <;> first | rfl | omega)
        ·
         simp [ee] at c40
         refine goA 0 ?_
         refine on_cond rfl (fun c42 => ?_) (fun c42 => ?_)
         ·
          simp [ee] at c42
          refine goA 0 ?_
          refine on_cond rfl (fun c43 => ?_) (fun c43 => ?_)
          ·
           simp [ee] at c43
           refine goA 60 ?_
           refine fn_ret rfl rfl (.val ?_)
           exact congrArg (Value.int .i64) (by rw [hR]; (repeat' split) <;> first | rfl | omega)
          ·
           simp [ee] at c43
           refine goA 60 ?_
           refine fn_ret rfl rfl (.val ?_)
           exact congrArg (Value.int .i64) (by rw [hR]; (repeat' split) <;> first | rfl | omega)
         ·
          simp [ee] at c42
          refine goA 0 ?_
          refine on_cond rfl (fun c44 => ?_) (fun c44 => ?_)
          ·
           simp [ee] at c44
           refine goA 0 ?_
           refine on_cond rfl (fun c45 => ?_) (fun c45 => ?_)
           ·
            simp [ee] at c45
            refine goA 60 ?_
            refine fn_ret rfl rfl (.val ?_)
            exact congrArg (Value.int .i64) (by rw [hR]; (repeat' split) <;> first | rfl | omega)
           ·
            simp [ee] at c45
            refine goA 60 ?_
            refine fn_ret rfl rfl (.val ?_)
            exact congrArg (Value.int .i64) (by rw [hR]; (repeat' split) <;> first | rfl | omega)
          ·
           simp [ee] at c44
           refine goA 0 ?_
           refine on_cond rfl (fun c46 => ?_) (fun c46 => ?_)
           ·
            simp [ee] at c46
            refine goA 0 ?_
            refine on_cond rfl (fun c47 => ?_) (fun c47 => ?_)
            ·
             simp [ee] at c47
             refine goA 60 ?_
             refine fn_ret rfl rfl (.val ?_)
             exact congrArg (Value.int .i64) (by rw [hR]; (repeat' split) <;> first | rfl | omega)
            ·
             simp [ee] at c47
             refine goA 60 ?_
             refine fn_ret rfl rfl (.val ?_)
             exact congrArg (Value.int .i64) (by rw [hR]; (repeat' split) <;> first | rfl | omega)
           ·
            simp [ee] at c46
            refine goA 0 ?_
            refine on_cond rfl (fun c48 => ?_) (fun c48 => ?_)
            ·
             simp [ee] at c48
             refine goA 60 ?_
             refine fn_ret rfl rfl (.val ?_)
             exact congrArg (Value.int .i64) (by rw [hR]; (repeat' split) <;> first | rfl | omega)
            ·
             simp [ee] at c48
             refine goA 60 ?_
             refine fn_ret rfl rfl (.val ?_)
             exact congrArg (Value.int .i64) (by rw [hR]; (repeat' split) <;> first | rfl | omega)
   ·
    simp [ee] at c33
    refine goA 0 ?_
    refine on_cond rfl (fun c49 => ?_) (fun c49 => ?_)
    ·
     simp [ee] at c49
     refine goA 0 ?_
     refine on_cond rfl (fun c50 => ?_) (fun c50 => ?_)
     ·
      simp [ee] at c50
      refine goA 60 ?_
      refine fn_ret rfl rfl (.val ?_)
      exact congrArg (Value.int .i64) (by rw [hR]; (repeat' split) <;> first | rfl | omega)
     ·
      simp [ee] at c50
      refine goA 0 ?_
      refine on_cond rfl (fun c51 => ?_) (fun c51 => ?_)
      ·
       simp [ee] at c51
       refine goA 60 ?_
       refine fn_ret rfl rfl (.val ?_)
       exact congrArg (Value.int .i64) (by rw [hR]; (repeat' split) <;> first | rfl | omega)
      ·
       simp [ee] at c51
       refine goA 0 ?_
       refine on_cond rfl (fun c52 => ?_) (fun c52 => ?_)
       ·
        simp [ee] at c52
        refine goA 0 ?_
        refine on_cond rfl (fun c53 => ?_) (fun c53 => ?_)
        ·
         simp [ee] at c53
         refine goA 60 ?_
         refine fn_ret rfl rfl (.val ?_)
         exact congrArg (Value.int .i64) (by rw [hR]; (repeat' split) <;> first | rfl | omega)
        ·
         simp [ee] at c53
         refine goA 60 ?_
         refine fn_ret rfl rfl (.val ?_)
         exact congrArg (Value.int .i64) (by rw [hR]; (repeat' split) <;> first | rfl | omega)
       ·
        simp [ee] at c52
        refine goA 0 ?_
        refine on_cond rfl (fun c54 => ?_) (fun c54 => ?_)
        ·
         simp [ee] at c54
         refine goA 0 ?_
         refine on_cond rfl (fun c55 => ?_) (fun c55 => ?_)
         ·
          simp [ee] at c55
          refine goA 60 ?_
          refine fn_ret rfl rfl (.val ?_)
          exact congrArg (Value.int .i64) (by rw [hR]; (repeat' split) <;> first | rfl | omega)
         ·
          simp [ee] at c55
          refine goA 60 ?_
          refine fn_ret rfl rfl (.val ?_)
          exact congrArg (Value.int .i64) (by rw [hR]; (repeat' split) <;> first | rfl | omega)
        ·
         simp [ee] at c54
         refine goA 0 ?_
         refine on_cond rfl (fun c56 => ?_) (fun c56 => ?_)
         ·
          simp [ee] at c56
          refine goA 0 ?_
          refine on_cond rfl (fun c57 => ?_) (fun c57 => ?_)
          ·
           simp [ee] at c57
           refine goA 60 ?_
           refine fn_ret rfl rfl (.val ?_)
           exact congrArg (Value.int .i64) (by rw [hR]; (repeat' split) <;> first | rfl | omega)
          ·
           simp [ee] at c57
           refine goA 60 ?_
           refine fn_ret rfl rfl (.val ?_)
           exact congrArg (Value.int .i64) (by rw [hR]; (repeat' split) <;> first | rfl | omega)
         ·
          simp [ee] at c56
          refine goA 0 ?_
          refine on_cond rfl (fun c58 => ?_) (fun c58 => ?_)
          ·
           simp [ee] at c58
           refine goA 0 ?_
           refine on_cond rfl (fun c59 => ?_) (fun c59 => ?_)
           ·
            simp [ee] at c59
            refine goA 60 ?_
            refine fn_ret rfl rfl (.val ?_)
            exact congrArg (Value.int .i64) (by rw [hR]; (repeat' split) <;> first | rfl | omega)
           ·
            simp [ee] at c59
            refine goA 60 ?_
            refine fn_ret rfl rfl (.val ?_)
            exact congrArg (Value.int .i64) (by rw [hR]; (repeat' split) <;> first | rfl | omega)
          ·
           simp [ee] at c58
           refine goA 0 ?_
           refine on_cond rfl (fun c60 => ?_) (fun c60 => ?_)
           ·
            simp [ee] at c60
            refine goA 0 ?_
            refine on_cond rfl (fun c61 => ?_) (fun c61 => ?_)
            ·
             simp [ee] at c61
             refine goA 60 ?_
             refine fn_ret rfl rfl (.val ?_)
             exact congrArg (Value.int .i64) (by rw [hR]; (repeat' split) <;> first | rfl | omega)
            ·
             simp [ee] at c61
             refine goA 60 ?_
             refine fn_ret rfl rfl (.val ?_)
             exact congrArg (Value.int .i64) (by rw [hR]; (repeat' split) <;> first | rfl | omega)
           ·
            simp [ee] at c60
            refine goA 0 ?_
            refine on_cond rfl (fun c62 => ?_) (fun c62 => ?_)
            ·
             simp [ee] at c62
             refine goA 0 ?_
             refine on_cond rfl (fun c63 => ?_) (fun c63 => ?_)
             ·
              simp [ee] at c63
              refine goA 60 ?_
              refine fn_ret rfl rfl (.val ?_)
              exact congrArg (Value.int .i64) (by rw [hR]; (repeat' split) <;> first | rfl | omega)
             ·
              simp [ee] at c63
              refine goA 60 ?_
              refine fn_ret rfl rfl (.val ?_)
              exact congrArg (Value.int .i64) (by rw [hR]; (repeat' split) <;> first | rfl | omega)
            ·
             simp [ee] at c62
             refine goA 0 ?_
             refine on_cond rfl (fun c64 => ?_) (fun c64 => ?_)
             ·
              simp [ee] at c64
              refine goA 60 ?_
              refine fn_ret rfl rfl (.val ?_)
              exact congrArg (Value.int .i64) (by rw [hR]; (repeat' split) <;> first | rfl | omega)
             ·
              simp [ee] at c64
              refine goA 60 ?_
              refine fn_ret rfl rfl (.val ?_)
              exact congrArg (Value.int .i64) (by rw [hR]; (repeat' split) <;> first | rfl | omega)
    ·
     simp [ee] at c49
     refine goA 0 ?_
     refine on_cond rfl (fun c65 => ?_) (fun c65 => ?_)
     ·
      simp [ee] at c65
      refine goA 60 ?_
      refine fn_ret rfl rfl (.val ?_)
      exact congrArg (Value.int .i64) (by rw [hR]; (repeat' split) <;> first | rfl | omega)
     ·
      simp [ee] at c65
      refine goA 0 ?_
      refine on_cond rfl (fun c66 => ?_) (fun c66 => ?_)
      ·
       simp [ee] at c66
       refine goA 60 ?_
       refine fn_ret rfl rfl (.val ?_)
       exact congrArg (Value.int .i64) (by rw [hR]; (repeat' split) <;> first | rfl | omega)
      ·
       simp [ee] at c66
       refine goA 0 ?_
       refine on_cond rfl (fun c67 => ?_) (fun c67 => ?_)
       ·
        simp [ee] at c67
        refine goA 0 ?_
        refine on_cond rfl (fun c68 => ?_) (fun c68 => ?_)
        ·
         simp [ee] at c68
         refine goA 60 ?_
         refine fn_ret rfl rfl (.val ?_)
         exact congrArg (Value.int .i64) (by rw [hR]; (repeat' split) <;> first | rfl | omega)
        ·
         simp [ee] at c68
         refine goA 60 ?_
         refine fn_ret rfl rfl (.val ?_)
         exact congrArg (Value.int .i64) (by rw [hR]; (repeat' split) <;> first | rfl | omega)
       ·
        simp [ee] at c67
        refine goA 0 ?_
        refine on_cond rfl (fun c69 => ?_) (fun c69 => ?_)
        ·
         simp [ee] at c69
         refine goA 0 ?_
         refine on_cond rfl (fun c70 => ?_) (fun c70 => ?_)
         ·
          simp [ee] at c70
          refine goA 60 ?_
          refine fn_ret rfl rfl (.val ?_)
          exact congrArg (Value.int .i64) (by rw [hR]; (repeat' split) <;> first | rfl | omega)
         ·
          simp [ee] at c70
          refine goA 60 ?_
          refine fn_ret rfl rfl (.val ?_)
          exact congrArg (Value.int .i64) (by rw [hR]; (repeat' split) <;> first | rfl | omega)
        ·
         simp [ee] at c69
         refine goA 0 ?_
         refine on_cond rfl (fun c71 => ?_) (fun c71 => ?_)
         ·
          simp [ee] at c71
          refine goA 0 ?_
          refine on_cond rfl (fun c72 => ?_) (fun c72 => ?_)
          ·
           simp [ee] at c72
           refine goA 60 ?_
           refine fn_ret rfl rfl (.val ?_)
           exact congrArg (Value.int .i64) (by rw [hR]; (repeat' split) <;> first | rfl | omega)
          ·
           simp [ee] at c72
           refine goA 60 ?_
           refine fn_ret rfl rfl (.val ?_)
           exact congrArg (Value.int .i64) (by rw [hR]; (repeat' split) <;> first | rfl | omega)
         ·
          simp [ee] at c71
          refine goA 0 ?_
          refine on_cond rfl (fun c73 => ?_) (fun c73 => ?_)
          ·
           simp [ee] at c73
           refine goA 0 ?_
           refine on_cond rfl (fun c74 => ?_) (fun c74 => ?_)
           ·
            simp [ee] at c74
            refine goA 60 ?_
            refine fn_ret rfl rfl (.val ?_)
            exact congrArg (Value.int .i64) (by rw [hR]; (repeat' split) <;> first | rfl | omega)
           ·
            simp [ee] at c74
            refine goA 60 ?_
            refine fn_ret rfl rfl (.val ?_)
            exact congrArg (Value.int .i64) (by rw [hR]; (repeat' split) <;> first | rfl | omega)
          ·
           simp [ee] at c73
           refine goA 0 ?_
           refine on_cond rfl (fun c75 => ?_) (fun c75 => ?_)
           ·
            simp [ee] at c75
            refine goA 0 ?_
            refine on_cond rfl (fun c76 => ?_) (fun c76 => ?_)
            ·
             simp [ee] at c76
             refine goA 60 ?_
             refine fn_ret rfl rfl (.val ?_)
             exact congrArg (Value.int .i64) (by rw [hR]; (repeat' split) <;> first | rfl | omega)
            ·
             simp [ee] at c76
             refine goA 60 ?_
             refine fn_ret rfl rfl (.val ?_)
             exact congrArg (Value.int .i64) (by rw [hR]; (repeat' split) <;> first | rfl | omega)
           ·
            simp [ee] at c75
            refine goA 0 ?_
            refine on_cond rfl (fun c77 => ?_) (fun c77 => ?_)
            ·
             simp [ee] at c77
             refine goA 0 ?_
             refine on_cond rfl (fun c78 => ?_) (fun c78 => ?_)
             ·
              simp [ee] at c78
              refine goA 60 ?_
              refine fn_ret rfl rfl (.val ?_)
              exact congrArg (Value.int .i64) (by rw [hR]; (repeat' split) <;> first | rfl | omega)
             ·
              simp [ee] at c78
              refine goA 60 ?_
              refine fn_ret rfl rfl (.val ?_)
              exact congrArg (Value.int .i64) (by rw [hR]; (repeat' split) <;> first | rfl | omega)
            ·
             simp [ee] at c77
             refine goA 0 ?_
             refine on_cond rfl (fun c79 => ?_) (fun c79 => ?_)
             ·
              simp [ee] at c79
              refine goA 60 ?_
              refine fn_ret rfl rfl (.val ?_)
              exact congrArg (Value.int .i64) (by rw [hR]; (repeat' split) <;> first | rfl | omega)
             ·
              simp [ee] at c79
              refine goA 60 ?_
              refine fn_ret rfl rfl (.val ?_)
              exact congrArg (Value.int .i64) (by rw [hR]; (repeat' split) <;> first | rfl | omega)
theorem P_ref08_node (e : Ex) (hlen : e.args.length < 1048576) : PCall EE 107 [e.enc] (int e.nodeE) := by
 have hu := P_ref08_uses e.op
 have har := P_ref08_arity e.op
 have hk := P_ref01_Check e.val
 have hsu := P_ref07_Suits e.kind e.val
 have h0 := @Vl.eq0 e.val
 have hcl := Ex.closed e
 obtain ⟨R, hR⟩ : ∃ R, R = e.nodeE := ⟨_, rfl⟩
 rw [← hR]
 have hss : 1 ≤ e.kind → suitsF e.kind e.val = suitsR e.kind e.val := fun h => by
  unfold suitsF suitsR; rw [Bool.eq_iff_iff]; simp; omega
 have hab : arityB e.op = decide (0 ≤ arityR e.op) := by
  unfold arityB arityR; rw [Bool.eq_iff_iff]; simp; (repeat' split) <;> omega
 have han : 0 ≤ arityR e.op → arityN e.op = arityR e.op := fun h => by
  unfold arityR at h; unfold arityN arityR; (repeat' split) <;> simp_all
 have hvl : e.val.enc = .agg [int e.val.kind, int e.val.num, str e.val.text] := rfl
 rw [hvl] at hk hsu
 unfold Ex.nodeE Ex.formB Ex.consE at hR
 generalize usesV e.op = uv at *
 generalize usesF e.op = uf at *
 generalize arityN e.op = an at *
 generalize arityB e.op = ab at *
 generalize arityR e.op = ar at *
 generalize suitsF e.kind e.val = sf at *
 generalize suitsR e.kind e.val = sr at *
 generalize e.val.chk = ck at *
 obtain ⟨o, a, v, f, k, ⟨xk, xn, xt⟩⟩ := e
 simp only [Ex.op, Ex.kind, Ex.val, Ex.args, Ex.var, Ex.fld] at *
 rw [Ex.enc_mk] at hcl ⊢
 dsimp only at *
 refine wordsN ?_; unhygienic intros
 generalize hes : mapE Ex.enc a = es at *
 have hel : es.length = a.length := by rw [← hes, mapE_len]
 refine fn_body (fn := Tryz.f107) (n := 131) (ac := Tryzc107) (rvs := [.t 2]) rfl (by decide) Tryzp107 rfl rfl rfl ?_
 refine goA 60 ?_
 refine oPA har ?_
 refine goA 0 ?_
 refine on_cond rfl (fun c1 => ?_) (fun c1 => ?_)
 ·
  simp [ee] at c1
  refine goA 60 ?_
  refine fn_ret rfl rfl (.val ?_)
  exact congrArg (Value.int .i64) (by rw [hR]; clear ee hX; grind)
 ·
  simp [ee] at c1
  refine goA 0 ?_
  refine on_cond rfl (fun c2 => ?_) (fun c2 => ?_)
  ·
   simp [ee] at c2
   refine goA 60 ?_
   refine fn_ret rfl rfl (.val ?_)
   exact congrArg (Value.int .i64) (by rw [hR]; clear ee hX; grind)
  ·
   simp [ee] at c2
   refine goA 60 ?_
   refine oPA hu ?_
   refine goA 0 ?_
   refine nsB hX (by conv => lhs; cbv) ?_
   refine goA 0 ?_
   refine nsB hX (by conv => lhs; cbv) ?_
   refine goA 0 ?_
   refine on_cond rfl (fun c3 => ?_) (fun c3 => ?_)
   ·
    simp [ee] at c3
    refine goA 60 ?_
    refine fn_ret rfl rfl (.val ?_)
    exact congrArg (Value.int .i64) (by rw [hR]; clear ee hX; grind)
   ·
    simp [ee] at c3
    refine goA 0 ?_
    refine nsB hX (by conv => lhs; cbv) ?_
    refine goA 0 ?_
    refine on_cond rfl (fun c4 => ?_) (fun c4 => ?_)
    ·
     simp [ee] at c4
     refine goA 60 ?_
     refine fn_ret rfl rfl (.val ?_)
     exact congrArg (Value.int .i64) (by rw [hR]; clear ee hX; grind)
    ·
     simp [ee] at c4
     refine goA 0 ?_
     refine on_cond rfl (fun c5 => ?_) (fun c5 => ?_)
     ·
      simp [ee] at c5
      refine goA 60 ?_
      refine oPA hk ?_
      refine goA 0 ?_
      refine on_cond rfl (fun c6 => ?_) (fun c6 => ?_)
      ·
       simp [ee] at c6
       refine goA 60 ?_
       refine fn_ret rfl rfl (.val ?_)
       exact congrArg (Value.int .i64) (by rw [hR]; clear ee hX; grind)
      ·
       simp [ee] at c6
       refine goA 0 ?_
       refine on_guard rfl rfl (fun c7 => ?_) (fun c7 => ?_)
       ·
        simp [ee] at c7
        refine goA 60 ?_
        refine oPG hsu ?_
        refine goA 0 ?_
        refine goA 1 ?_
        refine goA 1 ?_
        refine nsB hX (by conv => lhs; cbv) ?_
        refine goA 0 ?_
        refine on_cond rfl (fun c8 => ?_) (fun c8 => ?_)
        ·
         simp [ee] at c8
         refine goA 60 ?_
         refine fn_ret rfl rfl (.val ?_)
         exact congrArg (Value.int .i64) (by rw [hR]; clear ee hX; grind)
        ·
         simp [ee] at c8
         refine goA 0 ?_
         refine nsB hX (by conv => lhs; cbv) ?_
         refine goA 0 ?_
         refine nsB hX (by conv => lhs; cbv) ?_
         refine goA 0 ?_
         refine nsB hX (by conv => lhs; cbv) ?_
         refine goA 0 ?_
         refine on_cond rfl (fun c9 => ?_) (fun c9 => ?_)
         ·
          simp [ee] at c9
          refine goA 60 ?_
          refine fn_ret rfl rfl (.val ?_)
          exact congrArg (Value.int .i64) (by rw [hR]; clear ee hX; grind)
         ·
          simp [ee] at c9
          refine goA 60 ?_
          refine fn_ret rfl rfl (.val ?_)
          exact congrArg (Value.int .i64) (by rw [hR]; clear ee hX; grind)
       ·
        simp [ee] at c7
        refine goA 60 ?_
        refine on_gskip rfl rfl ?_
        refine goA 0 ?_
        refine goA 1 ?_
        refine nsB hX (by conv => lhs; cbv) ?_
        refine goA 0 ?_
        refine nsB hX (by conv => lhs; cbv) ?_
        refine goA 0 ?_
        refine nsB hX (by conv => lhs; cbv) ?_
        refine goA 0 ?_
        refine on_cond rfl (fun c10 => ?_) (fun c10 => ?_)
        ·
         simp [ee] at c10
         refine goA 60 ?_
         refine fn_ret rfl rfl (.val ?_)
         exact congrArg (Value.int .i64) (by rw [hR]; clear ee hX; grind)
        ·
         simp [ee] at c10
         refine goA 60 ?_
         refine fn_ret rfl rfl (.val ?_)
         exact congrArg (Value.int .i64) (by rw [hR]; clear ee hX; grind)
     ·
      simp [ee] at c5
      refine goA 0 ?_
      refine on_guard rfl rfl (fun c11 => ?_) (fun c11 => ?_)
      ·
       simp [ee] at c11
       refine goA 60 ?_
       refine oPG hsu ?_
       refine goA 0 ?_
       refine goA 1 ?_
       refine goA 1 ?_
       refine nsB hX (by conv => lhs; cbv) ?_
       refine goA 0 ?_
       refine on_cond rfl (fun c12 => ?_) (fun c12 => ?_)
       ·
        simp [ee] at c12
        refine goA 60 ?_
        refine fn_ret rfl rfl (.val ?_)
        exact congrArg (Value.int .i64) (by rw [hR]; clear ee hX; grind)
       ·
        simp [ee] at c12
        refine goA 0 ?_
        refine nsB hX (by conv => lhs; cbv) ?_
        refine goA 0 ?_
        refine nsB hX (by conv => lhs; cbv) ?_
        refine goA 0 ?_
        refine nsB hX (by conv => lhs; cbv) ?_
        refine goA 0 ?_
        refine on_cond rfl (fun c13 => ?_) (fun c13 => ?_)
        ·
         simp [ee] at c13
         refine goA 60 ?_
         refine fn_ret rfl rfl (.val ?_)
         exact congrArg (Value.int .i64) (by rw [hR]; clear ee hX; grind)
        ·
         simp [ee] at c13
         refine goA 60 ?_
         refine fn_ret rfl rfl (.val ?_)
         exact congrArg (Value.int .i64) (by rw [hR]; clear ee hX; grind)
      ·
       simp [ee] at c11
       refine goA 60 ?_
       refine on_gskip rfl rfl ?_
       refine goA 0 ?_
       refine goA 1 ?_
       refine nsB hX (by conv => lhs; cbv) ?_
       refine goA 0 ?_
       refine nsB hX (by conv => lhs; cbv) ?_
       refine goA 0 ?_
       refine nsB hX (by conv => lhs; cbv) ?_
       refine goA 0 ?_
       refine on_cond rfl (fun c14 => ?_) (fun c14 => ?_)
       ·
        simp [ee] at c14
        refine goA 60 ?_
        refine fn_ret rfl rfl (.val ?_)
        exact congrArg (Value.int .i64) (by rw [hR]; clear ee hX; grind)
       ·
        simp [ee] at c14
        refine goA 60 ?_
        refine fn_ret rfl rfl (.val ?_)
        exact congrArg (Value.int .i64) (by rw [hR]; clear ee hX; grind)
theorem P_ref08_nodes : ∀ e : Ex, e.Sm → PCall EE 92 [e.enc] (int (firstE Ex.nodeE e.nodes)) := by
 refine Ex.ind ?_
 intro o a v f k x ih hs
 have hlen := hs.len
 have hih : ∀ q ∈ a, PCall EE 92 [q.enc] (int (firstE Ex.nodeE q.nodes)) := fun q hq => ih q hq (hs.arg hq)
 have hcl := Ex.closedI a
 have hh := P_ref08_node (.mk o a v f k x) (by exact hlen)
 have hpc := Ex.closed (.mk o a v f k x)
 rw [Ex.nodes]
 obtain ⟨R, hR⟩ : ∃ R, R = firstE Ex.nodeE (Ex.mk o a v f k x :: Ex.nodesL a) := ⟨_, rfl⟩
 rw [← hR]
 rw [firstE] at hR
 obtain ⟨xk, xn, xt⟩ := x
 rw [Ex.enc_mk] at hpc hh ⊢
 dsimp only at hpc hh ⊢
 clear ih hs
 refine wordsN ?_; unhygienic intros
 generalize hes : mapE Ex.enc a = es at *
 have hel : es.length = a.length := by rw [← hes, mapE_len]
 generalize (Ex.mk o a v f k { kind := xk, num := xn, text := xt }).nodeE = fp at *
 refine fn_body (fn := Tryz.f92) (n := 27) (ac := Tryzc92) (rvs := [.t 2]) rfl (by decide) Tryzp92 rfl rfl rfl ?_
 by_cases h1 : fp = 0
 rotate_left
 · have w1 : iNe fp 0 = true := by simp only [ee]; simpa using h1
   have hR : R = fp := by rw [hR, if_pos h1]
   refine goA 60 ?_
   refine oPA hh ?_
   refine goB hX 0 (by conv => lhs; cbv; try simp only [w1]; cbv; try simp only [w1]; cbv; try simp only [w1]; cbv; try simp only [w1]; cbv) ?_
   refine goA 60 ?_
   refine fn_ret rfl rfl (.val ?_)
   exact congrArg (Value.int .i64) hR.symm
 have w1 : iNe fp 0 = false := by simp only [ee]; simpa using h1
 have hR : R = firstE Ex.nodeE (Ex.nodesL a) := by rw [hR, if_neg (by simpa using h1)]
 refine goA 60 ?_
 refine oPA hh ?_
 refine goB hX 0 (by conv => lhs; cbv; try simp only [w1]; cbv; try simp only [w1]; cbv; try simp only [w1]; cbv; try simp only [w1]; cbv) ?_
 refine goA 60 ?_
 refine on_loopP (ι := List Ex × List Ex × Int) (fun p => ([(4, int p.2.2), (1, .ptr 0 0)], [.cells [int o, .isl 8 es, int v, int f, int k, int xk, int xn, str xt]])) (fun p => a = p.1 ++ p.2.1 ∧ p.2.2 = p.1.length ∧ R = firstE Ex.nodeE (Ex.nodesL p.2.1)) (fun p => p.2.1.length) ([], a, 0) ⟨rfl, rfl, hR⟩ ?_ ?_
 · exact (ent_sub [.to 0] [some 0] ⟨⟨by simp, rfl⟩, trivial⟩ ⟨osrc_cells (b := 0) rfl rfl rfl ⟨.refl _, .cl hcl, .refl _, .refl _, .refl _, .refl _, .refl _, .refl _, trivial⟩, trivial⟩ ⟨.refl _, .refl _, trivial⟩)
 rintro ⟨d, r, i⟩ ⟨g1, gi, gR⟩
 dsimp only at g1 gi gR ⊢
 cases r with
 | nil =>
  have L1 := len_split g1
  try simp only [List.length] at L1
  have hc : iLt i (lenA es) = false := lt_f e_iLt e_lenA (by omega)
  have gR : R = 0 := gR
  refine goB hX 0 (by conv => lhs; cbv; try simp only [hc]; cbv; try simp only [hc]; cbv; try simp only [hc]; cbv; try simp only [hc]; cbv) ?_
  refine goA 60 ?_
  refine loopP_exit ?_
  refine goA 60 ?_
  refine fn_ret rfl rfl (.val ?_)
  exact congrArg (Value.int .i64) gR.symm
 | cons q r =>
  have L1 := len_split g1
  try simp only [List.length] at L1
  have hc : iLt i (lenA es) = true := lt_t e_iLt e_lenA (by omega)
  have hat := el_at e_atA hes g1 gi
  have hq := hih q (by rw [g1]; simp)
  have hqc := Ex.closed q
  rw [Ex.nodesL, firstE_append] at gR
  obtain ⟨qO, qA, qV, qF, qK, qXk, qXn, qXt, hx⟩ := Ex.form q
  rw [hx] at hat hqc hq
  have hi2 : iAdd .i64 i 1 = ((d ++ [q]).length : Int) := by rw [List.length_append]; exact inc_w e_iAdd gi (by omega)
  generalize firstE Ex.nodeE q.nodes = fq at *
  by_cases h2 : fq = 0
  · have w2 : iNe fq 0 = false := by simp only [ee]; simpa using h2
    rw [if_neg (by simpa using h2)] at gR
    refine goB hX 0 (by conv => lhs; cbv; try simp only [hc, hat, w2]; cbv; try simp only [hc, hat, w2]; cbv; try simp only [hc, hat, w2]; cbv; try simp only [hc, hat, w2]; cbv) ?_
    refine goB hX 1 (by conv => lhs; cbv; try simp only [hc, hat, w2]; cbv; try simp only [hc, hat, w2]; cbv; try simp only [hc, hat, w2]; cbv; try simp only [hc, hat, w2]; cbv) ?_
    refine oPA hq ?_
    refine goB hX 0 (by conv => lhs; cbv; try simp only [hc, hat, w2]; cbv; try simp only [hc, hat, w2]; cbv; try simp only [hc, hat, w2]; cbv; try simp only [hc, hat, w2]; cbv) ?_
    refine goA 60 ?_
    refine loopP_next (d ++ [q], r, iAdd .i64 i 1) ⟨by simp [g1], hi2, gR⟩ (by simp) (ent_sub [.to 0] [some 0] ⟨⟨by simp, rfl⟩, trivial⟩ ⟨osrc_cells (b := 0) rfl rfl rfl ⟨.refl _, .cl hcl, .refl _, .refl _, .refl _, .refl _, .refl _, .refl _, trivial⟩, trivial⟩ ⟨.refl _, .refl _, trivial⟩)
  · have w2 : iNe fq 0 = true := by simp only [ee]; simpa using h2
    rw [if_pos h2] at gR
    refine goB hX 0 (by conv => lhs; cbv; try simp only [hc, hat, w2]; cbv; try simp only [hc, hat, w2]; cbv; try simp only [hc, hat, w2]; cbv; try simp only [hc, hat, w2]; cbv) ?_
    refine goB hX 1 (by conv => lhs; cbv; try simp only [hc, hat, w2]; cbv; try simp only [hc, hat, w2]; cbv; try simp only [hc, hat, w2]; cbv; try simp only [hc, hat, w2]; cbv) ?_
    refine oPA hq ?_
    refine goB hX 0 (by conv => lhs; cbv; try simp only [hc, hat, w2]; cbv; try simp only [hc, hat, w2]; cbv; try simp only [hc, hat, w2]; cbv; try simp only [hc, hat, w2]; cbv) ?_
    refine goA 60 ?_
    refine loopP_ret ?_
    refine goA 60 ?_
    refine fn_ret rfl rfl (.val ?_)
    exact congrArg (Value.int .i64) gR.symm
theorem P_ref08_Check (e : Ex) (hs : e.Sm) : PCall EE 81 [e.enc] (int e.chk) := by
 have h1 := P_ref08_Count 64 (by decide) e hs
 have h2 := P_ref08_Depth e hs
 have h3 := P_ref08_nodes e hs
 have htot := Ex.tot_iff e 64
 have hcl := Ex.closed e
 obtain ⟨R, hR⟩ : ∃ R, R = e.chk := ⟨_, rfl⟩
 rw [← hR]
 unfold Ex.chk at hR
 obtain ⟨tt, htt⟩ : ∃ z : Int, z = e.tot 64 := ⟨_, rfl⟩
 obtain ⟨dp, hdp⟩ : ∃ z : Int, z = e.dep := ⟨_, rfl⟩
 rw [← htt] at h1
 rw [← hdp] at h2
 generalize firstE Ex.nodeE e.nodes = fe at *
 obtain ⟨eO, eA, eV, eF, eK, eXk, eXn, eXt, hx⟩ := Ex.form e
 rw [hx] at h1 h2 h3 hcl ⊢
 refine wordsN ?_; unhygienic intros
 refine fn_body (fn := Tryz.f81) (n := 11) (ac := Tryzc81) (rvs := [.t 2]) rfl (by decide) Tryzp81 rfl rfl rfl ?_
 by_cases g1 : tt ≤ 64
 rotate_left
 · have k1 : iLt 64 tt = true := by simp only [ee]; simp; omega
   rw [if_pos (by omega)] at hR
   refine goA 60 ?_
   refine oPA h1 ?_
   refine goB hX 0 (by conv => lhs; cbv; try simp only [k1]; cbv; try simp only [k1]; cbv; try simp only [k1]; cbv; try simp only [k1]; cbv) ?_
   refine goA 60 ?_
   refine fn_ret rfl rfl (.val ?_)
   exact congrArg (Value.int .i64) hR.symm
 have k1 : iLt 64 tt = false := by simp only [ee]; simp; omega
 rw [if_neg (by omega)] at hR
 by_cases g2 : dp ≤ 12
 rotate_left
 · have k2 : iLt 12 dp = true := by simp only [ee]; simp; omega
   rw [if_pos (by omega)] at hR
   refine goA 60 ?_
   refine oPA h1 ?_
   refine goB hX 0 (by conv => lhs; cbv; try simp only [k1, k2]; cbv; try simp only [k1, k2]; cbv; try simp only [k1, k2]; cbv; try simp only [k1, k2]; cbv) ?_
   refine goA 60 ?_
   refine oPA h2 ?_
   refine goB hX 0 (by conv => lhs; cbv; try simp only [k1, k2]; cbv; try simp only [k1, k2]; cbv; try simp only [k1, k2]; cbv; try simp only [k1, k2]; cbv) ?_
   refine goA 60 ?_
   refine fn_ret rfl rfl (.val ?_)
   exact congrArg (Value.int .i64) hR.symm
 have k2 : iLt 12 dp = false := by simp only [ee]; simp; omega
 rw [if_neg (by omega)] at hR
 refine goA 60 ?_
 refine oPA h1 ?_
 refine goB hX 0 (by conv => lhs; cbv; try simp only [k1, k2]; cbv; try simp only [k1, k2]; cbv; try simp only [k1, k2]; cbv; try simp only [k1, k2]; cbv) ?_
 refine goA 60 ?_
 refine oPA h2 ?_
 refine goB hX 0 (by conv => lhs; cbv; try simp only [k1, k2]; cbv; try simp only [k1, k2]; cbv; try simp only [k1, k2]; cbv; try simp only [k1, k2]; cbv) ?_
 refine goA 60 ?_
 refine oPA h3 ?_
 refine goA 60 ?_
 refine fn_ret rfl rfl (.val ?_)
 exact congrArg (Value.int .i64) hR.symm
theorem P_Negates (p : Pat) : PCall EE 52 [p.enc] (bool (decide (p.op = 5 ∨ p.op = 9))) := by
 obtain ⟨R, hR⟩ : ∃ R, R = decide (p.op = 5 ∨ p.op = 9) := ⟨_, rfl⟩
 rw [← hR]
 have hcl := Pat.closed p
 obtain ⟨pO, pA, pT, pV, pS, pN, pCo, pCa, pCv, pCf, pCk, pXk, pXn, pXt, hx, hxc, hpO, hpA, hpT, hpV, hpS, hpN⟩ := Pat.form2 p
 rw [hx] at hcl ⊢
 rw [← hpO] at hR
 refine wordsN ?_; unhygienic intros
 refine fn_body (fn := Tryz.f52) (n := 11) (ac := Tryzc52) (rvs := [.t 2]) rfl (by decide) Tryzp52 rfl rfl rfl ?_
 refine goA 60 ?_
 refine fn_ret rfl rfl (.val ?_)
 exact congrArg Value.bool (by rw [hR, Bool.eq_iff_iff]; simp only [ee]; simp)
theorem P_Times (p : Pat) : PCall EE 53 [p.enc] (bool (spanF p.op)) := by
 obtain ⟨R, hR⟩ : ∃ R, R = spanF p.op := ⟨_, rfl⟩
 rw [← hR]
 unfold spanF at hR
 have hcl := Pat.closed p
 obtain ⟨pO, pA, pT, pV, pS, pN, pCo, pCa, pCv, pCf, pCk, pXk, pXn, pXt, hx, hxc, hpO, hpA, hpT, hpV, hpS, hpN⟩ := Pat.form2 p
 rw [hx] at hcl ⊢
 rw [← hpO] at hR
 refine wordsN ?_; unhygienic intros
 refine fn_body (fn := Tryz.f53) (n := 11) (ac := Tryzc53) (rvs := [.t 2]) rfl (by decide) Tryzp53 rfl rfl rfl ?_
 refine goA 60 ?_
 refine fn_ret rfl rfl (.val ?_)
 exact congrArg Value.bool (by rw [hR, Bool.eq_iff_iff]; simp only [ee]; simp)
theorem P_variable (p : Pat) : PCall EE 51 [p.enc] (bool (typedF p.op)) := by
 have h1 := P_Negates p
 obtain ⟨R, hR⟩ : ∃ R, R = typedF p.op := ⟨_, rfl⟩
 rw [← hR]
 unfold typedF at hR
 have hcl := Pat.closed p
 obtain ⟨pO, pA, pT, pV, pS, pN, pCo, pCa, pCv, pCf, pCk, pXk, pXn, pXt, hx, hxc, hpO, hpA, hpT, hpV, hpS, hpN⟩ := Pat.form2 p
 rw [hx] at h1 hcl ⊢
 rw [← hpO] at hR h1
 refine wordsN ?_; unhygienic intros
 refine fn_body (fn := Tryz.f51) (n := 10) (ac := Tryzc51) (rvs := [.t 2]) rfl (by decide) Tryzp51 rfl rfl rfl ?_
 refine goA 0 ?_
 refine on_guard rfl rfl (fun c1 => ?_) (fun c1 => ?_)
 ·
  simp [ee] at c1
  refine goA 60 ?_
  refine fn_ret rfl rfl (.val ?_)
  exact congrArg Value.bool (by rw [hR]; clear ee hX; grind)
 ·
  simp [ee] at c1
  refine goA 60 ?_
  refine oPG h1 ?_
  refine goA 60 ?_
  refine fn_ret rfl rfl (.val ?_)
  exact congrArg Value.bool (by rw [hR]; clear ee hX; grind)
theorem P_condition (p : Pat) : PCall EE 74 [p.enc] (bool (condF p.op)) := by
 have h1 := P_variable p
 obtain ⟨R, hR⟩ : ∃ R, R = condF p.op := ⟨_, rfl⟩
 rw [← hR]
 have h2 : condF p.op = (typedF p.op || decide (p.op = 7)) := by unfold condF typedF; rw [Bool.eq_iff_iff]; simp; omega
 rw [h2] at hR
 generalize typedF p.op = ty at *
 have hcl := Pat.closed p
 obtain ⟨pO, pA, pT, pV, pS, pN, pCo, pCa, pCv, pCf, pCk, pXk, pXn, pXt, hx, hxc, hpO, hpA, hpT, hpV, hpS, hpN⟩ := Pat.form2 p
 rw [hx] at h1 hcl ⊢
 rw [← hpO] at hR
 refine wordsN ?_; unhygienic intros
 refine fn_body (fn := Tryz.f74) (n := 10) (ac := Tryzc74) (rvs := [.t 2]) rfl (by decide) Tryzp74 rfl rfl rfl ?_
 refine goA 60 ?_
 refine oPA h1 ?_
 refine goA 60 ?_
 refine fn_ret rfl rfl (.val ?_)
 exact congrArg Value.bool (by rw [hR]; first | (rw [Bool.eq_iff_iff]; simp only [ee]; simp; done) | (simp only [ee] at *; simp at *; simp [*]))
theorem P_bad (u : Bool) (n m : Int) : PCall EE 80 [bool u, int n, int m] (bool (u && decide (n < 0 ∨ m < n))) := by
 obtain ⟨R, hR⟩ : ∃ R, R = (u && decide (n < 0 ∨ m < n)) := ⟨_, rfl⟩
 rw [← hR]
 refine wordsN ?_; unhygienic intros
 refine fn_body (fn := Tryz.f80) (n := 17) (ac := Tryzc80) (rvs := [.t 6]) rfl (by decide) Tryzp80 rfl rfl rfl ?_
 refine goA 0 ?_
 refine nsB hX (by conv => lhs; cbv) ?_
 refine goA 60 ?_
 refine fn_ret rfl rfl (.val ?_)
 exact congrArg Value.bool (by rw [hR]; first | (rw [Bool.eq_iff_iff]; simp only [ee]; simp; done) | (simp only [ee] at *; simp at *; simp [*]))
theorem P_ref09_arity (p : Pat) (hlen : p.args.length < 1048576) : PCall EE 79 [p.enc] (bool (decide (if p.op = 0 then p.args.length = 0 else if p.op = 1 ∨ p.op = 2 ∨ p.op = 3 then 2 ≤ p.args.length else if p.op = 8 then p.args.length = 2 else p.args.length = 1))) := by
 obtain ⟨R, hR⟩ : ∃ R, R = (decide (if p.op = 0 then p.args.length = 0 else if p.op = 1 ∨ p.op = 2 ∨ p.op = 3 then 2 ≤ p.args.length else if p.op = 8 then p.args.length = 2 else p.args.length = 1)) := ⟨_, rfl⟩
 rw [← hR]
 have hcl := Pat.closed p
 obtain ⟨pO, pA, pT, pV, pS, pN, pCo, pCa, pCv, pCf, pCk, pXk, pXn, pXt, hx, hxc, hpO, hpA, hpT, hpV, hpS, hpN⟩ := Pat.form2 p
 have hel : pA.length = p.args.length := by rw [hpA, mapE_len]
 rw [hx] at hcl ⊢
 rw [← hpO] at hR
 clear hpA
 generalize p.args.length = n at *
 refine wordsN ?_; unhygienic intros
 refine fn_body (fn := Tryz.f79) (n := 29) (ac := Tryzc79) (rvs := [.t 2]) rfl (by decide) Tryzp79 rfl rfl rfl ?_
 refine goA 0 ?_
 refine on_cond rfl (fun c1 => ?_) (fun c1 => ?_)
 ·
  simp [ee] at c1
  refine goA 60 ?_
  refine fn_ret rfl rfl (.val ?_)
  exact congrArg Value.bool (by rw [hR, Bool.eq_iff_iff]; simp only [ee]; clear ee hX; simp; grind)
 ·
  simp [ee] at c1
  refine goA 0 ?_
  refine on_cond rfl (fun c2 => ?_) (fun c2 => ?_)
  ·
   simp [ee] at c2
   refine goA 0 ?_
   refine on_cond rfl (fun c3 => ?_) (fun c3 => ?_)
   ·
    simp [ee] at c3
    refine goA 60 ?_
    refine fn_ret rfl rfl (.val ?_)
    exact congrArg Value.bool (by rw [hR, Bool.eq_iff_iff]; simp only [ee]; clear ee hX; simp; grind)
   ·
    simp [ee] at c3
    refine goA 0 ?_
    refine on_cond rfl (fun c4 => ?_) (fun c4 => ?_)
    ·
     simp [ee] at c4
     refine goA 60 ?_
     refine fn_ret rfl rfl (.val ?_)
     exact congrArg Value.bool (by rw [hR, Bool.eq_iff_iff]; simp only [ee]; clear ee hX; simp; grind)
    ·
     simp [ee] at c4
     refine goA 60 ?_
     refine fn_ret rfl rfl (.val ?_)
     exact congrArg Value.bool (by rw [hR, Bool.eq_iff_iff]; simp only [ee]; clear ee hX; simp; grind)
  ·
   simp [ee] at c2
   refine goA 0 ?_
   refine on_cond rfl (fun c5 => ?_) (fun c5 => ?_)
   ·
    simp [ee] at c5
    refine goA 0 ?_
    refine on_cond rfl (fun c6 => ?_) (fun c6 => ?_)
    ·
     simp [ee] at c6
     refine goA 60 ?_
     refine fn_ret rfl rfl (.val ?_)
     exact congrArg Value.bool (by rw [hR, Bool.eq_iff_iff]; simp only [ee]; clear ee hX; simp; grind)
    ·
     simp [ee] at c6
     refine goA 0 ?_
     refine on_cond rfl (fun c7 => ?_) (fun c7 => ?_)
     ·
      simp [ee] at c7
      refine goA 60 ?_
      refine fn_ret rfl rfl (.val ?_)
      exact congrArg Value.bool (by rw [hR, Bool.eq_iff_iff]; simp only [ee]; clear ee hX; simp; grind)
     ·
      simp [ee] at c7
      refine goA 60 ?_
      refine fn_ret rfl rfl (.val ?_)
      exact congrArg Value.bool (by rw [hR, Bool.eq_iff_iff]; simp only [ee]; clear ee hX; simp; grind)
   ·
    simp [ee] at c5
    refine goA 0 ?_
    refine on_cond rfl (fun c8 => ?_) (fun c8 => ?_)
    ·
     simp [ee] at c8
     refine goA 60 ?_
     refine fn_ret rfl rfl (.val ?_)
     exact congrArg Value.bool (by rw [hR, Bool.eq_iff_iff]; simp only [ee]; clear ee hX; simp; grind)
    ·
     simp [ee] at c8
     refine goA 0 ?_
     refine on_cond rfl (fun c9 => ?_) (fun c9 => ?_)
     ·
      simp [ee] at c9
      refine goA 60 ?_
      refine fn_ret rfl rfl (.val ?_)
      exact congrArg Value.bool (by rw [hR, Bool.eq_iff_iff]; simp only [ee]; clear ee hX; simp; grind)
     ·
      simp [ee] at c9
      refine goA 60 ?_
      refine fn_ret rfl rfl (.val ?_)
      exact congrArg Value.bool (by rw [hR, Bool.eq_iff_iff]; simp only [ee]; clear ee hX; simp; grind)
open Classical in
theorem nodeE_red (p : Pat) (hl : p.args.length ≤ 64) : p.nodeE = (if p.op < 0 ∨ 10 < p.op then 1 else if ¬ (if p.op = 0 then p.args.length = 0 else if p.op = 1 ∨ p.op = 2 ∨ p.op = 3 then 2 ≤ p.args.length else if p.op = 8 then p.args.length = 2 else p.args.length = 1) then 15
 else if (typedF p.op && decide (p.ty < 0 ∨ 15 < p.ty)) = true ∨ (typedF p.op && decide (p.var < 0 ∨ 15 < p.var)) = true ∨ (scopeF p.op && decide (p.scope < 0 ∨ 63 < p.scope)) = true ∨ (spanF p.op && decide (p.span < 0 ∨ 1099511627776 < p.span)) = true then 2
 else if condF p.op = true ∧ p.cond.chk ≠ 0 then p.cond.chk
 else if (typedF p.op = false ∧ (p.ty ≠ 0 ∨ p.var ≠ 0)) ∨ (scopeF p.op = false ∧ p.scope ≠ 0) ∨ (spanF p.op = false ∧ p.span ≠ 0) ∨ (condF p.op = false ∧ p.cond ≠ Ex0) then 3 else 0) := by
 unfold Pat.nodeE
 by_cases h1 : p.op < 0 ∨ 11 ≤ p.op
 · rw [if_pos h1, if_pos (show p.op < 0 ∨ 10 < p.op by omega)]
 rw [if_neg h1, if_neg (show ¬ (p.op < 0 ∨ 10 < p.op) by omega)]
 have h2 : ((p.args.length : Int) < leastF p.op ∨ mostF p.op < p.args.length) ↔ ¬ (if p.op = 0 then p.args.length = 0 else if p.op = 1 ∨ p.op = 2 ∨ p.op = 3 then 2 ≤ p.args.length else if p.op = 8 then p.args.length = 2 else p.args.length = 1) := by
  unfold leastF mostF
  (repeat' split) <;> omega
 by_cases h3 : (p.args.length : Int) < leastF p.op ∨ mostF p.op < p.args.length
 · rw [if_pos h3, if_pos (h2.1 h3)]
 rw [if_neg h3, if_neg (fun h => h3 (h2.2 h))]
 have h4 : ((typedF p.op && decide (p.ty < 0 ∨ 15 < p.ty)) = true ∨ (typedF p.op && decide (p.var < 0 ∨ 15 < p.var)) = true ∨ (scopeF p.op && decide (p.scope < 0 ∨ 63 < p.scope)) = true ∨ (spanF p.op && decide (p.span < 0 ∨ 1099511627776 < p.span)) = true) ↔
  (typedF p.op = true ∧ (p.ty < 0 ∨ 15 < p.ty ∨ p.var < 0 ∨ 15 < p.var)) ∨ (scopeF p.op = true ∧ (p.scope < 0 ∨ 63 < p.scope)) ∨ (spanF p.op = true ∧ (p.span < 0 ∨ 1099511627776 < p.span)) := by
  cases typedF p.op <;> cases scopeF p.op <;> cases spanF p.op <;> simp <;> omega
 by_cases h5 : (typedF p.op = true ∧ (p.ty < 0 ∨ 15 < p.ty ∨ p.var < 0 ∨ 15 < p.var)) ∨ (scopeF p.op = true ∧ (p.scope < 0 ∨ 63 < p.scope)) ∨ (spanF p.op = true ∧ (p.span < 0 ∨ 1099511627776 < p.span))
 · rw [if_pos h5, if_pos (h4.2 h5)]
 rw [if_neg h5, if_neg (fun h => h5 (h4.1 h))]
 by_cases h6 : condF p.op = true ∧ p.cond.chk ≠ 0
 · rw [if_pos h6, if_pos h6]
 rw [if_neg h6, if_neg h6]
 by_cases h7 : (condF p.op = false ∧ p.cond ≠ Ex0) ∨ (typedF p.op = false ∧ (p.ty ≠ 0 ∨ p.var ≠ 0)) ∨ (scopeF p.op = false ∧ p.scope ≠ 0) ∨ (spanF p.op = false ∧ p.span ≠ 0)
 · rw [if_pos h7]
   refine (if_pos ?_).symm
   rcases h7 with h | h | h | h
   · exact .inr (.inr (.inr h))
   · exact .inl h
   · exact .inr (.inl h)
   · exact .inr (.inr (.inl h))
 · rw [if_neg h7]
   refine (if_neg ?_).symm
   rintro (h | h | h | h)
   · exact h7 (.inr (.inl h))
   · exact h7 (.inr (.inr (.inl h)))
   · exact h7 (.inr (.inr (.inr h)))
   · exact h7 (.inl h)
theorem P_ref09_node (p : Pat) (hs : p.Sm) (hlen : p.args.length ≤ 64) : PCall EE 55 [p.enc] (int p.nodeE) := by
 have h1 := P_ref09_arity p (by omega)
 have h2 := P_variable p
 have h3 := P_Negates p
 have h4 := P_Times p
 have h5 := P_condition p
 have h6 := P_ref08_Check p.cond hs.cond'
 have h7 := P_ref08_Same p.cond Ex0 hs.cond'
 rw [Ex0.form] at h7
 have hsc : scopeF p.op = (decide (p.op = 5 ∨ p.op = 9) || spanF p.op) := by unfold scopeF spanF; rw [Bool.eq_iff_iff]; simp; omega
 obtain ⟨R, hR⟩ : ∃ R, R = p.nodeE := ⟨_, rfl⟩
 rw [← hR]
 have hb : p.cond ≠ Ex0 ↔ eqB p.cond Ex0 = false := ⟨fun h => eqB_f h, fun h e => (by rw [eqB_t e] at h; cases h)⟩
 rw [nodeE_red p hlen, hsc] at hR
 simp only [hb] at hR
 clear hb
 have hcl := Pat.closed p
 have hccl := Ex.closed p.cond
 generalize hab : (decide (if p.op = 0 then p.args.length = 0 else if p.op = 1 ∨ p.op = 2 ∨ p.op = 3 then 2 ≤ p.args.length else if p.op = 8 then p.args.length = 2 else p.args.length = 1)) = ab at *
 have hab2 : (if p.op = 0 then p.args.length = 0 else if p.op = 1 ∨ p.op = 2 ∨ p.op = 3 then 2 ≤ p.args.length else if p.op = 8 then p.args.length = 2 else p.args.length = 1) ↔ ab = true := by rw [← hab]; simp
 simp only [hab2] at hR
 clear hab hab2 hsc
 have hco : (typedF p.op = true ∧ decide (p.op = 5 ∨ p.op = 9) = false ∧ spanF p.op = false ∧ condF p.op = true) ∨ (typedF p.op = true ∧ decide (p.op = 5 ∨ p.op = 9) = true ∧ spanF p.op = false ∧ condF p.op = true) ∨ (typedF p.op = false ∧ decide (p.op = 5 ∨ p.op = 9) = false ∧ spanF p.op = true ∧ condF p.op = false) ∨
  (typedF p.op = false ∧ decide (p.op = 5 ∨ p.op = 9) = false ∧ spanF p.op = false ∧ condF p.op = true) ∨ (typedF p.op = false ∧ decide (p.op = 5 ∨ p.op = 9) = false ∧ spanF p.op = false ∧ condF p.op = false) := by
  unfold typedF spanF condF
  simp only [decide_eq_true_eq, decide_eq_false_iff_not]
  omega
 generalize typedF p.op = ty at *
 generalize decide (p.op = 5 ∨ p.op = 9) = ng at *
 generalize spanF p.op = sp at *
 generalize condF p.op = cd at *
 generalize eqB p.cond Ex0 = eq at *
 generalize p.cond.chk = ck at *
 obtain ⟨pO, pA, pT, pV, pS, pN, pCo, pCa, pCv, pCf, pCk, pXk, pXn, pXt, hx, hxc, hpO, hpA, hpT, hpV, hpS, hpN⟩ := Pat.form2 p
 rw [hx] at h1 h2 h3 h4 h5 hcl ⊢
 rw [hxc] at h6 h7 hccl
 rw [← hpO, ← hpT, ← hpV, ← hpS, ← hpN] at hR
 have b1 := P_bad ty pT 15
 have b2 := P_bad ty pV 15
 have b3t := P_bad true pS 63
 have b3f := P_bad false pS 63
 have b4 := P_bad sp pN 1099511627776
 generalize decide (pT < 0 ∨ 15 < pT) = d1 at *
 generalize decide (pV < 0 ∨ 15 < pV) = d2 at *
 generalize decide (pS < 0 ∨ 63 < pS) = d3 at *
 generalize decide (pN < 0 ∨ 1099511627776 < pN) = d4 at *
 clear hpO hpA hpT hpV hpS hpN hx hxc hs hlen
 refine wordsN ?_; unhygienic intros
 refine fn_body (fn := Tryz.f55) (n := 100) (ac := Tryzc55) (rvs := [.t 2]) rfl (by decide) Tryzp55 rfl rfl rfl ?_
 rcases hco with ⟨rfl, rfl, rfl, rfl⟩ | ⟨rfl, rfl, rfl, rfl⟩ | ⟨rfl, rfl, rfl, rfl⟩ | ⟨rfl, rfl, rfl, rfl⟩ | ⟨rfl, rfl, rfl, rfl⟩
 ·
  refine goA 0 ?_
  refine on_cond rfl (fun c1 => ?_) (fun c1 => ?_)
  ·
   simp [ee] at c1
   refine goA 60 ?_
   refine fn_ret rfl rfl (.val ?_)
   exact congrArg (Value.int .i64) (by rw [hR]; clear ee hX; grind)
  ·
   simp [ee] at c1
   refine goA 60 ?_
   refine oPA h1 ?_
   refine goA 0 ?_
   refine on_cond rfl (fun c2 => ?_) (fun c2 => ?_)
   ·
    simp [ee] at c2
    refine goA 60 ?_
    refine fn_ret rfl rfl (.val ?_)
    exact congrArg (Value.int .i64) (by rw [hR]; clear ee hX; grind)
   ·
    simp [ee] at c2
    refine goA 60 ?_
    refine tr_drawB rfl (by conv => lhs; cbv) rfl ?_
    refine tgA ?_
    refine oPT h2 ?_
    refine tgA ?_
    refine oPT h3 ?_
    refine tgA ?_
    refine tr_ung rfl ?_
    refine tgA ?_
    refine tr_ung rfl ?_
    refine oPT h4 ?_
    refine tgA ?_
    refine oPT h5 ?_
    refine tgA ?_
    refine tr_nil ⟨rfl, by simp [LooksL, lookAll], ?_⟩
    refine goA 60 ?_
    refine tr_drawB rfl (by conv => lhs; cbv) rfl ?_
    refine tgA ?_
    refine oPT b1 ?_
    refine tgA ?_
    cases d1
    ·
     refine tr_ung rfl ?_
     refine tgA ?_
     refine tr_ung rfl ?_
     refine tgA ?_
     refine tr_ung rfl ?_
     refine tgA ?_
     refine tr_ung rfl ?_
     refine oPT b2 ?_
     refine tgA ?_
     cases d2
     ·
      refine tr_ung rfl ?_
      refine tgA ?_
      refine tr_ung rfl ?_
      refine tgA ?_
      refine tr_ung rfl ?_
      refine tgA ?_
      refine tr_ung rfl ?_
      refine oPT b3f ?_
      refine tgA ?_
      refine tr_ung rfl ?_
      refine tgA ?_
      refine tr_ung rfl ?_
      refine oPT h4 ?_
      refine tr_ung rfl ?_
      refine tgA ?_
      refine tr_ung rfl ?_
      refine tgA ?_
      refine tr_ung rfl ?_
      refine oPT b4 ?_
      refine tgA ?_
      refine tr_nil ⟨rfl, by simp [LooksL, lookAll], ?_⟩
      refine goA 60 ?_
      refine oPA h6 ?_
      refine goA 0 ?_
      refine on_cond rfl (fun c3 => ?_) (fun c3 => ?_)
      ·
       simp [ee] at c3
       refine goA 60 ?_
       refine fn_ret rfl rfl (.val ?_)
       exact congrArg (Value.int .i64) (by rw [hR]; clear ee hX; grind)
      ·
       simp [ee] at c3
       refine goA 0 ?_
       refine nsB hX (by conv => lhs; cbv) ?_
       refine goA 0 ?_
       refine nsB hX (by conv => lhs; cbv) ?_
       refine goA 0 ?_
       refine on_guard rfl rfl (fun c4 => ?_) (fun c4 => ?_)
       ·
        simp [ee] at c4
        refine goA 60 ?_
        refine on_gskip rfl rfl ?_
        refine goA 60 ?_
        refine on_gskip rfl rfl ?_
        refine goA 60 ?_
        refine fn_ret rfl rfl (.val ?_)
        exact congrArg (Value.int .i64) (by rw [hR]; clear ee hX; grind)
       ·
        simp [ee] at c4
        refine goA 60 ?_
        refine oPG h4 ?_
        refine goA 0 ?_
        refine goA 1 ?_
        refine goA 1 ?_
        refine nsB hX (by conv => lhs; cbv) ?_
        refine goA 0 ?_
        refine on_guard rfl rfl (fun c5 => ?_) (fun c5 => ?_)
        ·
         simp [ee] at c5
         refine goA 60 ?_
         refine on_gskip rfl rfl ?_
         refine goA 60 ?_
         refine fn_ret rfl rfl (.val ?_)
         exact congrArg (Value.int .i64) (by rw [hR]; clear ee hX; grind)
        ·
         simp [ee] at c5
         refine goA 1 ?_
         refine goA 1 ?_
         refine goA 1 ?_
         refine on_guard rfl rfl (fun c6 => ?_) (fun c6 => ?_)
         ·
          simp [ee] at c6
         ·
          simp [ee] at c6
          refine goA 1 ?_
          refine goA 1 ?_
          refine goA 1 ?_
          refine goA 1 ?_
          refine goA 1 ?_
          refine on_cond rfl (fun c7 => ?_) (fun c7 => ?_)
          ·
           simp [ee] at c7
          ·
           simp [ee] at c7
           refine goA 60 ?_
           refine fn_ret rfl rfl (.val ?_)
           exact congrArg (Value.int .i64) (by rw [hR]; clear ee hX; grind)
     ·
      refine tr_skipq (.inl rfl) ?_
      refine tr_skipq (.inl rfl) ?_
      refine tr_skipq (.inl rfl) ?_
      refine tr_skipq (.inl rfl) ?_
      refine tgA ?_
      refine tr_skipq (.inl rfl) ?_
      refine tr_skipq (.inl rfl) ?_
      refine tr_skipq (.inl rfl) ?_
      refine tr_skipq (.inl rfl) ?_
      refine tr_skipq (.inl rfl) ?_
      refine tgA ?_
      refine tr_nil ⟨rfl, by simp [LooksL, lookAll], ?_⟩
      refine goA 60 ?_
      refine fn_ret rfl rfl (.val ?_)
      exact congrArg (Value.int .i64) (by rw [hR]; clear ee hX; grind)
    ·
     refine tr_skipq (.inl rfl) ?_
     refine tr_skipq (.inl rfl) ?_
     refine tr_skipq (.inl rfl) ?_
     refine tr_skipq (.inl rfl) ?_
     refine tgA ?_
     refine tr_skipq (.inl rfl) ?_
     refine tr_skipq (.inl rfl) ?_
     refine tr_skipq (.inl rfl) ?_
     refine tr_skipq (.inl rfl) ?_
     refine tgA ?_
     refine tr_skipq (.inl rfl) ?_
     refine tr_skipq (.inl rfl) ?_
     refine tr_skipq (.inl rfl) ?_
     refine tr_skipq (.inl rfl) ?_
     refine tr_skipq (.inl rfl) ?_
     refine tgA ?_
     refine tr_nil ⟨rfl, by simp [LooksL, lookAll], ?_⟩
     refine goA 60 ?_
     refine fn_ret rfl rfl (.val ?_)
     exact congrArg (Value.int .i64) (by rw [hR]; clear ee hX; grind)
 ·
  refine goA 0 ?_
  refine on_cond rfl (fun c1 => ?_) (fun c1 => ?_)
  ·
   simp [ee] at c1
   refine goA 60 ?_
   refine fn_ret rfl rfl (.val ?_)
   exact congrArg (Value.int .i64) (by rw [hR]; clear ee hX; grind)
  ·
   simp [ee] at c1
   refine goA 60 ?_
   refine oPA h1 ?_
   refine goA 0 ?_
   refine on_cond rfl (fun c2 => ?_) (fun c2 => ?_)
   ·
    simp [ee] at c2
    refine goA 60 ?_
    refine fn_ret rfl rfl (.val ?_)
    exact congrArg (Value.int .i64) (by rw [hR]; clear ee hX; grind)
   ·
    simp [ee] at c2
    refine goA 60 ?_
    refine tr_drawB rfl (by conv => lhs; cbv) rfl ?_
    refine tgA ?_
    refine oPT h2 ?_
    refine tgA ?_
    refine oPT h3 ?_
    refine tgA ?_
    refine tr_skipq (.inl rfl) ?_
    refine tr_skipq (.inl rfl) ?_
    refine tgA ?_
    refine oPT h5 ?_
    refine tgA ?_
    refine tr_nil ⟨rfl, by simp [LooksL, lookAll], ?_⟩
    refine goA 60 ?_
    refine tr_drawB rfl (by conv => lhs; cbv) rfl ?_
    refine tgA ?_
    refine oPT b1 ?_
    refine tgA ?_
    cases d1
    ·
     refine tr_ung rfl ?_
     refine tgA ?_
     refine tr_ung rfl ?_
     refine tgA ?_
     refine tr_ung rfl ?_
     refine tgA ?_
     refine tr_ung rfl ?_
     refine oPT b2 ?_
     refine tgA ?_
     cases d2
     ·
      refine tr_ung rfl ?_
      refine tgA ?_
      refine tr_ung rfl ?_
      refine tgA ?_
      refine tr_ung rfl ?_
      refine tgA ?_
      refine tr_ung rfl ?_
      refine oPT b3t ?_
      refine tgA ?_
      cases d3
      ·
       refine tr_ung rfl ?_
       refine tgA ?_
       refine tr_ung rfl ?_
       refine oPT h4 ?_
       refine tr_ung rfl ?_
       refine tgA ?_
       refine tr_ung rfl ?_
       refine tgA ?_
       refine tr_ung rfl ?_
       refine oPT b4 ?_
       refine tgA ?_
       refine tr_nil ⟨rfl, by simp [LooksL, lookAll], ?_⟩
       refine goA 60 ?_
       refine oPA h6 ?_
       refine goA 0 ?_
       refine on_cond rfl (fun c3 => ?_) (fun c3 => ?_)
       ·
        simp [ee] at c3
        refine goA 60 ?_
        refine fn_ret rfl rfl (.val ?_)
        exact congrArg (Value.int .i64) (by rw [hR]; clear ee hX; grind)
       ·
        simp [ee] at c3
        refine goA 0 ?_
        refine nsB hX (by conv => lhs; cbv) ?_
        refine goA 0 ?_
        refine nsB hX (by conv => lhs; cbv) ?_
        refine goA 0 ?_
        refine on_guard rfl rfl (fun c4 => ?_) (fun c4 => ?_)
        ·
         simp [ee] at c4
        ·
         simp [ee] at c4
         refine goA 60 ?_
         refine oPG h4 ?_
         refine goA 0 ?_
         refine goA 1 ?_
         refine goA 1 ?_
         refine nsB hX (by conv => lhs; cbv) ?_
         refine goA 0 ?_
         refine on_guard rfl rfl (fun c5 => ?_) (fun c5 => ?_)
         ·
          simp [ee] at c5
          refine goA 60 ?_
          refine on_gskip rfl rfl ?_
          refine goA 60 ?_
          refine fn_ret rfl rfl (.val ?_)
          exact congrArg (Value.int .i64) (by rw [hR]; clear ee hX; grind)
         ·
          simp [ee] at c5
          refine goA 1 ?_
          refine goA 1 ?_
          refine goA 1 ?_
          refine on_guard rfl rfl (fun c6 => ?_) (fun c6 => ?_)
          ·
           simp [ee] at c6
          ·
           simp [ee] at c6
           refine goA 1 ?_
           refine goA 1 ?_
           refine goA 1 ?_
           refine goA 1 ?_
           refine goA 1 ?_
           refine on_cond rfl (fun c7 => ?_) (fun c7 => ?_)
           ·
            simp [ee] at c7
           ·
            simp [ee] at c7
            refine goA 60 ?_
            refine fn_ret rfl rfl (.val ?_)
            exact congrArg (Value.int .i64) (by rw [hR]; clear ee hX; grind)
      ·
       refine tr_skipq (.inl rfl) ?_
       refine tr_skipq (.inl rfl) ?_
       refine tr_skipq (.inl rfl) ?_
       refine tr_skipq (.inl rfl) ?_
       refine tr_skipq (.inl rfl) ?_
       refine tgA ?_
       refine tr_nil ⟨rfl, by simp [LooksL, lookAll], ?_⟩
       refine goA 60 ?_
       refine fn_ret rfl rfl (.val ?_)
       exact congrArg (Value.int .i64) (by rw [hR]; clear ee hX; grind)
     ·
      refine tr_skipq (.inl rfl) ?_
      refine tr_skipq (.inl rfl) ?_
      refine tr_skipq (.inl rfl) ?_
      refine tr_skipq (.inl rfl) ?_
      refine tgA ?_
      refine tr_skipq (.inl rfl) ?_
      refine tr_skipq (.inl rfl) ?_
      refine tr_skipq (.inl rfl) ?_
      refine tr_skipq (.inl rfl) ?_
      refine tr_skipq (.inl rfl) ?_
      refine tgA ?_
      refine tr_nil ⟨rfl, by simp [LooksL, lookAll], ?_⟩
      refine goA 60 ?_
      refine fn_ret rfl rfl (.val ?_)
      exact congrArg (Value.int .i64) (by rw [hR]; clear ee hX; grind)
    ·
     refine tr_skipq (.inl rfl) ?_
     refine tr_skipq (.inl rfl) ?_
     refine tr_skipq (.inl rfl) ?_
     refine tr_skipq (.inl rfl) ?_
     refine tgA ?_
     refine tr_skipq (.inl rfl) ?_
     refine tr_skipq (.inl rfl) ?_
     refine tr_skipq (.inl rfl) ?_
     refine tr_skipq (.inl rfl) ?_
     refine tgA ?_
     refine tr_skipq (.inl rfl) ?_
     refine tr_skipq (.inl rfl) ?_
     refine tr_skipq (.inl rfl) ?_
     refine tr_skipq (.inl rfl) ?_
     refine tr_skipq (.inl rfl) ?_
     refine tgA ?_
     refine tr_nil ⟨rfl, by simp [LooksL, lookAll], ?_⟩
     refine goA 60 ?_
     refine fn_ret rfl rfl (.val ?_)
     exact congrArg (Value.int .i64) (by rw [hR]; clear ee hX; grind)
 ·
  refine goA 0 ?_
  refine on_cond rfl (fun c1 => ?_) (fun c1 => ?_)
  ·
   simp [ee] at c1
   refine goA 60 ?_
   refine fn_ret rfl rfl (.val ?_)
   exact congrArg (Value.int .i64) (by rw [hR]; clear ee hX; grind)
  ·
   simp [ee] at c1
   refine goA 60 ?_
   refine oPA h1 ?_
   refine goA 0 ?_
   refine on_cond rfl (fun c2 => ?_) (fun c2 => ?_)
   ·
    simp [ee] at c2
    refine goA 60 ?_
    refine fn_ret rfl rfl (.val ?_)
    exact congrArg (Value.int .i64) (by rw [hR]; clear ee hX; grind)
   ·
    simp [ee] at c2
    refine goA 60 ?_
    refine tr_drawB rfl (by conv => lhs; cbv) rfl ?_
    refine tgA ?_
    refine oPT h2 ?_
    refine tgA ?_
    refine oPT h3 ?_
    refine tgA ?_
    refine tr_ung rfl ?_
    refine tgA ?_
    refine tr_ung rfl ?_
    refine oPT h4 ?_
    refine tgA ?_
    refine oPT h5 ?_
    refine tgA ?_
    refine tr_nil ⟨rfl, by simp [LooksL, lookAll], ?_⟩
    refine goA 60 ?_
    refine tr_drawB rfl (by conv => lhs; cbv) rfl ?_
    refine tgA ?_
    refine oPT b1 ?_
    refine tgA ?_
    refine tr_ung rfl ?_
    refine tgA ?_
    refine tr_ung rfl ?_
    refine tgA ?_
    refine tr_ung rfl ?_
    refine tgA ?_
    refine tr_ung rfl ?_
    refine oPT b2 ?_
    refine tgA ?_
    refine tr_ung rfl ?_
    refine tgA ?_
    refine tr_ung rfl ?_
    refine tgA ?_
    refine tr_ung rfl ?_
    refine tgA ?_
    refine tr_ung rfl ?_
    refine oPT b3t ?_
    refine tgA ?_
    cases d3
    ·
     refine tr_ung rfl ?_
     refine tgA ?_
     refine tr_ung rfl ?_
     refine oPT h4 ?_
     refine tr_ung rfl ?_
     refine tgA ?_
     refine tr_ung rfl ?_
     refine tgA ?_
     refine tr_ung rfl ?_
     refine oPT b4 ?_
     refine tgA ?_
     refine tr_nil ⟨rfl, by simp [LooksL, lookAll], ?_⟩
     refine goA 0 ?_
     refine on_cond rfl (fun c3 => ?_) (fun c3 => ?_)
     ·
      refine goA 60 ?_
      refine fn_ret rfl rfl (.val ?_)
      exact congrArg (Value.int .i64) (by rw [hR]; clear ee hX; grind)
     ·
      refine goA 0 ?_
      refine goA 1 ?_
      refine nsB hX (by conv => lhs; cbv) ?_
      refine goA 0 ?_
      refine nsB hX (by conv => lhs; cbv) ?_
      refine goA 0 ?_
      refine on_guard rfl rfl (fun c4 => ?_) (fun c4 => ?_)
      ·
       simp [ee] at c4
       refine goA 60 ?_
       refine on_gskip rfl rfl ?_
       refine goA 60 ?_
       refine on_gskip rfl rfl ?_
       refine goA 60 ?_
       refine fn_ret rfl rfl (.val ?_)
       exact congrArg (Value.int .i64) (by rw [hR]; clear ee hX; grind)
      ·
       simp [ee] at c4
       refine goA 60 ?_
       refine oPG h4 ?_
       refine goA 0 ?_
       refine goA 1 ?_
       refine goA 1 ?_
       refine nsB hX (by conv => lhs; cbv) ?_
       refine goA 0 ?_
       refine on_guard rfl rfl (fun c5 => ?_) (fun c5 => ?_)
       ·
        simp [ee] at c5
       ·
        simp [ee] at c5
        refine goA 1 ?_
        refine goA 1 ?_
        refine goA 1 ?_
        refine on_guard rfl rfl (fun c6 => ?_) (fun c6 => ?_)
        ·
         simp [ee] at c6
         refine goA 60 ?_
         refine on_lend rfl rfl h7 rfl ⟨[.gone], ⟨trivial, trivial⟩, ⟨.cl hccl, .agg' ⟨.refl _, .nilI _, .refl _, .refl _, .refl _, .refl _, .refl _, .refl _, trivial⟩, trivial⟩⟩ ?_
         refine goA 0 ?_
         refine goA 1 ?_
         refine on_cond rfl (fun c7 => ?_) (fun c7 => ?_)
         ·
          simp [ee] at c7
          refine goA 60 ?_
          refine fn_ret rfl rfl (.val ?_)
          exact congrArg (Value.int .i64) (by rw [hR]; clear ee hX; grind)
         ·
          simp [ee] at c7
          refine goA 60 ?_
          refine fn_ret rfl rfl (.val ?_)
          exact congrArg (Value.int .i64) (by rw [hR]; clear ee hX; grind)
        ·
         simp [ee] at c6
    ·
     refine tr_skipq (.inl rfl) ?_
     refine tr_skipq (.inl rfl) ?_
     refine tr_skipq (.inl rfl) ?_
     refine tr_skipq (.inl rfl) ?_
     refine tr_skipq (.inl rfl) ?_
     refine tgA ?_
     refine tr_nil ⟨rfl, by simp [LooksL, lookAll], ?_⟩
     refine goA 60 ?_
     refine fn_ret rfl rfl (.val ?_)
     exact congrArg (Value.int .i64) (by rw [hR]; clear ee hX; grind)
 ·
  refine goA 0 ?_
  refine on_cond rfl (fun c1 => ?_) (fun c1 => ?_)
  ·
   simp [ee] at c1
   refine goA 60 ?_
   refine fn_ret rfl rfl (.val ?_)
   exact congrArg (Value.int .i64) (by rw [hR]; clear ee hX; grind)
  ·
   simp [ee] at c1
   refine goA 60 ?_
   refine oPA h1 ?_
   refine goA 0 ?_
   refine on_cond rfl (fun c2 => ?_) (fun c2 => ?_)
   ·
    simp [ee] at c2
    refine goA 60 ?_
    refine fn_ret rfl rfl (.val ?_)
    exact congrArg (Value.int .i64) (by rw [hR]; clear ee hX; grind)
   ·
    simp [ee] at c2
    refine goA 60 ?_
    refine tr_drawB rfl (by conv => lhs; cbv) rfl ?_
    refine tgA ?_
    refine oPT h2 ?_
    refine tgA ?_
    refine oPT h3 ?_
    refine tgA ?_
    refine tr_ung rfl ?_
    refine tgA ?_
    refine tr_ung rfl ?_
    refine oPT h4 ?_
    refine tgA ?_
    refine oPT h5 ?_
    refine tgA ?_
    refine tr_nil ⟨rfl, by simp [LooksL, lookAll], ?_⟩
    refine goA 60 ?_
    refine tr_drawB rfl (by conv => lhs; cbv) rfl ?_
    refine tgA ?_
    refine oPT b1 ?_
    refine tgA ?_
    refine tr_ung rfl ?_
    refine tgA ?_
    refine tr_ung rfl ?_
    refine tgA ?_
    refine tr_ung rfl ?_
    refine tgA ?_
    refine tr_ung rfl ?_
    refine oPT b2 ?_
    refine tgA ?_
    refine tr_ung rfl ?_
    refine tgA ?_
    refine tr_ung rfl ?_
    refine tgA ?_
    refine tr_ung rfl ?_
    refine tgA ?_
    refine tr_ung rfl ?_
    refine oPT b3f ?_
    refine tgA ?_
    refine tr_ung rfl ?_
    refine tgA ?_
    refine tr_ung rfl ?_
    refine oPT h4 ?_
    refine tr_ung rfl ?_
    refine tgA ?_
    refine tr_ung rfl ?_
    refine tgA ?_
    refine tr_ung rfl ?_
    refine oPT b4 ?_
    refine tgA ?_
    refine tr_nil ⟨rfl, by simp [LooksL, lookAll], ?_⟩
    refine goA 60 ?_
    refine oPA h6 ?_
    refine goA 0 ?_
    refine on_cond rfl (fun c3 => ?_) (fun c3 => ?_)
    ·
     simp [ee] at c3
     refine goA 60 ?_
     refine fn_ret rfl rfl (.val ?_)
     exact congrArg (Value.int .i64) (by rw [hR]; clear ee hX; grind)
    ·
     simp [ee] at c3
     refine goA 0 ?_
     refine nsB hX (by conv => lhs; cbv) ?_
     refine goA 0 ?_
     refine nsB hX (by conv => lhs; cbv) ?_
     refine goA 0 ?_
     refine on_guard rfl rfl (fun c4 => ?_) (fun c4 => ?_)
     ·
      simp [ee] at c4
      refine goA 60 ?_
      refine on_gskip rfl rfl ?_
      refine goA 60 ?_
      refine on_gskip rfl rfl ?_
      refine goA 60 ?_
      refine fn_ret rfl rfl (.val ?_)
      exact congrArg (Value.int .i64) (by rw [hR]; clear ee hX; grind)
     ·
      simp [ee] at c4
      refine goA 60 ?_
      refine oPG h4 ?_
      refine goA 0 ?_
      refine goA 1 ?_
      refine goA 1 ?_
      refine nsB hX (by conv => lhs; cbv) ?_
      refine goA 0 ?_
      refine on_guard rfl rfl (fun c5 => ?_) (fun c5 => ?_)
      ·
       simp [ee] at c5
       refine goA 60 ?_
       refine on_gskip rfl rfl ?_
       refine goA 60 ?_
       refine fn_ret rfl rfl (.val ?_)
       exact congrArg (Value.int .i64) (by rw [hR]; clear ee hX; grind)
      ·
       simp [ee] at c5
       refine goA 1 ?_
       refine goA 1 ?_
       refine goA 1 ?_
       refine on_guard rfl rfl (fun c6 => ?_) (fun c6 => ?_)
       ·
        simp [ee] at c6
       ·
        simp [ee] at c6
        refine goA 1 ?_
        refine goA 1 ?_
        refine goA 1 ?_
        refine goA 1 ?_
        refine goA 1 ?_
        refine on_cond rfl (fun c7 => ?_) (fun c7 => ?_)
        ·
         simp [ee] at c7
        ·
         simp [ee] at c7
         refine goA 60 ?_
         refine fn_ret rfl rfl (.val ?_)
         exact congrArg (Value.int .i64) (by rw [hR]; clear ee hX; grind)
 ·
  refine goA 0 ?_
  refine on_cond rfl (fun c1 => ?_) (fun c1 => ?_)
  ·
   simp [ee] at c1
   refine goA 60 ?_
   refine fn_ret rfl rfl (.val ?_)
   exact congrArg (Value.int .i64) (by rw [hR]; clear ee hX; grind)
  ·
   simp [ee] at c1
   refine goA 60 ?_
   refine oPA h1 ?_
   refine goA 0 ?_
   refine on_cond rfl (fun c2 => ?_) (fun c2 => ?_)
   ·
    simp [ee] at c2
    refine goA 60 ?_
    refine fn_ret rfl rfl (.val ?_)
    exact congrArg (Value.int .i64) (by rw [hR]; clear ee hX; grind)
   ·
    simp [ee] at c2
    refine goA 60 ?_
    refine tr_drawB rfl (by conv => lhs; cbv) rfl ?_
    refine tgA ?_
    refine oPT h2 ?_
    refine tgA ?_
    refine oPT h3 ?_
    refine tgA ?_
    refine tr_ung rfl ?_
    refine tgA ?_
    refine tr_ung rfl ?_
    refine oPT h4 ?_
    refine tgA ?_
    refine oPT h5 ?_
    refine tgA ?_
    refine tr_nil ⟨rfl, by simp [LooksL, lookAll], ?_⟩
    refine goA 60 ?_
    refine tr_drawB rfl (by conv => lhs; cbv) rfl ?_
    refine tgA ?_
    refine oPT b1 ?_
    refine tgA ?_
    refine tr_ung rfl ?_
    refine tgA ?_
    refine tr_ung rfl ?_
    refine tgA ?_
    refine tr_ung rfl ?_
    refine tgA ?_
    refine tr_ung rfl ?_
    refine oPT b2 ?_
    refine tgA ?_
    refine tr_ung rfl ?_
    refine tgA ?_
    refine tr_ung rfl ?_
    refine tgA ?_
    refine tr_ung rfl ?_
    refine tgA ?_
    refine tr_ung rfl ?_
    refine oPT b3f ?_
    refine tgA ?_
    refine tr_ung rfl ?_
    refine tgA ?_
    refine tr_ung rfl ?_
    refine oPT h4 ?_
    refine tr_ung rfl ?_
    refine tgA ?_
    refine tr_ung rfl ?_
    refine tgA ?_
    refine tr_ung rfl ?_
    refine oPT b4 ?_
    refine tgA ?_
    refine tr_nil ⟨rfl, by simp [LooksL, lookAll], ?_⟩
    refine goA 0 ?_
    refine goA 1 ?_
    refine goA 1 ?_
    refine nsB hX (by conv => lhs; cbv) ?_
    refine goA 0 ?_
    refine nsB hX (by conv => lhs; cbv) ?_
    refine goA 0 ?_
    refine on_guard rfl rfl (fun c3 => ?_) (fun c3 => ?_)
    ·
     simp [ee] at c3
     refine goA 60 ?_
     refine on_gskip rfl rfl ?_
     refine goA 60 ?_
     refine on_gskip rfl rfl ?_
     refine goA 60 ?_
     refine fn_ret rfl rfl (.val ?_)
     exact congrArg (Value.int .i64) (by rw [hR]; clear ee hX; grind)
    ·
     simp [ee] at c3
     refine goA 60 ?_
     refine oPG h4 ?_
     refine goA 0 ?_
     refine goA 1 ?_
     refine goA 1 ?_
     refine nsB hX (by conv => lhs; cbv) ?_
     refine goA 0 ?_
     refine on_guard rfl rfl (fun c4 => ?_) (fun c4 => ?_)
     ·
      simp [ee] at c4
      refine goA 60 ?_
      refine on_gskip rfl rfl ?_
      refine goA 60 ?_
      refine fn_ret rfl rfl (.val ?_)
      exact congrArg (Value.int .i64) (by rw [hR]; clear ee hX; grind)
     ·
      simp [ee] at c4
      refine goA 1 ?_
      refine goA 1 ?_
      refine goA 1 ?_
      refine on_guard rfl rfl (fun c5 => ?_) (fun c5 => ?_)
      ·
       simp [ee] at c5
       refine goA 60 ?_
       refine on_lend rfl rfl h7 rfl ⟨[.gone], ⟨trivial, trivial⟩, ⟨.cl hccl, .agg' ⟨.refl _, .nilI _, .refl _, .refl _, .refl _, .refl _, .refl _, .refl _, trivial⟩, trivial⟩⟩ ?_
       refine goA 0 ?_
       refine goA 1 ?_
       refine on_cond rfl (fun c6 => ?_) (fun c6 => ?_)
       ·
        simp [ee] at c6
        refine goA 60 ?_
        refine fn_ret rfl rfl (.val ?_)
        exact congrArg (Value.int .i64) (by rw [hR]; clear ee hX; grind)
       ·
        simp [ee] at c6
        refine goA 60 ?_
        refine fn_ret rfl rfl (.val ?_)
        exact congrArg (Value.int .i64) (by rw [hR]; clear ee hX; grind)
      ·
       simp [ee] at c5
mutual
def Pat.tot (lim : Nat) : Pat → Nat
 | .mk _ a _ _ _ _ _ => Pat.totL lim 1 a
def Pat.totL (lim : Nat) : Nat → List Pat → Nat
 | n, [] => n
 | n, e :: r => if n ≤ lim then Pat.totL lim (n + e.tot lim) r else n
end
theorem Pat.totL_le {lim : Nat} {l : List Pat} (h : ∀ e ∈ l, e.tot lim ≤ e.cnt) : ∀ n, Pat.totL lim n l ≤ n + Pat.cntL l := by
 induction l with
 | nil => intro n; simp [Pat.totL]
 | cons e r ih =>
  intro n
  have h1 := h e (by simp)
  have h2 := ih (fun e he => h e (by simp [he])) (n + e.tot lim)
  simp only [Pat.totL, Pat.cntL]; split <;> omega
theorem Pat.tot_le (lim : Nat) : ∀ e : Pat, e.tot lim ≤ e.cnt := Pat.ind fun o a t v s n c h => by
 have := Pat.totL_le h 1
 simp only [Pat.tot, Pat.cnt]; omega
theorem Pat.totL_eq {lim : Nat} {l : List Pat} (h : ∀ e ∈ l, e.cnt ≤ lim → e.tot lim = e.cnt) : ∀ n, n + Pat.cntL l ≤ lim → Pat.totL lim n l = n + Pat.cntL l := by
 induction l with
 | nil => intro n _; simp [Pat.totL, Pat.cntL]
 | cons e r ih =>
  intro n hn
  simp only [Pat.cntL] at hn ⊢
  have h1 := h e (by simp) (by omega)
  rw [Pat.totL, if_pos (by omega), ih (fun e he => h e (by simp [he])) _ (by omega)]; omega
theorem Pat.tot_eq {lim : Nat} : ∀ e : Pat, e.cnt ≤ lim → e.tot lim = e.cnt := Pat.ind fun o a t v s n c h hl => by
 simp only [Pat.tot, Pat.cnt] at hl ⊢
 exact Pat.totL_eq h 1 hl
theorem Pat.totL_gt {lim : Nat} {l : List Pat} (h : ∀ e ∈ l, lim < e.cnt → lim < e.tot lim) : ∀ n, lim < n + Pat.cntL l → lim < Pat.totL lim n l := by
 induction l with
 | nil => intro n hn; simpa [Pat.totL, Pat.cntL] using hn
 | cons e r ih =>
  intro n hn
  simp only [Pat.cntL] at hn
  rw [Pat.totL]
  split
  · refine ih (fun e he => h e (by simp [he])) _ ?_
    by_cases hc : e.cnt ≤ lim
    · rw [Pat.tot_eq e hc]; omega
    · have := h e (by simp) (by omega); omega
  · omega
theorem Pat.tot_gt {lim : Nat} : ∀ e : Pat, lim < e.cnt → lim < e.tot lim := Pat.ind fun o a t v s n c h hl => by
 simp only [Pat.tot, Pat.cnt] at hl ⊢
 exact Pat.totL_gt h 1 hl
theorem Pat.tot_iff (e : Pat) (lim : Nat) : e.tot lim ≤ lim ↔ e.cnt ≤ lim := by
 by_cases h : e.cnt ≤ lim
 · rw [Pat.tot_eq e h]
 · have := Pat.tot_gt (lim := lim) e (by omega); omega
theorem P_ref09_Total (lim : Nat) (hlim : lim ≤ 1099511627776) : ∀ p : Pat, p.Sm → PCall EE 29 [p.enc, int lim] (int (p.tot lim)) := by
 generalize hli : (lim : Int) = li
 refine Pat.ind ?_
 intro o a t v s n c ih hs
 obtain ⟨co, ca, cv, cf, ck, xk, xn, xt⟩ := c
 have hlen := hs.len
 have hih : ∀ q ∈ a, PCall EE 29 [q.enc, int li] (int (q.tot lim)) := fun q hq => ih q hq (hs.arg hq)
 have hcl := Pat.closedI a
 have hce := Ex.closedI ca
 have hcnt : Pat.cntL a ≤ 1048576 := by have hs := hs.1; simp only [Pat.cnt] at hs; omega
 have hde := fun q : Pat => Pat.tot_le lim q
 simp only [Pat.tot]
 obtain ⟨R, hR⟩ : ∃ R, R = Pat.totL lim 1 a := ⟨_, rfl⟩
 rw [← hR, Pat.enc_mk]
 refine wordsN ?_; unhygienic intros
 generalize hes : mapE Pat.enc a = es at *
 generalize mapE Ex.enc ca = ec at *
 have hel : es.length = a.length := by rw [← hes, mapE_len]
 refine fn_body (fn := Tryz.f29) (n := 29) (ac := Tryzc29) (rvs := [.t 4]) rfl (by decide) Tryzp29 rfl rfl rfl ?_
 refine goA 60 ?_
 refine on_loopP (ι := List Pat × List Pat × Int × Int) (fun p => ([(5, int p.2.2.2), (6, int p.2.2.1), (1, int li), (2, .ptr 0 0)], [.cells [int o, .isl 14 es, int t, int v, int s, int n, int co, .isl 8 ec, int cv, int cf, int ck, int xk, int xn, str xt]])) (fun p => a = p.1 ++ p.2.1 ∧ p.2.2.1 = p.1.length ∧ p.2.2.2 ≤ 1 + Pat.cntL p.1 ∧ 0 ≤ p.2.2.2 ∧ R = Pat.totL lim p.2.2.2.toNat p.2.1) (fun p => p.2.1.length) ([], a, 0, 1) ⟨rfl, rfl, by simp [Pat.cntL], by simp, hR⟩ ?_ ?_
 · exact (ent_sub [.to 0] [some 0] ⟨⟨by simp, rfl⟩, trivial⟩ ⟨osrc_cells (b := 0) rfl rfl rfl ⟨.refl _, .cl hcl, .refl _, .refl _, .refl _, .refl _, .refl _, .cl hce, .refl _, .refl _, .refl _, .refl _, .refl _, .refl _, trivial⟩, trivial⟩ ⟨.refl _, .refl _, .refl _, .refl _, trivial⟩)
 rintro ⟨d, r, i, nn⟩ ⟨g1, gi, gn, gp, gt⟩
 dsimp only at g1 gi gn gp gt ⊢
 have hnt : (nn.toNat : Int) = nn := Int.toNat_of_nonneg gp
 cases r with
 | nil =>
  have L1 := len_split g1
  try simp only [List.length] at L1
  have hc : iLt i (lenA es) = false := lt_f e_iLt e_lenA (by omega)
  rw [Pat.totL] at gt
  have hv : nn = (R : Int) := by omega
  have hb : ∀ b, bAnd false b = false := by simp [ee]
  refine goB hX 0 (by conv => lhs; cbv; try simp only [hc, hb]; cbv; try simp only [hc, hb]; cbv; try simp only [hc, hb]; cbv; try simp only [hc, hb]; cbv) ?_
  refine goA 60 ?_
  refine loopP_exit ?_
  refine goA 60 ?_
  refine fn_ret rfl rfl (.val ?_)
  exact congrArg (Value.int .i64) hv
 | cons q r =>
  have L1 := len_split g1
  try simp only [List.length] at L1
  have hc : iLt i (lenA es) = true := lt_t e_iLt e_lenA (by omega)
  have hat := el_at e_atA hes g1 gi
  have hq := hih q (by rw [g1]; simp)
  have hqc := Pat.closed q
  have hqd := hde q
  rw [g1, Pat.cntL_append, Pat.cntL] at hcnt
  obtain ⟨qO, qA, qT, qV, qS, qN, qCo, qCa, qCv, qCf, qCk, qXk, qXn, qXt, hx⟩ := Pat.form q
  rw [hx] at hq hat hqc
  have hb : ∀ b, bAnd true b = b := by simp [ee]
  rw [Pat.totL] at gt
  by_cases hle : nn ≤ li
  · have h2 : iLe nn li = true := by simp [ee]; omega
    rw [if_pos (by omega)] at gt
    generalize hqn : (q.tot lim : Int) = qn at hq
    have hn2 : iAdd .i64 nn qn = nn + qn := add_w e_iAdd (by omega) (by omega)
    have hi2 : iAdd .i64 i 1 = ((d ++ [q]).length : Int) := by rw [List.length_append]; exact inc_w e_iAdd gi (by omega)
    have hn4 : iAdd .i64 nn qn ≤ 1 + Pat.cntL (d ++ [q]) ∧ 0 ≤ iAdd .i64 nn qn := by rw [Pat.cntL_append, Pat.cntL, Pat.cntL, hn2]; omega
    have hn3 : (iAdd .i64 nn qn).toNat = nn.toNat + q.tot lim := by omega
    refine goB hX 0 (by conv => lhs; cbv; try simp only [hc, hat, hb, h2]; cbv; try simp only [hc, hat, hb, h2]; cbv; try simp only [hc, hat, hb, h2]; cbv; try simp only [hc, hat, hb, h2]; cbv) ?_
    refine goB hX 1 (by conv => lhs; cbv; try simp only [hc, hat, hb, h2]; cbv; try simp only [hc, hat, hb, h2]; cbv; try simp only [hc, hat, hb, h2]; cbv; try simp only [hc, hat, hb, h2]; cbv) ?_
    refine oPA hq ?_
    refine goA 60 ?_
    refine loopP_next (d ++ [q], r, iAdd .i64 i 1, iAdd .i64 nn qn) ⟨by simp [g1], hi2, hn4.1, hn4.2, hn3 ▸ gt⟩ (by simp) (ent_sub [.to 0] [some 0] ⟨⟨by simp, rfl⟩, trivial⟩ ⟨osrc_cells (b := 0) rfl rfl rfl ⟨.refl _, .cl hcl, .refl _, .refl _, .refl _, .refl _, .refl _, .cl hce, .refl _, .refl _, .refl _, .refl _, .refl _, .refl _, trivial⟩, trivial⟩ ⟨.refl _, .refl _, .refl _, .refl _, trivial⟩)
  · have h2 : iLe nn li = false := by simp [ee]; omega
    rw [if_neg (by omega)] at gt
    have hv : nn = (R : Int) := by omega
    refine goB hX 0 (by conv => lhs; cbv; try simp only [hc, hat, hb, h2]; cbv; try simp only [hc, hat, hb, h2]; cbv; try simp only [hc, hat, hb, h2]; cbv; try simp only [hc, hat, hb, h2]; cbv) ?_
    refine goA 60 ?_
    refine loopP_exit ?_
    refine goA 60 ?_
    refine fn_ret rfl rfl (.val ?_)
    exact congrArg (Value.int .i64) hv
theorem comp_split (zs : List Int) : ∀ m, m ≤ zs.length → zs.Pairwise (· ≤ ·) →
 (Lib.compactUpTo zs.toArray m).Pairwise (· < ·) ∧ (∀ n, n ∈ Lib.compactUpTo zs.toArray m ↔ n ∈ zs.take m) := by
 intro m
 induction m with
 | zero => intro _ _; simp [Lib.compactUpTo]
 | succ m ih =>
  intro hm hp
  obtain ⟨i1, i2⟩ := ih (by omega) hp
  have hz : zs.toArray[m]! = zs[m] := by simp [getElem!_pos, show m < zs.length by omega]
  have htk : zs.take (m + 1) = zs.take m ++ [zs[m]] := by rw [List.take_succ_eq_append_getElem (by omega)]
  rw [Lib.compactUpTo_succ, hz]
  have hle : ∀ n ∈ zs.take m, n ≤ zs[m] := by
   intro n hn
   obtain ⟨j, hj, rfl⟩ := List.mem_iff_getElem.1 hn
   have hj' : j < m := by simp at hj; omega
   rw [List.getElem_take]
   exact (List.pairwise_iff_getElem.1 hp) j m (by omega) (by omega) hj'
  by_cases hk : Lib.keeps zs.toArray m = true
  · rw [if_pos hk]
    constructor
    · rw [List.pairwise_append]
      refine ⟨i1, by simp, fun x hx y hy => ?_⟩
      simp at hy; subst hy
      have hx' := (i2 x).1 hx
      have h1 := hle x hx'
      by_cases hm0 : m = 0
      · subst hm0; simp at hx'
      · have hne : zs[m] ≠ zs[m - 1] := by
         intro he
         have : Lib.keeps zs.toArray m = false := Lib.keeps_neg (by omega) (by
          rw [hz]; simp [getElem!_pos, show m - 1 < zs.length by omega]; exact he)
         rw [hk] at this; cases this
        have h2 : x ≤ zs[m - 1] := by
         obtain ⟨j, hj, rfl⟩ := List.mem_iff_getElem.1 hx'
         have hj' : j < m := by simp at hj; omega
         rw [List.getElem_take]
         by_cases hjm : j = m - 1
         · subst hjm; exact Int.le_refl _
         · exact (List.pairwise_iff_getElem.1 hp) j (m - 1) (by omega) (by omega) (by omega)
        have h3 := (List.pairwise_iff_getElem.1 hp) (m - 1) m (by omega) (by omega) (by omega)
        omega
    · intro n
      rw [htk, List.mem_append, List.mem_append, i2]
  · rw [if_neg hk, List.append_nil]
    refine ⟨i1, fun n => ?_⟩
    rw [htk, List.mem_append, i2, List.mem_singleton]
    refine ⟨.inl, ?_⟩
    rintro (h | rfl)
    · exact h
    · have hm0 : m ≠ 0 := by rintro rfl; exact hk (Lib.keeps_lt_one _ 0 (by omega))
      have he : zs[m] = zs[m - 1] := by
       by_cases he : zs[m] = zs[m - 1]
       · exact he
       · exact absurd (Lib.keeps_pos (d := zs.toArray) (m := m) (by rw [hz]; simp [getElem!_pos, show m - 1 < zs.length by omega]; exact he)) hk
      rw [he]
      exact List.mem_take_iff_getElem.2 ⟨m - 1, by omega, rfl⟩
theorem comp_ok (zs : List Int) (hp : zs.Pairwise (· ≤ ·)) : (Lib.compact zs).Pairwise (· < ·) ∧ ∀ n, n ∈ Lib.compact zs ↔ n ∈ zs := by
 have := comp_split zs zs.length (Nat.le_refl _) hp
 rw [List.take_length] at this
 exact this
theorem sort_sorted (l : List Int) : (sortI l).Pairwise (· ≤ ·) := by
 have := List.pairwise_mergeSort (le := fun x y : Int => decide (x ≤ y)) (fun a b c h1 h2 => by simp at *; omega) (fun a b => by simp; omega) l
 exact this.imp (by intro a b h; simpa using h)
theorem sort_mem (l : List Int) (n : Int) : n ∈ sortI l ↔ n ∈ l := by simp [sortI, List.mem_mergeSort]
theorem Pat.bound_mem {p : Pat} (n : Int) : n ∈ p.bound ↔ n ∈ bndF p.nodes := by
 rw [Pat.bound, (comp_ok _ (sort_sorted _)).2, sort_mem]
theorem Pat.bound_nodup (p : Pat) : p.bound.Pairwise (· < ·) := (comp_ok _ (sort_sorted _)).1
theorem cnt_node : ∀ p : Pat, ∀ q ∈ p.nodes, q.cnt ≤ p.cnt ∧ q.dep ≤ p.dep ∧ (∀ x ∈ q.nodes, x ∈ p.nodes) := by
 refine Pat.ind fun o a t v s n c ih q hq => ?_
 rw [Pat.nodes, List.mem_cons] at hq
 rcases hq with rfl | hq
 · exact ⟨Nat.le_refl _, Nat.le_refl _, fun x hx => hx⟩
 · obtain ⟨e, he, hqe⟩ := Pat.mem_nodesL hq
   obtain ⟨h1, h2, h3⟩ := ih e he q hqe
   have h4 := Pat.cnt_mem he
   have h5 : e.dep ≤ Pat.depL 0 a := by
    have : ∀ (l : List Pat) (d : Nat), d ≤ Pat.depL d l ∧ ∀ e ∈ l, e.dep ≤ Pat.depL d l := by
     intro l
     induction l with
     | nil => intro d; simp [Pat.depL]
     | cons x r ih =>
      intro d
      have := ih (max d x.dep)
      rw [Pat.depL]
      refine ⟨by omega, fun e he => ?_⟩
      rcases List.mem_cons.1 he with rfl | he
      · omega
      · exact this.2 e he
    exact (this a 0).2 e he
   refine ⟨by rw [Pat.cnt]; omega, by rw [Pat.dep]; omega, fun x hx => ?_⟩
   rw [Pat.nodes]
   refine List.mem_cons_of_mem _ ?_
   obtain ⟨l1, l2, rfl⟩ := List.append_of_mem he
   rw [Pat.nodesL_append, Pat.nodesL]
   simp [h3 x hx]
theorem P_ref09_CheckRest (p : Pat) (hs : p.Sm) : PCall EE 20 [p.enc] (int p.chkR) := by
 have h1 := P_ref09_Total 64 (by decide) p hs
 have h2 := P_ref09_Depth p hs
 have h3 := P_ref09_Nodes p hs
 have htot := Pat.tot_iff p 64
 have hnd := hs.node
 have hcn := cnt_node p
 have hcl := Pat.closed p
 obtain ⟨R, hR⟩ : ∃ R, R = p.chkR := ⟨_, rfl⟩
 rw [← hR]
 unfold Pat.chkR at hR
 obtain ⟨tt, htt⟩ : ∃ z : Int, z = p.tot 64 := ⟨_, rfl⟩
 obtain ⟨dp, hdp⟩ : ∃ z : Int, z = p.dep := ⟨_, rfl⟩
 rw [← htt] at h1
 rw [← hdp] at h2
 have hnl := Pat.nodes_len p
 have hqn : p.cnt ≤ 64 → ∀ q ∈ p.nodes, PCall EE 55 [q.enc] (int q.nodeE) := fun hc q hq => P_ref09_node q (hnd q hq) (by
  have h1 := (hcn q hq).1
  obtain ⟨o, a, t, v, s, n, c⟩ := q
  have := Pat.cntL_len a
  simp only [Pat.cnt, Pat.args] at h1 ⊢
  omega)
 have hnc := Pat.closedI p.nodes
 generalize hnn : p.nodes = nl at *
 obtain ⟨pO, pA, pT, pV, pS, pN, pCo, pCa, pCv, pCf, pCk, pXk, pXn, pXt, hx⟩ := Pat.form p
 rw [hx] at h1 h2 h3 hcl ⊢
 refine wordsN ?_; unhygienic intros
 generalize hes : mapE Pat.enc nl = es at *
 have hel : es.length = nl.length := by rw [← hes, mapE_len]
 refine fn_body (fn := Tryz.f20) (n := 28) (ac := Tryzc20) (rvs := [.t 2]) rfl (by decide) Tryzp20 rfl rfl rfl ?_
 by_cases g1 : tt ≤ 64
 rotate_left
 · have k1 : iLt 64 tt = true := by simp only [ee]; simp; omega
   rw [if_pos (by omega)] at hR
   refine goA 60 ?_
   refine oPA h1 ?_
   refine goB hX 0 (by conv => lhs; cbv; try simp only [k1]; cbv; try simp only [k1]; cbv; try simp only [k1]; cbv; try simp only [k1]; cbv) ?_
   refine goA 60 ?_
   refine fn_ret rfl rfl (.val ?_)
   exact congrArg (Value.int .i64) hR.symm
 have k1 : iLt 64 tt = false := by simp only [ee]; simp; omega
 rw [if_neg (by omega)] at hR
 have hqn := hqn (by omega)
 by_cases g2 : dp ≤ 12
 rotate_left
 · have k2 : iLt 12 dp = true := by simp only [ee]; simp; omega
   rw [if_pos (by omega)] at hR
   refine goA 60 ?_
   refine oPA h1 ?_
   refine goB hX 0 (by conv => lhs; cbv; try simp only [k1, k2]; cbv; try simp only [k1, k2]; cbv; try simp only [k1, k2]; cbv; try simp only [k1, k2]; cbv) ?_
   refine goA 60 ?_
   refine oPA h2 ?_
   refine goB hX 0 (by conv => lhs; cbv; try simp only [k1, k2]; cbv; try simp only [k1, k2]; cbv; try simp only [k1, k2]; cbv; try simp only [k1, k2]; cbv) ?_
   refine goA 60 ?_
   refine fn_ret rfl rfl (.val ?_)
   exact congrArg (Value.int .i64) hR.symm
 have k2 : iLt 12 dp = false := by simp only [ee]; simp; omega
 rw [if_neg (by omega)] at hR
 refine goA 60 ?_
 refine oPA h1 ?_
 refine goB hX 0 (by conv => lhs; cbv; try simp only [k1, k2]; cbv; try simp only [k1, k2]; cbv; try simp only [k1, k2]; cbv; try simp only [k1, k2]; cbv) ?_
 refine goA 60 ?_
 refine oPA h2 ?_
 refine goB hX 0 (by conv => lhs; cbv; try simp only [k1, k2]; cbv; try simp only [k1, k2]; cbv; try simp only [k1, k2]; cbv; try simp only [k1, k2]; cbv) ?_
 refine goA 60 ?_
 refine oPA h3 ?_
 refine goA 60 ?_
 refine on_loopP (ι := List Pat × List Pat × Int) (fun p => ([(4, int p.2.2), (3, .isl 14 es)], [])) (fun p => nl = p.1 ++ p.2.1 ∧ p.2.2 = p.1.length ∧ R = firstE Pat.nodeE p.2.1) (fun p => p.2.1.length) ([], nl, 0) ⟨rfl, rfl, hR⟩ ?_ ?_
 · exact (ent_sub [.gone] [] ⟨trivial, trivial⟩ trivial ⟨.refl _, .cl hnc, trivial⟩)
 rintro ⟨d, r, i⟩ ⟨g1, gi, gR⟩
 dsimp only at g1 gi gR ⊢
 cases r with
 | nil =>
  have L1 := len_split g1
  try simp only [List.length] at L1
  have hc : iLt i (lenA es) = false := lt_f e_iLt e_lenA (by omega)
  have gR : R = 0 := gR
  refine goB hX 0 (by conv => lhs; cbv; try simp only [hc]; cbv; try simp only [hc]; cbv; try simp only [hc]; cbv; try simp only [hc]; cbv) ?_
  refine goA 60 ?_
  refine loopP_exit ?_
  refine goA 60 ?_
  refine fn_ret rfl rfl (.val ?_)
  exact congrArg (Value.int .i64) gR.symm
 | cons q r =>
  have L1 := len_split g1
  try simp only [List.length] at L1
  have hc : iLt i (lenA es) = true := lt_t e_iLt e_lenA (by omega)
  have hat := el_at e_atA hes g1 gi
  have hq := hqn q (by rw [g1]; simp)
  have hqc := Pat.closed q
  rw [firstE] at gR
  obtain ⟨qO, qA, qT, qV, qS, qN, qCo, qCa, qCv, qCf, qCk, qXk, qXn, qXt, hy⟩ := Pat.form q
  rw [hy] at hat hqc hq
  have hi2 : iAdd .i64 i 1 = ((d ++ [q]).length : Int) := by rw [List.length_append]; exact inc_w e_iAdd gi (by omega)
  generalize q.nodeE = fq at *
  by_cases h2 : fq = 0
  · have w2 : iNe fq 0 = false := by simp only [ee]; simpa using h2
    rw [if_neg (by simpa using h2)] at gR
    refine goB hX 0 (by conv => lhs; cbv; try simp only [hc, hat, w2]; cbv; try simp only [hc, hat, w2]; cbv; try simp only [hc, hat, w2]; cbv; try simp only [hc, hat, w2]; cbv) ?_
    refine goB hX 1 (by conv => lhs; cbv; try simp only [hc, hat, w2]; cbv; try simp only [hc, hat, w2]; cbv; try simp only [hc, hat, w2]; cbv; try simp only [hc, hat, w2]; cbv) ?_
    refine oPA hq ?_
    refine goB hX 0 (by conv => lhs; cbv; try simp only [hc, hat, w2]; cbv; try simp only [hc, hat, w2]; cbv; try simp only [hc, hat, w2]; cbv; try simp only [hc, hat, w2]; cbv) ?_
    refine goA 60 ?_
    refine loopP_next (d ++ [q], r, iAdd .i64 i 1) ⟨by simp [g1], hi2, gR⟩ (by simp) (ent_sub [] [] trivial trivial ⟨.refl _, .cl hnc, trivial⟩)
  · have w2 : iNe fq 0 = true := by simp only [ee]; simpa using h2
    rw [if_pos h2] at gR
    refine goB hX 0 (by conv => lhs; cbv; try simp only [hc, hat, w2]; cbv; try simp only [hc, hat, w2]; cbv; try simp only [hc, hat, w2]; cbv; try simp only [hc, hat, w2]; cbv) ?_
    refine goB hX 1 (by conv => lhs; cbv; try simp only [hc, hat, w2]; cbv; try simp only [hc, hat, w2]; cbv; try simp only [hc, hat, w2]; cbv; try simp only [hc, hat, w2]; cbv) ?_
    refine oPA hq ?_
    refine goB hX 0 (by conv => lhs; cbv; try simp only [hc, hat, w2]; cbv; try simp only [hc, hat, w2]; cbv; try simp only [hc, hat, w2]; cbv; try simp only [hc, hat, w2]; cbv) ?_
    refine goA 60 ?_
    refine loopP_ret ?_
    refine goA 60 ?_
    refine fn_ret rfl rfl (.val ?_)
    exact congrArg (Value.int .i64) gR.symm
theorem lims_cons (p : Pat) (l : List Pat) : limsF (p :: l) = if spanF p.op = true then ⟨p.scope, p.span⟩ :: limsF l else limsF l := by
 unfold limsF spanF
 by_cases h : p.op = 6 ∨ p.op = 10 <;> simp [h]
theorem scs_cons (p : Pat) (l : List Pat) : scsF (p :: l) = if decide (p.op = 5 ∨ p.op = 9) = true then p.scope :: scsF l else scsF l := by
 unfold scsF
 by_cases h : p.op = 5 ∨ p.op = 9 <;> simp [h]
theorem lims_len (l : List Pat) : (limsF l).length ≤ l.length := by
 unfold limsF; rw [List.length_map]; exact List.length_filter_le ..
theorem scs_len (l : List Pat) : (scsF l).length ≤ l.length := by
 unfold scsF; rw [List.length_map]; exact List.length_filter_le ..
theorem P_around (w : Int) : ∀ p : Pat, p.Sm → (∀ q ∈ p.nodes, q.op = 0 → q.args = []) → PCall EE 57 [p.enc, int w] (.tup [.isl 2 (mapE Lim.enc (limsF (p.path w))), .isl 1 (mapE int (scsF (p.path w))), bool (decide ((p.path w).length ≠ 0))]) := by
 refine Pat.ind ?_
 intro o a t v s n c ih hs hz
 have hlen := hs.len
 have hih : ∀ q ∈ a, PCall EE 57 [q.enc, int w] (.tup [.isl 2 (mapE Lim.enc (limsF (q.path w))), .isl 1 (mapE int (scsF (q.path w))), bool (decide ((q.path w).length ≠ 0))]) := fun q hq => ih q hq (hs.arg hq) fun q2 hq2 => hz q2 (by
  rw [Pat.nodes]
  obtain ⟨d, r, rfl⟩ := List.append_of_mem hq
  simp [Pat.nodesL_append, Pat.nodesL, hq2])
 have hbd : ∀ q ∈ a, (q.path w).length ≤ 1048576 := fun q hq => Nat.le_trans (Pat.path_len w q) (hs.arg hq).1
 have hz0 : o = 0 → a = [] := hz (.mk o a t v s n c) (by rw [Pat.nodes]; exact List.mem_cons_self)
 have hcl := Pat.closedI a
 obtain ⟨pp, hpp⟩ : ∃ pp, pp = Pat.mk o a t v s n c := ⟨_, rfl⟩
 have hpe : pp.enc = (Pat.mk o a t v s n c).enc := by rw [hpp]
 have q1 := P_Times pp
 have q2 := P_Negates pp
 have hl1 := lims_cons pp
 have hs1 := scs_cons pp
 rw [Pat.path, ← hpp]
 have hpc := Pat.closed pp
 have e1 : pp.op = o := by rw [hpp]; rfl
 have e2 : pp.scope = s := by rw [hpp]; rfl
 have e3 : pp.span = n := by rw [hpp]; rfl
 rw [e1] at q1 q2 hl1 hs1
 rw [e2, e3] at hl1
 rw [e2] at hs1
 obtain ⟨co, ca, cv, cf, ck, xk, xn, xt⟩ := c
 have hce := Ex.closedI ca
 rw [Pat.enc_mk] at hpe
 dsimp only at hpe
 rw [hpe] at hpc q1 q2 ⊢
 obtain ⟨Z, hZ⟩ : ∃ Z, Z = (if o = 0 ∧ v = w then [pp] else consP pp (Pat.pathL w a)) := ⟨_, rfl⟩
 rw [← hZ]
 have hnilL : mapE Lim.enc [] = [] := by rw [mapE_eq]; rfl
 have hnilI : mapE int [] = [] := by rw [mapE_eq]; rfl
 have hl0 : limsF [] = [] := rfl
 have hs0 : scsF [] = [] := rfl
 clear ih hs hpp hpe
 refine wordsN ?_; unhygienic intros
 generalize hes : mapE Pat.enc a = es at *
 generalize mapE Ex.enc ca = ec at *
 have hel : es.length = a.length := by rw [← hes, mapE_len]
 refine fn_body (fn := Tryz.f57) (n := 57) (ac := Tryzc57) (rvs := [.t 4, .t 5, .t 6]) rfl (by decide) Tryzp57 rfl rfl rfl ?_
 by_cases ho : o = 0
 · have k1 : iEq o 0 = true := by simp only [ee]; simpa using ho
   have ha := hz0 ho
   have hL : limsF Z = [] := by
    rw [hZ, ha]
    split
    · rw [hl1, hl0, if_neg (by rw [ho]; decide)]
    · simp [Pat.pathL, consP, hl0]
   have hS : scsF Z = [] := by
    rw [hZ, ha]
    split
    · rw [hs1, hs0, if_neg (by rw [ho]; decide)]
    · simp [Pat.pathL, consP, hs0]
   have hB : decide (Z.length ≠ 0) = iEq v w := by
    simp only [ee]
    rw [hZ, ha, Bool.eq_iff_iff]
    by_cases h : v = w <;> simp [ho, h, Pat.pathL, consP]
   rw [hL, hS, hB, hnilL, hnilI]
   refine goB hX 0 (by conv => lhs; cbv; try simp only [k1]; cbv; try simp only [k1]; cbv; try simp only [k1]; cbv; try simp only [k1]; cbv) ?_
   refine goA 60 ?_
   refine fn_ret rfl rfl ?_
   exact ⟨[.gone], ⟨trivial, trivial⟩, .tup' ⟨.nilI _, .nilI _, .refl _, trivial⟩⟩
 have k1 : iEq o 0 = false := by simp only [ee]; simpa using ho
 have hZ : Z = consP pp (Pat.pathL w a) := by rw [hZ, if_neg (fun h => ho h.1)]
 refine goB hX 0 (by conv => lhs; cbv; try simp only [k1]; cbv; try simp only [k1]; cbv; try simp only [k1]; cbv; try simp only [k1]; cbv) ?_
 refine goA 60 ?_
 refine on_loopP (ι := List Pat × List Pat × Int) (fun p => ([(7, int p.2.2), (1, int w), (2, .ptr 0 0)], [.cells [int o, .isl 14 es, int t, int v, int s, int n, int co, .isl 8 ec, int cv, int cf, int ck, int xk, int xn, str xt]])) (fun p => a = p.1 ++ p.2.1 ∧ p.2.2 = p.1.length ∧ Z = consP pp (Pat.pathL w p.2.1)) (fun p => p.2.1.length) ([], a, 0) ⟨rfl, rfl, hZ⟩ ?_ ?_
 · exact (ent_sub [.to 0] [some 0] ⟨⟨by simp, rfl⟩, trivial⟩ ⟨osrc_cells (b := 0) rfl rfl rfl ⟨.refl _, .cl hcl, .refl _, .refl _, .refl _, .refl _, .refl _, .cl hce, .refl _, .refl _, .refl _, .refl _, .refl _, .refl _, trivial⟩, trivial⟩ ⟨.refl _, .refl _, .refl _, trivial⟩)
 rintro ⟨d, r, i⟩ ⟨g1, gi, gR⟩
 dsimp only at g1 gi gR ⊢
 cases r with
 | nil =>
  have L1 := len_split g1
  try simp only [List.length] at L1
  have hc : iLt i (lenA es) = false := lt_f e_iLt e_lenA (by omega)
  have gR : Z = [] := by rw [gR, Pat.pathL, consP]
  have hB : decide (([] : List Pat).length ≠ 0) = false := by decide
  rw [gR, hl0, hs0, hnilL, hnilI, hB]
  refine goB hX 0 (by conv => lhs; cbv; try simp only [hc]; cbv; try simp only [hc]; cbv; try simp only [hc]; cbv; try simp only [hc]; cbv) ?_
  refine goA 60 ?_
  refine loopP_exit ?_
  refine goA 60 ?_
  refine fn_ret rfl rfl ?_
  exact ⟨[.gone], ⟨trivial, trivial⟩, .tup' ⟨.nilI _, .nilI _, .refl _, trivial⟩⟩
 | cons q r =>
  have L1 := len_split g1
  try simp only [List.length] at L1
  have hc : iLt i (lenA es) = true := lt_t e_iLt e_lenA (by omega)
  have hat := el_at e_atA hes g1 gi
  have hq := hih q (by rw [g1]; simp)
  have hb := hbd q (by rw [g1]; simp)
  have hqc := Pat.closed q
  rw [Pat.pathL] at gR
  have hi2 : iAdd .i64 i 1 = ((d ++ [q]).length : Int) := by rw [List.length_append]; exact inc_w e_iAdd gi (by omega)
  have hbl := Nat.le_trans (lims_len (q.path w)) hb
  have hbs := Nat.le_trans (scs_len (q.path w)) hb
  have hlq : (mapE Lim.enc (limsF (q.path w))).length = (limsF (q.path w)).length := mapE_len _ _
  have hsq : (mapE int (scsF (q.path w))).length = (scsF (q.path w)).length := mapE_len _ _
  have hfl := fitLim (limsF (q.path w))
  have hfs := fitInt (scsF (q.path w))
  have hcll := closedL_lim (limsF (q.path w))
  have hcsl := closedL_int (scsF (q.path w))
  have hcl2 : (AV.isl 2 (mapE Lim.enc (limsF (q.path w)))).closed = true := by simp [AV.closed, hcll]
  have hcs2 : (AV.isl 1 (mapE int (scsF (q.path w)))).closed = true := by simp [AV.closed, hcsl]
  obtain ⟨qO, qA, qT, qV, qS, qN, qCo, qCa, qCv, qCf, qCk, qXk, qXn, qXt, hx⟩ := Pat.form q
  rw [hx] at hat hqc hq
  by_cases h2 : (q.path w).length = 0
  · rw [if_pos h2] at gR
    have hB : decide ((q.path w).length ≠ 0) = false := by simpa using h2
    rw [hB] at hq
    generalize mapE Lim.enc (limsF (q.path w)) = lq at *
    generalize mapE int (scsF (q.path w)) = sq at *
    have k2 : bNot false = true := by simp only [ee]; rfl
    refine goB hX 0 (by conv => lhs; cbv; try simp only [hc, hat, k2]; cbv; try simp only [hc, hat, k2]; cbv; try simp only [hc, hat, k2]; cbv; try simp only [hc, hat, k2]; cbv) ?_
    refine goB hX 1 (by conv => lhs; cbv; try simp only [hc, hat, k2]; cbv; try simp only [hc, hat, k2]; cbv; try simp only [hc, hat, k2]; cbv; try simp only [hc, hat, k2]; cbv) ?_
    refine oPA hq ?_
    refine goB hX 0 (by conv => lhs; cbv; try simp only [hc, hat, k2]; cbv; try simp only [hc, hat, k2]; cbv; try simp only [hc, hat, k2]; cbv; try simp only [hc, hat, k2]; cbv) ?_
    refine goA 60 ?_
    refine loopP_next (d ++ [q], r, iAdd .i64 i 1) ⟨by simp [g1], hi2, gR⟩ (by simp) (ent_sub [.to 0] [some 0] ⟨⟨by simp, rfl⟩, trivial⟩ ⟨osrc_cells (b := 0) rfl rfl rfl ⟨.refl _, .cl hcl, .refl _, .refl _, .refl _, .refl _, .refl _, .cl hce, .refl _, .refl _, .refl _, .refl _, .refl _, .refl _, trivial⟩, trivial⟩ ⟨.refl _, .refl _, .refl _, trivial⟩)
  · rw [if_neg h2] at gR
    have hB : decide ((q.path w).length ≠ 0) = true := by simpa using h2
    rw [hB] at hq
    have hZ2 : Z = pp :: q.path w := by
     rw [gR]
     cases hp : q.path w with
     | nil => rw [hp] at h2; simp at h2
     | cons x y => rfl
    have hBZ : decide (Z.length ≠ 0) = true := by rw [hZ2]; simp
    have hL := hl1 (q.path w)
    have hS := hs1 (q.path w)
    rw [← hZ2] at hL hS
    rw [hBZ]
    have hL1 : spanF o = true → mapE Lim.enc (limsF Z) = catA (dropA [.agg [int s, int n]] 0) (mapE Lim.enc (limsF (q.path w))) := fun h => by
     rw [hL, if_pos h, mapE_eq]; simp only [ee]; rw [mapE_eq]; rfl
    have hL2 : spanF o = false → mapE Lim.enc (limsF Z) = mapE Lim.enc (limsF (q.path w)) := fun h => by rw [hL, if_neg (by simp [h])]
    have hS1 : decide (o = 5 ∨ o = 9) = true → mapE int (scsF Z) = catA (dropA [int s] 0) (mapE int (scsF (q.path w))) := fun h => by
     rw [hS, if_pos h, mapE_eq]; simp only [ee]; rw [mapE_eq]; rfl
    have hS2 : decide (o = 5 ∨ o = 9) = false → mapE int (scsF Z) = mapE int (scsF (q.path w)) := fun h => by rw [hS, if_neg (by simp [h])]
    generalize mapE Lim.enc (limsF (q.path w)) = lq at *
    generalize mapE int (scsF (q.path w)) = sq at *
    generalize mapE Lim.enc (limsF Z) = LZ at *
    generalize mapE int (scsF Z) = SZ at *
    have hcL : AV.closedL (catA (dropA [.agg [int s, int n]] 0) lq) = true := by simp only [ee]; exact closedL_append rfl hcll
    have hcS : AV.closedL (catA (dropA [int s] 0) sq) = true := by simp only [ee]; exact closedL_append rfl hcsl
    have hnL : addN 1 (lenN lq) = (catA (dropA [.agg [int s, int n]] 0) lq).length := by simp only [ee]; simp; omega
    have hnS : addN 1 (lenN sq) = (catA (dropA [int s] 0) sq).length := by simp only [ee]; simp; omega
    have k2 : bNot true = false := by simp only [ee]; rfl
    generalize spanF o = sp at *
    generalize decide (o = 5 ∨ o = 9) = ng at *
    clear hL hS hl1 hs1 hZ hZ2 gR
    cases sp <;> cases ng
    · rw [hL2 rfl, hS2 rfl]
      refine goB hX 0 (by conv => lhs; cbv; try simp only [hc, hat, k2]; cbv; try simp only [hc, hat, k2]; cbv; try simp only [hc, hat, k2]; cbv; try simp only [hc, hat, k2]; cbv) ?_
      refine goB hX 1 (by conv => lhs; cbv; try simp only [hc, hat, k2]; cbv; try simp only [hc, hat, k2]; cbv; try simp only [hc, hat, k2]; cbv; try simp only [hc, hat, k2]; cbv) ?_
      refine oPA hq ?_
      refine goB hX 0 (by conv => lhs; cbv; try simp only [hc, hat, k2]; cbv; try simp only [hc, hat, k2]; cbv; try simp only [hc, hat, k2]; cbv; try simp only [hc, hat, k2]; cbv) ?_
      refine goA 60 ?_
      refine oPA q1 ?_
      refine goA 60 ?_
      refine oPA q2 ?_
      refine goA 60 ?_
      refine loopP_ret ?_
      refine goA 60 ?_
      refine fn_ret rfl rfl ?_
      exact ⟨[.gone], ⟨trivial, trivial⟩, .tup' ⟨.cl hcl2, .cl hcs2, .refl _, trivial⟩⟩
    · rw [hL2 rfl, hS1 rfl]
      refine goB hX 0 (by conv => lhs; cbv; try simp only [hc, hat, k2]; cbv; try simp only [hc, hat, k2]; cbv; try simp only [hc, hat, k2]; cbv; try simp only [hc, hat, k2]; cbv) ?_
      refine goB hX 1 (by conv => lhs; cbv; try simp only [hc, hat, k2]; cbv; try simp only [hc, hat, k2]; cbv; try simp only [hc, hat, k2]; cbv; try simp only [hc, hat, k2]; cbv) ?_
      refine oPA hq ?_
      refine goB hX 0 (by conv => lhs; cbv; try simp only [hc, hat, k2]; cbv; try simp only [hc, hat, k2]; cbv; try simp only [hc, hat, k2]; cbv; try simp only [hc, hat, k2]; cbv) ?_
      refine goA 60 ?_
      refine oPA q1 ?_
      refine goA 60 ?_
      refine oPA q2 ?_
      refine goA 60 ?_
      refine loopP_ret ?_
      refine goA 60 ?_
      refine fn_ret rfl rfl ?_
      exact ⟨[.gone, .gone, .isl 1 (catA (dropA [AV.val (Value.int IntKind.i64 s)] 0) sq)], ⟨trivial, trivial, ⟨_, rfl, (subL_closed _ hcS).symm⟩, trivial⟩, .tup' ⟨.cl hcl2, .of (sub_whole rfl (by assumption)), .refl _, trivial⟩⟩
    · rw [hL1 rfl, hS2 rfl]
      refine goB hX 0 (by conv => lhs; cbv; try simp only [hc, hat, k2]; cbv; try simp only [hc, hat, k2]; cbv; try simp only [hc, hat, k2]; cbv; try simp only [hc, hat, k2]; cbv) ?_
      refine goB hX 1 (by conv => lhs; cbv; try simp only [hc, hat, k2]; cbv; try simp only [hc, hat, k2]; cbv; try simp only [hc, hat, k2]; cbv; try simp only [hc, hat, k2]; cbv) ?_
      refine oPA hq ?_
      refine goB hX 0 (by conv => lhs; cbv; try simp only [hc, hat, k2]; cbv; try simp only [hc, hat, k2]; cbv; try simp only [hc, hat, k2]; cbv; try simp only [hc, hat, k2]; cbv) ?_
      refine goA 60 ?_
      refine oPA q1 ?_
      refine goA 60 ?_
      refine oPA q2 ?_
      refine goA 60 ?_
      refine loopP_ret ?_
      refine goA 60 ?_
      refine fn_ret rfl rfl ?_
      exact ⟨[.gone, .gone, .isl 2 (catA (dropA [AV.agg [AV.val (Value.int IntKind.i64 s), AV.val (Value.int IntKind.i64 n)]] 0) lq)], ⟨trivial, trivial, ⟨_, rfl, (subL_closed _ hcL).symm⟩, trivial⟩, .tup' ⟨.of (sub_whole rfl (by assumption)), .cl hcs2, .refl _, trivial⟩⟩
    · rw [hL1 rfl, hS1 rfl]
      refine goB hX 0 (by conv => lhs; cbv; try simp only [hc, hat, k2]; cbv; try simp only [hc, hat, k2]; cbv; try simp only [hc, hat, k2]; cbv; try simp only [hc, hat, k2]; cbv) ?_
      refine goB hX 1 (by conv => lhs; cbv; try simp only [hc, hat, k2]; cbv; try simp only [hc, hat, k2]; cbv; try simp only [hc, hat, k2]; cbv; try simp only [hc, hat, k2]; cbv) ?_
      refine oPA hq ?_
      refine goB hX 0 (by conv => lhs; cbv; try simp only [hc, hat, k2]; cbv; try simp only [hc, hat, k2]; cbv; try simp only [hc, hat, k2]; cbv; try simp only [hc, hat, k2]; cbv) ?_
      refine goA 60 ?_
      refine oPA q1 ?_
      refine goA 60 ?_
      refine oPA q2 ?_
      refine goA 60 ?_
      refine loopP_ret ?_
      refine goA 60 ?_
      refine fn_ret rfl rfl ?_
      exact ⟨[.gone, .gone, .isl 2 (catA (dropA [AV.agg [AV.val (Value.int IntKind.i64 s), AV.val (Value.int IntKind.i64 n)]] 0) lq), .gone, .isl 1 (catA (dropA [AV.val (Value.int IntKind.i64 s)] 0) sq)], ⟨trivial, trivial, ⟨_, rfl, (subL_closed _ hcL).symm⟩, trivial, ⟨_, rfl, (subL_closed _ hcS).symm⟩, trivial⟩, .tup' ⟨.of (sub_whole rfl (by assumption)), .of (sub_whole rfl (by assumption)), .refl _, trivial⟩⟩
theorem nodeE_event {q : Pat} (h : q.nodeE = 0) (h0 : q.op = 0) : q.args = [] := by
 unfold Pat.nodeE at h
 rw [if_neg (by omega)] at h
 by_cases h2 : (q.args.length : Int) < leastF q.op ∨ mostF q.op < q.args.length
 · rw [if_pos h2] at h; cases h
 · have hm : mostF q.op = 0 := by rw [h0]; rfl
   rw [hm] at h2
   exact List.length_eq_zero_iff.1 (by omega)
theorem P_ref09_Around (p : Pat) (w : Int) (hs : p.Sm) : PCall EE 22 [p.enc, int w] (.tup [.isl 2 (mapE Lim.enc (p.lims w)), .isl 1 (mapE int (p.scs w)), int (p.aroundE w)]) := by
 have h1 := P_ref09_CheckRest p hs
 have h2 := fun (hk : p.chkR = 0) => P_around w p hs fun q hq h0 => nodeE_event (chkR_nodes hk q hq) h0
 have hcl := Pat.closed p
 obtain ⟨E, hE⟩ : ∃ E, E = p.aroundE w := ⟨_, rfl⟩
 obtain ⟨L, hL⟩ : ∃ L, L = p.lims w := ⟨_, rfl⟩
 obtain ⟨S, hS⟩ : ∃ S, S = p.scs w := ⟨_, rfl⟩
 rw [← hE, ← hL, ← hS]
 unfold Pat.lims at hL
 unfold Pat.scs at hS
 rw [← hE] at hL hS
 unfold Pat.aroundE at hE
 have hcl2 : (AV.isl 2 (mapE Lim.enc (limsF (p.path w)))).closed = true := by simp [AV.closed, closedL_lim]
 have hcs2 : (AV.isl 1 (mapE int (scsF (p.path w)))).closed = true := by simp [AV.closed, closedL_int]
 have hnilL : mapE Lim.enc [] = [] := by rw [mapE_eq]; rfl
 have hnilI : mapE int [] = [] := by rw [mapE_eq]; rfl
 have hb : decide ((p.path w).length ≠ 0) = !decide ((p.path w).length = 0) := by simp
 have hLm : mapE Lim.enc L = if E = 0 then mapE Lim.enc (limsF (p.path w)) else [] := by rw [hL]; split <;> simp [hnilL]
 have hSm : mapE int S = if E = 0 then mapE int (scsF (p.path w)) else [] := by rw [hS]; split <;> simp [hnilI]
 rw [hLm, hSm]
 clear hL hS hLm hSm
 generalize p.chkR = rn at *
 rw [hb] at h2
 have hE : E = if rn ≠ 0 then rn else if decide ((p.path w).length = 0) = true then 6 else 0 := by simp only [decide_eq_true_eq]; exact hE
 clear hb
 generalize decide ((p.path w).length = 0) = em at *
 generalize mapE Lim.enc (limsF (p.path w)) = lq at *
 generalize mapE int (scsF (p.path w)) = sq at *
 obtain ⟨pO, pA, pT, pV, pS, pN, pCo, pCa, pCv, pCf, pCk, pXk, pXn, pXt, hx⟩ := Pat.form p
 rw [hx] at h1 h2 hcl ⊢
 refine wordsN ?_; unhygienic intros
 have k2 : bNot false = true := by simp only [ee]; rfl
 have k3 : bNot true = false := by simp only [ee]; rfl
 refine fn_body (fn := Tryz.f22) (n := 27) (ac := Tryzc22) (rvs := [.t 4, .t 5, .t 6]) rfl (by decide) Tryzp22 rfl rfl rfl ?_
 by_cases g1 : rn = 0
 · have k1 : iNe rn 0 = false := by simp only [ee]; simpa using g1
   have h2 := h2 g1
   rw [if_neg (by simpa using g1)] at hE
   cases em with
   | true =>
    rw [if_pos rfl] at hE
    rw [if_neg (by omega), if_neg (by omega), hE]
    refine goA 60 ?_
    refine oPA h1 ?_
    refine goB hX 0 (by conv => lhs; cbv; try simp only [k1, k2, k3]; cbv; try simp only [k1, k2, k3]; cbv; try simp only [k1, k2, k3]; cbv; try simp only [k1, k2, k3]; cbv) ?_
    refine goA 60 ?_
    refine oPA h2 ?_
    refine goB hX 0 (by conv => lhs; cbv; try simp only [k1, k2, k3]; cbv; try simp only [k1, k2, k3]; cbv; try simp only [k1, k2, k3]; cbv; try simp only [k1, k2, k3]; cbv) ?_
    refine goA 60 ?_
    refine fn_ret rfl rfl ?_
    exact ⟨[.gone], ⟨trivial, trivial⟩, .tup' ⟨.nilI _, .nilI _, .refl _, trivial⟩⟩
   | false =>
    rw [if_neg (by decide)] at hE
    rw [if_pos hE, if_pos hE, hE]
    refine goA 60 ?_
    refine oPA h1 ?_
    refine goB hX 0 (by conv => lhs; cbv; try simp only [k1, k2, k3]; cbv; try simp only [k1, k2, k3]; cbv; try simp only [k1, k2, k3]; cbv; try simp only [k1, k2, k3]; cbv) ?_
    refine goA 60 ?_
    refine oPA h2 ?_
    refine goB hX 0 (by conv => lhs; cbv; try simp only [k1, k2, k3]; cbv; try simp only [k1, k2, k3]; cbv; try simp only [k1, k2, k3]; cbv; try simp only [k1, k2, k3]; cbv) ?_
    refine goA 60 ?_
    refine fn_ret rfl rfl ?_
    exact ⟨[.gone], ⟨trivial, trivial⟩, .tup' ⟨.cl hcl2, .cl hcs2, .refl _, trivial⟩⟩
 · have k1 : iNe rn 0 = true := by simp only [ee]; simpa using g1
   rw [if_pos g1] at hE
   rw [if_neg (by omega), if_neg (by omega), hE]
   refine goA 60 ?_
   refine oPA h1 ?_
   refine goB hX 0 (by conv => lhs; cbv; try simp only [k1]; cbv; try simp only [k1]; cbv; try simp only [k1]; cbv; try simp only [k1]; cbv) ?_
   refine goA 60 ?_
   refine fn_ret rfl rfl ?_
   exact ⟨[.gone], ⟨trivial, trivial⟩, .tup' ⟨.nilI _, .nilI _, .refl _, trivial⟩⟩
def Ex.few (e : Ex) : Bool := decide (e.cnt ≤ 200) && decide (e.dep ≤ 100)
def Pat.few (p : Pat) : Bool := decide (p.cnt ≤ 150) && decide (p.dep ≤ 60) && p.nodes.all (fun q => q.cond.few)
theorem P_ref08_Few (e : Ex) (hs : e.Sm) : PCall EE 32 [e.enc] (bool e.few) := by
 have h1 : PCall EE 63 [e.enc, int 200] (int (e.tot 200)) := P_ref08_Count 200 (by omega) e hs
 have h2 := P_ref08_Depth e hs
 have hcl := Ex.closed e
 obtain ⟨R, hR⟩ : ∃ R, R = e.few := ⟨_, rfl⟩
 rw [← hR]
 unfold Ex.few at hR
 have ht := Ex.tot_iff e 200
 obtain ⟨eO, eA, eV, eF, eK, eXk, eXn, eXt, hx⟩ := Ex.form e
 rw [hx] at h1 h2 hcl ⊢
 refine wordsN ?_; unhygienic intros
 generalize ht1 : (e.tot 200 : Int) = tn at *
 generalize ht2 : (e.dep : Int) = dn at *
 refine fn_body (fn := Tryz.f32) (n := 11) (ac := Tryzc32) (rvs := [.t 2]) rfl (by decide) Tryzp32 rfl rfl rfl ?_
 by_cases hc1 : e.cnt ≤ 200
 · have w1 : iLe tn 200 = true := by simp only [ee]; simp; omega
   by_cases hc2 : e.dep ≤ 100
   · have w2 : iLe dn 100 = true := by simp only [ee]; simp; omega
     have hR : R = true := by rw [hR]; simp [hc1, hc2]
     refine goA 60 ?_
     refine oPA h1 ?_
     refine goB hX 0 (by conv => lhs; cbv; try simp only [w1, w2]; cbv; try simp only [w1, w2]; cbv; try simp only [w1, w2]; cbv; try simp only [w1, w2]; cbv) ?_
     refine goA 60 ?_
     refine oPG h2 ?_
     refine goA 60 ?_
     refine fn_ret rfl rfl (.val ?_)
     exact congrArg Value.bool (by rw [w2, hR]; simp [ee])
   · have w2 : iLe dn 100 = false := by simp only [ee]; simp; omega
     have hR : R = false := by rw [hR]; simp [hc2]
     refine goA 60 ?_
     refine oPA h1 ?_
     refine goB hX 0 (by conv => lhs; cbv; try simp only [w1, w2]; cbv; try simp only [w1, w2]; cbv; try simp only [w1, w2]; cbv; try simp only [w1, w2]; cbv) ?_
     refine goA 60 ?_
     refine oPG h2 ?_
     refine goA 60 ?_
     refine fn_ret rfl rfl (.val ?_)
     exact congrArg Value.bool (by rw [w2, hR]; simp [ee])
 · have w1 : iLe tn 200 = false := by simp only [ee]; simp; omega
   have hR : R = false := by rw [hR]; simp [hc1]
   refine goA 60 ?_
   refine oPA h1 ?_
   refine goB hX 0 (by conv => lhs; cbv; try simp only [w1]; cbv; try simp only [w1]; cbv; try simp only [w1]; cbv; try simp only [w1]; cbv) ?_
   refine goA 60 ?_
   refine on_gskip rfl rfl ?_
   refine goA 60 ?_
   refine fn_ret rfl rfl (.val ?_)
   exact congrArg Value.bool hR.symm
theorem P_ref09_Few (p : Pat) (hs : p.Sm) : PCall EE 7 [p.enc] (bool p.few) := by
 have h1 : PCall EE 29 [p.enc, int 150] (int (p.tot 150)) := P_ref09_Total 150 (by omega) p hs
 have h2 := P_ref09_Depth p hs
 have h3 := P_ref09_Nodes p hs
 have hsn := hs.node
 have hnl := Pat.nodes_len p
 have hcn := hs.1
 have hcl := Pat.closed p
 have hcn2 := Pat.closedI p.nodes
 obtain ⟨R, hR⟩ : ∃ R, R = p.few := ⟨_, rfl⟩
 rw [← hR]
 unfold Pat.few at hR
 have ht := Pat.tot_iff p 150
 obtain ⟨pO, pA, pT, pV, pS, pN, pCo, pCa, pCv, pCf, pCk, pXk, pXn, pXt, hx⟩ := Pat.form p
 rw [hx] at h1 h2 h3 hcl ⊢
 refine wordsN ?_; unhygienic intros
 generalize ht1 : (p.tot 150 : Int) = tn at *
 generalize ht2 : (p.dep : Int) = dn at *
 generalize hnod : p.nodes = nl at *
 generalize hes : mapE Pat.enc nl = es at *
 have hel : es.length = nl.length := by rw [← hes, mapE_len]
 refine fn_body (fn := Tryz.f7) (n := 28) (ac := Tryzc7) (rvs := [.t 2]) rfl (by decide) Tryzp7 rfl rfl rfl ?_
 by_cases hc1 : p.cnt ≤ 150
 rotate_left
 · have w1 : iLt 150 tn = true := by simp only [ee]; simp; omega
   have hR : R = false := by rw [hR]; simp [hc1]
   refine goA 60 ?_
   refine oPA h1 ?_
   refine goB hX 0 (by conv => lhs; cbv; try simp only [w1]; cbv; try simp only [w1]; cbv; try simp only [w1]; cbv; try simp only [w1]; cbv) ?_
   refine goA 60 ?_
   refine on_gskip rfl rfl ?_
   refine goA 60 ?_
   refine fn_ret rfl rfl (.val ?_)
   exact congrArg Value.bool hR.symm
 have w1 : iLt 150 tn = false := by simp only [ee]; simp; omega
 by_cases hc2 : p.dep ≤ 60
 rotate_left
 · have w2 : iLt 60 dn = true := by simp only [ee]; simp; omega
   have hR : R = false := by rw [hR]; simp [hc2]
   refine goA 60 ?_
   refine oPA h1 ?_
   refine goB hX 0 (by conv => lhs; cbv; try simp only [w1, w2]; cbv; try simp only [w1, w2]; cbv; try simp only [w1, w2]; cbv; try simp only [w1, w2]; cbv) ?_
   refine goA 60 ?_
   refine oPG h2 ?_
   refine goB hX 0 (by conv => lhs; cbv; try simp only [w1, w2]; cbv; try simp only [w1, w2]; cbv; try simp only [w1, w2]; cbv; try simp only [w1, w2]; cbv) ?_
   refine on_cond rfl (fun c1 => ?_) (fun c1 => ?_)
   ·
    simp [ee] at c1
    refine goA 60 ?_
    refine fn_ret rfl rfl (.val ?_)
    exact congrArg Value.bool hR.symm
   ·
    simp [ee] at c1
 have w2 : iLt 60 dn = false := by simp only [ee]; simp; omega
 have hR : R = nl.all (fun q => q.cond.few) := by rw [hR]; simp [hc1, hc2]
 have hor : ∀ b, bOr false b = b := by simp [ee]
 refine goA 60 ?_
 refine oPA h1 ?_
 refine goB hX 0 (by conv => lhs; cbv; try simp only [w1, w2, hor]; cbv; try simp only [w1, w2, hor]; cbv; try simp only [w1, w2, hor]; cbv; try simp only [w1, w2, hor]; cbv) ?_
 refine goA 60 ?_
 refine oPG h2 ?_
 refine goB hX 0 (by conv => lhs; cbv; try simp only [w1, w2, hor]; cbv; try simp only [w1, w2, hor]; cbv; try simp only [w1, w2, hor]; cbv; try simp only [w1, w2, hor]; cbv) ?_
 refine goA 60 ?_
 refine oPA h3 ?_
 refine goA 60 ?_
 refine on_loopP (ι := List Pat × List Pat × Int) (fun p => ([(3, .isl 14 es), (4, int p.2.2)], [])) (fun p => nl = p.1 ++ p.2.1 ∧ p.2.2 = p.1.length ∧ R = p.2.1.all (fun q => q.cond.few)) (fun p => p.2.1.length) ([], nl, 0) ⟨rfl, rfl, hR⟩ ?_ ?_
 · exact (ent_sub [.gone] [] ⟨trivial, trivial⟩ trivial ⟨.cl hcn2, .refl _, trivial⟩)
 rintro ⟨d, r, i⟩ ⟨g1, gi, gR⟩
 dsimp only at g1 gi gR ⊢
 cases r with
 | nil =>
  have L1 := len_split g1
  try simp only [List.length] at L1
  have hc : iLt i (lenA es) = false := lt_f e_iLt e_lenA (by omega)
  have gR : R = true := by rw [gR]; rfl
  refine goB hX 0 (by conv => lhs; cbv; try simp only [hc]; cbv; try simp only [hc]; cbv; try simp only [hc]; cbv; try simp only [hc]; cbv) ?_
  refine goA 60 ?_
  refine loopP_exit ?_
  refine goA 60 ?_
  refine fn_ret rfl rfl (.val ?_)
  exact congrArg Value.bool gR.symm
 | cons q r =>
  have L1 := len_split g1
  try simp only [List.length] at L1
  have hc : iLt i (lenA es) = true := lt_t e_iLt e_lenA (by omega)
  have hat := el_at e_atA hes g1 gi
  have hqs : q.Sm := hsn q (by rw [g1]; simp)
  have hq := P_ref08_Few q.cond hqs.cond'
  have hqc := Ex.closed q.cond
  rw [List.all_cons] at gR
  obtain ⟨qO, qA, qT, qV, qS, qN, qCo, qCa, qCv, qCf, qCk, qXk, qXn, qXt, hx2, hx2c, hqO, hqA, hqT, hqV, hqS, hqN⟩ := Pat.form2 q
  rw [hx2c] at hq hqc
  rw [hx2] at hat
  have hi2 : iAdd .i64 i 1 = ((d ++ [q]).length : Int) := by rw [List.length_append]; exact inc_w e_iAdd gi (by omega)
  cases hb : q.cond.few with
  | true =>
   rw [hb] at hq gR
   have hnt : bNot true = false := by simp [ee]
   refine goB hX 0 (by conv => lhs; cbv; try simp only [hc, hat, hnt]; cbv; try simp only [hc, hat, hnt]; cbv; try simp only [hc, hat, hnt]; cbv; try simp only [hc, hat, hnt]; cbv) ?_
   refine goB hX 1 (by conv => lhs; cbv; try simp only [hc, hat, hnt]; cbv; try simp only [hc, hat, hnt]; cbv; try simp only [hc, hat, hnt]; cbv; try simp only [hc, hat, hnt]; cbv) ?_
   refine oPA hq ?_
   refine goB hX 0 (by conv => lhs; cbv; try simp only [hc, hat, hnt]; cbv; try simp only [hc, hat, hnt]; cbv; try simp only [hc, hat, hnt]; cbv; try simp only [hc, hat, hnt]; cbv) ?_
   refine goA 60 ?_
   refine loopP_next (d ++ [q], r, iAdd .i64 i 1) ⟨by simp [g1], hi2, by simpa using gR⟩ (by simp) (ent_sub [] [] trivial trivial ⟨.cl hcn2, .refl _, trivial⟩)
  | false =>
   rw [hb] at hq gR
   have gR : R = false := by simpa using gR
   have hnf : bNot false = true := by simp [ee]
   refine goB hX 0 (by conv => lhs; cbv; try simp only [hc, hat, hnf]; cbv; try simp only [hc, hat, hnf]; cbv; try simp only [hc, hat, hnf]; cbv; try simp only [hc, hat, hnf]; cbv) ?_
   refine goB hX 1 (by conv => lhs; cbv; try simp only [hc, hat, hnf]; cbv; try simp only [hc, hat, hnf]; cbv; try simp only [hc, hat, hnf]; cbv; try simp only [hc, hat, hnf]; cbv) ?_
   refine oPA hq ?_
   refine goB hX 0 (by conv => lhs; cbv; try simp only [hc, hat, hnf]; cbv; try simp only [hc, hat, hnf]; cbv; try simp only [hc, hat, hnf]; cbv; try simp only [hc, hat, hnf]; cbv) ?_
   refine goA 60 ?_
   refine loopP_ret ?_
   refine goA 60 ?_
   refine fn_ret rfl rfl (.val ?_)
   exact congrArg Value.bool gR.symm
end Go.Am
end
