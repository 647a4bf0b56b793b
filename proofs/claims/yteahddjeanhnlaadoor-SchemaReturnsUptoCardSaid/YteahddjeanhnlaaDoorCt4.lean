/- Contracts of the program's functions, for every argument that meets the conditions that each theorem names. -/
import Derived.Test.YteahddjeanhnlaaDoorAm6
import Derived.Test.YteahddjeanhnlaaDoorCt3
import Derived.Shelf.Strings.Replace
import Derived.Shelf.Strings.Builder2Cap
section
set_option maxHeartbeats 16000000
set_option maxRecDepth 100000
namespace Go.Am
open Go.Proofs
theorem trans_all {a b c : Sch} {x y : List Int} (h1 : a.chk = 0) (h2 : b.chk = 0) (h3 : c.chk = 0) (hab : cmpQ a b = some x) (hbc : cmpQ b c = some y) :
 ∃ z, cmpQ a c = some z ∧ z.length = y.length ∧ x.length = b.fs.length ∧ y.length = c.fs.length ∧ ∀ (D : List Int) (k : Int) (R : List Int), y = D ++ k :: R → 0 ≤ k ∧ k < x.length ∧ z[D.length]? = x[k.toNat]? := by
 have hna := ((Sch.chk_zero a).1 h1).2.2.2
 have hnb := ((Sch.chk_zero b).1 h2).2.2.2
 have e1 : cmpE a b = 0 := by rw [cmpE]; simp [h1, h2]
 have e2 : cmpE b c = 0 := by rw [cmpE]; simp [h3, h2]
 have e3 : cmpE a c = 0 := by rw [cmpE]; simp [h1, h3]
 rw [cmpQ, if_neg (by simp [e1])] at hab
 rw [cmpQ, if_neg (by simp [e2])] at hbc
 obtain ⟨i1, i2⟩ := cmp_only hna b.fs hab
 obtain ⟨i3, i4⟩ := cmp_only hnb c.fs hbc
 have hz := cmp_all hna c.fs fun f hf => i1 f (i3 f hf)
 refine ⟨c.fs.map fun f => Fld.pos a.fs f.nm, by rw [cmpQ, if_neg (by simp [e3]), hz], by rw [i4]; simp, by rw [i2]; simp, by rw [i4]; simp, ?_⟩
 intro D k R hy
 exact (trans_at (z := []) hna hnb hab hbc hy).2
theorem P_Reverse0 : PCall EE 30 [.isl 2 []] (.tup []) := by
 refine wordsN ?_; unhygienic intros
 have z0 : lenA [] = 0 := by simp only [ee]; rfl
 have z1 : iSub .i64 0 1 = -1 := by simp only [ee]; rfl
 have z2 : iLt 0 (-1) = false := by simp only [ee]; rfl
 refine fn_body (fn := Tryd.f30) (n := 28) (ac := Trydc30) (rvs := []) rfl (by decide) Trydp30 rfl rfl rfl ?_
 refine goB hX 0 (by conv => lhs; cbv; try simp only [z0, z1]; cbv; try simp only [z0, z1]; cbv; try simp only [z0, z1]; cbv; try simp only [z0, z1]; cbv) ?_
 refine goA 60 ?_
 refine on_loopP (ι := Unit) (fun p => ([(3, int (-1)), (2, int 0), (0, .isl 2 [])], [])) (fun p => p = ()) (fun p => 0) () rfl ?_ ?_
 · exact ent_fw ⟨.refl _, .refl _, .refl _, trivial⟩
 rintro ⟨⟩ -
 refine goB hX 0 (by conv => lhs; cbv; try simp only [z2]; cbv; try simp only [z2]; cbv; try simp only [z2]; cbv; try simp only [z2]; cbv) ?_
 refine goA 60 ?_
 refine loopP_exit ?_
 refine goA 60 ?_
 refine fn_norm rfl rfl ?_
 exact ⟨[], trivial, .refl _⟩
theorem P_Clone0 : PCall EE 29 [.isl 2 []] (.isl 2 []) := by
 refine wordsN ?_; unhygienic intros
 have ke1 : addN 0 (lenN []) = 0 := by simp only [ee]; rfl
 have ke2 : catA (dropA [] 0) [] = [] := by simp only [ee]; rfl
 refine fn_body (fn := Tryd.f29) (n := 8) (ac := Trydc29) (rvs := [.t 2]) rfl (by decide) Trydp29 rfl rfl rfl ?_
 refine goA 60 ?_
 refine on_eqnilI rfl rfl rfl rfl (fun t ht => ?_)
 cases t with
 | true =>
  refine goA 60 ?_
  refine fn_ret rfl rfl ?_
  exact ⟨[], trivial, .nilI _⟩
 | false =>
  refine goA 60 ?_
  rw [ke1, ke2]
  refine fn_ret rfl rfl ?_
  exact ⟨[.gone, .isl 2 []], ⟨trivial, ⟨_, rfl, rfl⟩, trivial⟩, .of (sub_whole rfl rfl)⟩
theorem less_at {a : Sch} {D R : List Int} {k : Int} (h : a.chk = 0) (e : ((lessF a.fs).map fun f => Fld.pos a.fs f.nm) = D ++ k :: R) : k = (a.fs.length : Int) - 1 - D.length := by
 obtain ⟨d', f, r', e1, e2, e3⟩ := map_split e
 rw [← e3, rev_at ((Sch.chk_zero a).1 h).2.2.2 e1, e2]
theorem lessF_len (a : List Fld) : (lessF a).length = a.length - a.length / 2 := by simp [lessF]
theorem composes_main (a b c : Sch) (ha : a.Short) (hb : b.Short) (hc : c.Short) (hfw : fewB [a, b, c] = true) (h1 : a.chk = 0) (h2 : b.chk = 0) (h3 : c.chk = 0) : PCall EE 9 [a.enc, b.enc, c.enc] (bool true) := by
 have q1 := P_Few [a, b, c] (by simp) (fun x hx => by simp at hx; rcases hx with rfl | rfl | rfl; exact ha; exact hb; exact hc)
 rw [hfw] at q1
 have q2 := P_awake
 have q3 := P_CheckAll [a] (by simp) (fun x hx => by simp at hx; rw [hx]; exact ha)
 have q4 := P_Check b hb
 have q5 := P_Check c hc
 rw [show chkAll [a] = 0 by rw [chkAll, if_neg (by simp), chkL, if_neg (by simp [h1]), if_neg (by simp), chkL]] at q3
 rw [h2] at q4
 rw [h3] at q5
 have hL := lessF_len a.fs
 have h8 := ((Sch.chk_zero a).1 h1).2.1
 have hless : (Sch.mk a.nm (lessF a.fs)).Short := ⟨ha.1, by show (lessF a.fs).length < _; omega, fun f hf => ha.2.2 f (List.mem_of_mem_drop (by simpa [lessF] using hf))⟩
 have r1 := P_Compatible a b ha hb
 have r2 := P_Compatible b c hb hc
 have r3 := P_Compatible a c ha hc
 have r4 := P_Compatible a a ha ha
 have r5 := P_Compatible a ⟨a.nm, lessF a.fs⟩ ha hless
 have r6 := C_Clone (a.fs.drop (a.fs.length / 2)) (a.fs.length - a.fs.length / 2) (by simp) (by simp; omega)
 have r7 := C_Reverse (a.fs.drop (a.fs.length / 2)) (a.fs.length - a.fs.length / 2) (by simp) (by simp; omega)
 have er : (a.fs.drop (a.fs.length / 2)).reverse = lessF a.fs := rfl
 rw [er] at r7
 rw [(less_ok h1).2.2, (less_ok h1).2.1, Option.getD_some, Option.isSome_some] at r5
 rw [(cmp_self h1).1, (cmp_self h1).2, Option.getD_some, Option.isSome_some] at r4
 rw [show cmpE a b = 0 by rw [cmpE]; simp [h1, h2]] at r1
 rw [show cmpE b c = 0 by rw [cmpE]; simp [h2, h3]] at r2
 rw [show cmpE a c = 0 by rw [cmpE]; simp [h1, h3]] at r3
 have ht := fun x y => trans_all (x := x) (y := y) h1 h2 h3
 have hs : ∀ D k R, (a.fs.map fun f => Fld.pos a.fs f.nm) = D ++ k :: R → k = D.length := fun D k R => self_at (d := []) (r := []) ((Sch.chk_zero a).1 h1).2.2.2
 have hla : ∀ D k R, ((lessF a.fs).map fun f => Fld.pos a.fs f.nm) = D ++ k :: R → k = (a.fs.length : Int) - 1 - D.length := fun D k R => less_at h1
 have hsl : (a.fs.map fun f => Fld.pos a.fs f.nm).length = a.fs.length := by simp
 have hll : ((lessF a.fs).map fun f => Fld.pos a.fs f.nm).length = (lessF a.fs).length := by simp
 generalize (a.fs.map fun f => Fld.pos a.fs f.nm) = sx at *
 generalize ((lessF a.fs).map fun f => Fld.pos a.fs f.nm) = lx at *
 have hq8 := ((Sch.chk_zero b).1 h2).2.1
 have hr8 := ((Sch.chk_zero c).1 h3).2.1
 have hbl : (mapE Fld.enc b.fs).length = b.fs.length := mapE_len _ _
 have hal : (mapE Fld.enc a.fs).length = a.fs.length := mapE_len _ _
 have hll2 : (mapE Fld.enc (lessF a.fs)).length = (lessF a.fs).length := mapE_len _ _
 have hdr : mapE Fld.enc (a.fs.drop (a.fs.length / 2)) = (mapE Fld.enc a.fs).drop (a.fs.length / 2) := by rw [mapE_eq, mapE_eq, List.map_drop]
 rw [hdr] at r6 r7
 generalize lessF a.fs = lf at *
 have kfl := Fld.closedI lf
 rw [Sch.enc_eq ⟨a.nm, lf⟩] at r5
 rw [mapE_eq, List.map_cons, List.map_cons, List.map_cons, List.map_nil] at q1
 rw [mapE_eq, List.map_cons, List.map_nil] at q3
 have ea := Sch.enc_eq a
 have eb := Sch.enc_eq b
 have ec := Sch.enc_eq c
 have kfa := Fld.closedI a.fs
 have kfb := Fld.closedI b.fs
 have kfc := Fld.closedI c.fs
 have kel := Fld.closedL lf
 have kea := Fld.closedL a.fs
 rw [ea, eb, ec] at q1 ⊢
 rw [ea] at q3
 rw [eb] at q4
 rw [ec] at q5
 rw [ea, eb] at r1
 rw [eb, ec] at r2
 rw [ea, ec] at r3
 rw [ea] at r4 r5
 generalize ba a.nm = an at *
 generalize ba b.nm = bn at *
 generalize ba c.nm = cn at *
 generalize hfa : mapE Fld.enc a.fs = fa at *
 generalize hfb : mapE Fld.enc b.fs = fbb at *
 generalize hfc : mapE Fld.enc c.fs = fcc at *
 generalize hfl : mapE Fld.enc lf = fl at *
 generalize ho1 : (cmpQ a b) = oq1 at *
 generalize ho2 : (cmpQ b c) = oq2 at *
 generalize ho3 : (cmpQ a c) = oq3 at *
 obtain ⟨x1, hx1⟩ : ∃ x1, x1 = oq1.getD [] := ⟨_, rfl⟩
 obtain ⟨x2, hx2⟩ : ∃ x2, x2 = oq2.getD [] := ⟨_, rfl⟩
 obtain ⟨x3, hx3⟩ : ∃ x3, x3 = oq3.getD [] := ⟨_, rfl⟩
 rw [← hx1] at r1
 rw [← hx2] at r2
 rw [← hx3] at r3
 have m1 := mapE_len int x1
 have m2 := mapE_len int x2
 have m3 := mapE_len int x3
 have m4 := mapE_len int sx
 have m5 := mapE_len int lx
 have kx1 := closedI_int x1
 have kx2 := closedI_int x2
 have kx3 := closedI_int x3
 have kx4 := closedI_int sx
 have kx5 := closedI_int lx
 generalize hg1 : mapE int x1 = y1 at *
 generalize hg2 : mapE int x2 = y2 at *
 generalize hg3 : mapE int x3 = y3 at *
 generalize hg4 : mapE int sx = y4 at *
 generalize hg5 : mapE int lx = y5 at *
 have kcA : AV.closedL [str an, .isl 2 fa] = true := by simp [AV.closedL, closed_v, kfa]
 have kcB : AV.closedL [str bn, .isl 2 fbb] = true := by simp [AV.closedL, closed_v, kfb]
 have kcC : AV.closedL [str cn, .isl 2 fcc] = true := by simp [AV.closedL, closed_v, kfc]
 have kcF : AV.closedL [str an, .isl 2 fl] = true := by simp [AV.closedL, closed_v, kfl]
 have kl1 : AV.closedL [AV.agg [str an, .isl 2 fa], AV.agg [str bn, .isl 2 fbb], AV.agg [str cn, .isl 2 fcc]] = true := by simp [AV.closedL, closed_agg, closed_v, kfa, kfb, kfc]
 have kl2 : AV.closedL [AV.agg [str an, .isl 2 fa]] = true := by simp [AV.closedL, closed_agg, closed_v, kfa]
 refine wordsN ?_; unhygienic intros
 have n0 : bNot false = true := by simp only [ee]; rfl
 have n1 : bNot true = false := by simp only [ee]; rfl
 have z0 : iAdd .i64 0 0 = 0 := by simp only [ee]; rfl
 have z1 : iNe 0 0 = false := by simp only [ee]; rfl
 have z4 : iNe (lenA y4) (lenA fa) = false := by simp only [ee]; simp; omega
 obtain ⟨o1, hp1⟩ : ∃ o1, o1 = oq1.isSome := ⟨_, rfl⟩
 obtain ⟨o2, hp2⟩ : ∃ o2, o2 = oq2.isSome := ⟨_, rfl⟩
 obtain ⟨o3, hp3⟩ : ∃ o3, o3 = oq3.isSome := ⟨_, rfl⟩
 rw [← hp1] at r1
 rw [← hp2] at r2
 rw [← hp3] at r3
 refine fn_body (fn := Tryd.f9) (n := 211) (ac := Trydc9) (rvs := [.t 6]) rfl (by decide) Trydp9 rfl rfl rfl ?_
 refine goA 60 ?_
 refine on_lend rfl rfl q1 rfl ⟨[.gone, .gone, .gone, .isl 2 ([AV.agg [AV.val (Value.string an), AV.isl 2 fa], AV.agg [AV.val (Value.string bn), AV.isl 2 fbb], AV.agg [AV.val (Value.string cn), AV.isl 2 fcc]])], ⟨trivial, trivial, trivial, ⟨_, rfl, (subL_closed _ kl1).symm⟩, trivial⟩, ⟨.refl _, trivial⟩⟩ ?_
 refine goB hX 0 (by conv => lhs; cbv; try simp only [n0, n1, z0, z1, z4]; cbv; try simp only [n0, n1, z0, z1, z4]; cbv; try simp only [n0, n1, z0, z1, z4]; cbv; try simp only [n0, n1, z0, z1, z4]; cbv) ?_
 refine goA 60 ?_
 refine on_lend rfl rfl q3 rfl ⟨[.gone, .gone, .gone, .gone, .isl 2 ([AV.agg [AV.val (Value.string an), AV.isl 2 fa]])], ⟨trivial, trivial, trivial, trivial, ⟨_, rfl, (subL_closed _ kl2).symm⟩, trivial⟩, ⟨.refl _, trivial⟩⟩ ?_
 refine goB hX 0 (by conv => lhs; cbv; try simp only [n0, n1, z0, z1, z4]; cbv; try simp only [n0, n1, z0, z1, z4]; cbv; try simp only [n0, n1, z0, z1, z4]; cbv; try simp only [n0, n1, z0, z1, z4]; cbv) ?_
 refine on_guard rfl rfl (fun c1 => ?_) (fun c1 => ?_)
 ·
  simp [ee] at c1
 ·
  simp [ee] at c1
  refine goA 60 ?_
  refine oPG q4 ?_
  refine goB hX 0 (by conv => lhs; cbv; try simp only [n0, n1, z0, z1, z4]; cbv; try simp only [n0, n1, z0, z1, z4]; cbv; try simp only [n0, n1, z0, z1, z4]; cbv; try simp only [n0, n1, z0, z1, z4]; cbv) ?_
  refine on_guard rfl rfl (fun c2 => ?_) (fun c2 => ?_)
  ·
   simp [ee] at c2
  ·
   simp [ee] at c2
   refine goA 60 ?_
   refine oPG q5 ?_
   refine goB hX 0 (by conv => lhs; cbv; try simp only [n0, n1, z0, z1, z4]; cbv; try simp only [n0, n1, z0, z1, z4]; cbv; try simp only [n0, n1, z0, z1, z4]; cbv; try simp only [n0, n1, z0, z1, z4]; cbv) ?_
   refine on_cond rfl (fun c3 => ?_) (fun c3 => ?_)
   ·
    simp [ee] at c3
   ·
    simp [ee] at c3
    refine goA 60 ?_
    refine oPA r1 ?_
    refine goA 60 ?_
    refine oPA r2 ?_
    refine goA 60 ?_
    refine oPA r3 ?_
    refine goA 60 ?_
    refine oPA r4 ?_
    refine goB hX 0 (by conv => lhs; cbv; try simp only [n0, n1, z0, z1, z4]; cbv; try simp only [n0, n1, z0, z1, z4]; cbv; try simp only [n0, n1, z0, z1, z4]; cbv; try simp only [n0, n1, z0, z1, z4]; cbv) ?_
    refine on_cond rfl (fun c4 => ?_) (fun c4 => ?_)
    ·
     simp [ee] at c4
    ·
     simp [ee] at c4
     refine goA 60 ?_
     refine on_loopP (ι := List Int × List Int × Int) (fun p => ([(102, int p.2.2), (101, int (lenA y4)), (100, .isl 1 y4), (14, bool o3), (13, .isl 1 y3), (11, bool o2), (10, .isl 1 y2), (8, bool o1), (7, .isl 1 y1), (3, .ptr 0 0), (4, .ptr 1 0)], [.cells [str an, .isl 2 fa], .cells [str bn, .isl 2 fbb], .cells [str cn, .isl 2 fcc]])) (fun p => sx = p.1 ++ p.2.1 ∧ p.2.2 = p.1.length) (fun p => p.2.1.length) ([], sx, 0) ⟨rfl, rfl⟩ ?_ ?_
     · exact (ent_sub [.to 0, .to 1, .to 2, .gone, .gone] [some 0, some 1, some 2] ⟨⟨by simp, rfl⟩, ⟨by simp, rfl⟩, ⟨by simp, rfl⟩, trivial, trivial, trivial⟩ ⟨osrc_cells (b := 0) rfl rfl rfl ⟨.refl _, .cl kfa, trivial⟩, osrc_cells (b := 1) rfl rfl rfl ⟨.refl _, .cl kfb, trivial⟩, osrc_cells (b := 2) rfl rfl rfl ⟨.refl _, .cl kfc, trivial⟩, trivial⟩ ⟨.refl _, .refl _, .cl kx4, .refl _, .cl kx3, .refl _, .cl kx2, .refl _, .cl kx1, .refl _, .refl _, trivial⟩)
     rintro ⟨D, R, i⟩ ⟨g1, gi⟩
     dsimp only at g1 gi ⊢
     clear q1 q3 q4 q5 r1 r2 r3 r4 c1 c2 c3 c4 z4
     have hl1 := congrArg List.length g1
     rw [List.length_append] at hl1
     cases R with
     | cons k R =>
      simp only [List.length_cons] at hl1
      have hk := hs D k R g1
      have hc : iLt i (lenA y4) = true := lt_t e_iLt e_lenA (by omega)
      have hat := el_at e_atA hg4 g1 gi
      have hi2 : iAdd .i64 i 1 = ((D ++ [k]).length : Int) := by rw [List.length_append]; exact inc_w e_iAdd gi (by omega)
      have hne : iNe i k = false := by simp only [ee]; simp; omega
      refine goB hX 0 (by conv => lhs; cbv; try simp only [hc, hat, hne]; cbv; try simp only [hc, hat, hne]; cbv; try simp only [hc, hat, hne]; cbv; try simp only [hc, hat, hne]; cbv) ?_
      refine goB hX 1 (by conv => lhs; cbv; try simp only [hc, hat, hne]; cbv; try simp only [hc, hat, hne]; cbv; try simp only [hc, hat, hne]; cbv; try simp only [hc, hat, hne]; cbv) ?_
      refine goA 60 ?_
      refine loopP_next (D ++ [k], R, iAdd .i64 i 1) ⟨by rw [g1]; simp, hi2⟩ (by simp) (ent_sub [.to 0, .to 1, .to 2] [some 0, some 1, some 2] ⟨⟨by simp, rfl⟩, ⟨by simp, rfl⟩, ⟨by simp, rfl⟩, trivial⟩ ⟨osrc_cells (b := 0) rfl rfl rfl ⟨.refl _, .cl kfa, trivial⟩, osrc_cells (b := 1) rfl rfl rfl ⟨.refl _, .cl kfb, trivial⟩, osrc_cells (b := 2) rfl rfl rfl ⟨.refl _, .cl kfc, trivial⟩, trivial⟩ ⟨.refl _, .refl _, .cl kx4, .refl _, .cl kx3, .refl _, .cl kx2, .refl _, .cl kx1, .refl _, .refl _, trivial⟩)
     | nil =>
      simp only [List.length_nil, Nat.add_zero] at hl1
      have hc : iLt i (lenA y4) = false := lt_f e_iLt e_lenA (by omega)
      refine goB hX 0 (by conv => lhs; cbv; try simp only [hc]; cbv; try simp only [hc]; cbv; try simp only [hc]; cbv; try simp only [hc]; cbv) ?_
      refine goB hX 1 (by conv => lhs; cbv; try simp only [hc]; cbv; try simp only [hc]; cbv; try simp only [hc]; cbv; try simp only [hc]; cbv) ?_
      refine goA 60 ?_
      refine loopP_exit ?_
      clear hc
      refine goA 0 ?_
      refine on_condJ [(3, .ptr 0 0), (4, .ptr 1 0)] [.cells [str an, .isl 2 fa], .cells [str bn, .isl 2 fbb], .cells [str cn, .isl 2 fcc]] rfl (fun h => ?_) (fun h => ?_) ?_
      · obtain ⟨b1, b2⟩ : o1 = true ∧ o2 = true := by simp only [ee] at h; revert h; cases o1 <;> cases o2 <;> simp
        subst b1 b2
        obtain ⟨x, hx⟩ := Option.isSome_iff_exists.1 hp1.symm
        obtain ⟨y, hy⟩ := Option.isSome_iff_exists.1 hp2.symm
        obtain ⟨z, hz, hz1, hz2, hz4, hz3⟩ := ht x y hx hy
        rw [hx, Option.getD_some] at hx1
        rw [hy, Option.getD_some] at hx2
        rw [hz, Option.getD_some] at hx3
        subst x y z
        have b3 : o3 = true := by rw [hp3, hz]; rfl
        subst b3
        have v1 : iNe (lenA y3) (lenA y2) = false := by simp only [ee]; simp; omega
        have v2 : iNe (lenA y1) (lenA fbb) = false := by simp only [ee]; simp; omega
        refine goB hX 0 (by conv => lhs; cbv; try simp only [n0, n1, v1, v2]; cbv; try simp only [n0, n1, v1, v2]; cbv; try simp only [n0, n1, v1, v2]; cbv; try simp only [n0, n1, v1, v2]; cbv) ?_
        refine on_cond rfl (fun c1 => ?_) (fun c1 => ?_)
        ·
         simp [ee] at c1
        ·
         simp [ee] at c1
         refine goA 60 ?_
         refine on_loopP (ι := List Int × List Int × Int) (fun p => ([(134, int p.2.2), (133, int (lenA y2)), (132, .isl 1 y2), (13, .isl 1 y3), (7, .isl 1 y1), (3, .ptr 0 0), (4, .ptr 1 0)], [.cells [str an, .isl 2 fa], .cells [str bn, .isl 2 fbb], .cells [str cn, .isl 2 fcc]])) (fun p => x2 = p.1 ++ p.2.1 ∧ p.2.2 = p.1.length) (fun p => p.2.1.length) ([], x2, 0) ⟨rfl, rfl⟩ ?_ ?_
         · exact (ent_sub [.to 0, .to 1, .to 2] [some 0, some 1, some 2] ⟨⟨by simp, rfl⟩, ⟨by simp, rfl⟩, ⟨by simp, rfl⟩, trivial⟩ ⟨osrc_cells (b := 0) rfl rfl rfl ⟨.refl _, .cl kfa, trivial⟩, osrc_cells (b := 1) rfl rfl rfl ⟨.refl _, .cl kfb, trivial⟩, osrc_cells (b := 2) rfl rfl rfl ⟨.refl _, .cl kfc, trivial⟩, trivial⟩ ⟨.refl _, .refl _, .cl kx2, .cl kx3, .cl kx1, .refl _, .refl _, trivial⟩)
         rintro ⟨D, R, i⟩ ⟨f1, fi⟩
         dsimp only at f1 fi ⊢
         clear g1 gi
         have hl2 := congrArg List.length f1
         rw [List.length_append] at hl2
         cases R with
         | cons k R =>
          simp only [List.length_cons] at hl2
          obtain ⟨j1, j2, j3⟩ := hz3 D k R f1
          have hDl : D.length < x3.length := by omega
          have hkl : k.toNat < x1.length := by omega
          obtain ⟨v, hv⟩ : ∃ v, v = x3[D.length] := ⟨_, rfl⟩
          rw [List.getElem?_eq_getElem hDl, List.getElem?_eq_getElem hkl, ← hv] at j3
          have j4 : x1[k.toNat] = v := (Option.some.inj j3).symm
          have e3 : x3 = x3.take D.length ++ v :: x3.drop (D.length + 1) := by rw [hv, List.getElem_cons_drop, List.take_append_drop]
          have e1 : x1 = x1.take k.toNat ++ v :: x1.drop (k.toNat + 1) := by rw [← j4, List.getElem_cons_drop, List.take_append_drop]
          have t3 : i = ((x3.take D.length).length : Int) := by rw [List.length_take, Nat.min_eq_left (by omega)]; exact fi
          have t1 : k = ((x1.take k.toNat).length : Int) := by rw [List.length_take, Nat.min_eq_left (by omega)]; omega
          have hc : iLt i (lenA y2) = true := lt_t e_iLt e_lenA (by omega)
          have hat := el_at e_atA hg2 f1 fi
          have hat3 := el_at e_atA hg3 e3 t3
          have hat1 := el_at e_atA hg1 e1 t1
          have hi2 : iAdd .i64 i 1 = ((D ++ [k]).length : Int) := by rw [List.length_append]; exact inc_w e_iAdd fi (by omega)
          have w1 : iLt k 0 = false := by simp only [ee]; simp; omega
          have w2 : iLe (lenA y1) k = false := by simp only [ee]; simp; omega
          have w3 : iNe v v = false := by simp only [ee]; simp
          have b1 : k < lenA y1 := by simp only [ee]; omega
          have b3 : i < lenA y3 := by simp only [ee]; omega
          have b0 : 0 ≤ i := by omega
          clear e3 e1 hv j4 j3 t3 t1
          refine goB hX 0 (by conv => lhs; cbv; try simp only [hc, hat, hat1, hat3, w1, w2, w3]; cbv; try simp only [hc, hat, hat1, hat3, w1, w2, w3]; cbv; try simp only [hc, hat, hat1, hat3, w1, w2, w3]; cbv; try simp only [hc, hat, hat1, hat3, w1, w2, w3]; cbv) ?_
          refine goB hX 1 (by conv => lhs; cbv; try simp only [hc, hat, hat1, hat3, w1, w2, w3]; cbv; try simp only [hc, hat, hat1, hat3, w1, w2, w3]; cbv; try simp only [hc, hat, hat1, hat3, w1, w2, w3]; cbv; try simp only [hc, hat, hat1, hat3, w1, w2, w3]; cbv) ?_
          refine on_cond rfl (fun c1 => ?_) (fun c1 => ?_)
          ·
           simp [ee] at c1
          ·
           simp [ee] at c1
           refine goA 60 ?_
           refine loopP_next (D ++ [k], R, iAdd .i64 i 1) ⟨by rw [f1]; simp, hi2⟩ (by simp) (ent_sub [.to 0, .to 1, .to 2] [some 0, some 1, some 2] ⟨⟨by simp, rfl⟩, ⟨by simp, rfl⟩, ⟨by simp, rfl⟩, trivial⟩ ⟨osrc_cells (b := 0) rfl rfl rfl ⟨.refl _, .cl kfa, trivial⟩, osrc_cells (b := 1) rfl rfl rfl ⟨.refl _, .cl kfb, trivial⟩, osrc_cells (b := 2) rfl rfl rfl ⟨.refl _, .cl kfc, trivial⟩, trivial⟩ ⟨.refl _, .refl _, .cl kx2, .cl kx3, .cl kx1, .refl _, .refl _, trivial⟩)
         | nil =>
          simp only [List.length_nil, Nat.add_zero] at hl2
          have hc : iLt i (lenA y2) = false := lt_f e_iLt e_lenA (by omega)
          refine goB hX 0 (by conv => lhs; cbv; try simp only [hc]; cbv; try simp only [hc]; cbv; try simp only [hc]; cbv; try simp only [hc]; cbv) ?_
          refine goB hX 1 (by conv => lhs; cbv; try simp only [hc]; cbv; try simp only [hc]; cbv; try simp only [hc]; cbv; try simp only [hc]; cbv) ?_
          refine goA 60 ?_
          refine loopP_exit ?_
          refine goA 60 ?_
          refine ⟨rfl, ?_⟩
          exact (ent_sub [.to 0, .to 1, .to 2] [some 0, some 1, some 2] ⟨⟨by simp, rfl⟩, ⟨by simp, rfl⟩, ⟨by simp, rfl⟩, trivial⟩ ⟨osrc_cells (b := 0) rfl rfl rfl ⟨.refl _, .cl kfa, trivial⟩, osrc_cells (b := 1) rfl rfl rfl ⟨.refl _, .cl kfb, trivial⟩, osrc_cells (b := 2) rfl rfl rfl ⟨.refl _, .cl kfc, trivial⟩, trivial⟩ ⟨.refl _, .refl _, trivial⟩)
      · refine goA 60 ?_
        refine ⟨rfl, ?_⟩
        exact (ent_sub [.to 0, .to 1, .to 2] [some 0, some 1, some 2] ⟨⟨by simp, rfl⟩, ⟨by simp, rfl⟩, ⟨by simp, rfl⟩, trivial⟩ ⟨osrc_cells (b := 0) rfl rfl rfl ⟨.refl _, .cl kfa, trivial⟩, osrc_cells (b := 1) rfl rfl rfl ⟨.refl _, .cl kfb, trivial⟩, osrc_cells (b := 2) rfl rfl rfl ⟨.refl _, .cl kfc, trivial⟩, trivial⟩ ⟨.refl _, .refl _, trivial⟩)
      have hq1 : iQuo .i64 (lenA fa) 2 = ((a.fs.length / 2 : Nat) : Int) := by
       simp only [ee]; rw [hal]
       show IntKind.i64.wrap ((a.fs.length : Int).tdiv 2) = _
       rw [Int.tdiv_eq_ediv_of_nonneg (by omega), wrap64 (by omega) (by omega)]; rfl
      obtain ⟨hh, hhh⟩ : ∃ hh : Int, hh = ((a.fs.length / 2 : Nat) : Int) := ⟨_, rfl⟩
      rw [← hhh] at hq1
      have hcut : cutA fa hh (lenA fa) = fa.drop (a.fs.length / 2) := by
       simp only [ee]; rw [hhh, hal, Int.toNat_natCast, Int.toNat_natCast, ← hal, List.take_length]
      generalize hdd : fa.drop (a.fs.length / 2) = dr at *
      have kdr : AV.closedL dr = true := by rw [← hdr]; exact Fld.closedL _
      clear hl1 hs hg4 m4 kx4 hsl
      obtain ⟨n, hn⟩ : ∃ n, n = a.fs.length - a.fs.length / 2 := ⟨_, rfl⟩
      rw [← hn] at r6 r7
      have u1 : iNe (lenA y5) (lenA fl) = false := by simp only [ee]; simp; omega
      have hnl : n = fl.length := by omega
      by_cases hfe : a.fs.drop (a.fs.length / 2) = []
      · have g1 : a.fs.length = 0 := by have := congrArg List.length hfe; rw [List.length_drop, List.length_nil] at this; omega
        have g2 : dr = [] := by have := congrArg List.length hdd; rw [List.length_drop] at this; exact List.eq_nil_of_length_eq_zero (by omega)
        have g3 : fl = [] := List.eq_nil_of_length_eq_zero (by omega)
        have g5 : y5 = [] := List.eq_nil_of_length_eq_zero (by omega)
        have g6 : lx = [] := List.eq_nil_of_length_eq_zero (by omega)
        have r6' := P_Clone0
        have rv := P_Reverse0
        subst g2 g3 g5 g6
        have u2 : iNe (lenA []) 0 = false := by simp only [ee]; rfl
        refine goA 60 ?_
        refine tr_drawB rfl (by conv => lhs; cbv) rfl ?_
        refine tgB hX (by conv => lhs; cbv; try simp only [hq1]; cbv; try simp only [hq1]; cbv; try simp only [hq1]; cbv; try simp only [hq1]; cbv) ?_
        rw [hcut]
        refine tr_pcall (args := [.isl 2 []]) rfl rfl rfl r6' rfl ?_
        refine tgA ?_
        refine tr_nil ⟨rfl, ?_, ?_⟩
        · simp only [LooksL, lookAll, List.cons_append, List.nil_append, List.append_nil]; and_intros <;> first | trivial | (intro hp; first | rfl | exact absurd (show false = true from hp) Bool.false_ne_true)
        refine goA 60 ?_
        refine oPA rv ?_
        refine goA 60 ?_
        refine oPA r5 ?_
        refine goB hX 0 (by conv => lhs; cbv; try simp only [n0, n1, z1, u2]; cbv; try simp only [n0, n1, z1, u2]; cbv; try simp only [n0, n1, z1, u2]; cbv; try simp only [n0, n1, z1, u2]; cbv) ?_
        refine on_cond rfl (fun c1 => ?_) (fun c1 => ?_)
        ·
         simp [ee] at c1
        ·
         simp [ee] at c1
         refine goA 60 ?_
         refine on_loopP (ι := Unit) (fun p => ([(196, int 0), (195, int (lenA []))], [])) (fun p => p = ()) (fun p => 0) () rfl ?_ ?_
         · exact (ent_sub [.gone, .gone, .gone, .gone] [] ⟨trivial, trivial, trivial, trivial, trivial⟩ trivial ⟨.refl _, .refl _, trivial⟩)
         rintro ⟨⟩ -
         have z5 : iLt 0 (lenA []) = false := by simp only [ee]; rfl
         refine goB hX 0 (by conv => lhs; cbv; try simp only [z5]; cbv; try simp only [z5]; cbv; try simp only [z5]; cbv; try simp only [z5]; cbv) ?_
         refine goA 60 ?_
         refine loopP_exit ?_
         refine goA 60 ?_
         refine oPA q2 ?_
         refine goA 60 ?_
         refine fn_ret rfl rfl (.val ?_)
         rfl
      have r6' : ACall EE 29 [.isl 2 dr] [] fun v H' => v = .sl 0 2 0 n ∧ H' = [.arr 2 dr] := r6.mono fun v H' h => by
       rcases h with h | h
       · exact absurd h.1 hfe
       · exact h
      refine goA 60 ?_
      refine trp_drawE [9, 11, 12] [[9, 11, 12], [11, 9, 12]] [(23, .ptr 3 0), (3, .ptr 0 0), (4, .ptr 1 0)] [.cells [str an, .isl 2 fa], .cells [str bn, .isl 2 fbb], .cells [str cn, .isl 2 fcc], .cells [str an, .sl 4 2 0 n], .arr 2 dr] rfl rfl rfl (by decide) rfl ?_ ⟨⟨[0, 1, 2, 3, 4, 5, 6, 7, 8, 9, 10, 11, 12], rfl, ?_⟩, ⟨[11, 0, 1, 2, 3, 4, 5, 6, 7, 8, 9, 10, 12], rfl, ?_⟩, trivial⟩
      · refine goA 60 ?_
        refine on_fcall [4] rfl rfl enters_slices_Reverse___api_Field_api_Field_ r7 (by decide) (by simp) (by show _ = [AObj.arr 2 (AV.subL _ dr)]; rw [subL_closed _ kdr]) rfl ?_
        rintro v0 H1 ⟨rfl, rfl⟩ -
        refine on_eqH (H2 := [.cells [str an, .isl 2 fa], .cells [str bn, .isl 2 fbb], .cells [str cn, .isl 2 fcc], .cells [str an, .sl 4 2 0 n], .arr 2 fl]) (by change [_, _, _, _, AObj.arr 2 (AV.subL (subIn [4] 5) fl)] = _; rw [subL_closed _ kel]; rfl) ?_
        refine on_entO (F' := [(23, .ptr 3 0), (3, .ptr 0 0)]) (H' := [.cells [str an, .isl 2 fa], .cells [str bn, .isl 2 fbb], .cells [str cn, .isl 2 fcc], .cells [str an, .isl 2 fl]]) (ent_sub [.to 0, .to 1, .to 2, .to 3, .isl 2 fl] [some 0, some 1, some 2, some 3] ⟨⟨by simp, rfl⟩, ⟨by simp, rfl⟩, ⟨by simp, rfl⟩, ⟨by simp, rfl⟩, ⟨_, rfl, (subL_closed _ kel).symm⟩, trivial⟩ ⟨osrc_cells (b := 0) rfl rfl rfl ⟨.refl _, .cl kfa, trivial⟩, osrc_cells (b := 1) rfl rfl rfl ⟨.refl _, .cl kfb, trivial⟩, osrc_cells (b := 2) rfl rfl rfl ⟨.refl _, .cl kfc, trivial⟩, osrc_cells (b := 3) rfl rfl rfl ⟨.refl _, .of (sub_whole rfl hnl), trivial⟩, trivial⟩ ⟨.refl _, .refl _, trivial⟩) ?_
        refine goA 60 ?_
        refine oPA r5 ?_
        refine goB hX 0 (by conv => lhs; cbv; try simp only [n0, n1, z1, u1]; cbv; try simp only [n0, n1, z1, u1]; cbv; try simp only [n0, n1, z1, u1]; cbv; try simp only [n0, n1, z1, u1]; cbv) ?_
        refine on_cond rfl (fun c1 => ?_) (fun c1 => ?_)
        ·
         simp [ee] at c1
        ·
         simp [ee] at c1
         refine goA 60 ?_
         refine on_loopP (ι := List Int × List Int × Int) (fun p => ([(196, int p.2.2), (195, int (lenA y5)), (194, .isl 1 y5), (3, .ptr 0 0)], [.cells [str an, .isl 2 fa]])) (fun p => lx = p.1 ++ p.2.1 ∧ p.2.2 = p.1.length) (fun p => p.2.1.length) ([], lx, 0) ⟨rfl, rfl⟩ ?_ ?_
         · exact (ent_sub [.to 0, .gone, .gone, .gone] [some 0] ⟨⟨by simp, rfl⟩, trivial, trivial, trivial, trivial⟩ ⟨osrc_cells (b := 0) rfl rfl rfl ⟨.refl _, .cl kfa, trivial⟩, trivial⟩ ⟨.refl _, .refl _, .cl kx5, .refl _, trivial⟩)
         rintro ⟨D, R, i⟩ ⟨f1, fi⟩
         dsimp only at f1 fi ⊢
         have hl2 := congrArg List.length f1
         rw [List.length_append] at hl2
         cases R with
         | cons k R =>
          simp only [List.length_cons] at hl2
          have hk := hla D k R f1
          have hc : iLt i (lenA y5) = true := lt_t e_iLt e_lenA (by omega)
          have hat := el_at e_atA hg5 f1 fi
          have hi2 : iAdd .i64 i 1 = ((D ++ [k]).length : Int) := by rw [List.length_append]; exact inc_w e_iAdd fi (by omega)
          have w1 : iSub .i64 (lenA fa) 1 = (a.fs.length : Int) - 1 := by
           simp only [ee]; rw [hal]; exact wrap64 (by omega) (by omega)
          have w2 : iSub .i64 ((a.fs.length : Int) - 1) i = k := by
           simp only [ee]; rw [hk, fi]; exact wrap64 (by omega) (by omega)
          obtain ⟨m, hm⟩ : ∃ m : Int, m = (a.fs.length : Int) - 1 := ⟨_, rfl⟩
          rw [← hm] at w1 w2
          have w3 : iNe k k = false := by simp only [ee]; simp
          clear hk hm
          refine goB hX 0 (by conv => lhs; cbv; try simp only [hc, hat, w1, w2, w3]; cbv; try simp only [hc, hat, w1, w2, w3]; cbv; try simp only [hc, hat, w1, w2, w3]; cbv; try simp only [hc, hat, w1, w2, w3]; cbv) ?_
          refine goB hX 1 (by conv => lhs; cbv; try simp only [hc, hat, w1, w2, w3]; cbv; try simp only [hc, hat, w1, w2, w3]; cbv; try simp only [hc, hat, w1, w2, w3]; cbv; try simp only [hc, hat, w1, w2, w3]; cbv) ?_
          refine goA 60 ?_
          refine loopP_next (D ++ [k], R, iAdd .i64 i 1) ⟨by rw [f1]; simp, hi2⟩ (by simp) (ent_sub [.to 0] [some 0] ⟨⟨by simp, rfl⟩, trivial⟩ ⟨osrc_cells (b := 0) rfl rfl rfl ⟨.refl _, .cl kfa, trivial⟩, trivial⟩ ⟨.refl _, .refl _, .cl kx5, .refl _, trivial⟩)
         | nil =>
          simp only [List.length_nil, Nat.add_zero] at hl2
          have hc : iLt i (lenA y5) = false := lt_f e_iLt e_lenA (by omega)
          refine goB hX 0 (by conv => lhs; cbv; try simp only [hc]; cbv; try simp only [hc]; cbv; try simp only [hc]; cbv; try simp only [hc]; cbv) ?_
          refine goA 60 ?_
          refine loopP_exit ?_
          refine goA 60 ?_
          refine oPA q2 ?_
          refine goA 60 ?_
          refine fn_ret rfl rfl (.val ?_)
          rfl
      · refine tgB hX (by conv => lhs; cbv; try simp only [hq1]; cbv; try simp only [hq1]; cbv; try simp only [hq1]; cbv; try simp only [hq1]; cbv) ?_
        rw [hcut]
        refine tr_ecall (args := [.isl 2 dr]) (v := .sl 3 2 0 n) (H1 := [.cells [str an, .isl 2 fa], .cells [str bn, .isl 2 fbb], .cells [str cn, .isl 2 fcc], .arr 2 dr]) rfl rfl rfl enters_slices_Clone___api_Field_api_Field_ (ACall.at [] r6' (by decide) (by simp) rfl (by show [_] = [AV.isl 2 (AV.subL _ dr)]; rw [subL_closed _ kdr]) rfl (by show [_, _, _, AObj.arr 2 (AV.subL (subIn [] 3) dr)] = _; rw [subL_closed _ kdr]; rfl)) ?_
        refine tgA ?_
        refine tr_nil ⟨by simp [effLab], ?_, ?_⟩
        · simp only [LooksP, lookAll, List.cons_append, List.nil_append, List.append_nil]; and_intros <;> first | trivial | (intro hp; first | rfl | exact absurd (show false = true from hp) Bool.false_ne_true)
        exact (ent_sub [.to 0, .to 1, .to 2, .to 4, .to 3] [some 0, some 1, some 2, some 4, some 3] ⟨⟨by simp, rfl⟩, ⟨by simp, rfl⟩, ⟨by simp, rfl⟩, ⟨by simp, rfl⟩, ⟨by simp, rfl⟩, trivial⟩ ⟨osrc_cells (b := 0) rfl rfl rfl ⟨.refl _, .cl kfa, trivial⟩, osrc_cells (b := 1) rfl rfl rfl ⟨.refl _, .cl kfb, trivial⟩, osrc_cells (b := 2) rfl rfl rfl ⟨.refl _, .cl kfc, trivial⟩, osrc_cells (b := 4) rfl rfl rfl ⟨.refl _, .refl _, trivial⟩, osrc_arr (b := 3) rfl rfl rfl rfl kdr, trivial⟩ ⟨.refl _, .refl _, .refl _, trivial⟩)
      · refine tgB hX (by conv => lhs; cbv; try simp only [hq1]; cbv; try simp only [hq1]; cbv; try simp only [hq1]; cbv; try simp only [hq1]; cbv) ?_
        rw [hcut]
        refine tr_ecall (args := [.isl 2 dr]) (v := .sl 4 2 0 n) (H1 := [.cells [str an, .isl 2 fa], .cells [str bn, .isl 2 fbb], .cells [str cn, .isl 2 fcc], .cells [str ⟨#[]⟩, .val (.slice none 0 0)], .arr 2 dr]) rfl rfl rfl enters_slices_Clone___api_Field_api_Field_ (ACall.at [] r6' (by decide) (by simp) rfl (by show [_] = [AV.isl 2 (AV.subL _ dr)]; rw [subL_closed _ kdr]) rfl (by show [_, _, _, _, AObj.arr 2 (AV.subL (subIn [] 4) dr)] = _; rw [subL_closed _ kdr]; rfl)) ?_
        refine tgA ?_
        refine tr_nil ⟨by simp [effLab], ?_, ?_⟩
        · simp only [LooksP, lookAll, List.cons_append, List.nil_append, List.append_nil]; and_intros <;> first | trivial | (intro hp; first | rfl | exact absurd (show false = true from hp) Bool.false_ne_true)
        exact (ent_sub [.to 0, .to 1, .to 2, .to 3, .to 4] [some 0, some 1, some 2, some 3, some 4] ⟨⟨by simp, rfl⟩, ⟨by simp, rfl⟩, ⟨by simp, rfl⟩, ⟨by simp, rfl⟩, ⟨by simp, rfl⟩, trivial⟩ ⟨osrc_cells (b := 0) rfl rfl rfl ⟨.refl _, .cl kfa, trivial⟩, osrc_cells (b := 1) rfl rfl rfl ⟨.refl _, .cl kfb, trivial⟩, osrc_cells (b := 2) rfl rfl rfl ⟨.refl _, .cl kfc, trivial⟩, osrc_cells (b := 3) rfl rfl rfl ⟨.refl _, .refl _, trivial⟩, osrc_arr (b := 4) rfl rfl rfl rfl kdr, trivial⟩ ⟨.refl _, .refl _, .refl _, trivial⟩)
theorem chkAll_one (a : Sch) : chkAll [a] = a.chk := by
 rw [chkAll, if_neg (by simp), chkL]
 by_cases h : a.chk ≠ 0
 · rw [if_pos h]
 · rw [if_neg h, if_neg (by simp), chkL]
   exact (by simpa using h : a.chk = 0).symm
theorem P_lawComposes (a b c : Sch) (ha : a.Short) (hb : b.Short) (hc : c.Short) : PCall EE 9 [a.enc, b.enc, c.enc] (bool true) := by
 by_cases hall : fewB [a, b, c] = true ∧ a.chk = 0 ∧ b.chk = 0 ∧ c.chk = 0
 · exact composes_main a b c ha hb hc hall.1 hall.2.1 hall.2.2.1 hall.2.2.2
 have q1 := P_Few [a, b, c] (by simp) (fun x hx => by simp at hx; rcases hx with rfl | rfl | rfl; exact ha; exact hb; exact hc)
 have q2 := P_awake
 have q3 := P_CheckAll [a] (by simp) (fun x hx => by simp at hx; rw [hx]; exact ha)
 have q4 := P_Check b hb
 have q5 := P_Check c hc
 rw [chkAll_one] at q3
 rw [mapE_eq, List.map_cons, List.map_cons, List.map_cons, List.map_nil] at q1
 rw [mapE_eq, List.map_cons, List.map_nil] at q3
 have ea := Sch.enc_eq a
 have eb := Sch.enc_eq b
 have ec := Sch.enc_eq c
 have kfa := Fld.closedI a.fs
 have kfb := Fld.closedI b.fs
 have kfc := Fld.closedI c.fs
 generalize fewB [a, b, c] = fw at *
 rw [ea, eb, ec] at q1 ⊢
 rw [ea] at q3
 rw [eb] at q4
 rw [ec] at q5
 generalize ba a.nm = an at *
 generalize ba b.nm = bn at *
 generalize ba c.nm = cn at *
 generalize hfa : mapE Fld.enc a.fs = fa at *
 generalize hfb : mapE Fld.enc b.fs = fbb at *
 generalize hfc : mapE Fld.enc c.fs = fcc at *
 have kcA : AV.closedL [str an, .isl 2 fa] = true := by simp [AV.closedL, closed_v, kfa]
 have kcB : AV.closedL [str bn, .isl 2 fbb] = true := by simp [AV.closedL, closed_v, kfb]
 have kcC : AV.closedL [str cn, .isl 2 fcc] = true := by simp [AV.closedL, closed_v, kfc]
 have kl1 : AV.closedL [AV.agg [str an, .isl 2 fa], AV.agg [str bn, .isl 2 fbb], AV.agg [str cn, .isl 2 fcc]] = true := by simp [AV.closedL, closed_agg, closed_v, kfa, kfb, kfc]
 have kl2 : AV.closedL [AV.agg [str an, .isl 2 fa]] = true := by simp [AV.closedL, closed_agg, closed_v, kfa]
 refine wordsN ?_; unhygienic intros
 have n0 : bNot false = true := by simp only [ee]; rfl
 have n1 : bNot true = false := by simp only [ee]; rfl
 cases fw with
 | false =>
  refine fn_body (fn := Tryd.f9) (n := 211) (ac := Trydc9) (rvs := [.t 6]) rfl (by decide) Trydp9 rfl rfl rfl ?_
  refine goA 60 ?_
  refine on_lend rfl rfl q1 rfl ⟨[.gone, .gone, .gone, .isl 2 ([AV.agg [AV.val (Value.string an), AV.isl 2 fa], AV.agg [AV.val (Value.string bn), AV.isl 2 fbb], AV.agg [AV.val (Value.string cn), AV.isl 2 fcc]])], ⟨trivial, trivial, trivial, ⟨_, rfl, (subL_closed _ kl1).symm⟩, trivial⟩, ⟨.refl _, trivial⟩⟩ ?_
  refine goB hX 0 (by conv => lhs; cbv; try simp only [n0, n1]; cbv; try simp only [n0, n1]; cbv; try simp only [n0, n1]; cbv; try simp only [n0, n1]; cbv) ?_
  refine goA 60 ?_
  refine on_gskip rfl rfl ?_
  refine goA 60 ?_
  refine on_gskip rfl rfl ?_
  refine goA 60 ?_
  refine on_gskip rfl rfl ?_
  refine goA 60 ?_
  refine oPA q2 ?_
  refine goA 60 ?_
  refine fn_ret rfl rfl (.val ?_)
  rfl
 | true =>
 by_cases h1 : a.chk ≠ 0
 · have k1 : iNe a.chk 0 = true := by simp only [ee]; simpa using h1
   generalize a.chk = ak at *
   refine fn_body (fn := Tryd.f9) (n := 211) (ac := Trydc9) (rvs := [.t 6]) rfl (by decide) Trydp9 rfl rfl rfl ?_
   refine goA 60 ?_
   refine on_lend rfl rfl q1 rfl ⟨[.gone, .gone, .gone, .isl 2 ([AV.agg [AV.val (Value.string an), AV.isl 2 fa], AV.agg [AV.val (Value.string bn), AV.isl 2 fbb], AV.agg [AV.val (Value.string cn), AV.isl 2 fcc]])], ⟨trivial, trivial, trivial, ⟨_, rfl, (subL_closed _ kl1).symm⟩, trivial⟩, ⟨.refl _, trivial⟩⟩ ?_
   refine goB hX 0 (by conv => lhs; cbv; try simp only [n0, n1, k1]; cbv; try simp only [n0, n1, k1]; cbv; try simp only [n0, n1, k1]; cbv; try simp only [n0, n1, k1]; cbv) ?_
   refine goA 60 ?_
   refine on_lend rfl rfl q3 rfl ⟨[.gone, .gone, .gone, .gone, .isl 2 ([AV.agg [AV.val (Value.string an), AV.isl 2 fa]])], ⟨trivial, trivial, trivial, trivial, ⟨_, rfl, (subL_closed _ kl2).symm⟩, trivial⟩, ⟨.refl _, trivial⟩⟩ ?_
   refine goB hX 0 (by conv => lhs; cbv; try simp only [n0, n1, k1]; cbv; try simp only [n0, n1, k1]; cbv; try simp only [n0, n1, k1]; cbv; try simp only [n0, n1, k1]; cbv) ?_
   refine on_guard rfl rfl (fun c1 => ?_) (fun c1 => ?_)
   ·
    simp [ee] at c1
    refine goA 60 ?_
    refine on_gskip rfl rfl ?_
    refine goA 60 ?_
    refine on_gskip rfl rfl ?_
    refine goA 60 ?_
    refine oPA q2 ?_
    refine goA 60 ?_
    refine fn_ret rfl rfl (.val ?_)
    rfl
   ·
    simp [ee] at c1
 have k1 : iNe a.chk 0 = false := by simp only [ee]; simpa using h1
 by_cases h2 : b.chk ≠ 0
 · have k2 : iNe b.chk 0 = true := by simp only [ee]; simpa using h2
   generalize a.chk = ak at *
   generalize b.chk = bk at *
   refine fn_body (fn := Tryd.f9) (n := 211) (ac := Trydc9) (rvs := [.t 6]) rfl (by decide) Trydp9 rfl rfl rfl ?_
   refine goA 60 ?_
   refine on_lend rfl rfl q1 rfl ⟨[.gone, .gone, .gone, .isl 2 ([AV.agg [AV.val (Value.string an), AV.isl 2 fa], AV.agg [AV.val (Value.string bn), AV.isl 2 fbb], AV.agg [AV.val (Value.string cn), AV.isl 2 fcc]])], ⟨trivial, trivial, trivial, ⟨_, rfl, (subL_closed _ kl1).symm⟩, trivial⟩, ⟨.refl _, trivial⟩⟩ ?_
   refine goB hX 0 (by conv => lhs; cbv; try simp only [n0, n1, k1, k2]; cbv; try simp only [n0, n1, k1, k2]; cbv; try simp only [n0, n1, k1, k2]; cbv; try simp only [n0, n1, k1, k2]; cbv) ?_
   refine goA 60 ?_
   refine on_lend rfl rfl q3 rfl ⟨[.gone, .gone, .gone, .gone, .isl 2 ([AV.agg [AV.val (Value.string an), AV.isl 2 fa]])], ⟨trivial, trivial, trivial, trivial, ⟨_, rfl, (subL_closed _ kl2).symm⟩, trivial⟩, ⟨.refl _, trivial⟩⟩ ?_
   refine goB hX 0 (by conv => lhs; cbv; try simp only [n0, n1, k1, k2]; cbv; try simp only [n0, n1, k1, k2]; cbv; try simp only [n0, n1, k1, k2]; cbv; try simp only [n0, n1, k1, k2]; cbv) ?_
   refine on_guard rfl rfl (fun c1 => ?_) (fun c1 => ?_)
   ·
    simp [ee] at c1
   ·
    simp [ee] at c1
    refine goA 60 ?_
    refine oPG q4 ?_
    refine goB hX 0 (by conv => lhs; cbv; try simp only [n0, n1, k1, k2]; cbv; try simp only [n0, n1, k1, k2]; cbv; try simp only [n0, n1, k1, k2]; cbv; try simp only [n0, n1, k1, k2]; cbv) ?_
    refine on_guard rfl rfl (fun c2 => ?_) (fun c2 => ?_)
    ·
     simp [ee] at c2
     refine goA 60 ?_
     refine on_gskip rfl rfl ?_
     refine goA 60 ?_
     refine oPA q2 ?_
     refine goA 60 ?_
     refine fn_ret rfl rfl (.val ?_)
     rfl
    ·
     simp [ee] at c2
 have k2 : iNe b.chk 0 = false := by simp only [ee]; simpa using h2
 by_cases h3 : c.chk ≠ 0
 · have k3 : iNe c.chk 0 = true := by simp only [ee]; simpa using h3
   generalize a.chk = ak at *
   generalize b.chk = bk at *
   generalize c.chk = ck at *
   refine fn_body (fn := Tryd.f9) (n := 211) (ac := Trydc9) (rvs := [.t 6]) rfl (by decide) Trydp9 rfl rfl rfl ?_
   refine goA 60 ?_
   refine on_lend rfl rfl q1 rfl ⟨[.gone, .gone, .gone, .isl 2 ([AV.agg [AV.val (Value.string an), AV.isl 2 fa], AV.agg [AV.val (Value.string bn), AV.isl 2 fbb], AV.agg [AV.val (Value.string cn), AV.isl 2 fcc]])], ⟨trivial, trivial, trivial, ⟨_, rfl, (subL_closed _ kl1).symm⟩, trivial⟩, ⟨.refl _, trivial⟩⟩ ?_
   refine goB hX 0 (by conv => lhs; cbv; try simp only [n0, n1, k1, k2, k3]; cbv; try simp only [n0, n1, k1, k2, k3]; cbv; try simp only [n0, n1, k1, k2, k3]; cbv; try simp only [n0, n1, k1, k2, k3]; cbv) ?_
   refine goA 60 ?_
   refine on_lend rfl rfl q3 rfl ⟨[.gone, .gone, .gone, .gone, .isl 2 ([AV.agg [AV.val (Value.string an), AV.isl 2 fa]])], ⟨trivial, trivial, trivial, trivial, ⟨_, rfl, (subL_closed _ kl2).symm⟩, trivial⟩, ⟨.refl _, trivial⟩⟩ ?_
   refine goB hX 0 (by conv => lhs; cbv; try simp only [n0, n1, k1, k2, k3]; cbv; try simp only [n0, n1, k1, k2, k3]; cbv; try simp only [n0, n1, k1, k2, k3]; cbv; try simp only [n0, n1, k1, k2, k3]; cbv) ?_
   refine on_guard rfl rfl (fun c1 => ?_) (fun c1 => ?_)
   ·
    simp [ee] at c1
   ·
    simp [ee] at c1
    refine goA 60 ?_
    refine oPG q4 ?_
    refine goB hX 0 (by conv => lhs; cbv; try simp only [n0, n1, k1, k2, k3]; cbv; try simp only [n0, n1, k1, k2, k3]; cbv; try simp only [n0, n1, k1, k2, k3]; cbv; try simp only [n0, n1, k1, k2, k3]; cbv) ?_
    refine on_guard rfl rfl (fun c2 => ?_) (fun c2 => ?_)
    ·
     simp [ee] at c2
    ·
     simp [ee] at c2
     refine goA 60 ?_
     refine oPG q5 ?_
     refine goB hX 0 (by conv => lhs; cbv; try simp only [n0, n1, k1, k2, k3]; cbv; try simp only [n0, n1, k1, k2, k3]; cbv; try simp only [n0, n1, k1, k2, k3]; cbv; try simp only [n0, n1, k1, k2, k3]; cbv) ?_
     refine on_cond rfl (fun c3 => ?_) (fun c3 => ?_)
     ·
      simp [ee] at c3
      refine goA 60 ?_
      refine oPA q2 ?_
      refine goA 60 ?_
      refine fn_ret rfl rfl (.val ?_)
      rfl
     ·
      simp [ee] at c3
 exact absurd ⟨rfl, by simpa using h1, by simpa using h2, by simpa using h3⟩ hall
end Go.Am
end
section
set_option maxHeartbeats 16000000
set_option maxRecDepth 100000
namespace Go.Proofs
open Go.Shelf
section
variable {P : Program} {ρ : Ren}
set_option maxRecDepth 1000000 in
theorem Any.Builder_growX (L : Lays.n241 P ρ) (X : Builder.Extra P ρ) (b n : Nat) (w : World) (hbk : w.heap[b]? = some (.cells #[.pointer (some ⟨b, 0, none⟩), .slice none 0 0] (ρ.t 72) (0, 0))) (hn : n ≤ 281474976710656) :
 Calls P (ρ.f 241) #[.pointer (some ⟨b, 0, none⟩), .int .i64 n] w fun e w' => e = .returned (.tuple #[]) ∧ ∃ cs, w' = ((w.alloc (.cells cs (ρ.t 5))).setCell ⟨b, 1, none⟩ (.slice (some ⟨w.heap.size, 0, none⟩) 0 cs.size)).drewN 3 := by
 obtain ⟨cs, hrun, hle, hmax⟩ := Lib.run_makeNoZero (P := P) w.drew #[(ρ.t 3)] (ρ.t 37) (ρ.t 5) L.t37 n hn
 have hw : IntKind.i64.wrap (IntKind.i64.wrap 0 + (n : Int)) = n := by rw [IntKind.wrap_i64, IntKind.wrap_i64]; omega
 have hcall : (callFunc (ρ.f 277) #[.int .i64 (IntKind.i64.wrap (IntKind.i64.wrap 0 + (n : Int)))]).run P w.drew = .ok (.value (.slice (some ⟨w.drew.heap.size, 0, none⟩) n cs.size)) (w.drew.drew.drew.alloc (.cells cs (ρ.t 5))) := by
  rw [hw, run_callFunc_extern L.f277 (by kernel_rfl) (by kernel_rfl) (by kernel_rfl) (e := Extern.BytealgMakeNoZero.makeNoZero #[(ρ.t 3)] #[(ρ.t 37)]) (by kernel_rfl), hrun]
  rfl
 have hlt : b < w.heap.size := (Array.getElem?_eq_some_iff.1 hbk).1
 have c1 : w.drew.cell? ⟨b, 1, none⟩ = some (.slice none 0 0) := by
  have : w.drew.heap[b]? = _ := hbk
  rw [Lib.cell_of_heap this]; rfl
 have old : (w.alloc (.cells cs (ρ.t 5))).heap[b]? = _ := (Lib.alloc_old w _ b hlt).trans hbk
 have c2 : (w.alloc (.cells cs (ρ.t 5))).cell? ⟨b, 1, none⟩ = some (.slice none 0 0) := by rw [Lib.cell_of_heap old]; rfl
 have f2 : (w.alloc (.cells cs (ρ.t 5))).frozen? ⟨b, 1, none⟩ = false := Lib.frozen_of_heap old 1
 have hcopy : ∀ W : World, (Builtin.copy_ #[(ρ.t 37), (ρ.t 37)] (ρ.t 3) #[.slice (some ⟨w.heap.size, 0, none⟩) 0 cs.size, .slice none 0 0]).run P W = .ok (goInt 0) W :=
  fun W => run_copy_none W (ρ.t 37) (ρ.t 37) (ρ.t 3) (ρ.t 5) _ _ 0 cs.size 0 0 L.t37 X.sizeByte rfl
 clear hw
 have mixed := L.mixed
 have t72 := L.t72; have a72 := L.a72; have z72 := L.z72; have v72 := L.v72; have u72 := run_underlying L.t72
 have t70 := L.t70; have a70 := L.a70; have z70 := L.z70; have v70 := L.v70; have u70 := run_underlying L.t70
 have t37 := L.t37; have a37 := L.a37; have z37 := L.z37; have v37 := L.v37; have u37 := run_underlying L.t37
 have t3 := L.t3; have a3 := L.a3; have z3 := L.z3; have v3 := L.v3; have u3 := run_underlying L.t3
 have t5 := X.t5; have a5 := X.a5; have z5 := X.z5; have v5 := X.v5; have u5 := run_underlying X.t5
 go_enter L.f241, Body.n241_ntmps ρ
 go_wp2
 go_region_o
 all_goals (go_wp2; go_end0; exact ⟨rfl, cs, by rw [World.setCell_alloc_past _ _ _ _ hlt]; rfl⟩)
end
end Go.Proofs
end
section
set_option maxHeartbeats 16000000
set_option maxRecDepth 20000
namespace Go.Am
open Go.Proofs Go.Shelf
theorem enters___strings_Builder__grow : Enters EE.P 73 := enters_of (fn := Tryd.f73) (n := 30) (ac := Trydc73) rfl (by decide) Trydp73
theorem enters___strings_Builder__Grow : Enters EE.P 64 := enters_of (fn := Tryd.f64) (n := 25) (ac := Trydc64) rfl (by decide) Trydp64
theorem C_grow (n : Nat) (hn : n ≤ 281474976710656) : ACall EE 73 [.ptr 0 0, int n] [.cells [.bsh 87 0 true, .val (.slice none 0 0)]] fun v H' => v = .tup [] ∧ H' = [.cells [.bsh 87 0 true, .bsl 5 1 0], .arr 1 []] := by
 intro K w ys hh hv
 obtain ⟨y, yn, rfl⟩ : ∃ y yn, ys = [y, yn] := by
  match ys, hv.1 with
  | [y, yn], _ => exact ⟨y, yn, rfl⟩
 have v0 := hv.2 0 _ y rfl rfl
 have v1 := hv.2 1 _ yn rfl rfl
 cases v1 with
 | val _ _ =>
 cases v0 with
 | ptr _ _ blk base hM hγ =>
  obtain ⟨c, ty, hheap, hl⟩ := hh.cells (b := 0) rfl hγ
  obtain ⟨y0, e0, r0⟩ := hl 0 _ rfl
  obtain ⟨y1, e1, r1⟩ := hl 1 _ rfl
  rw [Nat.add_zero] at e0
  have hb : base = 0 ∧ ty = 87 ∧ c.size = 2 ∧ y0 = .pointer (some ⟨blk, 0, none⟩) := by
   cases r0 with
   | bsh1 _ _ blk' c' fz hM' hγ' hc hn =>
    rw [hγ] at hγ'; cases hγ'
    rw [hheap] at hc; cases hc
    exact ⟨rfl, rfl, hn, rfl⟩
  obtain ⟨rfl, rfl, hn2, rfl⟩ := hb
  cases r1 with
  | val _ _ =>
   have hcarr : c = #[.pointer (some ⟨blk, 0, none⟩), .slice none 0 0] := by
    apply Array.ext (by simp [hn2])
    intro i h1 h2
    match i, h1, h2 with
    | 0, h1, h2 => rw [Array.getElem?_eq_getElem h1] at e0; exact Option.some.inj e0
    | 1, h1, h2 => rw [Nat.zero_add, Array.getElem?_eq_getElem h1] at e1; exact Option.some.inj e1
    | i + 2, h1, h2 => simp at h2; omega
   subst hcarr
   refine (Any.Builder_growX { Tryd.lays155 with } Tryd.Builder_Extra_155 blk n w hheap hn).mono ?_
   rintro e w' ⟨rfl, cs, rfl⟩
   obtain ⟨h1, ev1, hv1⟩ := new_bsl hh cs 5 (es := []) (fun _ h => by cases h) ⟨[], ⟨rfl, fun j c h => by simp [flat] at h⟩, fun j z h => by simp at h⟩ (cap := cs.size) (Nat.zero_le _) (Nat.le_refl _)
   have hlt : blk < w.heap.size := (Array.getElem?_eq_some_iff.1 hheap).1
   have heap1 : (w.alloc (.cells cs 5)).heap[blk]? = some (.cells #[.pointer (some ⟨blk, 0, none⟩), .slice none 0 0] 87 (0, 0)) := (Lib.alloc_old w _ blk hlt).trans hheap
   have hsl : (#[Value.pointer (some ⟨blk, 0, none⟩), .slice none 0 0] : Array Value).setIfInBounds 1 (.slice (some ⟨w.heap.size, 0, none⟩) 0 cs.size) = #[.pointer (some ⟨blk, 0, none⟩), .slice (some ⟨w.heap.size, 0, none⟩) 0 cs.size] := by simp
   have ht := touch_setRow (w.alloc (.cells cs 5)) blk _ ((#[Value.pointer (some ⟨blk, 0, none⟩), .slice none 0 0] : Array Value).setIfInBounds 1 (.slice (some ⟨w.heap.size, 0, none⟩) 0 cs.size)) _ (0, 0) heap1 (by simp)
   have hrow := setRow_heap (w.alloc (.cells cs 5)) blk _ ((#[Value.pointer (some ⟨blk, 0, none⟩), .slice none 0 0] : Array Value).setIfInBounds 1 (.slice (some ⟨w.heap.size, 0, none⟩) 0 cs.size)) _ (0, 0) heap1
   have hset : (w.alloc (.cells cs 5)).setCell ⟨blk, 1, none⟩ (.slice (some ⟨w.heap.size, 0, none⟩) 0 cs.size) = _ := setCell_row heap1
   have hg1 : (K.push 1 (some (w.heap.size, 0))).γ 0 = some (blk, 0) := (Ctx.push_lt K _ (by decide)).trans hγ
   obtain ⟨h2, ev2⟩ := h1.touch (b := 0) (o' := .cells [.bsh 87 0 true, .bsl 5 1 0]) rfl trivial hg1 ht trivial (fun m => .cells _ _ _ _ _ hrow (by
    intro j x hj
    match j, hj with
    | 0, hj =>
     simp only [List.getElem?_cons_zero, Option.some.injEq] at hj; subst hj
     exact ⟨_, by simp, .bsh1 _ _ _ _ (0, 0) (by simp) hg1 hrow (by simp)⟩
    | 1, hj =>
     simp only [List.getElem?_cons_succ, List.getElem?_cons_zero, Option.some.injEq] at hj; subst hj
     exact ⟨_, by simp, m.rep hv1⟩
    | j + 2, hj => simp at hj))
   rw [← hset] at h2 ev2
   obtain ⟨h3, ev3⟩ := h2.drewN 3
   exact ⟨_, _, _, _, rfl, ⟨rfl, rfl⟩, h3, .tup [] [] rfl (fun i c y h => by simp at h), ev1.trans (Ev.mono (by simp) (ev2.trans ev3))⟩
theorem C_Grow (n : Nat) (h0 : 0 < n) (hn : n ≤ 281474976710656) : ACall EE 64 [.ptr 0 0, int n] [.cells [.bsh 87 0 false, .val (.slice none 0 0)]] fun v H' => v = .tup [] ∧ H' = [.cells [.bsh 87 0 true, .bsl 5 1 0], .arr 1 []] := by
 have hg := C_grow n hn
 obtain ⟨z, hz⟩ : ∃ z : Int, z = n := ⟨_, rfl⟩
 rw [← hz] at hg ⊢
 refine wordsN ?_; unhygienic intros
 have k1 : iLt z 0 = false := by simp only [ee]; simp; omega
 have k2 : iSub .i64 0 0 = 0 := by simp only [ee]; rfl
 have k3 : iLt 0 z = true := by simp only [ee]; simp; omega
 refine rcall_body (fn := Tryd.f64) (n := 25) (ac := Trydc64) (rvs := []) rfl Trydp64 rfl rfl rfl ?_
 refine goA 0 ?_
 refine on_call rfl rfl rfl enters___strings_Builder__copyCheck (C_copyCheck false _ _ rfl) ?_
 rintro v H1 ⟨rfl, rfl⟩
 refine goB hX 0 (by conv => lhs; cbv; try simp only [k1]; cbv; try simp only [k1]; cbv; try simp only [k1]; cbv; try simp only [k1]; cbv) ?_
 refine goB hX 1 (by conv => lhs; cbv; try simp only [k1]; cbv; try simp only [k1]; cbv; try simp only [k1]; cbv; try simp only [k1]; cbv) ?_
 refine on_cond rfl (fun c1 => ?_) (fun c1 => ?_)
 · refine goA 0 ?_
   refine on_call rfl rfl rfl enters___strings_Builder__grow hg ?_
   rintro v H1 ⟨rfl, rfl⟩
   refine goA 60 ?_
   exact o_norm (.refl _ _ _ _ _) rfl ⟨rfl, rfl⟩
 · exact absurd (c1.symm.trans (show iLt (iSub .i64 0 0) z = true by rw [k2, k3])) (by decide)
theorem P_Count (s : ByteArray) (c : UInt8) : PCall EE 63 [str s, str ⟨#[c]⟩] (int (Lib.countB s ⟨#[c]⟩ : Nat)) :=
 pcall_plain (vs := [.string s, .string ⟨#[c]⟩]) (enters_of (fn := Tryd.f63) rfl (by decide) Trydp63) fun w => (Any.strings_Count1 { Tryd.lays155 with } s c w).mono fun e w' ⟨h1, h2⟩ => ⟨_, h1, fun K M => .val _ (fun _ h => by cases h), 0, by rw [h2]; rfl⟩
theorem P_Index1 (s : ByteArray) (c : UInt8) : PCall EE 65 [str s, str ⟨#[c]⟩] (int (Lib.indexByte s.data.toList c)) :=
 pcall_plain (vs := [.string s, .string ⟨#[c]⟩]) (enters_of (fn := Tryd.f65) rfl (by decide) Trydp65) fun w => (Any.strings_Index_one { Tryd.lays155 with } s c w).mono fun e w' ⟨h1, h2⟩ => ⟨_, h1, fun K M => .val _ (fun _ h => by cases h), 0, by rw [h2]; rfl⟩
end Go.Am
end
section
set_option maxHeartbeats 16000000
set_option maxRecDepth 20000
namespace Go.Am
open Go.Proofs Go.Shelf
theorem subC_none {c : UInt8} {new : Bs} {l : Bs} (h : c ∉ l) : subC c new l = l := by
 have := subC_word (c := c) (new := new) [] h
 rwa [List.append_nil, show subC c new [] = [] from rfl, List.append_nil] at this
theorem count_step {c : UInt8} {l : Bs} (h : l.count c ≠ 0) : ∃ u r, l = u ++ c :: r ∧ c ∉ u ∧ Lib.indexByte l c = u.length ∧ l.count c = r.count c + 1 := by
 rcases index_one c l with ⟨h1, h2⟩ | ⟨d, r, h1, h2, h3⟩
 · exact absurd (List.count_eq_zero.2 h2) h
 · refine ⟨d, r, h1, h2, by rw [← Lib.index_one, h3], ?_⟩
   rw [h1, List.count_append, List.count_cons_self, List.count_eq_zero.2 h2, Nat.zero_add]
theorem subC_len (c : UInt8) (new : Bs) : ∀ l : Bs, (subC c new l).length ≤ l.length + l.count c * new.length
 | [] => by simp [subC]
 | x :: l => by
  have ih := subC_len c new l
  by_cases h : x = c
  · subst h; rw [subC_cons_eq, List.length_append, List.length_cons, List.count_cons_self, Nat.succ_mul]; omega
  · rw [subC_cons_ne h, List.length_cons, List.length_cons, List.count_cons_of_ne (by simpa using h)]; omega
theorem P_Replace1 (l new : Bs) (c : UInt8) (hne : ba new ≠ ⟨#[c]⟩) (hn0 : 1 ≤ new.length) (hn4 : new.length ≤ 4) (hl : l.length ≤ 100000) :
 PCall EE 50 [str (ba l), str ⟨#[c]⟩, str (ba new), int (-1)] (str (ba (subC c new l))) := by
 have hCn := P_Count (ba l) c
 have hcb : Lib.countB (ba l) ⟨#[c]⟩ = l.count c := by
  show Lib.count (ba l).data.toList [c] = _
  rw [ba_data, Lib.count_one]
 rw [hcb] at hCn
 obtain ⟨m, hm⟩ : ∃ m, m = l.count c := ⟨_, rfl⟩
 rw [← hm] at hCn
 have hml : m ≤ l.length := by rw [hm]; exact List.count_le_length
 have hsz := ba_size l
 have hszn := ba_size new
 have hI : ∀ r : Bs, PCall EE 65 [str (ba r), str ⟨#[c]⟩] (int (Lib.indexByte r c)) := fun r => by
  have := P_Index1 (ba r) c
  rwa [ba_data] at this
 obtain ⟨o1, ho1⟩ : ∃ o : ByteArray, o = ⟨#[c]⟩ := ⟨_, rfl⟩
 have ho2 : o1.size = 1 := by rw [ho1]; rfl
 have hne' : o1 ≠ ba new := by rw [ho1]; exact fun h => hne h.symm
 rw [← ho1] at hCn ⊢
 simp only [← ho1] at hI
 refine wordsN ?_; unhygienic intros
 have f1 : sEq o1 (ba new) = false := by
  simp only [ee]
  rw [beq_eq_false_iff_ne]
  intro h
  exact hne' (by rw [ba_of o1, ba_of (ba new)]; congr 1; rw [← ByteArray.toList_eq, ← ByteArray.toList_eq, h])
 have f2 : iEq (-1) 0 = false := by simp only [ee]; rfl
 obtain ⟨M, hM⟩ : ∃ M : Int, M = m := ⟨_, rfl⟩
 rw [← hM] at hCn
 by_cases h0 : m = 0
 · have f3 : iEq M 0 = true := by simp only [ee]; simp; omega
   have e : subC c new l = l := subC_none (List.count_eq_zero.1 (hm ▸ h0))
   rw [e]
   generalize ba new = bn at *
   generalize ba l = bl at *
   refine fn_body (fn := Tryd.f50) (n := 104) (ac := Trydc50) (rvs := [.t 8]) rfl (by decide) Trydp50 rfl rfl rfl ?_
   refine goB hX 0 (by conv => lhs; cbv; try simp only [f1, f2, f3]; cbv; try simp only [f1, f2, f3]; cbv; try simp only [f1, f2, f3]; cbv; try simp only [f1, f2, f3]; cbv) ?_
   refine on_cond rfl (fun c1 => ?_) (fun c1 => ?_)
   ·
    simp [ee] at c1
   ·
    simp [ee] at c1
    refine goA 60 ?_
    refine oPA hCn ?_
    refine goB hX 0 (by conv => lhs; cbv; try simp only [f1, f2, f3]; cbv; try simp only [f1, f2, f3]; cbv; try simp only [f1, f2, f3]; cbv; try simp only [f1, f2, f3]; cbv) ?_
    refine goA 60 ?_
    refine fn_ret rfl rfl (.val ?_)
    rfl
 have f3 : iEq M 0 = false := by simp only [ee]; simp; omega
 have f4 : iLt (-1) 0 = true := by simp only [ee]; rfl
 have f5 : iAdd .i64 (sLen (ba l)) (iMul .i64 M (iSub .i64 (sLen (ba new)) (sLen o1))) = ((l.length + m * (new.length - 1) : Nat) : Int) := by
  have hb : m * (new.length - 1) ≤ 100000 * 3 := Nat.mul_le_mul (by omega) (by omega)
  simp only [ee]; rw [hsz, hszn, ho2]
  have e1 : IntKind.i64.wrap ((new.length : Int) - ((1 : Nat) : Int)) = ((new.length - 1 : Nat) : Int) := by rw [wrap64 (by omega) (by omega)]; omega
  rw [e1, hM]
  have e2 : ((m : Int) * ((new.length - 1 : Nat) : Int)) = ((m * (new.length - 1) : Nat) : Int) := by simp
  rw [e2, show IntKind.i64.wrap ((m * (new.length - 1) : Nat) : Int) = ((m * (new.length - 1) : Nat) : Int) from wrap64 (by omega) (by omega), wrap64 (by omega) (by omega)]; omega
 have hmb : m * (new.length - 1) ≤ 100000 * 3 := Nat.mul_le_mul (by omega) (by omega)
 have hl0 : 0 < l.length := by omega
 obtain ⟨gn, hgn⟩ : ∃ gn, gn = l.length + m * (new.length - 1) := ⟨_, rfl⟩
 have hG := C_Grow gn (by rw [hgn]; omega) (by rw [hgn]; omega)
 have f6 : iLt 0 (sLen o1) = true := by simp only [ee]; rw [ho2]; rfl
 have hW := fun d x => C_Write true d x
 have hS := fun s => C_String true s
 have hsl := subC_len c new l
 have hsl2 : l.count c * new.length ≤ 100000 * 4 := Nat.mul_le_mul (by omega) (by omega)
 have hnz : subC c new l ≠ [] := by
  obtain ⟨u, r, e, h, _, _⟩ := count_step (c := c) (l := l) (by omega)
  intro h2
  rw [e, subC_app r h] at h2
  have := congrArg List.length h2
  simp only [List.length_append, List.length_nil] at this
  omega
 obtain ⟨gz, hgz⟩ : ∃ gz : Int, gz = (gn : Int) := ⟨_, rfl⟩
 rw [← hgn, ← hgz] at f5
 rw [← hgz] at hG
 obtain ⟨bl, hbl⟩ : ∃ bl, bl = ba l := ⟨_, rfl⟩
 obtain ⟨bn, hbn⟩ : ∃ bn, bn = ba new := ⟨_, rfl⟩
 rw [← hbl] at hCn f5 hsz ⊢
 rw [← hbn] at f1 f5 hszn ⊢
 have hct1 : ∀ x y, l = x ++ y → ∀ i : Int, i = x.length → sCut bl i (sLen bl) = ba y := fun x y h i hi => by
  simp only [ee]
  rw [hbl, ba_size, hi, Int.toNat_natCast, Int.toNat_natCast, ba_cut, List.take_length, h, List.drop_left]
 have hct2 : ∀ x w y, l = x ++ (w ++ y) → ∀ i j : Int, i = x.length → j = (x.length + w.length : Nat) → sCut bl i j = ba w := fun x w y h i j hi hj => by
  simp only [ee]
  rw [hbl, hi, hj, Int.toNat_natCast, Int.toNat_natCast, ba_cut, h, ← List.append_assoc, show x.length + w.length = (x ++ w).length by simp, List.take_left, List.drop_left]
 have f7 : iOf bl.size = (l.length : Int) := by simp only [ee]; rw [hsz]
 have f8 : sLen bl = (l.length : Int) := by simp only [ee]; rw [hsz]
 have f9 : sLen o1 = 1 := by simp only [ee]; rw [ho2]; rfl
 clear hcb hne
 refine fn_body (fn := Tryd.f50) (n := 104) (ac := Trydc50) (rvs := [.t 8]) rfl (by decide) Trydp50 rfl rfl rfl ?_
 refine goB hX 0 (by conv => lhs; cbv; try simp only [f1, f2, f3, f4, f5, f6]; cbv; try simp only [f1, f2, f3, f4, f5, f6]; cbv; try simp only [f1, f2, f3, f4, f5, f6]; cbv; try simp only [f1, f2, f3, f4, f5, f6]; cbv) ?_
 refine on_cond rfl (fun c1 => ?_) (fun c1 => ?_)
 · simp [ee] at c1
 simp [ee] at c1
 refine goA 60 ?_
 refine oPA hCn ?_
 refine goB hX 0 (by conv => lhs; cbv; try simp only [f1, f2, f3, f4, f5, f6]; cbv; try simp only [f1, f2, f3, f4, f5, f6]; cbv; try simp only [f1, f2, f3, f4, f5, f6]; cbv; try simp only [f1, f2, f3, f4, f5, f6]; cbv) ?_
 refine goB hX 1 (by conv => lhs; cbv; try simp only [f1, f2, f3, f4, f5, f6]; cbv; try simp only [f1, f2, f3, f4, f5, f6]; cbv; try simp only [f1, f2, f3, f4, f5, f6]; cbv; try simp only [f1, f2, f3, f4, f5, f6]; cbv) ?_
 refine on_cond rfl (fun c2 => ?_) (fun c2 => ?_)
 rotate_left
 · simp [ee] at c2
 simp [ee] at c2
 refine goB hX 60 (by conv => lhs; cbv; try simp only [f5]; cbv; try simp only [f5]; cbv; try simp only [f5]; cbv; try simp only [f5]; cbv) ?_
 refine on_fcall [0] rfl rfl enters___strings_Builder__Grow hG (by decide) (by simp) rfl rfl ?_
 rintro v0 H1 ⟨rfl, rfl⟩ -
 refine goB hX 0 (by conv => lhs; cbv; try simp only [f6]; cbv; try simp only [f6]; cbv; try simp only [f6]; cbv; try simp only [f6]; cbv) ?_
 refine goB hX 1 (by conv => lhs; cbv; try simp only [f6]; cbv; try simp only [f6]; cbv; try simp only [f6]; cbv; try simp only [f6]; cbv) ?_
 refine on_loopP (ι := Bs × Bs × Nat × Int × Int × Nat × List AV) (fun p => ([(53, int p.2.2.2.1), (52, int M), (11, int p.2.2.2.2.1), (10, .ptr 0 0), (3, int M), (2, str bn), (1, str o1), (0, str bl)], [.cells [.bsh 87 0 true, .bsl 5 1 p.2.2.2.2.2.1], .arr 1 p.2.2.2.2.2.2])) (fun p => l = p.1 ++ p.2.1 ∧ p.2.2.2.1 = p.2.2.1 ∧ p.2.2.1 + p.2.1.count c = m ∧ p.2.2.2.2.1 = p.1.length ∧ p.2.2.2.2.2.2 = byteA (ba (subC c new p.1)) ∧ p.2.2.2.2.2.1 = p.2.2.2.2.2.2.length ∧ subC c new l = subC c new p.1 ++ subC c new p.2.1) (fun p => p.2.1.count c) ([], l, 0, 0, 0, 0, []) ⟨rfl, rfl, by rw [hm]; simp, rfl, by rw [show subC c new [] = [] from rfl, ba_eq]; rfl, rfl, rfl⟩ ?_ ?_
 · exact (ent_sub [.to 0, .to 1] [some 0, some 1] ⟨⟨by simp, rfl⟩, ⟨by simp, rfl⟩, trivial⟩ ⟨osrc_cells (b := 0) rfl rfl rfl ⟨.refl _, .refl _, trivial⟩, osrc_arr (b := 1) rfl rfl rfl rfl (by rfl), trivial⟩ ⟨.refl _, .refl _, .refl _, .refl _, .refl _, .refl _, .refl _, .refl _, trivial⟩)
 rintro ⟨a, r, k, i, p, n1, bs⟩ ⟨g1, gi, gk, gp, gb, gn, gs⟩
 dsimp only at g1 gi gk gp gb gn gs ⊢
 have L1 := congrArg List.length g1
 rw [List.length_append] at L1
 have hst : (subC c new a).length ≤ 1000000 := by
  have := congrArg List.length gs
  rw [List.length_append] at this
  omega
 have kbs : AV.closedL bs = true := by rw [gb]; exact byteA_closed _
 by_cases hr : r.count c = 0
 · have hc : iLt i M = false := by simp only [ee]; simp; omega
   have e1 := hct1 a r g1 p gp
   have hw := hW (subC c new a) r (by omega) (by omega)
   have e2 : subC c new a ++ r = subC c new l := by rw [gs, subC_none (List.count_eq_zero.1 hr)]
   rw [e2, ← gb, ← gn] at hw
   have hs := hS (subC c new l) hnz (by omega)
   have kbz := byteA_closed (subC c new l)
   have hp0 : 0 ≤ p := by omega
   have hpl : p ≤ sLen bl := by rw [f8]; omega
   clear e2 hG hI hCn
   generalize ba (subC c new l) = tb at *
   generalize ba r = br at *
   obtain ⟨nz, hnz'⟩ : ∃ n, n = (byteA tb).length := ⟨_, rfl⟩
   rw [← hnz'] at hw hs
   generalize byteA tb = bz at *
   obtain ⟨rl, hrl⟩ : ∃ z : Int, z = (r.length : Int) := ⟨_, rfl⟩
   rw [← hrl] at hw
   refine goB hX 0 (by conv => lhs; cbv; try simp only [hc]; cbv; try simp only [hc]; cbv; try simp only [hc]; cbv; try simp only [hc]; cbv) ?_
   refine goB hX 1 (by conv => lhs; cbv; try simp only [hc]; cbv; try simp only [hc]; cbv; try simp only [hc]; cbv; try simp only [hc]; cbv) ?_
   refine goA 60 ?_
   refine loopP_exit ?_
   refine goB hX 0 (by conv => lhs; cbv; try simp only [e1]; cbv; try simp only [e1]; cbv; try simp only [e1]; cbv; try simp only [e1]; cbv) ?_
   refine on_fcall [0, 1] rfl rfl enters___strings_Builder__WriteString hw (by decide) (by simp) (by show [_, AObj.arr 1 bs] = [_, AObj.arr 1 (AV.subL _ bs)]; rw [subL_closed _ kbs]; rfl) rfl ?_
   rintro v0 H1 ⟨rfl, rfl⟩ -
   refine on_eqH (H2 := [.cells [.bsh 87 0 true, .bsl 5 2 nz], .dead, .arr 1 bz]) (by change [_, _, AObj.arr 1 (AV.subL (subIn [0, 1] 2) bz)] = _; rw [subL_closed _ kbz]; rfl) ?_
   refine goA 60 ?_
   refine on_fcall [0, 2] rfl rfl enters___strings_Builder__String hs (by decide) (by simp) (by show _ = [_, AObj.arr 1 (AV.subL _ bz)]; rw [subL_closed _ kbz]; rfl) rfl ?_
   rintro v0 H1 ⟨rfl, rfl⟩ -
   refine goA 60 ?_
   refine fn_ret rfl rfl ?_
   exact ⟨[.gone, .gone, .gone], ⟨trivial, trivial, trivial, trivial⟩, .refl _⟩
 · have hc : iLt i M = true := by simp only [ee]; simp; omega
   obtain ⟨u, r', e1, e2, e3, e4⟩ := count_step (c := c) (l := r) hr
   have L2 := congrArg List.length e1
   simp only [List.length_append, List.length_cons] at L2
   have c1 := hct1 a r g1 p gp
   obtain ⟨j, hj⟩ : ∃ j : Int, j = ((a.length + u.length : Nat) : Int) := ⟨_, rfl⟩
   have c2 := hct2 a u (c :: r') (by rw [g1, e1]) p j gp (by rw [hj])
   have hI1 := hI r
   rw [e3] at hI1
   obtain ⟨ul, hul⟩ : ∃ z : Int, z = (u.length : Int) := ⟨_, rfl⟩
   rw [← hul] at hI1
   have hj1 : iAdd .i64 p ul = j := by
    rw [e_iAdd, gp, hul]; show IntKind.i64.wrap _ = _; rw [wrap64 (by omega) (by omega)]; omega
   have hj2 : iAdd .i64 j 1 = ((a ++ u ++ [c]).length : Int) := by
    rw [e_iAdd, hj]; show IntKind.i64.wrap _ = _; rw [wrap64 (by omega) (by omega)]; simp; omega
   have hi2 : iAdd .i64 i 1 = ((k + 1 : Nat) : Int) := by
    rw [e_iAdd, gi]; show IntKind.i64.wrap _ = _; rw [wrap64 (by omega) (by omega)]; omega
   have hsu := congrArg List.length (subC_app (c := c) (new := new) r' e2)
   rw [← e1] at hsu
   have hgl := congrArg List.length gs
   rw [List.length_append] at hgl
   simp only [List.length_append] at hsu
   have hw1 := hW (subC c new a) u (by omega) (by omega)
   have hw2 := hW (subC c new a ++ u) new (by omega) (by rw [List.length_append]; omega)
   rw [← gb, ← gn] at hw1
   have kb1 := byteA_closed (subC c new a ++ u)
   have kb2 := byteA_closed (subC c new a ++ u ++ new)
   have e5 : subC c new (a ++ u ++ [c]) = subC c new a ++ u ++ new := by
    rw [subC, List.flatMap_append, List.flatMap_append, ← subC, ← subC, ← subC, subC_none e2]; simp [subC]
   have e6 : subC c new l = subC c new (a ++ u ++ [c]) ++ subC c new r' := by rw [gs, e5, e1, subC_app r' e2]; simp
   have hp0 : 0 ≤ p := by omega
   have hpl : p ≤ sLen bl := by rw [f8]; omega
   have hpj : p ≤ j := by omega
   have hjl : j ≤ sLen bl := by rw [f8]; omega
   clear hG hI hCn hS hnz
   rw [← hbn] at hw2
   have hr2 : ba (subC c new a ++ u ++ new) = ba (subC c new (a ++ u ++ [c])) := by rw [e5]
   generalize hb2 : ba (subC c new a ++ u ++ new) = t2 at *
   generalize ba (subC c new a ++ u) = t1 at *
   generalize ba r = br at *
   generalize ba u = bu at *
   obtain ⟨n2, hn2⟩ : ∃ n, n = (byteA t1).length := ⟨_, rfl⟩
   obtain ⟨n3, hn3⟩ : ∃ n, n = (byteA t2).length := ⟨_, rfl⟩
   rw [← hn2] at hw1 hw2
   rw [← hn3] at hw2
   obtain ⟨z2, hz2⟩ : ∃ z : Int, z = (new.length : Int) := ⟨_, rfl⟩
   rw [← hul] at hw1
   rw [← hz2] at hw2
   have hr3 : byteA t2 = byteA (ba (subC c new (a ++ u ++ [c]))) := by rw [hr2]
   generalize byteA t1 = b1 at *
   generalize byteA t2 = b2 at *
   refine goB hX 0 (by conv => lhs; cbv; try simp only [hc, c1]; cbv; try simp only [hc, c1]; cbv; try simp only [hc, c1]; cbv; try simp only [hc, c1]; cbv) ?_
   refine goB hX 1 (by conv => lhs; cbv; try simp only [hc, c1]; cbv; try simp only [hc, c1]; cbv; try simp only [hc, c1]; cbv; try simp only [hc, c1]; cbv) ?_
   refine oPA hI1 ?_
   refine goB hX 0 (by conv => lhs; cbv; try simp only [hj1, c2]; cbv; try simp only [hj1, c2]; cbv; try simp only [hj1, c2]; cbv; try simp only [hj1, c2]; cbv) ?_
   refine on_fcall [0, 1] rfl rfl enters___strings_Builder__WriteString hw1 (by decide) (by simp) (by show [_, AObj.arr 1 bs] = [_, AObj.arr 1 (AV.subL _ bs)]; rw [subL_closed _ kbs]; rfl) rfl ?_
   rintro v0 H1 ⟨rfl, rfl⟩ -
   refine on_eqH (H2 := [.cells [.bsh 87 0 true, .bsl 5 2 n2], .dead, .arr 1 b1]) (by change [_, _, AObj.arr 1 (AV.subL (subIn [0, 1] 2) b1)] = _; rw [subL_closed _ kb1]; rfl) ?_
   refine goA 60 ?_
   refine on_fcall [0, 2] rfl rfl enters___strings_Builder__WriteString hw2 (by decide) (by simp) (by show _ = [_, AObj.arr 1 (AV.subL _ b1)]; rw [subL_closed _ kb1]; rfl) rfl ?_
   rintro v0 H1 ⟨rfl, rfl⟩ -
   refine on_eqH (H2 := [.cells [.bsh 87 0 true, .bsl 5 3 n3], .dead, .dead, .arr 1 b2]) (by change [_, _, _, AObj.arr 1 (AV.subL (subIn [0, 2] 3) b2)] = _; rw [subL_closed _ kb2]; rfl) ?_
   refine goB hX 60 (by conv => lhs; cbv; try simp only [f9]; cbv; try simp only [f9]; cbv; try simp only [f9]; cbv; try simp only [f9]; cbv) ?_
   exact loopP_next (a ++ u ++ [c], r', k + 1, iAdd .i64 i 1, iAdd .i64 j 1, n3, b2) ⟨by rw [g1, e1]; simp, hi2, by show k + 1 + r'.count c = m; omega, hj2, hr3, hn3, e6⟩ (by show r'.count c < r.count c; omega) (ent_sub [.to 0, .gone, .gone, .to 1] [some 0, some 3] ⟨⟨by simp, rfl⟩, trivial, trivial, ⟨by simp, rfl⟩, trivial⟩ ⟨osrc_cells (b := 0) rfl rfl rfl ⟨.refl _, .refl _, trivial⟩, osrc_arr (b := 3) rfl rfl rfl rfl kb2, trivial⟩ ⟨.refl _, .refl _, .refl _, .refl _, .refl _, .refl _, .refl _, .refl _, trivial⟩)
theorem P_ReplaceAll1 (l new : Bs) (c : UInt8) (hne : ba new ≠ ⟨#[c]⟩) (hn0 : 1 ≤ new.length) (hn4 : new.length ≤ 4) (hl : l.length ≤ 100000) :
 PCall EE 31 [str (ba l), str ⟨#[c]⟩, str (ba new)] (str (ba (subC c new l))) := by
 have h := P_Replace1 l new c hne hn0 hn4 hl
 generalize ba l = bl at *
 generalize (⟨#[c]⟩ : ByteArray) = bc at *
 generalize ba new = bn at *
 generalize ba (subC c new l) = bs at *
 refine wordsN ?_; unhygienic intros
 refine fn_body (fn := Tryd.f31) (n := 11) (ac := Trydc31) (rvs := [.t 6]) rfl (by decide) Trydp31 rfl rfl rfl ?_
 refine goA 60 ?_
 refine oPA h ?_
 refine goA 60 ?_
 refine fn_ret rfl rfl (.val ?_)
 rfl
end Go.Am
end
section
set_option maxHeartbeats 16000000
set_option maxRecDepth 100000
namespace Go.Am
open Go.Proofs
theorem P_Trim10 (l : List Sch) (h : chkAll l = 0) : ∃ d, PCall EE 32 [str (ba (fmt l)), str (ba [10])] (str (ba d)) ∧ d.length ≤ 4496 ∧ prs d = (l, 0, 0) := by
 have hl := fmt_len h
 cases l with
 | nil =>
  refine ⟨[], ?_, by simp, prs_fmt h⟩
  have := trims_pcall (E := EE) Tryd.lays102 enters_strings_TrimSuffix (ba []) (ba [10]) (by rw [ba_size]; simp)
  rw [ba_data, ba_data, show (Lib.trimSuffix ([] : Bs) [10]) = [] from rfl] at this
  rw [show fmt [] = [] from rfl]
  rw [ba_eq [], ba_eq [10]] at this ⊢
  exact this
 | cons q r =>
  obtain ⟨d, hd⟩ := fmt_last (l := q :: r) (by simp)
  rw [hd] at hl ⊢
  rw [List.length_append] at hl
  exact ⟨d, P_TrimSuffix 10 d (by omega), by omega, prs_cut h hd⟩
theorem P_lawReturns (l : List Sch) (hl : l.length < 1048577) (hs : ∀ q ∈ l, q.Short) : PCall EE 10 [.isl 2 (mapE Sch.enc l)] (bool true) := by
 have q1 := P_Few l (by omega) hs
 have q2 := P_awake
 have q3 := P_Format l (by omega) hs
 have q4 := P_CheckAll l (by omega) hs
 have q5 := P_Same l (by omega) hs
 have kcl := Sch.closedI l
 by_cases hc : chkAll l = 0
 · rw [hc, if_neg (by decide)] at q3
   rw [hc] at q4
   have hfl := fmt_len hc
   have s32 : (subC 32 [32, 32, 32] (fmt l)).length ≤ 17984 := by
    have := subC_len 32 [32, 32, 32] (fmt l)
    have h2 : (fmt l).count 32 * 3 ≤ 4496 * 3 := Nat.mul_le_mul_right 3 (Nat.le_trans List.count_le_length hfl)
    simp only [List.length_cons, List.length_nil] at this
    omega
   have hw := wide_len hc
   have r1 := P_Parse (fmt l) (by omega)
   have r2 := P_Parse (wide (fmt l)) (by omega)
   obtain ⟨d, r3, hdl, hdp⟩ := P_Trim10 l hc
   have r4 := P_Parse d (by omega)
   rw [prs_fmt hc] at r1
   rw [prs_wide hc] at r2
   rw [hdp] at r4
   dsimp only at r1 r2 r4
   have r5 := P_ReplaceAll1 (fmt l) [32, 32, 32] 32 (by rw [ba_eq]; intro h; exact absurd (congrArg ByteArray.size h) (by decide)) (by simp) (by simp) (by omega)
   have r6 := P_ReplaceAll1 (subC 32 [32, 32, 32] (fmt l)) [32, 10, 32, 10] 10 (by rw [ba_eq]; intro h; exact absurd (congrArg ByteArray.size h) (by decide)) (by simp) (by simp) (by omega)
   have hcat : ba [32, 10, 10] ++ ba (subC 10 [32, 10, 32, 10] (subC 32 [32, 32, 32] (fmt l))) = ba (wide (fmt l)) := by rw [ba_app]; rfl
   rw [ba_eq [32, 32, 32]] at r5
   rw [ba_eq [32, 10, 32, 10]] at r6
   rw [ba_eq [10]] at r3
   rw [ba_eq [32, 10, 10]] at hcat
   have hz2 : (ba (subC 10 [32, 10, 32, 10] (subC 32 [32, 32, 32] (fmt l)))).size ≤ 100000 := by
    have := congrArg ByteArray.size hcat
    rw [ByteArray.size_append, ba_size (wide _)] at this
    omega
   clear s32 hw hdl hdp hfl hc
   generalize ba (wide (fmt l)) = t3 at *
   generalize ba (subC 10 [32, 10, 32, 10] (subC 32 [32, 32, 32] (fmt l))) = t2 at *
   generalize ba (subC 32 [32, 32, 32] (fmt l)) = t1 at *
   generalize ba (fmt l) = t0 at *
   generalize ba d = t4 at *
   generalize fewB l = fb at *
   generalize mapE Sch.enc l = es at *
   refine wordsN ?_; unhygienic intros
   have n0 : bNot false = true := by simp only [ee]; rfl
   have n1 : bNot true = false := by simp only [ee]; rfl
   have k1 : iNe 0 0 = false := by simp only [ee]; rfl
   have k2 : iAdd .i64 0 0 = 0 := by simp only [ee]; rfl
   have k3 : iEq 0 0 = true := by simp only [ee]; rfl
   have k4 : sCat ⟨#[32, 10, 10]⟩ t2 = t3 := by simp only [ee]; exact hcat
   refine fn_body (fn := Tryd.f10) (n := 78) (ac := Trydc10) (rvs := [.t 2]) rfl (by decide) Trydp10 rfl rfl rfl ?_
   cases fb with
   | false =>
    refine goA 60 ?_
    refine oPA q1 ?_
    refine goB hX 0 (by conv => lhs; cbv; try simp only [n0, n1]; cbv; try simp only [n0, n1]; cbv; try simp only [n0, n1]; cbv; try simp only [n0, n1]; cbv) ?_
    refine goA 60 ?_
    refine oPA q2 ?_
    refine goA 60 ?_
    refine fn_ret rfl rfl (.val ?_)
    rfl
   | true =>
    refine goA 60 ?_
    refine oPA q1 ?_
    refine goB hX 0 (by conv => lhs; cbv; try simp only [n0, n1, k1, k2, k3, k4]; cbv; try simp only [n0, n1, k1, k2, k3, k4]; cbv; try simp only [n0, n1, k1, k2, k3, k4]; cbv; try simp only [n0, n1, k1, k2, k3, k4]; cbv) ?_
    refine goA 60 ?_
    refine oPA q3 ?_
    refine goB hX 0 (by conv => lhs; cbv; try simp only [n0, n1, k1, k2, k3, k4]; cbv; try simp only [n0, n1, k1, k2, k3, k4]; cbv; try simp only [n0, n1, k1, k2, k3, k4]; cbv; try simp only [n0, n1, k1, k2, k3, k4]; cbv) ?_
    refine goA 60 ?_
    refine oPA r1 ?_
    refine goA 60 ?_
    refine oPA r5 ?_
    refine oPA r6 ?_
    refine go rfl hX 60 (by conv => lhs; cbv; try simp only [k4]; cbv; try simp only [k4]; cbv; try simp only [k4]; cbv; try simp only [k4]; cbv) ?_ ?_
    · simp only [Cd.ok]; (show (3 : Nat) + t2.size ≤ _; omega)
    refine oPA r2 ?_
    refine goA 60 ?_
    refine oPA r3 ?_
    refine oPA r4 ?_
    refine goA 60 ?_
    refine oPA q2 ?_
    refine goB hX 0 (by conv => lhs; cbv; try simp only [n0, n1, k1, k2, k3, k4]; cbv; try simp only [n0, n1, k1, k2, k3, k4]; cbv; try simp only [n0, n1, k1, k2, k3, k4]; cbv; try simp only [n0, n1, k1, k2, k3, k4]; cbv) ?_
    refine on_guard rfl rfl (fun c1 => ?_) (fun c1 => ?_)
    ·
     simp [ee] at c1
     refine goA 60 ?_
     refine oPG q5 ?_
     refine goA 60 ?_
     refine oPG q5 ?_
     refine goA 60 ?_
     refine oPG q5 ?_
     refine goA 60 ?_
     refine fn_ret rfl rfl (.val ?_)
     rfl
    ·
     simp [ee] at c1
 · rw [if_pos hc] at q3
   generalize fewB l = fb at *
   generalize chkAll l = ck at *
   generalize ba [] = t0 at *
   generalize mapE Sch.enc l = es at *
   refine wordsN ?_; unhygienic intros
   have n0 : bNot false = true := by simp only [ee]; rfl
   have n1 : bNot true = false := by simp only [ee]; rfl
   have k1 : iNe ck 0 = true := by simp only [ee]; simpa using hc
   have k2 : iEq ck ck = true := by simp only [ee]; simp
   refine fn_body (fn := Tryd.f10) (n := 78) (ac := Trydc10) (rvs := [.t 2]) rfl (by decide) Trydp10 rfl rfl rfl ?_
   cases fb with
   | false =>
    refine goA 60 ?_
    refine oPA q1 ?_
    refine goB hX 0 (by conv => lhs; cbv; try simp only [n0, n1]; cbv; try simp only [n0, n1]; cbv; try simp only [n0, n1]; cbv; try simp only [n0, n1]; cbv) ?_
    refine goA 60 ?_
    refine oPA q2 ?_
    refine goA 60 ?_
    refine fn_ret rfl rfl (.val ?_)
    rfl
   | true =>
    refine goA 60 ?_
    refine oPA q1 ?_
    refine goB hX 0 (by conv => lhs; cbv; try simp only [n0, n1, k1, k2]; cbv; try simp only [n0, n1, k1, k2]; cbv; try simp only [n0, n1, k1, k2]; cbv; try simp only [n0, n1, k1, k2]; cbv) ?_
    refine goA 60 ?_
    refine oPA q3 ?_
    refine goB hX 0 (by conv => lhs; cbv; try simp only [n0, n1, k1, k2]; cbv; try simp only [n0, n1, k1, k2]; cbv; try simp only [n0, n1, k1, k2]; cbv; try simp only [n0, n1, k1, k2]; cbv) ?_
    refine goA 60 ?_
    refine oPA q4 ?_
    refine goB hX 0 (by conv => lhs; cbv; try simp only [n0, n1, k1, k2]; cbv; try simp only [n0, n1, k1, k2]; cbv; try simp only [n0, n1, k1, k2]; cbv; try simp only [n0, n1, k1, k2]; cbv) ?_
    refine oPG q2 ?_
    refine goA 60 ?_
    refine fn_ret rfl rfl (.val ?_)
    rfl
end Go.Am
end
