/- Contracts of the program's functions, for every argument that meets the conditions that each theorem names. -/
import Derived.Test.YteahddjeanhnlaaDoorAm6
import Derived.Test.YteahddjeanhnlaaDoorCt2
import Derived.Test.YteahddjeanhnlaaDoorAm5
section
set_option maxHeartbeats 16000000
set_option maxRecDepth 100000
namespace Go.Am
open Go.Proofs
theorem wkL_app {M : Nat} : ∀ {a a' b b' : List AV}, WkL M a a' → WkL M b b' → WkL M (a ++ b) (a' ++ b')
 | [], [], _, _, _, h => h
 | _ :: _, _ :: _, _, _, h, h2 => ⟨h.1, wkL_app h.2 h2⟩
 | [], _ :: _, _, _, h, _ => h.elim
 | _ :: _, [], _, _, h, _ => h.elim
theorem osrc_arrW {H : AHeap} {M : Nat} {σ : Nat → Sub} {τ : Nat → Option Nat} {b' b k : Nat} {es es' : List AV} (hH : H[b]? = some (.arr k es)) (ht : τ b' = some b) (hs : σ b = .to b') (hw : WkL M (AV.subL σ es) es') (h1 : ∀ e ∈ es, e.cells.length = k) (h2 : ∀ e ∈ es', e.cells.length = k) : OSrc H M σ τ b' (.arr k es') :=
 .some b _ _ hH ht hs (.arr k es es' hw fun i e e' a b => by rw [h1 e (List.mem_of_getElem? a), h2 e' (List.mem_of_getElem? b)])
theorem Sch.cells2 (l : List Sch) : ∀ e ∈ mapE Sch.enc l, e.cells.length = 2 := by
 intro e he
 rw [mapE_eq] at he
 obtain ⟨q, _, rfl⟩ := List.mem_map.1 he
 rw [Sch.enc_eq]; rfl
def OV (l : List Sch) (ov : AV) (oa : AObj) : Prop := (l = [] ∧ ov = .val (.slice none 0 0) ∧ oa = .dead) ∨ (l ≠ [] ∧ ov = .sl 5 2 0 l.length ∧ oa = .arr 2 (mapE Sch.enc l))
theorem OV.ov {l : List Sch} {ov : AV} {oa : AObj} (h : OV l ov oa) (σ : Nat → Sub) (hs : σ 5 = .to 5) : ov.sub σ = ov := by
 rcases h with ⟨_, rfl, _⟩ | ⟨_, rfl, _⟩
 · rfl
 · simp only [AV.sub, hs]
theorem OV.oa {l : List Sch} {ov : AV} {oa : AObj} (h : OV l ov oa) (σ : Nat → Sub) : oa.sub σ = oa := by
 rcases h with ⟨_, _, rfl⟩ | ⟨_, _, rfl⟩
 · rfl
 · simp only [AObj.sub, subL_closed _ (Sch.closedL l)]
def fV (fs : List Fld) : AV := match fs with
 | [] => .val (.slice none 0 0)
 | _ :: r => .sl 9 2 0 (r.length + 1)
noncomputable def fA (fs : List Fld) : AObj := match fs with
 | [] => .dead
 | f :: r => .arr 2 (mapE Fld.enc (f :: r))
def f3 (ov : AV) (l : List Sch) (b : Bool) : AObj := cond b (.cells [ov]) (.cells [.sl 8 2 0 l.length])
def f5 (oa : AObj) (b : Bool) : AObj := cond b oa .dead
noncomputable def f8 (l : List Sch) (b : Bool) : AObj := cond b .dead (match l.getLast? with
 | some q => .arr 2 (mapE Sch.enc l.dropLast ++ [.agg [str (ba q.nm), fV q.fs]])
 | none => .dead)
noncomputable def f9 (l : List Sch) (b : Bool) : AObj := cond b .dead (match l.getLast? with
 | some q => fA q.fs
 | none => .dead)
theorem f8_app (a : List Sch) (q : Sch) : f8 (a ++ [q]) false = .arr 2 (mapE Sch.enc a ++ [.agg [str (ba q.nm), fV q.fs]]) := by simp [f8]
theorem f9_app (a : List Sch) (q : Sch) : f9 (a ++ [q]) false = fA q.fs := by simp [f9]
theorem f3_f (ov : AV) (l : List Sch) : f3 ov l false = .cells [.sl 8 2 0 l.length] := rfl
theorem f3_t (ov : AV) (l : List Sch) : f3 ov l true = .cells [ov] := rfl
theorem f5_t (oa : AObj) : f5 oa true = oa := rfl
theorem f8_t (l : List Sch) : f8 l true = .dead := rfl
theorem f9_t (l : List Sch) : f9 l true = .dead := rfl
theorem fld_nil (l : List Sch) : fld l [] = l := rfl
theorem fV_nil : fV [] = .val (.slice none 0 0) := rfl
theorem fA_nil : fA [] = .dead := rfl
theorem fV_cons (f : Fld) (r : List Fld) : fV (f :: r) = .sl 9 2 0 (r.length + 1) := rfl
theorem fA_cons (f : Fld) (r : List Fld) : fA (f :: r) = .arr 2 (mapE Fld.enc (f :: r)) := rfl
theorem len_snocS (a : List Sch) (q : Sch) : (a ++ [q]).length = a.length + 1 := by simp
theorem mapE_nil {α : Type} (g : α → AV) : mapE g [] = [] := by rw [mapE_eq]; rfl
theorem f5_f (oa : AObj) : f5 oa false = .dead := rfl
theorem emp_snoc {α : Type} (d : List α) (q : α) : (d ++ [q]).isEmpty = false := by cases d <;> rfl
theorem fV_snoc (fs : List Fld) (f : Fld) : fV (fs ++ [f]) = .sl 9 2 0 (fs.length + 1) := by cases fs <;> simp [fV]
theorem fA_snoc (fs : List Fld) (f : Fld) : fA (fs ++ [f]) = .arr 2 (mapE Fld.enc fs ++ [f.enc]) := by
 rw [← mapE_snoc]
 cases fs <;> rfl
theorem on_eqH {E : Env} {n N : Nat} {Q : AExit → AFr → AHeap → Prop} {c : Cur} {k : List KI} {F : AFr} {H H2 : AHeap} (h : H = H2) (g : Holds E n N Q c k F H2) : Holds E n N Q c k F H := h ▸ g
theorem stepE_t (l : List Sch) (w : Bs) : stepE l true w = begE l w := rfl
theorem stepL_t (l : List Sch) (w : Bs) : stepL l true w = l ++ [⟨w, []⟩] := rfl
theorem stepE_f (a : List Sch) (q : Sch) (w : Bs) : stepE (a ++ [q]) false w = fldE q.fs w := by
 show fldE (lastF (a ++ [q])) w = _
 rw [lastF_app]
theorem stepL_f (a : List Sch) (q : Sch) (w : Bs) : stepL (a ++ [q]) false w = a ++ [⟨q.nm, q.fs ++ [newF w]⟩] := addF_app a q (newF w)
theorem tot_len : ∀ l : List Bs, l.length ≤ tot l
 | [] => by simp [tot]
 | x :: l => by
  have := tot_len l
  rw [tot, List.length_cons]; omega
theorem P_Parse (s : Bs) (hs : s.length < 4294967281) : PCall EE 17 [str (ba s)] (.tup [.isl 2 (mapE Sch.enc (prs s).1), int (prs s).2.1, int (prs s).2.2]) := by
 have ps := P_Split 10 s hs
 rw [← one_ba] at ps
 have hsz := ba_size s
 by_cases h16 : 65536 < s.length
 · have e : prs s = ([], 0, 13) := if_pos h16
   rw [e]
   dsimp only
   rw [mapE_eq, List.map_nil]
   generalize ba s = b at *
   clear ps
   refine wordsN ?_; unhygienic intros
   have k : iLt 65536 (sLen b) = true := by simp only [ee]; simp; omega
   refine fn_body (fn := Tryd.f17) (n := 63) (ac := Trydc17) (rvs := [.cell 2 1 false, .cell 3 1 false, .cell 4 1 false]) rfl (by decide) Trydp17 rfl rfl rfl ?_
   refine goB hX 0 (by conv => lhs; cbv; try simp only [k]; cbv; try simp only [k]; cbv; try simp only [k]; cbv; try simp only [k]; cbv) ?_
   refine goA 60 ?_
   refine fn_ret rfl rfl ?_
   exact ⟨[.gone, .gone, .gone], ⟨trivial, trivial, trivial, trivial⟩, .tup' ⟨.nilI _, .refl _, .refl _, trivial⟩⟩
 have e : prs s = rdT (tkl (splitC 10 s) 0) [] := by rw [prs, if_neg h16, (split_facts s.length s 0 (Nat.le_refl _)).1]
 obtain ⟨-, htot, h10⟩ := split_facts s.length s 0 (Nat.le_refl _)
 rw [e]
 clear e
 generalize splitC 10 s = LS at *
 have hLl := tot_len LS
 obtain ⟨R, hR⟩ : ∃ R, R = rdT (tkl LS 0) [] := ⟨_, rfl⟩
 rw [← hR]
 generalize ba s = b at *
 refine wordsN ?_; unhygienic intros
 have k : iLt 65536 (sLen b) = false := by simp only [ee]; simp; omega
 have kcl : (AV.isl 1 (mapE (fun p => str (ba p)) LS)).closed = true := by simp only [AV.closed]; exact closed_mapE (fun _ => rfl) LS
 generalize hes : mapE (fun p => str (ba p)) LS = es at *
 have hel : es.length = LS.length := by rw [← hes, mapE_len]
 have hnt : bNot true = false := by simp only [ee]; rfl
 refine fn_body (fn := Tryd.f17) (n := 63) (ac := Trydc17) (rvs := [.cell 2 1 false, .cell 3 1 false, .cell 4 1 false]) rfl (by decide) Trydp17 rfl rfl rfl ?_
 refine goB hX 0 (by conv => lhs; cbv; try simp only [k]; cbv; try simp only [k]; cbv; try simp only [k]; cbv; try simp only [k]; cbv) ?_
 refine goA 60 ?_
 refine oPA ps ?_
 refine goA 60 ?_
 refine on_loopP (ι := List Bs × List Bs × Int × Nat × List Sch × Int × AV × AObj) (fun p => ([(21, int p.2.2.1), (20, int (lenA es)), (19, .isl 1 es), (2, .ptr 0 0), (3, .ptr 1 0), (4, .ptr 2 0), (5, .ptr 3 0), (6, .ptr 4 0)], [.cells [.val (.slice none 0 0)], .cells [int 0], .cells [int 0], .cells [p.2.2.2.2.2.2.1], .cells [int p.2.2.2.2.2.1], p.2.2.2.2.2.2.2])) (fun p => LS = p.1 ++ p.2.1 ∧ p.2.2.1 = p.1.length ∧ R = rdT (tkl p.2.1 p.2.2.2.1) p.2.2.2.2.1 ∧ chkAll p.2.2.2.2.1 = 0 ∧ p.2.2.2.1 + tot p.2.1 = s.length + 1 ∧ p.2.2.2.2.2.1 = p.2.2.2.1 ∧ OV p.2.2.2.2.1 p.2.2.2.2.2.2.1 p.2.2.2.2.2.2.2) (fun p => p.2.1.length) ([], LS, 0, 0, [], 0, .val (.slice none 0 0), .dead) ⟨rfl, rfl, hR, rfl, by simpa using htot, rfl, .inl ⟨rfl, rfl, rfl⟩⟩ ?_ ?_
 · exact (ent_sub [.to 0, .to 1, .to 2, .to 3, .to 4] [some 0, some 1, some 2, some 3, some 4, none] ⟨⟨by simp, rfl⟩, ⟨by simp, rfl⟩, ⟨by simp, rfl⟩, ⟨by simp, rfl⟩, ⟨by simp, rfl⟩, trivial⟩ ⟨osrc_cells (b := 0) rfl rfl rfl ⟨.refl _, trivial⟩, osrc_cells (b := 1) rfl rfl rfl ⟨.refl _, trivial⟩, osrc_cells (b := 2) rfl rfl rfl ⟨.refl _, trivial⟩, osrc_cells (b := 3) rfl rfl rfl ⟨.refl _, trivial⟩, osrc_cells (b := 4) rfl rfl rfl ⟨.refl _, trivial⟩, .dead, trivial⟩ ⟨.refl _, .refl _, .cl kcl, .refl _, .refl _, .refl _, .refl _, .refl _, trivial⟩)
 rintro ⟨dl, rl, i, a, l0, ai, ov, oa⟩ ⟨g1, gi, gR, gc, gt, ga, gO⟩
 dsimp only at g1 gi gR gc gt ga gO ⊢
 have hl16 := (chk_len gc).1
 cases rl with
 | nil =>
  have L1 := len_split g1
  try simp only [List.length] at L1
  have hc : iLt i (lenA es) = false := lt_f e_iLt e_lenA (by omega)
  have gR2 : R = (l0, 0, 0) := gR
  rw [gR2]
  dsimp only
  rcases gO with ⟨rfl, rfl, rfl⟩ | ⟨hne, rfl, rfl⟩
  · rw [mapE_eq, List.map_nil]
    refine goB hX 0 (by conv => lhs; cbv; try simp only [hc]; cbv; try simp only [hc]; cbv; try simp only [hc]; cbv; try simp only [hc]; cbv) ?_
    refine goA 60 ?_
    refine loopP_exit ?_
    refine goA 60 ?_
    refine fn_ret rfl rfl ?_
    exact ⟨[.gone, .gone, .gone, .gone, .gone, .gone], ⟨trivial, trivial, trivial, trivial, trivial, trivial, trivial⟩, .tup' ⟨.nilI _, .refl _, .refl _, trivial⟩⟩
  · have kcS := Sch.closedL l0
    have kcI := Sch.closedI l0
    generalize hel2 : mapE Sch.enc l0 = el at *
    have hll : el.length = l0.length := by rw [← hel2, mapE_len]
    generalize l0.length = n0 at *
    refine goB hX 0 (by conv => lhs; cbv; try simp only [hc]; cbv; try simp only [hc]; cbv; try simp only [hc]; cbv; try simp only [hc]; cbv) ?_
    refine goA 60 ?_
    refine loopP_exit ?_
    refine goA 60 ?_
    refine fn_ret rfl rfl ?_
    exact ⟨[.gone, .gone, .gone, .gone, .gone, .isl 2 (el)], ⟨trivial, trivial, trivial, trivial, trivial, ⟨_, rfl, (subL_closed _ kcS).symm⟩, trivial⟩, .tup' ⟨.of (sub_whole rfl (by omega)), .refl _, .refl _, trivial⟩⟩
 | cons x rl =>
  have L1 := len_split g1
  try simp only [List.length] at L1
  have hc : iLt i (lenA es) = true := lt_t e_iLt e_lenA (by omega)
  have hat := el_at e_atA hes g1 gi
  have hi2 : iAdd .i64 i 1 = ((dl ++ [x]).length : Int) := by rw [List.length_append]; exact inc_w e_iAdd gi (by omega)
  have hx10 : (10 : UInt8) ∉ x := h10 x (by rw [g1]; simp)
  have pq := P_split x
  rw [tot] at gt
  rw [tkl, toks_sh x a true] at gR
  have hxL : List.length x < 4294967281 := by omega
  have hgt2 : a + x.length + 1 + tot rl = s.length + 1 := by rw [← gt]; simp only [Nat.add_assoc]
  have hxl : sLen (ba x) = (x.length : Int) := by simp only [ee]; rw [ba_size]
  have hxb : (AV.fn 56 [.iptr [str (ba x)]]).closed = true := rfl
  have hnat : iAdd .i64 ai (iAdd .i64 (sLen (ba x)) 1) = ((a + x.length + 1 : Nat) : Int) := by
   rw [inc_w e_iAdd hxl (by omega), ga, add_w e_iAdd (by omega) (by omega)]; omega
  have hsx : ∃ xb, xb = ba x := ⟨_, rfl⟩
  obtain ⟨xb, hxe⟩ := hsx
  rw [← hxe] at hat pq hxl hxb hnat
  refine goB hX 0 (by conv => lhs; cbv; try simp only [hc, hat]; cbv; try simp only [hc, hat]; cbv; try simp only [hc, hat]; cbv; try simp only [hc, hat]; cbv) ?_
  refine goB hX 1 (by conv => lhs; cbv; try simp only [hc, hat]; cbv; try simp only [hc, hat]; cbv; try simp only [hc, hat]; cbv; try simp only [hc, hat]; cbv) ?_
  refine oPA pq ?_
  refine goA 60 ?_
  refine on_ent (F' := [(26, .fn 56 [.iptr [str xb]]), (21, int i), (20, int (lenA es)), (19, .isl 1 es), (2, .ptr 0 0), (3, .ptr 1 0), (4, .ptr 2 0), (5, .ptr 3 0), (6, .ptr 4 0), (8, str xb), (9, .ptr 6 0)]) (H' := [.cells [.val (.slice none 0 0)], .cells [int 0], .cells [int 0], .cells [ov], .cells [int ai], oa, .cells [bool true]]) (ent_fw ⟨.refl _, .refl _, .refl _, .refl _, .refl _, .refl _, .refl _, .refl _, .refl _, .refl _, .refl _, trivial⟩) ?_
  refine on_split (fun _ => .cells [.val (.slice none 0 0)]) (fun _ => .cells [int 0]) (fun _ => .cells [int 0]) (fun d => f3 ov (fld l0 d) d.isEmpty) (fun _ => .cells [int ai]) (fun d => f5 oa d.isEmpty) (fun d => .cells [bool d.isEmpty]) (fun d => f8 (fld l0 d) d.isEmpty) (fun d => f9 (fld l0 d) d.isEmpty) (Gp a l0) x hxL hx10 (by rw [← hxe]; rfl) rfl (Gp_nil gc) ?_ (fun hG => ?_) (fun d q r hd hG => ?_)
  · exact (hent_sub [.to 0, .to 1, .to 2, .to 3, .to 4, .to 5, .to 6, .to 7] [some 0, some 1, some 2, some 3, some 4, some 5, some 6, some 7, none, none] rfl ⟨rfl, rfl, rfl, rfl, rfl, rfl, rfl, rfl, trivial⟩ (by simp) (by simp) ⟨⟨by simp, rfl⟩, ⟨by simp, rfl⟩, ⟨by simp, rfl⟩, ⟨by simp, rfl⟩, ⟨by simp, rfl⟩, ⟨by simp, rfl⟩, ⟨by simp, rfl⟩, ⟨by simp, rfl⟩, trivial⟩ ⟨osrc_cells (b := 0) rfl rfl rfl ⟨.refl _, trivial⟩, osrc_cells (b := 1) rfl rfl rfl ⟨.refl _, trivial⟩, osrc_cells (b := 2) rfl rfl rfl ⟨.refl _, trivial⟩, osrc_cells (b := 3) rfl rfl rfl ⟨.of (gO.ov _ rfl), trivial⟩, osrc_cells (b := 4) rfl rfl rfl ⟨.refl _, trivial⟩, .same 5 _ _ rfl rfl rfl (gO.oa _), osrc_cells (b := 6) rfl rfl rfl ⟨.refl _, trivial⟩, .some 7 _ _ rfl rfl rfl (.loop _ _ _ _ _ _ _ _ ⟨.cl hxb, .refl _, .refl _, .cl kcl, .refl _, .refl _, .refl _, .refl _, .refl _, .refl _, .refl _, trivial⟩), .dead, .dead, trivial⟩)
  · generalize toks x 0 true = T at *
    clear hat pq hx10 ps hsz h16 htot h10 hLl hxL
    cases T with
    | nil =>
     have gR2 : R = rdT (tkl rl (a + x.length + 1)) l0 := gR
     refine goA 0 ?_
     refine goA 60 ?_
     exact loopP_next (dl ++ [x], rl, iAdd .i64 i 1, a + x.length + 1, l0, iAdd .i64 ai (iAdd .i64 (sLen xb) 1), ov, oa) ⟨by simp [g1], hi2, gR2, gc, hgt2, hnat, gO⟩ (by simp) (ent_sub [.to 0, .to 1, .to 2, .to 3, .to 4, .to 5] [some 0, some 1, some 2, some 3, some 4, some 5] ⟨⟨by simp, rfl⟩, ⟨by simp, rfl⟩, ⟨by simp, rfl⟩, ⟨by simp, rfl⟩, ⟨by simp, rfl⟩, ⟨by simp, rfl⟩, trivial⟩ ⟨osrc_cells (b := 0) rfl rfl rfl ⟨.refl _, trivial⟩, osrc_cells (b := 1) rfl rfl rfl ⟨.refl _, trivial⟩, osrc_cells (b := 2) rfl rfl rfl ⟨.refl _, trivial⟩, osrc_cells (b := 3) rfl rfl rfl ⟨.of (gO.ov _ rfl), trivial⟩, osrc_cells (b := 4) rfl rfl rfl ⟨.refl _, trivial⟩, .same 5 _ _ rfl rfl rfl (gO.oa _), trivial⟩ ⟨.refl _, .refl _, .cl kcl, .refl _, .refl _, .refl _, .refl _, .refl _, trivial⟩)
    | cons t0 T =>
     obtain ⟨hG1, hG2, hG3⟩ := hG
     have hne := hG3 (by simp)
     rw [hG1] at gR
     obtain ⟨b', q', hfl⟩ : ∃ b' q', fld l0 (t0 :: T) = b' ++ [q'] := ⟨_, _, (List.dropLast_concat_getLast hne).symm⟩
     rw [hfl] at gR hG2
     simp only [hfl, List.isEmpty_cons, f3_f, f5_f, f8_app, f9_app]
     clear hfl hG1 hG3 hne
     obtain ⟨n8, hn8⟩ : ∃ n8, n8 = (b' ++ [q']).length := ⟨_, rfl⟩
     rw [← hn8]
     have kes := Sch.closedL b'
     have hc2 := Sch.cells2 (b' ++ [q'])
     have hc3 : ∀ v : AV, ∀ e ∈ mapE Sch.enc b' ++ [.agg [str (ba q'.nm), v]], e.cells.length = 2 := fun v e he => by
      rcases List.mem_append.1 he with he | he
      · exact Sch.cells2 b' e he
      · simp at he; subst he; rfl
     have hse : mapE Sch.enc (b' ++ [q']) = mapE Sch.enc b' ++ [.agg [str (ba q'.nm), .isl 2 (mapE Fld.enc q'.fs)]] := by rw [mapE_snoc, Sch.enc_eq q']
     rcases hfs : q'.fs with _ | ⟨f, fr⟩
     · rw [fV_nil, fA_nil]
       rw [hfs, mapE_nil] at hse
       obtain ⟨L8, hL8⟩ : ∃ L8, L8 = mapE Sch.enc b' ++ [.agg [str (ba q'.nm), .val (.slice none 0 0)]] := ⟨_, rfl⟩
       have hW : ∀ (M : Nat) (σ : Nat → Sub), WkL M (AV.subL σ L8) (mapE Sch.enc (b' ++ [q'])) := fun M σ => by
        rw [hL8, subL_append, subL_closed _ kes, hse]
        exact wkL_app (WkL.refl _ _) ⟨.agg' ⟨.refl _, .nilI 2, trivial⟩, trivial⟩
       have hc4 := hc3 (.val (.slice none 0 0))
       rw [← hL8] at hc4 ⊢
       refine goA 0 ?_
       refine goA 60 ?_
       exact loopP_next (dl ++ [x], rl, iAdd .i64 i 1, a + x.length + 1, b' ++ [q'], iAdd .i64 ai (iAdd .i64 (sLen xb) 1), .sl 5 2 0 n8, .arr 2 (mapE Sch.enc (b' ++ [q']))) ⟨by simp [g1], hi2, gR, hG2, hgt2, hnat, .inr ⟨by simp, by rw [hn8], rfl⟩⟩ (by simp) (ent_sub [.to 0, .to 1, .to 2, .to 3, .to 4, .gone, .gone, .gone, .to 5] [some 0, some 1, some 2, some 3, some 4, some 8] ⟨⟨by simp, rfl⟩, ⟨by simp, rfl⟩, ⟨by simp, rfl⟩, ⟨by simp, rfl⟩, ⟨by simp, rfl⟩, trivial, trivial, trivial, ⟨by simp, rfl⟩, trivial⟩ ⟨osrc_cells (b := 0) rfl rfl rfl ⟨.refl _, trivial⟩, osrc_cells (b := 1) rfl rfl rfl ⟨.refl _, trivial⟩, osrc_cells (b := 2) rfl rfl rfl ⟨.refl _, trivial⟩, osrc_cells (b := 3) rfl rfl rfl ⟨.refl _, trivial⟩, osrc_cells (b := 4) rfl rfl rfl ⟨.refl _, trivial⟩, osrc_arrW (b := 8) rfl rfl rfl (hW _ _) hc4 hc2, trivial⟩ ⟨.refl _, .refl _, .cl kcl, .refl _, .refl _, .refl _, .refl _, .refl _, trivial⟩)
     · rw [fV_cons, fA_cons]
       rw [hfs] at hse
       have kfe := Fld.closedL (f :: fr)
       have hfn : (mapE Fld.enc (f :: fr)).length = fr.length + 1 := by rw [mapE_len]; rfl
       generalize mapE Fld.enc (f :: fr) = fe at *
       generalize fr.length + 1 = m at *
       obtain ⟨L8, hL8⟩ : ∃ L8, L8 = mapE Sch.enc b' ++ [.agg [str (ba q'.nm), .sl 9 2 0 m]] := ⟨_, rfl⟩
       have hW : ∀ (M : Nat) (σ : Nat → Sub), σ 9 = .isl 2 fe → WkL M (AV.subL σ L8) (mapE Sch.enc (b' ++ [q'])) := fun M σ hs9 => by
        rw [hL8, subL_append, subL_closed _ kes, hse]
        refine wkL_app (WkL.refl _ _) ⟨.agg' ⟨.refl _, .of ?_, trivial⟩, trivial⟩
        exact sub_whole hs9 (by omega)
       have hc4 := hc3 (.sl 9 2 0 m)
       rw [← hL8] at hc4 ⊢
       refine goA 0 ?_
       refine goA 60 ?_
       exact loopP_next (dl ++ [x], rl, iAdd .i64 i 1, a + x.length + 1, b' ++ [q'], iAdd .i64 ai (iAdd .i64 (sLen xb) 1), .sl 5 2 0 n8, .arr 2 (mapE Sch.enc (b' ++ [q']))) ⟨by simp [g1], hi2, gR, hG2, hgt2, hnat, .inr ⟨by simp, by rw [hn8], rfl⟩⟩ (by simp) (ent_sub [.to 0, .to 1, .to 2, .to 3, .to 4, .gone, .gone, .gone, .to 5, .isl 2 fe] [some 0, some 1, some 2, some 3, some 4, some 8] ⟨⟨by simp, rfl⟩, ⟨by simp, rfl⟩, ⟨by simp, rfl⟩, ⟨by simp, rfl⟩, ⟨by simp, rfl⟩, trivial, trivial, trivial, ⟨by simp, rfl⟩, ⟨_, rfl, (subL_closed _ kfe).symm⟩, trivial⟩ ⟨osrc_cells (b := 0) rfl rfl rfl ⟨.refl _, trivial⟩, osrc_cells (b := 1) rfl rfl rfl ⟨.refl _, trivial⟩, osrc_cells (b := 2) rfl rfl rfl ⟨.refl _, trivial⟩, osrc_cells (b := 3) rfl rfl rfl ⟨.refl _, trivial⟩, osrc_cells (b := 4) rfl rfl rfl ⟨.refl _, trivial⟩, osrc_arrW (b := 8) rfl rfl rfl (hW _ _ rfl) hc4 hc2, trivial⟩ ⟨.refl _, .refl _, .cl kcl, .refl _, .refl _, .refl _, .refl _, .refl _, trivial⟩)
  · have hqf := fst_of hx10 hd
    have hqa := toks_at x.length x 0 true (Nat.le_refl _) q (by rw [hd]; simp)
    rw [hd] at gR
    have hgs := Gp_step hG hqf
    have hge := fun he => gR.trans (Gp_err hG he)
    obtain ⟨hG1, hG2, hG3⟩ := hG
    obtain ⟨qt, qf, qw⟩ := q
    dsimp only at hqf hqa hgs hge
    subst hqf
    obtain ⟨hq1, hq2, hq3, hq4⟩ := hqa
    have hql : qw.length < 4294967281 := by rw [Nat.zero_add] at hq2; exact Nat.lt_of_le_of_lt (Nat.le_trans (Nat.le_add_left _ _) hq2) hxL
    have hqt : qt ≤ x.length := by rw [Nat.zero_add] at hq2; exact Nat.le_trans (Nat.le_add_right _ _) hq2
    clear hq1 hq2 hq3 hq4 hd gR
    simp only [fld_snoc, emp_snoc]
    obtain ⟨qi, hqi⟩ : ∃ qi : Int, qi = (qt : Int) := ⟨_, rfl⟩
    have hadd : iAdd .i64 ai qi = ((a + qt : Nat) : Int) := by rw [add_w e_iAdd (by rw [ga, hqi]; omega) (by rw [ga, hqi]; omega), ga, hqi]; omega
    rw [← hqi]
    clear hat pq hx10 ps hsz h16 htot h10 hLl hxL hnat hi2
    cases d with
    | nil =>
     simp only [fld_nil, List.isEmpty_nil, stepL_t, f3_t, f5_t, f8_t, f9_t, f8_app, f9_app, f3_f, f5_f, fV_nil, fA_nil, len_snocS]
     simp only [fld_nil, List.isEmpty_nil, stepE_t] at hgs hge
     have hws : qw.length < 1152921504606846976 := by omega
     by_cases he : begE l0 qw = 0
     · have hg2 := hgs he
       clear hgs hge hG1 hG2 hG3
       rcases gO with ⟨rfl, rfl, rfl⟩ | ⟨hne, rfl, rfl⟩
       · have hB := C_begin0 qw hws he
         rw [mapE_nil]
         generalize ba qw = wb at *
         refine goA 60 ?_
         refine rnd_assign rfl ?_
         refine goA 60 ?_
         refine on_fcall [] rfl rfl enters_schema_begin hB (by decide) (by simp) rfl rfl ?_
         rintro v0 H1 ⟨rfl, rfl⟩ -
         have kE : iNe 0 0 = false := by simp only [ee]; rfl
         refine goB hX 0 (by conv => lhs; cbv; try simp only [kE]; cbv; try simp only [kE]; cbv; try simp only [kE]; cbv; try simp only [kE]; cbv) ?_
         refine goA 60 ?_
         exact rnd_next rfl hg2 (hent_sub [.to 0, .to 1, .to 2, .to 3, .to 4, .gone, .to 6, .to 7, .gone, .gone, .to 8] [some 0, some 1, some 2, some 3, some 4, some 5, some 6, some 7, some 10, none] rfl ⟨rfl, rfl, rfl, rfl, rfl, rfl, rfl, rfl, trivial⟩ (by simp) (by simp) ⟨⟨by simp, rfl⟩, ⟨by simp, rfl⟩, ⟨by simp, rfl⟩, ⟨by simp, rfl⟩, ⟨by simp, rfl⟩, trivial, ⟨by simp, rfl⟩, ⟨by simp, rfl⟩, trivial, trivial, ⟨by simp, rfl⟩, trivial⟩ ⟨osrc_cells (b := 0) rfl rfl rfl ⟨.refl _, trivial⟩, osrc_cells (b := 1) rfl rfl rfl ⟨.refl _, trivial⟩, osrc_cells (b := 2) rfl rfl rfl ⟨.refl _, trivial⟩, osrc_cells (b := 3) rfl rfl rfl ⟨.refl _, trivial⟩, osrc_cells (b := 4) rfl rfl rfl ⟨.refl _, trivial⟩, .dead, osrc_cells (b := 6) rfl rfl rfl ⟨.refl _, trivial⟩, .some 7 _ _ rfl rfl rfl (.loop _ _ _ _ _ _ _ _ ⟨.cl hxb, .refl _, .refl _, .cl kcl, .refl _, .refl _, .refl _, .refl _, .refl _, .refl _, .refl _, trivial⟩), osrc_arr (b := 10) rfl rfl rfl rfl rfl, .dead, trivial⟩)
       · have hB := C_begin1 l0 qw (by omega) hws he _ rfl hl16
         have kes := Sch.closedL l0
         have kez : AV.closedL (mapE Sch.enc l0 ++ [.agg [str (ba qw), .val (.slice none 0 0)]]) = true := closedL_append kes rfl
         have hm := subL_closed (subIn [5] 10) kez
         obtain ⟨LZ, hLZ⟩ : ∃ LZ, LZ = mapE Sch.enc l0 ++ [.agg [str (ba qw), .val (.slice none 0 0)]] := ⟨_, rfl⟩
         rw [← hLZ] at hm kez hB ⊢
         generalize mapE Sch.enc l0 = el at *
         generalize ba qw = wb at *
         obtain ⟨n0, hn0⟩ : ∃ n0, n0 = l0.length := ⟨_, rfl⟩
         rw [← hn0] at hB ⊢
         refine goA 60 ?_
         refine rnd_assign rfl ?_
         refine goA 60 ?_
         refine on_fcall [5] rfl rfl enters_schema_begin hB (by decide) (by simp) (by show _ = [AObj.arr 2 (AV.subL _ el)]; rw [subL_closed _ kes]) rfl ?_
         rintro v0 H1 ⟨rfl, rfl⟩ -
         refine on_eqH (by change [_, _, _, _, _, _, _, _, _, _, AObj.arr 2 (AV.subL (subIn [5] 10) LZ)] = _; rw [hm]) ?_
         have kE : iNe 0 0 = false := by simp only [ee]; rfl
         refine goB hX 0 (by conv => lhs; cbv; try simp only [kE]; cbv; try simp only [kE]; cbv; try simp only [kE]; cbv; try simp only [kE]; cbv) ?_
         refine goA 60 ?_
         exact rnd_next rfl hg2 (hent_sub [.to 0, .to 1, .to 2, .to 3, .to 4, .gone, .to 6, .to 7, .gone, .gone, .to 8] [some 0, some 1, some 2, some 3, some 4, some 5, some 6, some 7, some 10, none] rfl ⟨rfl, rfl, rfl, rfl, rfl, rfl, rfl, rfl, trivial⟩ (by simp) (by simp) ⟨⟨by simp, rfl⟩, ⟨by simp, rfl⟩, ⟨by simp, rfl⟩, ⟨by simp, rfl⟩, ⟨by simp, rfl⟩, trivial, ⟨by simp, rfl⟩, ⟨by simp, rfl⟩, trivial, trivial, ⟨by simp, rfl⟩, trivial⟩ ⟨osrc_cells (b := 0) rfl rfl rfl ⟨.refl _, trivial⟩, osrc_cells (b := 1) rfl rfl rfl ⟨.refl _, trivial⟩, osrc_cells (b := 2) rfl rfl rfl ⟨.refl _, trivial⟩, osrc_cells (b := 3) rfl rfl rfl ⟨.refl _, trivial⟩, osrc_cells (b := 4) rfl rfl rfl ⟨.refl _, trivial⟩, .dead, osrc_cells (b := 6) rfl rfl rfl ⟨.refl _, trivial⟩, .some 7 _ _ rfl rfl rfl (.loop _ _ _ _ _ _ _ _ ⟨.cl hxb, .refl _, .refl _, .cl kcl, .refl _, .refl _, .refl _, .refl _, .refl _, .refl _, .refl _, trivial⟩), osrc_arr (b := 10) rfl rfl rfl rfl kez, .dead, trivial⟩)
     · have hR2 := hge he
       have hB := P_beginE l0 qw (by omega) hws he
       clear hgs hge hG1 hG2 hG3
       rw [hR2]
       simp only [mapE_nil]
       obtain ⟨E, hE⟩ : ∃ E, E = begE l0 qw := ⟨_, rfl⟩
       rw [← hE] at hB he ⊢
       have kE : iNe E 0 = true := by simp only [ee]; simpa using he
       clear hR2 hE
       rcases gO with ⟨rfl, rfl, rfl⟩ | ⟨hne, rfl, rfl⟩
       · rw [mapE_nil] at hB ⊢
         generalize ((a + qt : Nat) : Int) = PO at *
         generalize ba qw = wb at *
         refine goA 60 ?_
         refine rnd_assign rfl ?_
         refine goA 60 ?_
         refine on_lend rfl rfl hB rfl ⟨[.gone, .gone, .gone, .gone, .gone, .gone, .gone, .gone, .gone, .gone], ⟨trivial, trivial, trivial, trivial, trivial, trivial, trivial, trivial, trivial, trivial, trivial⟩, ⟨.nilI _, .refl _, trivial⟩⟩ ?_
         refine goB hX 0 (by conv => lhs; cbv; try simp only [hadd, kE]; cbv; try simp only [hadd, kE]; cbv; try simp only [hadd, kE]; cbv; try simp only [hadd, kE]; cbv) ?_
         refine goA 60 ?_
         refine tr_drawB rfl (by conv => lhs; cbv) rfl ?_
         refine tgA ?_
         refine tr_nil ⟨rfl, by simp [LooksL, lookAll], ?_⟩
         refine goA 60 ?_
         refine rnd_stop (by simp) rfl ?_
         refine goA 60 ?_
         refine loopP_ret ?_
         refine goA 60 ?_
         refine fn_ret rfl rfl ?_
         exact ⟨[.gone, .gone, .gone, .gone, .gone, .gone, .gone, .gone, .gone, .gone], ⟨trivial, trivial, trivial, trivial, trivial, trivial, trivial, trivial, trivial, trivial, trivial⟩, .tup' ⟨.nilI _, .of (congrArg int (by assumption)), .refl _, trivial⟩⟩
       · have kes := Sch.closedL l0
         have kei := Sch.closedI l0
         have kln := mapE_len Sch.enc l0
         obtain ⟨LZ, hLZ⟩ : ∃ LZ, LZ = mapE Sch.enc l0 ++ [.agg [str (ba qw), .val (.slice none 0 0)]] := ⟨_, rfl⟩
         rw [← hLZ]
         generalize mapE Sch.enc l0 = el at *
         generalize ((a + qt : Nat) : Int) = PO at *
         generalize ba qw = wb at *
         obtain ⟨n0, hn0⟩ : ∃ n0, n0 = l0.length := ⟨_, rfl⟩
         rw [← hn0] at kln ⊢
         refine goA 60 ?_
         refine rnd_assign rfl ?_
         refine goA 60 ?_
         refine on_lend rfl rfl hB rfl ⟨[.gone, .gone, .gone, .gone, .gone, .isl 2 (el), .gone, .gone, .gone, .gone], ⟨trivial, trivial, trivial, trivial, trivial, ⟨_, rfl, (subL_closed _ kes).symm⟩, trivial, trivial, trivial, trivial, trivial⟩, ⟨.of (sub_whole rfl (by omega)), .refl _, trivial⟩⟩ ?_
         refine goB hX 0 (by conv => lhs; cbv; try simp only [hadd, kE]; cbv; try simp only [hadd, kE]; cbv; try simp only [hadd, kE]; cbv; try simp only [hadd, kE]; cbv) ?_
         refine goA 60 ?_
         refine tr_drawB rfl (by conv => lhs; cbv) rfl ?_
         refine tgA ?_
         refine tr_nil ⟨rfl, by simp [LooksL, lookAll], ?_⟩
         refine goA 60 ?_
         refine rnd_stop (by simp) rfl ?_
         refine goA 60 ?_
         refine loopP_ret ?_
         refine goA 60 ?_
         refine fn_ret rfl rfl ?_
         exact ⟨[.gone, .gone, .gone, .gone, .gone, .gone, .gone, .gone, .gone, .gone], ⟨trivial, trivial, trivial, trivial, trivial, trivial, trivial, trivial, trivial, trivial, trivial⟩, .tup' ⟨.nilI _, .of (congrArg int (by assumption)), .refl _, trivial⟩⟩
    | cons t0 d =>
     have hne := hG3 (by simp)
     obtain ⟨b', q', hfl⟩ : ∃ b' q', fld l0 (t0 :: d) = b' ++ [q'] := ⟨_, _, (List.dropLast_concat_getLast hne).symm⟩
     rw [hfl] at hG2
     simp only [hfl, List.isEmpty_cons, stepE_f] at hgs hge
     simp only [hfl, List.isEmpty_cons, stepL_f, f3_f, f5_f, f8_app, f9_app, fV_snoc, fA_snoc, len_snocS]
     clear hfl hG1 hG3 hne
     have h8 : q'.fs.length ≤ 8 := (chk_len hG2).2 q' (by simp)
     have h16b := (chk_len hG2).1
     rw [len_snocS] at h16b
     have kes := Sch.closedL b'
     have kem := mapE_len Sch.enc b'
     generalize mapE Sch.enc b' = el at *
     obtain ⟨n, hn⟩ : ∃ n, n = el.length := ⟨_, rfl⟩
     obtain ⟨m1, hm1⟩ : ∃ m1, m1 = b'.length + 1 := ⟨_, rfl⟩
     obtain ⟨J, hJ⟩ : ∃ J : Int, J = (n : Int) := ⟨_, rfl⟩
     rw [← hm1]
     have kJ : iSub .i64 (iOf m1) 1 = J := by
      have e1 : iOf m1 = ((n + 1 : Nat) : Int) := by simp only [ee]; rw [hm1, hn, kem]
      rw [e1, e_iSub]
      show IntKind.i64.wrap _ = _
      rw [wrap64 (by omega) (by omega), hJ]; omega
     have kx : idxN 0 J = n := by simp only [ee]; rw [hJ]; simp
     have hJ0 : 0 ≤ J := by omega
     have hJ1 : J < iOf m1 := by simp only [ee]; omega
     obtain ⟨E, hE⟩ : ∃ E, E = fldE q'.fs qw := ⟨_, rfl⟩
     rw [← hE] at hgs hge
     have kF := Fld.closed (newF qw)
     have kEn : iNe E 0 = decide (E ≠ 0) := by simp only [ee]; rw [Bool.eq_iff_iff]; simp
     have kE0 : iNe 0 0 = false := by simp only [ee]; rfl
     rcases hfs : q'.fs with _ | ⟨f, fr⟩
     · rw [fV_nil, fA_nil]
       rw [hfs] at hE
       have hB := C_field0 (ba q'.nm) el kes n hn qw hql
       rw [← hE] at hB
       rw [mapE_nil]
       simp only [List.length_nil, List.nil_append, Nat.zero_add]
       obtain ⟨L8, hL8⟩ : ∃ L8, L8 = el ++ [.agg [str (ba q'.nm), .val (.slice none 0 0)]] := ⟨_, rfl⟩
       obtain ⟨L9, hL9⟩ : ∃ L9, L9 = el ++ [.agg [str (ba q'.nm), .sl 10 2 0 1]] := ⟨_, rfl⟩
       obtain ⟨LT, hLT⟩ : ∃ LT, LT = el ++ [.agg [str (ba q'.nm), .sl 9 2 0 1]] := ⟨_, rfl⟩
       have hm8 : AV.subL (subIn [8] 10) (el ++ [.agg [str (ba q'.nm), .val (.slice none 0 0)]]) = L8 := by rw [hL8, subL_append, subL_closed _ kes]; rfl
       have hm9 : AV.subL (subIn [8] 10) (el ++ [.agg [str (ba q'.nm), .sl 1 2 0 1]]) = L9 := by rw [hL9, subL_append, subL_closed _ kes]; rfl
       have hmT : ∀ σ : Nat → Sub, σ 10 = .to 9 → AV.subL σ L9 = LT := fun σ hσ => by rw [hL9, hLT, subL_append, subL_closed _ kes]; simp [AV.subL, AV.sub, hσ]
       have kfz : AV.closedL [Fld.enc (newF qw)] = true := by simp [AV.closedL, kF]
       have hmF := subL_closed (subIn [8] 10) kfz
       rw [← hL8, ← hLT]
       generalize Fld.enc (newF qw) = fe at *
       generalize ba qw = wb at *
       have hargs : [AObj.arr 2 (el ++ [.agg [str (ba q'.nm), .val (.slice none 0 0)]])] = [AObj.arr 2 (AV.subL (subOut [8]) L8)] := by rw [hL8, subL_append, subL_closed _ kes]; rfl
       refine goA 60 ?_
       refine rnd_assign rfl ?_
       refine goB hX 0 (by conv => lhs; cbv; try simp only [kJ, kx]; cbv; try simp only [kJ, kx]; cbv; try simp only [kJ, kx]; cbv; try simp only [kJ, kx]; cbv) ?_
       refine goB hX 1 (by conv => lhs; cbv; try simp only [kJ, kx]; cbv; try simp only [kJ, kx]; cbv; try simp only [kJ, kx]; cbv; try simp only [kJ, kx]; cbv) ?_
       refine on_fcall [8] rfl rfl enters_schema_field hB (by decide) (by simp) hargs rfl ?_
       rintro v0 H1 (⟨h0, rfl, rfl⟩ | ⟨h0, rfl, rfl⟩) -
       · have kE : iNe E 0 = true := by rw [kEn]; simpa using h0
         have hR2 := hge h0
         refine on_eqH (by change [_, _, _, _, _, _, _, _, AObj.arr 2 (AV.subL (subIn [8] 10) (el ++ [.agg [str (ba q'.nm), .val (.slice none 0 0)]])), _] = _; rw [hm8]) ?_
         rw [hR2]
         simp only [mapE_nil]
         generalize ((a + qt : Nat) : Int) = PO at *
         clear hge hgs hR2 hm8 hm9 hmT hmF hB hargs
         refine goB hX 0 (by conv => lhs; cbv; try simp only [hadd, kE]; cbv; try simp only [hadd, kE]; cbv; try simp only [hadd, kE]; cbv; try simp only [hadd, kE]; cbv) ?_
         refine goA 60 ?_
         refine tr_drawB rfl (by conv => lhs; cbv) rfl ?_
         refine tgA ?_
         refine tr_nil ⟨rfl, by simp [LooksL, lookAll], ?_⟩
         refine goA 60 ?_
         refine rnd_stop (by simp) rfl ?_
         refine goA 60 ?_
         refine loopP_ret ?_
         refine goA 60 ?_
         refine fn_ret rfl rfl ?_
         exact ⟨[.gone, .gone, .gone, .gone, .gone, .gone, .gone, .gone, .gone, .gone], ⟨trivial, trivial, trivial, trivial, trivial, trivial, trivial, trivial, trivial, trivial, trivial⟩, .tup' ⟨.nilI _, .of (congrArg int (by assumption)), .refl _, trivial⟩⟩
       · have hg2 := hgs h0
         refine on_eqH (by change [_, _, _, _, _, _, _, _, AObj.arr 2 (AV.subL (subIn [8] 10) (el ++ [.agg [str (ba q'.nm), .sl 1 2 0 1]])), _, AObj.arr 2 (AV.subL (subIn [8] 10) [fe])] = _; rw [hm9, hmF]) ?_
         clear hge hgs hm8 hm9 hmF hB hargs
         refine goB hX 0 (by conv => lhs; cbv; try simp only [kE0]; cbv; try simp only [kE0]; cbv; try simp only [kE0]; cbv; try simp only [kE0]; cbv) ?_
         refine goA 60 ?_
         exact rnd_next rfl hg2 (hent_sub [.to 0, .to 1, .to 2, .to 3, .to 4, .gone, .to 6, .to 7, .to 8, .gone, .to 9] [some 0, some 1, some 2, some 3, some 4, some 5, some 6, some 7, some 8, some 10] rfl ⟨rfl, rfl, rfl, rfl, rfl, rfl, rfl, rfl, trivial⟩ (by simp) (by simp) ⟨⟨by simp, rfl⟩, ⟨by simp, rfl⟩, ⟨by simp, rfl⟩, ⟨by simp, rfl⟩, ⟨by simp, rfl⟩, trivial, ⟨by simp, rfl⟩, ⟨by simp, rfl⟩, ⟨by simp, rfl⟩, trivial, ⟨by simp, rfl⟩, trivial⟩ ⟨osrc_cells (b := 0) rfl rfl rfl ⟨.refl _, trivial⟩, osrc_cells (b := 1) rfl rfl rfl ⟨.refl _, trivial⟩, osrc_cells (b := 2) rfl rfl rfl ⟨.refl _, trivial⟩, osrc_cells (b := 3) rfl rfl rfl ⟨.refl _, trivial⟩, osrc_cells (b := 4) rfl rfl rfl ⟨.refl _, trivial⟩, .dead, osrc_cells (b := 6) rfl rfl rfl ⟨.refl _, trivial⟩, .some 7 _ _ rfl rfl rfl (.loop _ _ _ _ _ _ _ _ ⟨.cl hxb, .refl _, .refl _, .cl kcl, .refl _, .refl _, .refl _, .refl _, .refl _, .refl _, .refl _, trivial⟩), osrc_arrS (b := 8) rfl rfl rfl (by exact hmT _ rfl), osrc_arr (b := 10) rfl rfl rfl rfl kfz, trivial⟩)
     · rw [fV_cons, fA_cons]
       rw [hfs] at hE h8
       have hB := C_field1 (ba q'.nm) el kes n hn (f :: fr) (by omega) (f :: fr).length rfl h8 qw hql
       rw [← hE] at hB
       have kfe := Fld.closedL (f :: fr)
       have hfl : (f :: fr).length = fr.length + 1 := rfl
       rw [hfl] at hB ⊢
       generalize fr.length + 1 = m at *
       generalize mapE Fld.enc (f :: fr) = fe at *
       obtain ⟨L8, hL8⟩ : ∃ L8, L8 = el ++ [.agg [str (ba q'.nm), .sl 9 2 0 m]] := ⟨_, rfl⟩
       obtain ⟨L9, hL9⟩ : ∃ L9, L9 = el ++ [.agg [str (ba q'.nm), .sl 10 2 0 (m + 1)]] := ⟨_, rfl⟩
       obtain ⟨LT, hLT⟩ : ∃ LT, LT = el ++ [.agg [str (ba q'.nm), .sl 9 2 0 (m + 1)]] := ⟨_, rfl⟩
       have hm8 : AV.subL (subIn [8, 9] 10) (el ++ [.agg [str (ba q'.nm), .sl 1 2 0 m]]) = L8 := by rw [hL8, subL_append, subL_closed _ kes]; rfl
       have hm9 : AV.subL (subIn [8, 9] 10) (el ++ [.agg [str (ba q'.nm), .sl 2 2 0 (m + 1)]]) = L9 := by rw [hL9, subL_append, subL_closed _ kes]; rfl
       have hmT : ∀ σ : Nat → Sub, σ 10 = .to 9 → AV.subL σ L9 = LT := fun σ hσ => by rw [hL9, hLT, subL_append, subL_closed _ kes]; simp [AV.subL, AV.sub, hσ]
       have kfz : AV.closedL (fe ++ [Fld.enc (newF qw)]) = true := closedL_append kfe (by simp [AV.closedL, kF])
       have hmF := subL_closed (subIn [8, 9] 10) kfz
       have hmE := subL_closed (subIn [8, 9] 10) kfe
       have hargs : [AObj.arr 2 (el ++ [.agg [str (ba q'.nm), .sl 1 2 0 m]]), AObj.arr 2 fe] = [AObj.arr 2 (AV.subL (subOut [8, 9]) L8), AObj.arr 2 (AV.subL (subOut [8, 9]) fe)] := by rw [hL8, subL_append, subL_closed _ kes, subL_closed _ kfe]; rfl
       obtain ⟨LF, hLF⟩ : ∃ LF, LF = fe ++ [Fld.enc (newF qw)] := ⟨_, rfl⟩
       rw [← hLF] at hmF hB kfz ⊢
       rw [← hL8, ← hLT]
       generalize ba qw = wb at *
       refine goA 60 ?_
       refine rnd_assign rfl ?_
       refine goB hX 0 (by conv => lhs; cbv; try simp only [kJ, kx]; cbv; try simp only [kJ, kx]; cbv; try simp only [kJ, kx]; cbv; try simp only [kJ, kx]; cbv) ?_
       refine goB hX 1 (by conv => lhs; cbv; try simp only [kJ, kx]; cbv; try simp only [kJ, kx]; cbv; try simp only [kJ, kx]; cbv; try simp only [kJ, kx]; cbv) ?_
       refine on_fcall [8, 9] rfl rfl enters_schema_field hB (by decide) (by simp) hargs rfl ?_
       rintro v0 H1 (⟨h0, rfl, rfl⟩ | ⟨h0, rfl, rfl⟩) -
       · have kE : iNe E 0 = true := by rw [kEn]; simpa using h0
         have hR2 := hge h0
         refine on_eqH (by change [_, _, _, _, _, _, _, _, AObj.arr 2 (AV.subL (subIn [8, 9] 10) (el ++ [.agg [str (ba q'.nm), .sl 1 2 0 m]])), AObj.arr 2 (AV.subL (subIn [8, 9] 10) fe)] = _; rw [hm8, hmE]) ?_
         rw [hR2]
         simp only [mapE_nil]
         generalize ((a + qt : Nat) : Int) = PO at *
         clear hge hgs hR2 hm8 hm9 hmT hmF hmE hB hargs
         refine goB hX 0 (by conv => lhs; cbv; try simp only [hadd, kE]; cbv; try simp only [hadd, kE]; cbv; try simp only [hadd, kE]; cbv; try simp only [hadd, kE]; cbv) ?_
         refine goA 60 ?_
         refine tr_drawB rfl (by conv => lhs; cbv) rfl ?_
         refine tgA ?_
         refine tr_nil ⟨rfl, by simp [LooksL, lookAll], ?_⟩
         refine goA 60 ?_
         refine rnd_stop (by simp) rfl ?_
         refine goA 60 ?_
         refine loopP_ret ?_
         refine goA 60 ?_
         refine fn_ret rfl rfl ?_
         exact ⟨[.gone, .gone, .gone, .gone, .gone, .gone, .gone, .gone, .gone, .gone], ⟨trivial, trivial, trivial, trivial, trivial, trivial, trivial, trivial, trivial, trivial, trivial⟩, .tup' ⟨.nilI _, .of (congrArg int (by assumption)), .refl _, trivial⟩⟩
       · have hg2 := hgs h0
         refine on_eqH (by change [_, _, _, _, _, _, _, _, AObj.arr 2 (AV.subL (subIn [8, 9] 10) (el ++ [.agg [str (ba q'.nm), .sl 2 2 0 (m + 1)]])), AObj.dead, AObj.arr 2 (AV.subL (subIn [8, 9] 10) LF)] = _; rw [hm9, hmF]) ?_
         clear hge hgs hm8 hm9 hmF hmE hB hargs
         refine goB hX 0 (by conv => lhs; cbv; try simp only [kE0]; cbv; try simp only [kE0]; cbv; try simp only [kE0]; cbv; try simp only [kE0]; cbv) ?_
         refine goA 60 ?_
         exact rnd_next rfl hg2 (hent_sub [.to 0, .to 1, .to 2, .to 3, .to 4, .gone, .to 6, .to 7, .to 8, .gone, .to 9] [some 0, some 1, some 2, some 3, some 4, some 5, some 6, some 7, some 8, some 10] rfl ⟨rfl, rfl, rfl, rfl, rfl, rfl, rfl, rfl, trivial⟩ (by simp) (by simp) ⟨⟨by simp, rfl⟩, ⟨by simp, rfl⟩, ⟨by simp, rfl⟩, ⟨by simp, rfl⟩, ⟨by simp, rfl⟩, trivial, ⟨by simp, rfl⟩, ⟨by simp, rfl⟩, ⟨by simp, rfl⟩, trivial, ⟨by simp, rfl⟩, trivial⟩ ⟨osrc_cells (b := 0) rfl rfl rfl ⟨.refl _, trivial⟩, osrc_cells (b := 1) rfl rfl rfl ⟨.refl _, trivial⟩, osrc_cells (b := 2) rfl rfl rfl ⟨.refl _, trivial⟩, osrc_cells (b := 3) rfl rfl rfl ⟨.refl _, trivial⟩, osrc_cells (b := 4) rfl rfl rfl ⟨.refl _, trivial⟩, .dead, osrc_cells (b := 6) rfl rfl rfl ⟨.refl _, trivial⟩, .some 7 _ _ rfl rfl rfl (.loop _ _ _ _ _ _ _ _ ⟨.cl hxb, .refl _, .refl _, .cl kcl, .refl _, .refl _, .refl _, .refl _, .refl _, .refl _, .refl _, trivial⟩), osrc_arrS (b := 8) rfl rfl rfl (by exact hmT _ rfl), osrc_arr (b := 10) rfl rfl rfl rfl kfz, trivial⟩)
end Go.Am
end
section
set_option maxHeartbeats 16000000
set_option maxRecDepth 20000
namespace Go.Am
open Go.Proofs Go.Shelf
theorem C_String0 : ACall EE 48 [.ptr 0 0] [.cells [.bsh 87 0 false, .val (.slice none 0 0)]] fun v H' => v = str ⟨#[]⟩ ∧ H' = [.cells [.bsh 87 0 false, .val (.slice none 0 0)]] :=
 bstring0_acall (E := EE) Tryd.lays169 Tryd.Builder_Extra_169
def BO (s : Bs) (o0 o1 : AObj) : Prop := (s = [] ∧ o0 = .cells [.bsh 87 0 false, .val (.slice none 0 0)] ∧ o1 = .dead) ∨ (s ≠ [] ∧ o0 = .cells [.bsh 87 0 true, .bsl 5 1 (byteA (ba s)).length] ∧ o1 = .arr 1 (byteA (ba s)))
theorem BO.sub {s : Bs} {o0 o1 : AObj} (h : BO s o0 o1) (σ : Nat → Sub) (h0 : σ 0 = .to 0) (h1 : σ 1 = .to 1) : o0.sub σ = o0 ∧ o1.sub σ = o1 := by
 rcases h with ⟨_, rfl, rfl⟩ | ⟨_, rfl, rfl⟩
 · exact ⟨by simp [AObj.sub, AV.subL, AV.sub, h0], rfl⟩
 · exact ⟨by simp [AObj.sub, AV.subL, AV.sub, h0, h1], by simp only [AObj.sub, subL_closed _ (byteA_closed s)]⟩
theorem C_WriteU (s x : Bs) (hx : x ≠ []) (hl : x.length ≤ 1048576) (hd : s.length ≤ 1048576) (o0 o1 : AObj) (h : BO s o0 o1) :
 ACall EE 47 [.ptr 0 0, str (ba x)] [o0, o1] fun v H' => v = .tup [int x.length, .val .nilIface] ∧ H' = [.cells [.bsh 87 0 true, .bsl 5 2 (byteA (ba (s ++ x))).length], .dead, .arr 1 (byteA (ba (s ++ x)))] := by
 rcases h with ⟨rfl, rfl, rfl⟩ | ⟨_, rfl, rfl⟩
 · have hm := subL_closed (subIn [0] 2) (byteA_closed x)
   have e : byteA (ba ([] ++ x)) = byteA (ba x) := by rw [List.nil_append]
   rw [e]
   exact ACall.at [0] (C_Write0 x hx hl) (by decide) (by simp) rfl rfl rfl (by show [_, _, AObj.arr 1 (AV.subL (subIn [0] 2) (byteA (ba x)))] = _; rw [hm]; rfl)
 · exact C_Write true s x hl hd
theorem P_Format (l : List Sch) (hl : l.length < 1152921504606846976) (hs : ∀ q ∈ l, q.Short) : PCall EE 20 [.isl 2 (mapE Sch.enc l)] (.tup [str (ba (if chkAll l ≠ 0 then [] else fmt l)), int (chkAll l)]) := by
 have kcl := Sch.closedI l
 have pc := P_CheckAll l hl hs
 have h0 : (⟨#[]⟩ : ByteArray) = ba [] := by rw [ba_eq]
 have hchk := fun h => (chkAll_zero l).1 h
 have hflen := fun h => fmt_len (l := l) h
 generalize chkAll l = ec at *
 refine wordsN ?_; unhygienic intros
 generalize hes : mapE Sch.enc l = es at *
 have hel : es.length = l.length := by rw [← hes, mapE_len]
 by_cases n0 : ec ≠ 0
 · have k0 : iNe ec 0 = true := by simp only [ee]; simpa using n0
   rw [if_pos n0, ← h0]
   refine fn_body (fn := Tryd.f20) (n := 45) (ac := Trydc20) (rvs := [.t 2, .t 3]) rfl (by decide) Trydp20 rfl rfl rfl ?_
   refine goA 60 ?_
   refine oPA pc ?_
   refine goB hX 0 (by conv => lhs; cbv; try simp only [k0]; cbv; try simp only [k0]; cbv; try simp only [k0]; cbv; try simp only [k0]; cbv) ?_
   refine goA 60 ?_
   refine fn_ret rfl rfl ?_
   exact ⟨[], trivial, .refl _⟩
 have k0 : iNe ec 0 = false := by simp only [ee]; simpa using n0
 rw [if_neg n0]
 have e0 : ec = 0 := by simpa using n0
 subst e0
 obtain ⟨-, hchk, -⟩ := hchk rfl
 have hflen := hflen rfl
 clear n0
 refine fn_body (fn := Tryd.f20) (n := 45) (ac := Trydc20) (rvs := [.t 2, .t 3]) rfl (by decide) Trydp20 rfl rfl rfl ?_
 refine goA 60 ?_
 refine oPA pc ?_
 refine goB hX 0 (by conv => lhs; cbv; try simp only [k0]; cbv; try simp only [k0]; cbv; try simp only [k0]; cbv; try simp only [k0]; cbv) ?_
 refine goA 60 ?_
 refine on_loopP (ι := List Sch × List Sch × Int × AObj × AObj) (fun p => ([(17, int p.2.2.1), (16, int (lenA es)), (15, .isl 2 es), (5, .ptr 0 0)], [p.2.2.2.1, p.2.2.2.2])) (fun p => l = p.1 ++ p.2.1 ∧ p.2.2.1 = p.1.length ∧ BO (fmt p.1) p.2.2.2.1 p.2.2.2.2) (fun p => p.2.1.length) ([], l, 0, .cells [.bsh 87 0 false, .val (.slice none 0 0)], .dead) ⟨rfl, rfl, .inl ⟨rfl, rfl, rfl⟩⟩ ?_ ?_
 · exact (ent_sub [.to 0] [some 0, none] ⟨⟨by simp, rfl⟩, trivial⟩ ⟨osrc_cells (b := 0) rfl rfl rfl ⟨.refl _, .refl _, trivial⟩, .dead, trivial⟩ ⟨.refl _, .refl _, .cl kcl, .refl _, trivial⟩)
 rintro ⟨d, r, i, o0, o1⟩ ⟨g1, gi, gB⟩
 dsimp only at g1 gi gB ⊢
 cases r with
 | nil =>
  have L1 := len_split g1
  try simp only [List.length] at L1
  have hc : iLt i (lenA es) = false := lt_f e_iLt e_lenA (by omega)
  rw [List.append_nil] at g1
  rw [← g1] at gB
  clear hs pc hchk
  rcases gB with ⟨e1, rfl, rfl⟩ | ⟨hne, rfl, rfl⟩
  · rw [e1, ← h0]
    refine goB hX 0 (by conv => lhs; cbv; try simp only [hc]; cbv; try simp only [hc]; cbv; try simp only [hc]; cbv; try simp only [hc]; cbv) ?_
    refine goB hX 1 (by conv => lhs; cbv; try simp only [hc]; cbv; try simp only [hc]; cbv; try simp only [hc]; cbv; try simp only [hc]; cbv) ?_
    refine goA 60 ?_
    refine loopP_exit ?_
    refine goA 60 ?_
    refine on_fcall [0] rfl rfl enters___strings_Builder__String C_String0 (by decide) (by simp) rfl rfl ?_
    rintro v0 H1 ⟨rfl, rfl⟩ -
    refine goA 60 ?_
    refine fn_ret rfl rfl ?_
    exact ⟨[.gone, .gone], ⟨trivial, trivial, trivial⟩, .refl _⟩
  · have hB := C_String true (fmt l) hne (by omega)
    have kbc := byteA_closed (fmt l)
    generalize ba (fmt l) = tb at *
    obtain ⟨n, hn⟩ : ∃ n, n = (byteA tb).length := ⟨_, rfl⟩
    rw [← hn] at hB ⊢
    generalize byteA tb = bs at *
    refine goB hX 0 (by conv => lhs; cbv; try simp only [hc]; cbv; try simp only [hc]; cbv; try simp only [hc]; cbv; try simp only [hc]; cbv) ?_
    refine goB hX 1 (by conv => lhs; cbv; try simp only [hc]; cbv; try simp only [hc]; cbv; try simp only [hc]; cbv; try simp only [hc]; cbv) ?_
    refine goA 60 ?_
    refine loopP_exit ?_
    refine goA 60 ?_
    refine on_fcall [0, 1] rfl rfl enters___strings_Builder__String hB (by decide) (by simp) (by show _ = [_, AObj.arr 1 (AV.subL _ bs)]; rw [subL_closed _ kbc]; rfl) rfl ?_
    rintro v0 H1 ⟨rfl, rfl⟩ -
    refine goA 60 ?_
    refine fn_ret rfl rfl ?_
    exact ⟨[.gone, .gone], ⟨trivial, trivial, trivial⟩, .refl _⟩
 | cons q r =>
  have L1 := len_split g1
  try simp only [List.length] at L1
  have hc : iLt i (lenA es) = true := lt_t e_iLt e_lenA (by omega)
  have hat := el_at e_atA hes g1 gi
  have hi2 : iAdd .i64 i 1 = ((d ++ [q]).length : Int) := by rw [List.length_append]; exact inc_w e_iAdd gi (by omega)
  rw [Sch.enc_eq] at hat
  have hq := hchk q (by rw [g1]; simp)
  obtain ⟨hq1, hq2, hq3, hq4⟩ := (Sch.chk_zero q).1 hq
  obtain ⟨hnn, hq24, -, -⟩ := nameB_ch hq1
  have hfd := fmt_pre g1
  have kcf := Fld.closedI q.fs
  have hB := C_WriteU (fmt d) q.nm hnn (by omega) (by omega) o0 o1 gB
  obtain ⟨s0, s1⟩ := gB.sub (subOut [0, 1]) rfl rfl
  have gB2 : BO (fmt d ++ q.nm) (.cells [.bsh 87 0 true, .bsl 5 1 (byteA (ba (fmt d ++ q.nm))).length]) (.arr 1 (byteA (ba (fmt d ++ q.nm)))) := .inr ⟨by simp [hnn], rfl, rfl⟩
  have kbc := byteA_closed (fmt d ++ q.nm)
  have hm := subL_closed (subIn [0, 1] 3) kbc
  generalize ba q.nm = qn at *
  generalize hfe : mapE Fld.enc q.fs = fe at *
  have hfl : fe.length = q.fs.length := by rw [← hfe, mapE_len]
  obtain ⟨n1, hn1⟩ : ∃ n1, n1 = (byteA (ba (fmt d ++ q.nm))).length := ⟨_, rfl⟩
  rw [← hn1] at hB gB2
  generalize byteA (ba (fmt d ++ q.nm)) = bs1 at *
  obtain ⟨z, hz⟩ : ∃ z : Int, z = (q.nm.length : Int) := ⟨_, rfl⟩
  rw [← hz] at hB
  clear hs pc hchk
  refine goB hX 0 (by conv => lhs; cbv; try simp only [hc, hat]; cbv; try simp only [hc, hat]; cbv; try simp only [hc, hat]; cbv; try simp only [hc, hat]; cbv) ?_
  refine goB hX 1 (by conv => lhs; cbv; try simp only [hc, hat]; cbv; try simp only [hc, hat]; cbv; try simp only [hc, hat]; cbv; try simp only [hc, hat]; cbv) ?_
  refine on_fcall [0, 1] rfl rfl enters___strings_Builder__WriteString hB (by decide) (by simp) (by show _ = [AObj.sub _ o0, AObj.sub _ o1]; rw [s0, s1]) rfl ?_
  rintro v0 H1 ⟨rfl, rfl⟩ -
  refine on_eqH (by change [_, _, _, AObj.arr 1 (AV.subL (subIn [0, 1] 3) bs1)] = _; rw [hm]) ?_
  refine goA 60 ?_
  refine on_loopP (ι := List Fld × List Fld × Int × AObj × AObj) (fun p => ([(27, int p.2.2.1), (26, int (lenA fe)), (25, .isl 2 fe), (17, int i), (16, int (lenA es)), (15, .isl 2 es), (5, .ptr 0 0)], [p.2.2.2.1, p.2.2.2.2])) (fun p => q.fs = p.1 ++ p.2.1 ∧ p.2.2.1 = p.1.length ∧ BO (fmt d ++ q.nm ++ p.1.flatMap fmtF) p.2.2.2.1 p.2.2.2.2 ∧ (p.1.flatMap fmtF).length ≤ p.1.length * 32) (fun p => p.2.1.length) ([], q.fs, 0, .cells [.bsh 87 0 true, .bsl 5 1 n1], .arr 1 bs1) ⟨rfl, rfl, by rw [List.flatMap_nil, List.append_nil]; exact gB2, by simp⟩ ?_ ?_
  · exact (ent_sub [.to 0, .gone, .gone, .to 1] [some 0, some 3] ⟨⟨by simp, rfl⟩, trivial, trivial, ⟨by simp, rfl⟩, trivial⟩ ⟨osrc_cells (b := 0) rfl rfl rfl ⟨.refl _, .refl _, trivial⟩, osrc_arr (b := 3) rfl rfl rfl rfl kbc, trivial⟩ ⟨.refl _, .refl _, .cl kcf, .refl _, .refl _, .cl kcl, .refl _, trivial⟩)
  rintro ⟨d2, r2, k, p0, p1⟩ ⟨f1, fi, fB, fl⟩
  dsimp only at f1 fi fB fl ⊢
  clear hB hm kbc gB gB2 s0 s1 hz hn1 hnn
  obtain ⟨s0, s1⟩ := fB.sub (subOut [0, 1]) rfl rfl
  cases r2 with
  | nil =>
   have L2 := len_split f1
   try simp only [List.length] at L2
   have hc2 : iLt k (lenA fe) = false := lt_f e_iLt e_lenA (by omega)
   rw [List.append_nil] at f1
   have hB := C_WriteU _ [10] (by simp) (by simp) (by simp only [List.length_append]; omega) p0 p1 fB
   rw [← one_ba] at hB
   have e10 : fmt d ++ q.nm ++ d2.flatMap fmtF ++ [10] = fmt (d ++ [q]) := by rw [fmt_snoc, f1]; simp
   rw [e10] at hB
   have gB2 : BO (fmt (d ++ [q])) (.cells [.bsh 87 0 true, .bsl 5 1 (byteA (ba (fmt (d ++ [q])))).length]) (.arr 1 (byteA (ba (fmt (d ++ [q]))))) := .inr ⟨by rw [← e10]; simp, rfl, rfl⟩
   have kbc := byteA_closed (fmt (d ++ [q]))
   have hm := subL_closed (subIn [0, 1] 2) kbc
   obtain ⟨n1, hn1⟩ : ∃ n1, n1 = (byteA (ba (fmt (d ++ [q])))).length := ⟨_, rfl⟩
   rw [← hn1] at hB gB2
   generalize byteA (ba (fmt (d ++ [q]))) = bs2 at *
   refine goB hX 0 (by conv => lhs; cbv; try simp only [hc2]; cbv; try simp only [hc2]; cbv; try simp only [hc2]; cbv; try simp only [hc2]; cbv) ?_
   refine goB hX 1 (by conv => lhs; cbv; try simp only [hc2]; cbv; try simp only [hc2]; cbv; try simp only [hc2]; cbv; try simp only [hc2]; cbv) ?_
   refine goA 60 ?_
   refine loopP_exit ?_
   refine goA 60 ?_
   refine on_fcall [0, 1] rfl rfl enters___strings_Builder__WriteString hB (by decide) (by simp) (by show _ = [AObj.sub _ p0, AObj.sub _ p1]; rw [s0, s1]) rfl ?_
   rintro v0 H1 ⟨rfl, rfl⟩ -
   refine on_eqH (by change [_, _, AObj.arr 1 (AV.subL (subIn [0, 1] 2) bs2)] = _; rw [hm]) ?_
   refine goA 60 ?_
   exact loopP_next (d ++ [q], r, iAdd .i64 i 1, .cells [.bsh 87 0 true, .bsl 5 1 n1], .arr 1 bs2) ⟨by simp [g1], hi2, gB2⟩ (by simp) (ent_sub [.to 0, .gone, .to 1] [some 0, some 2] ⟨⟨by simp, rfl⟩, trivial, ⟨by simp, rfl⟩, trivial⟩ ⟨osrc_cells (b := 0) rfl rfl rfl ⟨.refl _, .refl _, trivial⟩, osrc_arr (b := 2) rfl rfl rfl rfl kbc, trivial⟩ ⟨.refl _, .refl _, .cl kcl, .refl _, trivial⟩)
  | cons f r2 =>
   have L2 := len_split f1
   try simp only [List.length] at L2
   have hc2 : iLt k (lenA fe) = true := lt_t e_iLt e_lenA (by omega)
   have hat2 := el_at e_atA hfe f1 fi
   rw [Fld.enc_eq] at hat2
   have hk2 : iAdd .i64 k 1 = ((d2 ++ [f]).length : Int) := by rw [List.length_append]; exact inc_w e_iAdd fi (by omega)
   obtain ⟨hf1, hf2, hf3⟩ := hq3 f (by rw [f1]; simp)
   obtain ⟨hkw, _⟩ := kwd hf2 hf3
   simp only [fnameB, Bool.and_eq_true] at hf1
   have hn24 := (nameB_ch hf1.1).2.1
   have hkl := kw_len f.kd
   have hrow : rowA [str (Classical.choice kwBox_ne).i, str (Classical.choice kwBox_ne).b, str (Classical.choice kwBox_ne).s] f.kd 1 = [str (ba (kw f.kd))] := by simp only [e_rowA]; exact hkw
   have hcat : ∀ (u v : Bs), sCat (ba u) (ba v) = ba (u ++ v) := fun u v => by simp only [ee]; rw [ba_app]
   have hszs : ∀ u : Bs, (ba u).size = u.length := fun u => ba_size u
   have s1' : sCat ⟨#[32]⟩ (ba f.nm) = ba (32 :: f.nm) := by rw [one_ba, hcat]; rfl
   have s2' : sCat (ba (32 :: f.nm)) ⟨#[58]⟩ = ba (32 :: (f.nm ++ [58])) := by rw [one_ba, hcat]; rfl
   have s3' : sCat (ba (32 :: (f.nm ++ [58]))) (ba (kw f.kd)) = ba (fmtF f) := by rw [hcat, fmtF]; simp
   have z0 : (ByteArray.mk (Array.mk [32])).size = 1 := rfl
   have z1 : (ByteArray.mk (Array.mk [58])).size = 1 := rfl
   have z2 := hszs f.nm
   have z3 := hszs (32 :: f.nm)
   have z4 := hszs (32 :: (f.nm ++ [58]))
   have z5 := hszs (kw f.kd)
   have hfF : (fmtF f).length = f.nm.length + (kw f.kd).length + 2 := by rw [fmtF]; simp only [List.length_cons, List.length_append]; omega
   simp only [List.length_cons, List.length_append, List.length_nil] at z3 z4
   have hfl2 : ((d2 ++ [f]).flatMap fmtF).length ≤ (d2 ++ [f]).length * 32 := by
    rw [List.flatMap_append, List.length_append, List.length_append]
    simp only [List.flatMap_cons, List.flatMap_nil, List.append_nil, List.length_cons, List.length_nil]
    omega
   have hB := C_WriteU _ (fmtF f) (by simp [fmtF]) (by omega) (by simp only [List.length_append]; omega) p0 p1 fB
   have e10 : fmt d ++ q.nm ++ d2.flatMap fmtF ++ fmtF f = fmt d ++ q.nm ++ (d2 ++ [f]).flatMap fmtF := by simp
   rw [e10] at hB
   have gB2 : BO (fmt d ++ q.nm ++ (d2 ++ [f]).flatMap fmtF) (.cells [.bsh 87 0 true, .bsl 5 1 (byteA (ba (fmt d ++ q.nm ++ (d2 ++ [f]).flatMap fmtF))).length]) (.arr 1 (byteA (ba (fmt d ++ q.nm ++ (d2 ++ [f]).flatMap fmtF)))) := .inr ⟨by simp [fmtF], rfl, rfl⟩
   have kbc := byteA_closed (fmt d ++ q.nm ++ (d2 ++ [f]).flatMap fmtF)
   have hm := subL_closed (subIn [0, 1] 3) kbc
   obtain ⟨n1, hn1⟩ : ∃ n1, n1 = (byteA (ba (fmt d ++ q.nm ++ (d2 ++ [f]).flatMap fmtF))).length := ⟨_, rfl⟩
   rw [← hn1] at hB gB2
   generalize byteA (ba (fmt d ++ q.nm ++ (d2 ++ [f]).flatMap fmtF)) = bs2 at *
   obtain ⟨z, hz⟩ : ∃ z : Int, z = ((fmtF f).length : Int) := ⟨_, rfl⟩
   rw [← hz] at hB
   clear hkw
   generalize ba (fmtF f) = w4 at *
   generalize ba (32 :: (f.nm ++ [58])) = w3 at *
   generalize ba (32 :: f.nm) = w2 at *
   generalize ba f.nm = w1 at *
   generalize ba (kw f.kd) = w5 at *
   generalize f.kd = fk at *
   clear hcat hszs
   have hargs : [p0, p1] = [AObj.sub (subOut [0, 1]) p0, AObj.sub (subOut [0, 1]) p1] := by rw [s0, s1]
   refine goB hX 0 (by conv => lhs; cbv; try simp only [hc, hat, hc2, hat2, hrow, s1', s2', s3']; cbv; try simp only [hc, hat, hc2, hat2, hrow, s1', s2', s3']; cbv; try simp only [hc, hat, hc2, hat2, hrow, s1', s2', s3']; cbv; try simp only [hc, hat, hc2, hat2, hrow, s1', s2', s3']; cbv) ?_
   refine goB hX 1 (by conv => lhs; cbv; try simp only [hc, hat, hc2, hat2, hrow, s1', s2', s3']; cbv; try simp only [hc, hat, hc2, hat2, hrow, s1', s2', s3']; cbv; try simp only [hc, hat, hc2, hat2, hrow, s1', s2', s3']; cbv; try simp only [hc, hat, hc2, hat2, hrow, s1', s2', s3']; cbv) ?_
   refine tr_drawB rfl (by conv => lhs; cbv) rfl ?_
   refine tgB hX (by conv => lhs; cbv; try simp only [s1', s2', s3', hrow]; cbv; try simp only [s1', s2', s3', hrow]; cbv; try simp only [s1', s2', s3', hrow]; cbv; try simp only [s1', s2', s3', hrow]; cbv) ?_
   refine tr_ecall (args := [.ptr 0 0, str w4]) (v := .tup [int z, .val .nilIface]) (H1 := [.cells [.bsh 87 0 true, .bsl 5 3 n1], .dead, .cells [str w1, int fk], .arr 1 bs2]) rfl rfl rfl enters___strings_Builder__WriteString (ACall.at [0, 1] hB (by decide) (by simp) hargs rfl rfl (by show [_, _, _, AObj.arr 1 (AV.subL (subIn [0, 1] 3) bs2)] = _; rw [hm]; rfl)) ?_
   refine tr_nil ⟨rfl, ?_, ?_⟩
   · simp only [LooksL, lookAll, List.cons_append, List.nil_append]; and_intros <;> first | trivial | (intro hp; first | rfl | exact absurd (show false = true from hp) Bool.false_ne_true)
   refine goA 60 ?_
   exact loopP_next (d2 ++ [f], r2, iAdd .i64 k 1, .cells [.bsh 87 0 true, .bsl 5 1 n1], .arr 1 bs2) ⟨by simp [f1], hk2, gB2, hfl2⟩ (by simp) (ent_sub [.to 0, .gone, .gone, .to 1] [some 0, some 3] ⟨⟨by simp, rfl⟩, trivial, trivial, ⟨by simp, rfl⟩, trivial⟩ ⟨osrc_cells (b := 0) rfl rfl rfl ⟨.refl _, .refl _, trivial⟩, osrc_arr (b := 3) rfl rfl rfl rfl kbc, trivial⟩ ⟨.refl _, .refl _, .cl kcf, .refl _, .refl _, .cl kcl, .refl _, trivial⟩)
end Go.Am
end
section
set_option maxHeartbeats 16000000
set_option maxRecDepth 100000
namespace Go.Am
open Go.Proofs
def OI (l : List Int) (ov : AV) (oa : AObj) : Prop := (l = [] ∧ ov = .val (.slice none 0 0) ∧ oa = .dead) ∨ (l ≠ [] ∧ ov = .sl 1 1 0 l.length ∧ oa = .arr 1 (mapE int l))
theorem cmp_step {a r : List Fld} {f : Fld} {acc : List Int} : (cmpL a (f :: r)).map (acc ++ ·) = if Fld.pos a f.nm < 0 then none else if (a[(Fld.pos a f.nm).toNat]?).map Fld.kd ≠ some f.kd then none else (cmpL a r).map ((acc ++ [Fld.pos a f.nm]) ++ ·) := by
 rw [cmpL]
 split
 · rfl
 · split
   · rfl
   · rw [Option.map_map]
     congr 1
     funext x; simp
theorem cmp_hit {a d r2 : List Fld} {g : Fld} (h : a = d ++ g :: r2) : (a[((d.length : Int)).toNat]?).map Fld.kd = some g.kd := by
 rw [Int.toNat_natCast, h]; simp
theorem P_Compatible (a b : Sch) (ha : a.Short) (hb : b.Short) : PCall EE 22 [a.enc, b.enc] (.tup [.isl 1 (mapE int ((cmpQ a b).getD [])), bool (cmpQ a b).isSome, int (cmpE a b)]) := by
 have pca := P_Check a ha
 have pcb := P_Check b hb
 have kfa := Fld.closedI a.fs
 have kfb := Fld.closedI b.fs
 have pp := fun nm => P_position a.fs nm ha.2.1
 have hbl := hb.2.1
 have hal := ha.2.1
 have hb8 : b.chk = 0 → b.fs.length ≤ 8 := fun h => ((Sch.chk_zero b).1 h).2.1
 rw [cmpQ, cmpE]
 rw [Sch.enc_eq] at pca pcb ⊢
 rw [Sch.enc_eq b]
 generalize a.chk = ea at *
 generalize b.chk = eb at *
 generalize a.fs = la at *
 generalize b.fs = lb at *
 generalize ba a.nm = an at *
 generalize ba b.nm = bn at *
 clear ha hb
 refine wordsN ?_; unhygienic intros
 generalize hfa : mapE Fld.enc la = fa at *
 generalize hes : mapE Fld.enc lb = es at *
 have hfl : fa.length = la.length := by rw [← hfa, mapE_len]
 have hel : es.length = lb.length := by rw [← hes, mapE_len]
 have kcA : AV.closedL [str an, .isl 2 fa] = true := by simp [AV.closedL, closed_v, kfa]
 have kcB : AV.closedL [str bn, .isl 2 es] = true := by simp [AV.closedL, closed_v, kfb]
 by_cases n1 : ea ≠ 0
 · have k1 : iNe ea 0 = true := by simp only [ee]; simpa using n1
   rw [if_pos n1, if_pos n1]
   simp only [Option.getD_none, Option.isSome_none]
   rw [mapE_nil]
   clear pp pcb
   refine fn_body (fn := Tryd.f22) (n := 52) (ac := Trydc22) (rvs := [.t 4, .t 5, .t 6]) rfl (by decide) Trydp22 rfl rfl rfl ?_
   refine goA 60 ?_
   refine oPA pca ?_
   refine goB hX 0 (by conv => lhs; cbv; try simp only [k1]; cbv; try simp only [k1]; cbv; try simp only [k1]; cbv; try simp only [k1]; cbv) ?_
   refine goA 60 ?_
   refine fn_ret rfl rfl ?_
   exact ⟨[.gone, .gone], ⟨trivial, trivial, trivial⟩, .tup' ⟨.nilI _, .refl _, .refl _, trivial⟩⟩
 have k1 : iNe ea 0 = false := by simp only [ee]; simpa using n1
 rw [if_neg n1]
 by_cases n2 : eb ≠ 0
 · have k2 : iNe eb 0 = true := by simp only [ee]; simpa using n2
   rw [if_pos n2]
   simp only [Option.getD_none, Option.isSome_none]
   rw [mapE_nil]
   clear pp
   refine fn_body (fn := Tryd.f22) (n := 52) (ac := Trydc22) (rvs := [.t 4, .t 5, .t 6]) rfl (by decide) Trydp22 rfl rfl rfl ?_
   refine goA 60 ?_
   refine oPA pca ?_
   refine goB hX 0 (by conv => lhs; cbv; try simp only [k1, k2]; cbv; try simp only [k1, k2]; cbv; try simp only [k1, k2]; cbv; try simp only [k1, k2]; cbv) ?_
   refine goA 60 ?_
   refine oPA pcb ?_
   refine goB hX 0 (by conv => lhs; cbv; try simp only [k1, k2]; cbv; try simp only [k1, k2]; cbv; try simp only [k1, k2]; cbv; try simp only [k1, k2]; cbv) ?_
   refine goA 60 ?_
   refine fn_ret rfl rfl ?_
   exact ⟨[.gone, .gone], ⟨trivial, trivial, trivial⟩, .tup' ⟨.nilI _, .refl _, .refl _, trivial⟩⟩
 have k2 : iNe eb 0 = false := by simp only [ee]; simpa using n2
 rw [if_neg n2]
 have e2 : eb = 0 := by simpa using n2
 have hb8 := hb8 e2
 subst e2
 obtain ⟨R, hR⟩ : ∃ R, R = cmpL la lb := ⟨_, rfl⟩
 rw [← hR]
 refine fn_body (fn := Tryd.f22) (n := 52) (ac := Trydc22) (rvs := [.t 4, .t 5, .t 6]) rfl (by decide) Trydp22 rfl rfl rfl ?_
 refine goA 60 ?_
 refine oPA pca ?_
 refine goB hX 0 (by conv => lhs; cbv; try simp only [k1, k2]; cbv; try simp only [k1, k2]; cbv; try simp only [k1, k2]; cbv; try simp only [k1, k2]; cbv) ?_
 refine goA 60 ?_
 refine oPA pcb ?_
 refine goB hX 0 (by conv => lhs; cbv; try simp only [k1, k2]; cbv; try simp only [k1, k2]; cbv; try simp only [k1, k2]; cbv; try simp only [k1, k2]; cbv) ?_
 refine goA 60 ?_
 refine on_loopP (ι := List Fld × List Fld × Int × List Int × AV × AObj) (fun p => ([(26, int p.2.2.1), (25, int (lenA es)), (24, .isl 2 es), (9, p.2.2.2.2.1), (2, .ptr 0 0)], [.cells [str an, .isl 2 fa], p.2.2.2.2.2])) (fun p => lb = p.1 ++ p.2.1 ∧ p.2.2.1 = p.1.length ∧ R = (cmpL la p.2.1).map (p.2.2.2.1 ++ ·) ∧ p.2.2.2.1.length = p.1.length ∧ OI p.2.2.2.1 p.2.2.2.2.1 p.2.2.2.2.2) (fun p => p.2.1.length) ([], lb, 0, [], .val (.slice none 0 0), .dead) ⟨rfl, rfl, by rw [hR]; cases cmpL la lb <;> rfl, rfl, .inl ⟨rfl, rfl, rfl⟩⟩ ?_ ?_
 · exact (ent_sub [.to 0] [some 0, none] ⟨⟨by simp, rfl⟩, trivial⟩ ⟨osrc_cells (b := 0) rfl rfl rfl ⟨.refl _, .cl kfa, trivial⟩, .dead, trivial⟩ ⟨.refl _, .refl _, .cl kfb, .refl _, .refl _, trivial⟩)
 rintro ⟨d, r, i, acc, ov, oa⟩ ⟨g1, gi, gR, gl, gO⟩
 dsimp only at g1 gi gR gl gO ⊢
 cases r with
 | nil =>
  have L1 := len_split g1
  try simp only [List.length] at L1
  have hc : iLt i (lenA es) = false := lt_f e_iLt e_lenA (by omega)
  have gR2 : R = some acc := by rw [gR]; simp [cmpL]
  rw [gR2]
  simp only [Option.getD_some, Option.isSome_some]
  rcases gO with ⟨rfl, rfl, rfl⟩ | ⟨hne, rfl, rfl⟩
  · rw [mapE_nil]
    refine goB hX 0 (by conv => lhs; cbv; try simp only [hc]; cbv; try simp only [hc]; cbv; try simp only [hc]; cbv; try simp only [hc]; cbv) ?_
    refine goA 60 ?_
    refine loopP_exit ?_
    refine goA 60 ?_
    refine fn_ret rfl rfl ?_
    exact ⟨[.gone, .gone], ⟨trivial, trivial, trivial⟩, .tup' ⟨.nilI _, .refl _, .refl _, trivial⟩⟩
  · have kcS := closedL_int acc
    have kcI := closedI_int acc
    have hll := mapE_len int acc
    generalize mapE int acc = el at *
    generalize acc.length = n0 at *
    refine goB hX 0 (by conv => lhs; cbv; try simp only [hc]; cbv; try simp only [hc]; cbv; try simp only [hc]; cbv; try simp only [hc]; cbv) ?_
    refine goA 60 ?_
    refine loopP_exit ?_
    refine goA 60 ?_
    refine fn_ret rfl rfl ?_
    exact ⟨[.gone, .isl 1 (el)], ⟨trivial, ⟨_, rfl, (subL_closed _ kcS).symm⟩, trivial⟩, .tup' ⟨.of (sub_whole rfl (by omega)), .refl _, .refl _, trivial⟩⟩
 | cons f r =>
  have L1 := len_split g1
  try simp only [List.length] at L1
  have hc : iLt i (lenA es) = true := lt_t e_iLt e_lenA (by omega)
  have hat := el_at e_atA hes g1 gi
  rw [Fld.enc_eq] at hat
  have hi2 : iAdd .i64 i 1 = ((d ++ [f]).length : Int) := by rw [List.length_append]; exact inc_w e_iAdd gi (by omega)
  have pq := pp f.nm
  rw [cmp_step] at gR
  clear pp pca pcb
  rcases pos_cases la f.nm with ⟨h1, h2⟩ | ⟨d2, g, r2, h1, h2, h3, h4⟩
  · obtain ⟨P, hP⟩ : ∃ P : Int, P = -1 := ⟨_, rfl⟩
    have kP : iLt P 0 = true := by simp only [ee]; rw [hP]; rfl
    rw [h1] at gR pq
    rw [← hP] at pq
    rw [if_pos (by decide)] at gR
    rw [gR]
    simp only [Option.getD_none, Option.isSome_none]
    rw [mapE_nil]
    generalize ba f.nm = fs at *
    generalize f.kd = fk at *
    cases la with
    | nil =>
     have hatP : atA fa P = .undef := by simp only [ee]; rw [← hfa, mapE_nil]; rfl
     rcases gO with ⟨rfl, rfl, rfl⟩ | ⟨hne, rfl, rfl⟩
     ·
      refine goB hX 0 (by conv => lhs; cbv; try simp only [hc, hat, kP, hatP]; cbv; try simp only [hc, hat, kP, hatP]; cbv; try simp only [hc, hat, kP, hatP]; cbv; try simp only [hc, hat, kP, hatP]; cbv) ?_
      refine goB hX 1 (by conv => lhs; cbv; try simp only [hc, hat, kP, hatP]; cbv; try simp only [hc, hat, kP, hatP]; cbv; try simp only [hc, hat, kP, hatP]; cbv; try simp only [hc, hat, kP, hatP]; cbv) ?_
      refine oPA pq ?_
      refine goB hX 0 (by conv => lhs; cbv; try simp only [hc, hat, kP, hatP]; cbv; try simp only [hc, hat, kP, hatP]; cbv; try simp only [hc, hat, kP, hatP]; cbv; try simp only [hc, hat, kP, hatP]; cbv) ?_
      refine tr_drawB rfl (by conv => lhs; cbv) rfl ?_
      refine tgA ?_
      refine tgB hX (by conv => lhs; cbv; try simp only [hc, hat, kP, hatP]; cbv; try simp only [hc, hat, kP, hatP]; cbv; try simp only [hc, hat, kP, hatP]; cbv; try simp only [hc, hat, kP, hatP]; cbv) ?_
      refine tr_skipq (.inl rfl) ?_
      refine tr_skipq (.inl rfl) ?_
      refine tr_skipq (.inl rfl) ?_
      refine tr_skipq (.inl rfl) ?_
      refine tr_skipq (.inl rfl) ?_
      refine tr_skipq (.inl rfl) ?_
      refine tr_skipq (.inl rfl) ?_
      refine tgA ?_
      refine tr_nil ⟨rfl, by simp [LooksL], ?_⟩
      refine goA 60 ?_
      refine loopP_ret ?_
      refine goA 60 ?_
      refine fn_ret rfl rfl ?_
      exact ⟨[.gone, .gone, .gone], ⟨trivial, trivial, trivial, trivial⟩, .tup' ⟨.nilI _, .refl _, .refl _, trivial⟩⟩
     · have kcS := closedL_int acc
       generalize mapE int acc = el at *
       generalize acc.length = n0 at *
       refine goB hX 0 (by conv => lhs; cbv; try simp only [hc, hat, kP, hatP]; cbv; try simp only [hc, hat, kP, hatP]; cbv; try simp only [hc, hat, kP, hatP]; cbv; try simp only [hc, hat, kP, hatP]; cbv) ?_
       refine goB hX 1 (by conv => lhs; cbv; try simp only [hc, hat, kP, hatP]; cbv; try simp only [hc, hat, kP, hatP]; cbv; try simp only [hc, hat, kP, hatP]; cbv; try simp only [hc, hat, kP, hatP]; cbv) ?_
       refine oPA pq ?_
       refine goB hX 0 (by conv => lhs; cbv; try simp only [hc, hat, kP, hatP]; cbv; try simp only [hc, hat, kP, hatP]; cbv; try simp only [hc, hat, kP, hatP]; cbv; try simp only [hc, hat, kP, hatP]; cbv) ?_
       refine tr_drawB rfl (by conv => lhs; cbv) rfl ?_
       refine tgA ?_
       refine tgB hX (by conv => lhs; cbv; try simp only [hc, hat, kP, hatP]; cbv; try simp only [hc, hat, kP, hatP]; cbv; try simp only [hc, hat, kP, hatP]; cbv; try simp only [hc, hat, kP, hatP]; cbv) ?_
       refine tr_skipq (.inl rfl) ?_
       refine tr_skipq (.inl rfl) ?_
       refine tr_skipq (.inl rfl) ?_
       refine tr_skipq (.inl rfl) ?_
       refine tr_skipq (.inl rfl) ?_
       refine tr_skipq (.inl rfl) ?_
       refine tr_skipq (.inl rfl) ?_
       refine tgA ?_
       refine tr_nil ⟨rfl, by simp [LooksL], ?_⟩
       refine goA 60 ?_
       refine loopP_ret ?_
       refine goA 60 ?_
       refine fn_ret rfl rfl ?_
       exact ⟨[.gone, .gone, .gone], ⟨trivial, trivial, trivial, trivial⟩, .tup' ⟨.nilI _, .refl _, .refl _, trivial⟩⟩
    | cons g0 la =>
     have hatP : atA fa P = .agg [str (ba g0.nm), int g0.kd] := by simp only [ee]; rw [← hfa, hP, mapE_eq, ← Fld.enc_eq]; rfl
     generalize ba g0.nm = gs at *
     generalize g0.kd = gk at *
     rcases gO with ⟨rfl, rfl, rfl⟩ | ⟨hne, rfl, rfl⟩
     ·
      refine goB hX 0 (by conv => lhs; cbv; try simp only [hc, hat, kP, hatP]; cbv; try simp only [hc, hat, kP, hatP]; cbv; try simp only [hc, hat, kP, hatP]; cbv; try simp only [hc, hat, kP, hatP]; cbv) ?_
      refine goB hX 1 (by conv => lhs; cbv; try simp only [hc, hat, kP, hatP]; cbv; try simp only [hc, hat, kP, hatP]; cbv; try simp only [hc, hat, kP, hatP]; cbv; try simp only [hc, hat, kP, hatP]; cbv) ?_
      refine oPA pq ?_
      refine goB hX 0 (by conv => lhs; cbv; try simp only [hc, hat, kP, hatP]; cbv; try simp only [hc, hat, kP, hatP]; cbv; try simp only [hc, hat, kP, hatP]; cbv; try simp only [hc, hat, kP, hatP]; cbv) ?_
      refine on_cond rfl (fun c1 => ?_) (fun c1 => ?_)
      ·
       simp [ee] at c1
       refine goA 60 ?_
       refine loopP_ret ?_
       refine goA 60 ?_
       refine fn_ret rfl rfl ?_
       exact ⟨[.gone, .gone, .gone], ⟨trivial, trivial, trivial, trivial⟩, .tup' ⟨.nilI _, .refl _, .refl _, trivial⟩⟩
      ·
       simp [ee] at c1
     · have kcS := closedL_int acc
       generalize mapE int acc = el at *
       generalize acc.length = n0 at *
       refine goB hX 0 (by conv => lhs; cbv; try simp only [hc, hat, kP, hatP]; cbv; try simp only [hc, hat, kP, hatP]; cbv; try simp only [hc, hat, kP, hatP]; cbv; try simp only [hc, hat, kP, hatP]; cbv) ?_
       refine goB hX 1 (by conv => lhs; cbv; try simp only [hc, hat, kP, hatP]; cbv; try simp only [hc, hat, kP, hatP]; cbv; try simp only [hc, hat, kP, hatP]; cbv; try simp only [hc, hat, kP, hatP]; cbv) ?_
       refine oPA pq ?_
       refine goB hX 0 (by conv => lhs; cbv; try simp only [hc, hat, kP, hatP]; cbv; try simp only [hc, hat, kP, hatP]; cbv; try simp only [hc, hat, kP, hatP]; cbv; try simp only [hc, hat, kP, hatP]; cbv) ?_
       refine on_cond rfl (fun c1 => ?_) (fun c1 => ?_)
       ·
        simp [ee] at c1
        refine goA 60 ?_
        refine loopP_ret ?_
        refine goA 60 ?_
        refine fn_ret rfl rfl ?_
        exact ⟨[.gone, .gone, .gone], ⟨trivial, trivial, trivial, trivial⟩, .tup' ⟨.nilI _, .refl _, .refl _, trivial⟩⟩
       ·
        simp [ee] at c1
  have hgk := cmp_hit h1
  rw [h4] at gR pq
  obtain ⟨P, hP⟩ : ∃ P : Int, P = (d2.length : Int) := ⟨_, rfl⟩
  have L2 := congrArg List.length h1
  rw [List.length_append, List.length_cons] at L2
  have kP : iLt P 0 = false := by simp only [ee]; simp; omega
  have hP0 : 0 ≤ P := by omega
  have hP1 : P < lenA fa := by simp only [ee]; omega
  have hatP := el_at e_atA hfa h1 hP
  rw [Fld.enc_eq, h2] at hatP
  rw [if_neg (by omega), hgk, ← hP] at gR
  rw [← hP] at pq
  have ksq : sEq (ba f.nm) (ba f.nm) = true := by simp only [ee]; simp
  generalize ba f.nm = fs at *
  by_cases hk : g.kd = f.kd
  · rw [if_neg (by simp [hk])] at gR
    rw [hk] at hatP
    generalize f.kd = fk at *
    have kkk : iEq fk fk = true := by simp only [ee]; simp
    rcases gO with ⟨rfl, rfl, rfl⟩ | ⟨hne, rfl, rfl⟩
    · have gO2 : OI ([] ++ [P]) (.sl 1 1 0 1) (.arr 1 [int P]) := .inr ⟨by simp, rfl, by rw [List.nil_append, mapE_eq]; rfl⟩
      refine goB hX 0 (by conv => lhs; cbv; try simp only [hc, hat, kP, hatP, ksq, kkk]; cbv; try simp only [hc, hat, kP, hatP, ksq, kkk]; cbv; try simp only [hc, hat, kP, hatP, ksq, kkk]; cbv; try simp only [hc, hat, kP, hatP, ksq, kkk]; cbv) ?_
      refine goB hX 1 (by conv => lhs; cbv; try simp only [hc, hat, kP, hatP, ksq, kkk]; cbv; try simp only [hc, hat, kP, hatP, ksq, kkk]; cbv; try simp only [hc, hat, kP, hatP, ksq, kkk]; cbv; try simp only [hc, hat, kP, hatP, ksq, kkk]; cbv) ?_
      refine oPA pq ?_
      refine goB hX 0 (by conv => lhs; cbv; try simp only [hc, hat, kP, hatP, ksq, kkk]; cbv; try simp only [hc, hat, kP, hatP, ksq, kkk]; cbv; try simp only [hc, hat, kP, hatP, ksq, kkk]; cbv; try simp only [hc, hat, kP, hatP, ksq, kkk]; cbv) ?_
      refine on_cond rfl (fun c1 => ?_) (fun c1 => ?_)
      ·
       simp [ee] at c1
      ·
       simp [ee] at c1
       refine goA 60 ?_
       refine loopP_next (d ++ [f], r, iAdd .i64 i 1, [] ++ [P], .sl 1 1 0 1, .arr 1 [int P]) ⟨by simp [g1], hi2, gR, by rw [List.length_append, List.length_append, gl]; rfl, gO2⟩ (by simp) (ent_sub [.to 0, .gone, .gone, .gone, .to 1] [some 0, some 4] ⟨⟨by simp, rfl⟩, trivial, trivial, trivial, ⟨by simp, rfl⟩, trivial⟩ ⟨osrc_cells (b := 0) rfl rfl rfl ⟨.refl _, .cl kfa, trivial⟩, osrc_arr (b := 4) rfl rfl rfl (by simp only [ee]; rfl) (by rfl), trivial⟩ ⟨.refl _, .refl _, .cl kfb, .of (by simp only [ee]; rfl), .refl _, trivial⟩)
    · have hl1 := mapE_len int acc
      have kcS := closedL_int acc
      have hz : mapE int (acc ++ [P]) = mapE int acc ++ [int P] := mapE_snoc int acc P
      obtain ⟨n0, hn0⟩ : ∃ n0, n0 = acc.length := ⟨_, rfl⟩
      have gO2 : OI (acc ++ [P]) (.sl 1 1 0 (n0 + 1)) (.arr 1 (mapE int acc ++ [int P])) := .inr ⟨by simp, by rw [hn0]; simp, by rw [hz]⟩
      have hn8 : n0 ≤ 8 := by omega
      rw [← hn0] at hl1 ⊢
      generalize mapE int acc = el at *
      have kz : AV.closedL (el ++ [int P]) = true := closedL_append kcS rfl
      have ke1 : addN n0 (lenN (partA [int P] 0 1)) = n0 + 1 := by simp only [ee]; rfl
      have ke2 : catA (dropA el 0) (partA [int P] 0 1) = el ++ [int P] := by simp only [ee]; rfl
      refine goB hX 0 (by conv => lhs; cbv; try simp only [hc, hat, kP, hatP, ksq, kkk]; cbv; try simp only [hc, hat, kP, hatP, ksq, kkk]; cbv; try simp only [hc, hat, kP, hatP, ksq, kkk]; cbv; try simp only [hc, hat, kP, hatP, ksq, kkk]; cbv) ?_
      refine goB hX 1 (by conv => lhs; cbv; try simp only [hc, hat, kP, hatP, ksq, kkk]; cbv; try simp only [hc, hat, kP, hatP, ksq, kkk]; cbv; try simp only [hc, hat, kP, hatP, ksq, kkk]; cbv; try simp only [hc, hat, kP, hatP, ksq, kkk]; cbv) ?_
      refine oPA pq ?_
      refine goB hX 0 (by conv => lhs; cbv; try simp only [hc, hat, kP, hatP, ksq, kkk]; cbv; try simp only [hc, hat, kP, hatP, ksq, kkk]; cbv; try simp only [hc, hat, kP, hatP, ksq, kkk]; cbv; try simp only [hc, hat, kP, hatP, ksq, kkk]; cbv) ?_
      refine on_cond rfl (fun c1 => ?_) (fun c1 => ?_)
      ·
       simp [ee] at c1
      ·
       simp [ee] at c1
       refine goA 60 ?_
       refine loopP_next (d ++ [f], r, iAdd .i64 i 1, acc ++ [P], .sl 1 1 0 (n0 + 1), .arr 1 (el ++ [int P])) ⟨by simp [g1], hi2, gR, by rw [List.length_append, List.length_append, gl]; rfl, gO2⟩ (by simp) (ent_sub [.to 0, .gone, .gone, .gone, .to 1] [some 0, some 4] ⟨⟨by simp, rfl⟩, trivial, trivial, trivial, ⟨by simp, rfl⟩, trivial⟩ ⟨osrc_cells (b := 0) rfl rfl rfl ⟨.refl _, .cl kfa, trivial⟩, osrc_arr (b := 4) rfl rfl rfl (by simp only [ee]; rfl) kz, trivial⟩ ⟨.refl _, .refl _, .cl kfb, .of (by simp only [ee]; rfl), .refl _, trivial⟩)
  · rw [if_pos (by simpa using hk)] at gR
    rw [gR]
    simp only [Option.getD_none, Option.isSome_none]
    rw [mapE_nil]
    generalize g.kd = gk at *
    generalize f.kd = fk at *
    have kkk : iEq gk fk = false := by simp only [ee]; simpa using hk
    rcases gO with ⟨rfl, rfl, rfl⟩ | ⟨hne, rfl, rfl⟩
    ·
     refine goB hX 0 (by conv => lhs; cbv; try simp only [hc, hat, kP, hatP, ksq, kkk]; cbv; try simp only [hc, hat, kP, hatP, ksq, kkk]; cbv; try simp only [hc, hat, kP, hatP, ksq, kkk]; cbv; try simp only [hc, hat, kP, hatP, ksq, kkk]; cbv) ?_
     refine goB hX 1 (by conv => lhs; cbv; try simp only [hc, hat, kP, hatP, ksq, kkk]; cbv; try simp only [hc, hat, kP, hatP, ksq, kkk]; cbv; try simp only [hc, hat, kP, hatP, ksq, kkk]; cbv; try simp only [hc, hat, kP, hatP, ksq, kkk]; cbv) ?_
     refine oPA pq ?_
     refine goB hX 0 (by conv => lhs; cbv; try simp only [hc, hat, kP, hatP, ksq, kkk]; cbv; try simp only [hc, hat, kP, hatP, ksq, kkk]; cbv; try simp only [hc, hat, kP, hatP, ksq, kkk]; cbv; try simp only [hc, hat, kP, hatP, ksq, kkk]; cbv) ?_
     refine on_cond rfl (fun c1 => ?_) (fun c1 => ?_)
     ·
      simp [ee] at c1
      refine goA 60 ?_
      refine loopP_ret ?_
      refine goA 60 ?_
      refine fn_ret rfl rfl ?_
      exact ⟨[.gone, .gone, .gone], ⟨trivial, trivial, trivial, trivial⟩, .tup' ⟨.nilI _, .refl _, .refl _, trivial⟩⟩
     ·
      simp [ee] at c1
    · have kcS := closedL_int acc
      generalize mapE int acc = el at *
      generalize acc.length = n0 at *
      refine goB hX 0 (by conv => lhs; cbv; try simp only [hc, hat, kP, hatP, ksq, kkk]; cbv; try simp only [hc, hat, kP, hatP, ksq, kkk]; cbv; try simp only [hc, hat, kP, hatP, ksq, kkk]; cbv; try simp only [hc, hat, kP, hatP, ksq, kkk]; cbv) ?_
      refine goB hX 1 (by conv => lhs; cbv; try simp only [hc, hat, kP, hatP, ksq, kkk]; cbv; try simp only [hc, hat, kP, hatP, ksq, kkk]; cbv; try simp only [hc, hat, kP, hatP, ksq, kkk]; cbv; try simp only [hc, hat, kP, hatP, ksq, kkk]; cbv) ?_
      refine oPA pq ?_
      refine goB hX 0 (by conv => lhs; cbv; try simp only [hc, hat, kP, hatP, ksq, kkk]; cbv; try simp only [hc, hat, kP, hatP, ksq, kkk]; cbv; try simp only [hc, hat, kP, hatP, ksq, kkk]; cbv; try simp only [hc, hat, kP, hatP, ksq, kkk]; cbv) ?_
      refine on_cond rfl (fun c1 => ?_) (fun c1 => ?_)
      ·
       simp [ee] at c1
       refine goA 60 ?_
       refine loopP_ret ?_
       refine goA 60 ?_
       refine fn_ret rfl rfl ?_
       exact ⟨[.gone, .gone, .gone], ⟨trivial, trivial, trivial, trivial⟩, .tup' ⟨.nilI _, .refl _, .refl _, trivial⟩⟩
      ·
       simp [ee] at c1
theorem P_EqualI (l : List Int) (hl : l.length < 1152921504606846976) : PCall EE 24 [.isl 1 (mapE int l), .isl 1 (mapE int l)] (bool true) := by
 have kcl := closedI_int l
 refine wordsN ?_; unhygienic intros
 generalize hes : mapE int l = es at *
 have hel : es.length = l.length := by rw [← hes, mapE_len]
 have k0 : iNe (lenA es) (lenA es) = false := by simp only [ee]; simp
 refine fn_body (fn := Tryd.f24) (n := 26) (ac := Trydc24) (rvs := [.t 4]) rfl (by decide) Trydp24 rfl rfl rfl ?_
 refine goB hX 0 (by conv => lhs; cbv; try simp only [k0]; cbv; try simp only [k0]; cbv; try simp only [k0]; cbv; try simp only [k0]; cbv) ?_
 refine goA 60 ?_
 refine on_loopP (ι := List Int × List Int × Int) (fun p => ([(13, int p.2.2), (12, int (lenA es)), (1, .isl 1 es), (0, .isl 1 es)], [])) (fun p => l = p.1 ++ p.2.1 ∧ p.2.2 = p.1.length) (fun p => p.2.1.length) ([], l, 0) ⟨rfl, rfl⟩ ?_ ?_
 · exact (ent_sub [] [] trivial trivial ⟨.refl _, .refl _, .cl kcl, .cl kcl, trivial⟩)
 rintro ⟨d, r, i⟩ ⟨g1, gi⟩
 dsimp only at g1 gi ⊢
 cases r with
 | nil =>
  have L1 := len_split g1
  try simp only [List.length] at L1
  have hc : iLt i (lenA es) = false := lt_f e_iLt e_lenA (by omega)
  refine goB hX 0 (by conv => lhs; cbv; try simp only [hc]; cbv; try simp only [hc]; cbv; try simp only [hc]; cbv; try simp only [hc]; cbv) ?_
  refine goA 60 ?_
  refine loopP_exit ?_
  refine goA 60 ?_
  refine fn_ret rfl rfl (.val ?_)
  rfl
 | cons n r =>
  have L1 := len_split g1
  try simp only [List.length] at L1
  have hc : iLt i (lenA es) = true := lt_t e_iLt e_lenA (by omega)
  have hat := el_at e_atA hes g1 gi
  have hi2 : iAdd .i64 i 1 = ((d ++ [n]).length : Int) := by rw [List.length_append]; exact inc_w e_iAdd gi (by omega)
  have kn : iNe n n = false := by simp only [ee]; simp
  refine goB hX 0 (by conv => lhs; cbv; try simp only [hc, hat, kn]; cbv; try simp only [hc, hat, kn]; cbv; try simp only [hc, hat, kn]; cbv; try simp only [hc, hat, kn]; cbv) ?_
  refine goB hX 1 (by conv => lhs; cbv; try simp only [hc, hat, kn]; cbv; try simp only [hc, hat, kn]; cbv; try simp only [hc, hat, kn]; cbv; try simp only [hc, hat, kn]; cbv) ?_
  refine goA 60 ?_
  refine loopP_next (d ++ [n], r, iAdd .i64 i 1) ⟨by simp [g1], hi2⟩ (by simp) (ent_sub [] [] trivial trivial ⟨.refl _, .refl _, .cl kcl, .cl kcl, trivial⟩)
theorem P_SameSchema (q : Sch) (hq : q.Short) : PCall EE 46 [q.enc, q.enc] (bool true) := by
 have kcl := Fld.closedI q.fs
 have hl := hq.2.1
 rw [Sch.enc_eq]
 generalize q.fs = l at *
 generalize ba q.nm = qn at *
 clear hq
 refine wordsN ?_; unhygienic intros
 generalize hes : mapE Fld.enc l = es at *
 have hel : es.length = l.length := by rw [← hes, mapE_len]
 have kcA : AV.closedL [str qn, .isl 2 es] = true := by simp [AV.closedL, closed_v, kcl]
 have k0 : iNe (lenA es) (lenA es) = false := by simp only [ee]; simp
 have k1 : sNe qn qn = false := by simp only [ee]; simp
 refine fn_body (fn := Tryd.f46) (n := 38) (ac := Trydc46) (rvs := [.t 4]) rfl (by decide) Trydp46 rfl rfl rfl ?_
 refine goB hX 0 (by conv => lhs; cbv; try simp only [k0, k1]; cbv; try simp only [k0, k1]; cbv; try simp only [k0, k1]; cbv; try simp only [k0, k1]; cbv) ?_
 refine on_cond rfl (fun c1 => ?_) (fun c1 => ?_)
 ·
  simp [ee] at c1
 simp [ee] at c1
 clear c1
 refine goA 60 ?_
 refine on_loopP (ι := List Fld × List Fld × Int) (fun p => ([(5, int p.2.2), (3, .iptr [str qn, .isl 2 es]), (2, .iptr [str qn, .isl 2 es])], [])) (fun p => l = p.1 ++ p.2.1 ∧ p.2.2 = p.1.length) (fun p => p.2.1.length) ([], l, 0) ⟨rfl, rfl⟩ ?_ ?_
 · exact (ent_sub [.icells [str qn, .isl 2 es], .icells [str qn, .isl 2 es]] [] ⟨⟨_, rfl, (subL_closed _ kcA).symm⟩, ⟨_, rfl, (subL_closed _ kcA).symm⟩, trivial⟩ trivial ⟨.refl _, .refl _, .refl _, trivial⟩)
 rintro ⟨d, r, i⟩ ⟨g1, gi⟩
 dsimp only at g1 gi ⊢
 cases r with
 | nil =>
  have L1 := len_split g1
  try simp only [List.length] at L1
  have hc : iLt i (lenA es) = false := lt_f e_iLt e_lenA (by omega)
  refine goB hX 0 (by conv => lhs; cbv; try simp only [hc]; cbv; try simp only [hc]; cbv; try simp only [hc]; cbv; try simp only [hc]; cbv) ?_
  refine goA 60 ?_
  refine loopP_exit ?_
  refine goA 60 ?_
  refine fn_ret rfl rfl (.val ?_)
  rfl
 | cons f r =>
  have L1 := len_split g1
  try simp only [List.length] at L1
  have hc : iLt i (lenA es) = true := lt_t e_iLt e_lenA (by omega)
  have hat := el_at e_atA hes g1 gi
  rw [Fld.enc_eq] at hat
  have hi2 : iAdd .i64 i 1 = ((d ++ [f]).length : Int) := by rw [List.length_append]; exact inc_w e_iAdd gi (by omega)
  generalize ba f.nm = fs at *
  generalize f.kd = fk at *
  have ks : sEq fs fs = true := by simp only [ee]; simp
  have kk : iEq fk fk = true := by simp only [ee]; simp
  refine goB hX 0 (by conv => lhs; cbv; try simp only [hc, hat, ks, kk]; cbv; try simp only [hc, hat, ks, kk]; cbv; try simp only [hc, hat, ks, kk]; cbv; try simp only [hc, hat, ks, kk]; cbv) ?_
  refine goB hX 1 (by conv => lhs; cbv; try simp only [hc, hat, ks, kk]; cbv; try simp only [hc, hat, ks, kk]; cbv; try simp only [hc, hat, ks, kk]; cbv; try simp only [hc, hat, ks, kk]; cbv) ?_
  refine on_cond rfl (fun c1 => ?_) (fun c1 => ?_)
  ·
   simp [ee] at c1
  ·
   simp [ee] at c1
   refine goA 60 ?_
   refine loopP_next (d ++ [f], r, iAdd .i64 i 1) ⟨by simp [g1], hi2⟩ (by simp) (ent_sub [] [] trivial trivial ⟨.refl _, .cl kcA, .cl kcA, trivial⟩)
theorem P_Same (l : List Sch) (hl : l.length < 1152921504606846976) (hs : ∀ q ∈ l, q.Short) : PCall EE 19 [.isl 2 (mapE Sch.enc l), .isl 2 (mapE Sch.enc l)] (bool true) := by
 have kcl := Sch.closedI l
 refine wordsN ?_; unhygienic intros
 generalize hes : mapE Sch.enc l = es at *
 have hel : es.length = l.length := by rw [← hes, mapE_len]
 have k0 : iNe (lenA es) (lenA es) = false := by simp only [ee]; simp
 have n1 : bNot true = false := by simp only [ee]; rfl
 refine fn_body (fn := Tryd.f19) (n := 27) (ac := Trydc19) (rvs := [.t 4]) rfl (by decide) Trydp19 rfl rfl rfl ?_
 refine goB hX 0 (by conv => lhs; cbv; try simp only [k0]; cbv; try simp only [k0]; cbv; try simp only [k0]; cbv; try simp only [k0]; cbv) ?_
 refine goA 60 ?_
 refine on_loopP (ι := List Sch × List Sch × Int) (fun p => ([(5, int p.2.2), (1, .isl 2 es), (0, .isl 2 es)], [])) (fun p => l = p.1 ++ p.2.1 ∧ p.2.2 = p.1.length) (fun p => p.2.1.length) ([], l, 0) ⟨rfl, rfl⟩ ?_ ?_
 · exact (ent_sub [] [] trivial trivial ⟨.refl _, .cl kcl, .cl kcl, trivial⟩)
 rintro ⟨d, r, i⟩ ⟨g1, gi⟩
 dsimp only at g1 gi ⊢
 cases r with
 | nil =>
  have L1 := len_split g1
  try simp only [List.length] at L1
  have hc : iLt i (lenA es) = false := lt_f e_iLt e_lenA (by omega)
  refine goB hX 0 (by conv => lhs; cbv; try simp only [hc]; cbv; try simp only [hc]; cbv; try simp only [hc]; cbv; try simp only [hc]; cbv) ?_
  refine goA 60 ?_
  refine loopP_exit ?_
  refine goA 60 ?_
  refine fn_ret rfl rfl (.val ?_)
  rfl
 | cons f r =>
  have L1 := len_split g1
  try simp only [List.length] at L1
  have hc : iLt i (lenA es) = true := lt_t e_iLt e_lenA (by omega)
  have hat := el_at e_atA hes g1 gi
  have pf := P_SameSchema f (hs f (by rw [g1]; simp))
  rw [Sch.enc_eq] at hat pf
  have kcf := Fld.closedI f.fs
  have hi2 : iAdd .i64 i 1 = ((d ++ [f]).length : Int) := by rw [List.length_append]; exact inc_w e_iAdd gi (by omega)
  generalize ba f.nm = fs at *
  generalize mapE Fld.enc f.fs = fe at *
  have kcA : AV.closedL [str fs, .isl 2 fe] = true := by simp [AV.closedL, closed_v, kcf]
  clear hs
  refine goB hX 0 (by conv => lhs; cbv; try simp only [hc, hat, n1]; cbv; try simp only [hc, hat, n1]; cbv; try simp only [hc, hat, n1]; cbv; try simp only [hc, hat, n1]; cbv) ?_
  refine goB hX 1 (by conv => lhs; cbv; try simp only [hc, hat, n1]; cbv; try simp only [hc, hat, n1]; cbv; try simp only [hc, hat, n1]; cbv; try simp only [hc, hat, n1]; cbv) ?_
  refine tr_drawB rfl (by conv => lhs; cbv) rfl ?_
  refine tgB hX (by conv => lhs; cbv; try simp only [hc, hat, n1]; cbv; try simp only [hc, hat, n1]; cbv; try simp only [hc, hat, n1]; cbv; try simp only [hc, hat, n1]; cbv) ?_
  refine oPT pf ?_
  refine tgA ?_
  refine tr_nil ⟨rfl, by simp [LooksL], ?_⟩
  refine goB hX 0 (by conv => lhs; cbv; try simp only [hc, hat, n1]; cbv; try simp only [hc, hat, n1]; cbv; try simp only [hc, hat, n1]; cbv; try simp only [hc, hat, n1]; cbv) ?_
  refine goA 60 ?_
  refine loopP_next (d ++ [f], r, iAdd .i64 i 1) ⟨by simp [g1], hi2⟩ (by simp) (ent_sub [] [] trivial trivial ⟨.refl _, .cl kcl, .cl kcl, trivial⟩)
def fewS (l : List Sch) : Bool := l.all fun q => decide (q.fs.length ≤ 20 ∧ q.nm.length ≤ 100)
def fewB (l : List Sch) : Bool := fewS l && decide (l.length ≤ 20)
theorem P_Few (l : List Sch) (hl : l.length < 1152921504606846976) (_hs : ∀ q ∈ l, q.Short) : PCall EE 11 [.isl 2 (mapE Sch.enc l)] (bool (fewB l)) := by
 have kcl := Sch.closedI l
 obtain ⟨R, hR⟩ : ∃ R, R = fewB l := ⟨_, rfl⟩
 rw [← hR]
 rw [fewB] at hR
 refine wordsN ?_; unhygienic intros
 generalize hes : mapE Sch.enc l = es at *
 have hel : es.length = l.length := by rw [← hes, mapE_len]
 have kR : iLe (lenA es) 20 = decide (l.length ≤ 20) := by simp only [ee]; rw [Bool.eq_iff_iff]; simp; omega
 refine fn_body (fn := Tryd.f11) (n := 29) (ac := Trydc11) (rvs := [.t 2]) rfl (by decide) Trydp11 rfl rfl rfl ?_
 refine goA 60 ?_
 refine on_loopP (ι := List Sch × List Sch × Int) (fun p => ([(3, int p.2.2), (0, .isl 2 es)], [])) (fun p => l = p.1 ++ p.2.1 ∧ p.2.2 = p.1.length ∧ fewS p.1 = true) (fun p => p.2.1.length) ([], l, 0) ⟨rfl, rfl, rfl⟩ ?_ ?_
 · exact (ent_sub [] [] trivial trivial ⟨.refl _, .cl kcl, trivial⟩)
 rintro ⟨d, r, i⟩ ⟨g1, gi, gd⟩
 dsimp only at g1 gi gd ⊢
 cases r with
 | nil =>
  have L1 := len_split g1
  try simp only [List.length] at L1
  have hc : iLt i (lenA es) = false := lt_f e_iLt e_lenA (by omega)
  have e1 : R = decide (l.length ≤ 20) := by
   rw [hR]
   rw [List.append_nil] at g1
   rw [← g1] at gd
   rw [gd, Bool.true_and]
  rw [← kR] at e1
  subst e1
  clear hR
  refine goB hX 0 (by conv => lhs; cbv; try simp only [hc]; cbv; try simp only [hc]; cbv; try simp only [hc]; cbv; try simp only [hc]; cbv) ?_
  refine goA 60 ?_
  refine loopP_exit ?_
  refine goA 60 ?_
  refine fn_ret rfl rfl (.val ?_)
  rfl
 | cons f r =>
  have L1 := len_split g1
  try simp only [List.length] at L1
  have hc : iLt i (lenA es) = true := lt_t e_iLt e_lenA (by omega)
  have hat := el_at e_atA hes g1 gi
  rw [Sch.enc_eq] at hat
  have hi2 : iAdd .i64 i 1 = ((d ++ [f]).length : Int) := by rw [List.length_append]; exact inc_w e_iAdd gi (by omega)
  have hfl := mapE_len Fld.enc f.fs
  have hsz := ba_size f.nm
  have hf1 : fewS (d ++ [f]) = decide (f.fs.length ≤ 20 ∧ f.nm.length ≤ 100) := by
   rw [fewS] at gd ⊢
   rw [List.all_append, gd]; simp
  have hf0 : ¬ (f.fs.length ≤ 20 ∧ f.nm.length ≤ 100) → R = false := fun h => by
   rw [hR, fewS, g1]
   simp only [List.all_append, List.all_cons]
   rw [decide_eq_false h]; simp
  have ka : 20 < f.fs.length → iLt 20 (lenA (mapE Fld.enc f.fs)) = true := fun h => by simp only [ee]; simp; omega
  have kb : ¬ 20 < f.fs.length → iLt 20 (lenA (mapE Fld.enc f.fs)) = false := fun h => by simp only [ee]; simp; omega
  have kc : 100 < f.nm.length → iLt 100 (sLen (ba f.nm)) = true := fun h => by simp only [ee]; simp; omega
  have kd : ¬ 100 < f.nm.length → iLt 100 (sLen (ba f.nm)) = false := fun h => by simp only [ee]; simp; omega
  generalize mapE Fld.enc f.fs = fe at *
  generalize ba f.nm = fs at *
  by_cases n1 : 20 < f.fs.length
  · have k1 := ka n1
    rw [hf0 (by omega)]
    refine goB hX 0 (by conv => lhs; cbv; try simp only [hc, hat, k1]; cbv; try simp only [hc, hat, k1]; cbv; try simp only [hc, hat, k1]; cbv; try simp only [hc, hat, k1]; cbv) ?_
    refine goB hX 1 (by conv => lhs; cbv; try simp only [hc, hat, k1]; cbv; try simp only [hc, hat, k1]; cbv; try simp only [hc, hat, k1]; cbv; try simp only [hc, hat, k1]; cbv) ?_
    refine on_cond rfl (fun c1 => ?_) (fun c1 => ?_)
    ·
     simp [ee] at c1
     refine goA 60 ?_
     refine loopP_ret ?_
     refine goA 60 ?_
     refine fn_ret rfl rfl (.val ?_)
     rfl
    ·
     simp [ee] at c1
  have k1 := kb n1
  by_cases n2 : 100 < f.nm.length
  · have k2 := kc n2
    rw [hf0 (by omega)]
    refine goB hX 0 (by conv => lhs; cbv; try simp only [hc, hat, k1, k2]; cbv; try simp only [hc, hat, k1, k2]; cbv; try simp only [hc, hat, k1, k2]; cbv; try simp only [hc, hat, k1, k2]; cbv) ?_
    refine goB hX 1 (by conv => lhs; cbv; try simp only [hc, hat, k1, k2]; cbv; try simp only [hc, hat, k1, k2]; cbv; try simp only [hc, hat, k1, k2]; cbv; try simp only [hc, hat, k1, k2]; cbv) ?_
    refine on_cond rfl (fun c1 => ?_) (fun c1 => ?_)
    ·
     simp [ee] at c1
     refine goA 60 ?_
     refine loopP_ret ?_
     refine goA 60 ?_
     refine fn_ret rfl rfl (.val ?_)
     rfl
    ·
     simp [ee] at c1
  have k2 := kd n2
  have hf2 : fewS (d ++ [f]) = true := by rw [hf1]; exact decide_eq_true (by omega)
  refine goB hX 0 (by conv => lhs; cbv; try simp only [hc, hat, k1, k2]; cbv; try simp only [hc, hat, k1, k2]; cbv; try simp only [hc, hat, k1, k2]; cbv; try simp only [hc, hat, k1, k2]; cbv) ?_
  refine goB hX 1 (by conv => lhs; cbv; try simp only [hc, hat, k1, k2]; cbv; try simp only [hc, hat, k1, k2]; cbv; try simp only [hc, hat, k1, k2]; cbv; try simp only [hc, hat, k1, k2]; cbv) ?_
  refine on_cond rfl (fun c1 => ?_) (fun c1 => ?_)
  ·
   simp [ee] at c1
  ·
   simp [ee] at c1
   refine goA 60 ?_
   refine loopP_next (d ++ [f], r, iAdd .i64 i 1) ⟨by simp [g1], hi2, hf2⟩ (by simp) (ent_sub [] [] trivial trivial ⟨.refl _, .cl kcl, trivial⟩)
def xTrade : Bs := [116, 114, 97, 100, 101]
def xPrice : Bs := [112, 114, 105, 99, 101]
def xSymbol : Bs := [115, 121, 109, 98, 111, 108]
def xClock : Bs := [99, 108, 111, 99, 107]
def xT : Bs := [116]
def xS0 : Sch := ⟨xTrade, [⟨xSymbol, 2⟩, ⟨xPrice, 0⟩]⟩
def xL : List Sch := [xS0, ⟨xClock, []⟩]
def xEx : Bs := [116, 114, 97, 100, 101, 32, 115, 121, 109, 98, 111, 108, 58, 115, 116, 114, 105, 110, 103, 32, 112, 114, 105, 99, 101, 58, 105, 110, 116, 10, 99, 108, 111, 99, 107, 10]
def xB1 : Bs := [116, 114, 97, 100, 101, 32, 112, 114, 105, 99, 101, 58, 105, 110, 116, 32, 112, 114, 105, 99, 101, 58, 98, 111, 111, 108]
def xB2 : Bs := [116, 114, 97, 100, 101, 32, 112, 114, 105, 99, 101]
def xB3 : Bs := [116, 114, 97, 100, 101, 32, 116, 105, 109, 101, 58, 105, 110, 116]
def xB4 : Bs := [57, 32, 120]
theorem xL_chk : chkAll xL = 0 := by decide
theorem xL_fmt : fmt xL = xEx := by decide
theorem xEx_prs : prs xEx = (xL, 0, 0) := by rw [← xL_fmt]; exact prs_fmt xL_chk
theorem toks2 {w v : Bs} (h0 : w ≠ []) (h1 : w.all nsp = true) (g0 : v ≠ []) (g1 : v.all nsp = true) : toks (w ++ 32 :: v) 0 true = [⟨0, true, w⟩, ⟨w.length + 1, false, v⟩] := by
 rw [toks_word 0 true h0 (fun c hc => List.all_eq_true.1 h1 c hc) (by show nsp 32 = false; decide), toks_sp]
 have := toks_word (r := []) (0 + w.length + 1) false g0 (fun c hc => List.all_eq_true.1 g1 c hc) trivial
 rw [List.append_nil] at this
 rw [this, toks_nil, Nat.zero_add]
theorem toks3 {w v u : Bs} (h0 : w ≠ []) (h1 : w.all nsp = true) (g0 : v ≠ []) (g1 : v.all nsp = true) (f0 : u ≠ []) (f1 : u.all nsp = true) : toks (w ++ 32 :: (v ++ 32 :: u)) 0 true = [⟨0, true, w⟩, ⟨w.length + 1, false, v⟩, ⟨w.length + 1 + v.length + 1, false, u⟩] := by
 rw [toks_word 0 true h0 (fun c hc => List.all_eq_true.1 h1 c hc) (by show nsp 32 = false; decide), toks_sp, toks_word _ false g0 (fun c hc => List.all_eq_true.1 g1 c hc) (by show nsp 32 = false; decide), toks_sp]
 have := toks_word (r := []) (0 + w.length + 1 + v.length + 1) false f0 (fun c hc => List.all_eq_true.1 f1 c hc) trivial
 rw [List.append_nil] at this
 rw [this, toks_nil, Nat.zero_add]
theorem xB1_prs : (prs xB1).2 = (16, 7) := by
 rw [prs, if_neg (by decide), show xB1 = xTrade ++ 32 :: ((xPrice ++ 58 :: bInt) ++ 32 :: (xPrice ++ 58 :: bBool)) from rfl, toks3 (by decide) (by decide) (by decide) (by decide) (by decide) (by decide)]
 decide
theorem xB2_prs : (prs xB2).2 = (6, 4) := by
 rw [prs, if_neg (by decide), show xB2 = xTrade ++ 32 :: xPrice from rfl, toks2 (by decide) (by decide) (by decide) (by decide)]
 decide
theorem xB3_prs : (prs xB3).2 = (6, 8) := by
 rw [prs, if_neg (by decide), show xB3 = xTrade ++ 32 :: (bTime ++ 58 :: bInt) from rfl, toks2 (by decide) (by decide) (by decide) (by decide)]
 decide
theorem xB4_prs : (prs xB4).2 = (0, 8) := by
 rw [prs, if_neg (by decide), show xB4 = [57] ++ 32 :: [120] from rfl, toks2 (by decide) (by decide) (by decide) (by decide)]
 decide
theorem xI : idxI xS0 xPrice = 1 ∧ idxE xS0 xPrice = 0 := by decide
def xQ : Sch := ⟨xT, [⟨xPrice, 0⟩, ⟨xSymbol, 2⟩]⟩
def xR : Sch := ⟨xT, [⟨xPrice, 1⟩]⟩
theorem xC1 : cmpQ xS0 xQ = some [1, 0] ∧ cmpE xS0 xQ = 0 := by decide
theorem xC2 : cmpQ xS0 xR = none ∧ cmpE xS0 xR = 0 := by decide
theorem on_gpcallv {E : Env} {n N : Nat} {Q : AExit → AFr → AHeap → Prop} {k : List KI} {F : AFr} {H : AHeap} {o : AOper} {l : List AOper} {x : Opd} {xs : List Opd} {f : FuncId} {cs args : List AV} {v : AV} {d : Nat} {b : Bool} (hg : o.guard = some (d, b)) (hd : F.get d = .val (.bool b)) (ho : o.op = .callv x xs) (hf : x.ev E.G F = .fn f cs) (ha : xs.map (·.ev E.G F) ++ cs = args) (hc : PCall E f args v) (hcl : AV.closedL args = true)
 (h : Holds E n N Q (.ops l) k (F.set o.dst v) H) : Holds E n N Q (.ops (o :: l)) k F H :=
 aops_callv (R := fun v' H' => v' = v ∧ H' = H) (by rw [hg]; simp only [wantA, hd]; cases b <;> rfl) ho hf rfl ⟨hc.1, by rw [ha]; exact hc.lift hcl⟩ (by rintro _ _ ⟨rfl, rfl⟩; exact h)
theorem P_awake1 (s : Bs) (i e : Int) (hs : s.length < 4294967281) (h : (prs s).2 = (i, e)) : PCall EE 33 [str (ba s), int i, int e] (bool true) := by
 have pp := P_Parse s hs
 have kcl := Sch.closedI (prs s).1
 rw [h] at pp
 dsimp only at pp
 generalize mapE Sch.enc (prs s).1 = es at *
 generalize ba s = b at *
 clear h
 refine wordsN ?_; unhygienic intros
 have k1 : iEq i i = true := by simp only [ee]; simp
 have k2 : iEq e e = true := by simp only [ee]; simp
 refine fn_body (fn := Tryd.f33) (n := 24) (ac := Trydc33) (rvs := [.t 6]) rfl (by decide) Trydp33 rfl rfl rfl ?_
 refine goA 60 ?_
 refine oPA pp ?_
 refine goA 60 ?_
 refine fn_ret rfl rfl (.val ?_)
 exact congrArg Value.bool (by simp only [ee]; simp)
theorem Sch.short_of {q : Sch} (h : q.nm.length ≤ 1000 ∧ q.fs.length ≤ 1000 ∧ ∀ f ∈ q.fs, f.nm.length ≤ 1000) : q.Short := ⟨by omega, by omega, fun f hf => by have := h.2.2 f hf; omega⟩
theorem xS0_short : xS0.Short := Sch.short_of (by decide)
theorem xQ_short : xQ.Short := Sch.short_of (by decide)
theorem xR_short : xR.Short := Sch.short_of (by decide)
theorem xL_short : ∀ q ∈ xL, q.Short := fun q hq => by
 simp only [xL, List.mem_cons, List.not_mem_nil, or_false] at hq
 rcases hq with rfl | rfl
 · exact xS0_short
 · exact Sch.short_of (by decide)
theorem P_awake : PCall EE 12 [] (bool true) := by
 have p1 := P_Parse xEx (by decide)
 rw [xEx_prs] at p1
 dsimp only at p1
 have p2 := P_Index xS0 xPrice xS0_short
 rw [xI.1, xI.2] at p2
 have p3 := P_Format xL (by decide) xL_short
 rw [xL_chk, if_neg (by decide), xL_fmt] at p3
 have p4 := P_Compatible xS0 xQ xS0_short xQ_short
 rw [xC1.1, xC1.2] at p4
 have p5 := P_Compatible xS0 xR xS0_short xR_short
 rw [xC2.1, xC2.2] at p5
 have p6 := P_EqualI [1, 0] (by decide)
 have p7 := P_awake1 xB1 16 7 (by decide) xB1_prs
 have p8 := P_awake1 xB2 6 4 (by decide) xB2_prs
 have p9 := P_awake1 xB3 6 8 (by decide) xB3_prs
 have p0 := P_awake1 xB4 0 8 (by decide) xB4_prs
 simp only [Option.getD_some, Option.getD_none, Option.isSome_some, Option.isSome_none] at p4 p5
 have q0 := Sch.enc_eq xS0
 have q1 := Sch.enc_eq xQ
 have q2 := Sch.enc_eq xR
 have kcl := Sch.closedI xL
 have hlen := mapE_len Sch.enc xL
 have hat0 : (mapE Sch.enc xL).getD 0 .undef = xS0.enc := by rw [mapE_eq]; rfl
 have f1 : mapE Fld.enc xQ.fs = [.agg [str (ba xPrice), int 0], .agg [str (ba xSymbol), int 2]] := by rw [mapE_eq]; simp only [xQ, List.map_cons, List.map_nil, Fld.enc_eq]
 have f2 : mapE Fld.enc xR.fs = [.agg [str (ba xPrice), int 1]] := by rw [mapE_eq]; simp only [xR, List.map_cons, List.map_nil, Fld.enc_eq]
 rw [q0] at p2 p4 p5 hat0
 rw [q1, f1] at p4
 rw [q2, f2] at p5
 have kf0 := Fld.closedI xS0.fs
 rw [show xQ.nm = xT from rfl] at p4
 rw [show xR.nm = xT from rfl] at p5
 have z1 : mapE int [1, 0] = [int 1, int 0] := by rw [mapE_eq]; rfl
 rw [z1] at p4 p6
 rw [mapE_nil] at p5
 clear q0 q1 q2 f1 f2
 have b1 : ba xEx = ⟨#[116, 114, 97, 100, 101, 32, 115, 121, 109, 98, 111, 108, 58, 115, 116, 114, 105, 110, 103, 32, 112, 114, 105, 99, 101, 58, 105, 110, 116, 10, 99, 108, 111, 99, 107, 10]⟩ := ba_eq _
 have b2 : ba xPrice = ⟨#[112, 114, 105, 99, 101]⟩ := ba_eq _
 have b3 : ba xSymbol = ⟨#[115, 121, 109, 98, 111, 108]⟩ := ba_eq _
 have b4 : ba xT = ⟨#[116]⟩ := ba_eq _
 have b5 : ba xB1 = ⟨#[116, 114, 97, 100, 101, 32, 112, 114, 105, 99, 101, 58, 105, 110, 116, 32, 112, 114, 105, 99, 101, 58, 98, 111, 111, 108]⟩ := ba_eq _
 have b6 : ba xB2 = ⟨#[116, 114, 97, 100, 101, 32, 112, 114, 105, 99, 101]⟩ := ba_eq _
 have b7 : ba xB3 = ⟨#[116, 114, 97, 100, 101, 32, 116, 105, 109, 101, 58, 105, 110, 116]⟩ := ba_eq _
 have b8 : ba xB4 = ⟨#[57, 32, 120]⟩ := ba_eq _
 rw [b1] at p1 p3
 rw [b2] at p2 p5
 rw [b2, b3, b4] at p4
 rw [b4] at p5
 rw [b5] at p7
 rw [b6] at p8
 rw [b7] at p9
 rw [b8] at p0
 generalize ba xS0.nm = nm0 at *
 generalize mapE Fld.enc xS0.fs = fs0 at *
 refine wordsN ?_; unhygienic intros
 generalize mapE Sch.enc xL = es at *
 have hel : es.length = 2 := hlen
 have k1 : lenA es = 2 := by simp only [ee]; rw [hel]; rfl
 have k2 : atA es 0 = .agg [str nm0, .isl 2 fs0] := by simp only [ee]; exact hat0
 have k3 : iNe 0 0 = false := by simp only [ee]; rfl
 have k4 : iNe 2 2 = false := by simp only [ee]; rfl
 have k5 : iAdd .i64 0 0 = 0 := by simp only [ee]; rfl
 have k6 : iEq 0 0 = true := by simp only [ee]; rfl
 have k7 : iEq 1 1 = true := by simp only [ee]; rfl
 have k8 : sEq ⟨#[116, 114, 97, 100, 101, 32, 115, 121, 109, 98, 111, 108, 58, 115, 116, 114, 105, 110, 103, 32, 112, 114, 105, 99, 101, 58, 105, 110, 116, 10, 99, 108, 111, 99, 107, 10]⟩ ⟨#[116, 114, 97, 100, 101, 32, 115, 121, 109, 98, 111, 108, 58, 115, 116, 114, 105, 110, 103, 32, 112, 114, 105, 99, 101, 58, 105, 110, 116, 10, 99, 108, 111, 99, 107, 10]⟩ = true := by simp only [ee]; simp
 have n0 : bNot false = true := by simp only [ee]; rfl
 have kcA : AV.closedL [str nm0, .isl 2 fs0] = true := by simp [AV.closedL, closed_v, kf0]
 have kcB : (AV.agg [str nm0, .isl 2 fs0]).closed = true := by rw [closed_agg]; exact kcA
 have kX1 : (AV.isl 2 [.agg [str ⟨#[112, 114, 105, 99, 101]⟩, int 0], .agg [str ⟨#[115, 121, 109, 98, 111, 108]⟩, int 2]]).closed = true := rfl
 have kX2 : (AV.isl 2 [.agg [str ⟨#[112, 114, 105, 99, 101]⟩, int 1]]).closed = true := rfl
 clear hlen hat0 b1 b2 b3 b4 b5 b6 b7 b8
 refine fn_body (fn := Tryd.f12) (n := 110) (ac := Trydc12) (rvs := [.t 0]) rfl (by decide) Trydp12 rfl rfl rfl ?_
 refine goA 60 ?_
 refine on_pcall rfl rfl rfl p1 rfl ?_
 refine goB hX 0 (by conv => lhs; cbv; try simp only [k1, k2, k3, k4, k5, k6, k7, k8, n0]; cbv; try simp only [k1, k2, k3, k4, k5, k6, k7, k8, n0]; cbv; try simp only [k1, k2, k3, k4, k5, k6, k7, k8, n0]; cbv; try simp only [k1, k2, k3, k4, k5, k6, k7, k8, n0]; cbv) ?_
 refine on_cond rfl (fun c1 => ?_) (fun c1 => ?_)
 ·
  simp [ee] at c1
 simp [ee] at c1
 clear c1
 refine goB hX 0 (by conv => lhs; cbv; try simp only [k1, k2, k3, k4, k5, k6, k7, k8, n0]; cbv; try simp only [k1, k2, k3, k4, k5, k6, k7, k8, n0]; cbv; try simp only [k1, k2, k3, k4, k5, k6, k7, k8, n0]; cbv; try simp only [k1, k2, k3, k4, k5, k6, k7, k8, n0]; cbv) ?_
 refine oPA p2 ?_
 refine goA 60 ?_
 refine oPA p3 ?_
 refine goB hX 0 (by conv => lhs; cbv; try simp only [k1, k2, k3, k4, k5, k6, k7, k8, n0]; cbv; try simp only [k1, k2, k3, k4, k5, k6, k7, k8, n0]; cbv; try simp only [k1, k2, k3, k4, k5, k6, k7, k8, n0]; cbv; try simp only [k1, k2, k3, k4, k5, k6, k7, k8, n0]; cbv) ?_
 refine tr_drawB rfl (by conv => lhs; cbv) rfl ?_
 refine tr_gof 5 hX (by conv => lhs; cbv; try simp only [k1, k2]; cbv; try simp only [k1, k2]; cbv; try simp only [k1, k2]; cbv; try simp only [k1, k2]; cbv) ?_ ?_
 · first | exact trivial | (simp only [Cd.ok]; and_intros <;> first | omega | rfl | (simp <;> omega))
 refine tr_bslf rfl rfl rfl rfl ?_
 refine tgB hX (by conv => lhs; cbv; try simp only [k1, k2]; cbv; try simp only [k1, k2]; cbv; try simp only [k1, k2]; cbv; try simp only [k1, k2]; cbv) ?_
 refine oPT p4 ?_
 refine tgA ?_
 refine tr_nil ⟨rfl, ?_, ?_⟩
 · simp only [LooksL, lookAll, List.cons_append, List.nil_append, List.append_nil]; and_intros <;> first | trivial | (intro hp; first | rfl | exact absurd (show false = true from hp) Bool.false_ne_true)
 refine goB hX 0 (by conv => lhs; cbv; try simp only [k1, k2, k3, k4, k5, k6, k7, k8, n0]; cbv; try simp only [k1, k2, k3, k4, k5, k6, k7, k8, n0]; cbv; try simp only [k1, k2, k3, k4, k5, k6, k7, k8, n0]; cbv; try simp only [k1, k2, k3, k4, k5, k6, k7, k8, n0]; cbv) ?_
 refine on_entO (F' := [(58, .agg [str nm0, .isl 2 fs0]), (61, .agg [str ⟨#[116]⟩, .isl 2 [.agg [str ⟨#[112, 114, 105, 99, 101]⟩, int 1]]]), (4, int 1), (5, int 0), (6, str ⟨#[116, 114, 97, 100, 101, 32, 115, 121, 109, 98, 111, 108, 58, 115, 116, 114, 105, 110, 103, 32, 112, 114, 105, 99, 101, 58, 105, 110, 116, 10, 99, 108, 111, 99, 107, 10]⟩), (7, int 0), (8, .fn 33 []), (11, .isl 1 [int 1, int 0]), (12, bool true), (13, int 0)]) (H' := []) (ent_sub [.gone, .gone, .isl 2 [.agg [str ⟨#[112, 114, 105, 99, 101]⟩, int 1]]] [] ⟨trivial, trivial, ⟨_, rfl, rfl⟩, trivial⟩ trivial ⟨.cl kcB, .refl _, .refl _, .refl _, .refl _, .refl _, .refl _, .refl _, .refl _, .refl _, trivial⟩) ?_
 refine oPA p5 ?_
 refine goB hX 0 (by conv => lhs; cbv; try simp only [k1, k2, k3, k4, k5, k6, k7, k8, n0]; cbv; try simp only [k1, k2, k3, k4, k5, k6, k7, k8, n0]; cbv; try simp only [k1, k2, k3, k4, k5, k6, k7, k8, n0]; cbv; try simp only [k1, k2, k3, k4, k5, k6, k7, k8, n0]; cbv) ?_
 refine on_guard rfl rfl (fun c1 => ?_) (fun c1 => ?_)
 rotate_left
 ·
  simp [ee] at c1
 simp [ee] at c1
 clear c1
 refine goA 60 ?_
 refine on_lend rfl rfl p6 rfl ⟨[.isl 1 [int 1, int 0]], ⟨⟨_, rfl, rfl⟩, trivial⟩, ⟨.refl _, .of rfl, trivial⟩⟩ ?_
 refine goB hX 0 (by conv => lhs; cbv; try simp only [k1, k2, k3, k4, k5, k6, k7, k8, n0]; cbv; try simp only [k1, k2, k3, k4, k5, k6, k7, k8, n0]; cbv; try simp only [k1, k2, k3, k4, k5, k6, k7, k8, n0]; cbv; try simp only [k1, k2, k3, k4, k5, k6, k7, k8, n0]; cbv) ?_
 refine on_guard rfl rfl (fun c2 => ?_) (fun c2 => ?_)
 rotate_left
 ·
  simp [ee] at c2
 simp [ee] at c2
 clear c2
 refine goA 60 ?_
 refine on_gpcallv (args := [str ⟨#[116, 114, 97, 100, 101, 32, 112, 114, 105, 99, 101, 58, 105, 110, 116, 32, 112, 114, 105, 99, 101, 58, 98, 111, 111, 108]⟩, int 16, int 7]) rfl rfl rfl rfl rfl p7 rfl ?_
 refine goA 60 ?_
 refine on_gpcallv (args := [str ⟨#[116, 114, 97, 100, 101, 32, 112, 114, 105, 99, 101]⟩, int 6, int 4]) rfl rfl rfl rfl rfl p8 rfl ?_
 refine goA 60 ?_
 refine on_gpcallv (args := [str ⟨#[116, 114, 97, 100, 101, 32, 116, 105, 109, 101, 58, 105, 110, 116]⟩, int 6, int 8]) rfl rfl rfl rfl rfl p9 rfl ?_
 refine goA 60 ?_
 refine on_gpcallv (args := [str ⟨#[57, 32, 120]⟩, int 0, int 8]) rfl rfl rfl rfl rfl p0 rfl ?_
 refine goA 60 ?_
 refine fn_ret rfl rfl (.val ?_)
 rfl
theorem enters_slices_Reverse___api_Field_api_Field_ : Enters EE.P 30 := enters_of (fn := Tryd.f30) (n := 28) (ac := Trydc30) rfl (by decide) Trydp30
theorem two_ends {α : Type} : ∀ m : List α, m.length < 2 ∨ ∃ x m' y, m = x :: (m' ++ [y])
 | [] => .inl (by simp)
 | [_] => .inl (by simp)
 | x :: z :: r => .inr ⟨x, (z :: r).dropLast, (z :: r).getLast (by simp), by rw [List.dropLast_concat_getLast]⟩
theorem C_Reverse (l : List Fld) (n : Nat) (hn : n = l.length) (hl : l.length < 1152921504606846976) :
 ACall EE 30 [.sl 0 2 0 n] [.arr 2 (mapE Fld.enc l)] fun v H' => v = .tup [] ∧ H' = [.arr 2 (mapE Fld.enc l.reverse)] := by
 refine wordsN ?_; unhygienic intros
 have kn : iOf n = (l.length : Int) := by simp only [ee]; rw [hn]
 have hm1 : iSub .i64 (iOf n) 1 = (l.length : Int) - 1 := by
  rw [kn, e_iSub]; exact wrap64 (by omega) (by omega)
 obtain ⟨j0, hj0⟩ : ∃ j0 : Int, j0 = iSub .i64 (iOf n) 1 := ⟨_, rfl⟩
 obtain ⟨L0, hL0⟩ : ∃ L0, L0 = mapE Fld.enc l := ⟨_, rfl⟩
 rw [← hL0]
 refine rcall_body (fn := Tryd.f30) (n := 28) (ac := Trydc30) (rvs := []) rfl Trydp30 rfl rfl rfl ?_
 refine goA 60 ?_
 refine on_loopP (ι := List Fld × List Fld × List Fld × Int × Int × List AV) (fun p => ([(3, int p.2.2.2.2.1), (2, int p.2.2.2.1), (0, .sl 0 2 0 n)], [.arr 2 p.2.2.2.2.2])) (fun p => l = p.1 ++ (p.2.1 ++ p.2.2.1) ∧ p.1.length = p.2.2.1.length ∧ p.2.2.2.1 = p.1.length ∧ p.2.2.2.2.1 = (p.1.length : Int) + p.2.1.length - 1 ∧ p.2.2.2.2.2 = mapE Fld.enc (p.2.2.1.reverse ++ (p.2.1 ++ p.1.reverse))) (fun p => p.2.1.length) ([], l, [], 0, iSub .i64 (iOf n) 1, L0) ⟨by simp, rfl, rfl, by rw [hm1]; simp, by rw [hL0]; simp⟩ ?_ ?_
 · exact ent_fw ⟨.refl _, .refl _, .refl _, trivial⟩
 rintro ⟨a, m, b, i, j, L⟩ ⟨g1, g2, gi, gj, gL⟩
 dsimp only at g1 g2 gi gj gL ⊢
 have L1 := congrArg List.length g1
 simp only [List.length_append] at L1
 rcases two_ends m with h | ⟨x, m', y, rfl⟩
 · have hc : iLt i j = false := by simp only [ee]; simp; omega
   have e1 : mapE Fld.enc l.reverse = L := by
    rw [gL, g1]
    have : m.reverse = m := by
     match m, h with
     | [], _ => rfl
     | [_], _ => rfl
     | _ :: _ :: _, h => exact absurd h (by simp)
    rw [List.reverse_append, List.reverse_append, this, List.append_assoc]
   rw [e1]
   refine goB hX 0 (by conv => lhs; cbv; try simp only [hc]; cbv; try simp only [hc]; cbv; try simp only [hc]; cbv; try simp only [hc]; cbv) ?_
   refine goA 60 ?_
   refine loopP_exit ?_
   refine goA 60 ?_
   exact o_norm (.refl _ _ _ _ _) rfl ⟨rfl, rfl⟩
 · simp only [List.length_cons, List.length_append, List.length_nil] at gj L1
   have hc : iLt i j = true := by simp only [ee]; simp; omega
   have hi2 : iAdd .i64 i 1 = ((a.length + 1 : Nat) : Int) := inc_w e_iAdd gi (by omega)
   have hj2 : iSub .i64 j 1 = (a.length : Int) + m'.length := by
    rw [e_iSub]; show IntKind.i64.wrap _ = _; rw [wrap64 (by omega) (by omega)]; omega
   have kxi : idxN 0 i = a.length := by simp only [ee]; rw [gi]; simp
   have kxj : idxN 0 j = a.length + 1 + m'.length := by simp only [ee]; rw [gj]; omega
   obtain ⟨p, hp⟩ : ∃ p, p = a.length := ⟨_, rfl⟩
   obtain ⟨q, hq⟩ : ∃ q, q = a.length + 1 + m'.length := ⟨_, rfl⟩
   rw [← hp] at kxi
   rw [← hq] at kxj
   have hb0 : p = (mapE Fld.enc b.reverse).length := by rw [mapE_len, hp, g2]; simp
   have eL : L = mapE Fld.enc b.reverse ++ (x.enc :: (mapE Fld.enc m' ++ (y.enc :: mapE Fld.enc a.reverse))) := by
    rw [gL]; simp [mapE_eq]
   have ha1 : atN L p = x.enc := by simp only [ee]; rw [eL, hb0]; simp
   have hml : (mapE Fld.enc m').length = m'.length := mapE_len _ _
   have hq2 : q = (mapE Fld.enc b.reverse ++ (x.enc :: mapE Fld.enc m')).length := by rw [List.length_append, ← hb0, List.length_cons, hml, hq, hp]; omega
   have eL2 : L = (mapE Fld.enc b.reverse ++ (x.enc :: mapE Fld.enc m')) ++ (y.enc :: mapE Fld.enc a.reverse) := by rw [eL]; simp
   have ha2 : atN L q = y.enc := by simp only [ee]; rw [eL2, hq2]; simp
   have hs1 : setA L p y.enc = mapE Fld.enc b.reverse ++ (y.enc :: (mapE Fld.enc m' ++ (y.enc :: mapE Fld.enc a.reverse))) := by simp only [ee]; rw [eL, hb0]; simp
   have hs2 : setA (setA L p y.enc) q x.enc = mapE Fld.enc ((y :: b).reverse ++ (m' ++ (a ++ [x]).reverse)) := by
    rw [hs1, show mapE Fld.enc b.reverse ++ (y.enc :: (mapE Fld.enc m' ++ (y.enc :: mapE Fld.enc a.reverse))) = (mapE Fld.enc b.reverse ++ (y.enc :: mapE Fld.enc m')) ++ (y.enc :: mapE Fld.enc a.reverse) by simp]
    have : q = (mapE Fld.enc b.reverse ++ (y.enc :: mapE Fld.enc m')).length := by rw [hq2]; simp
    simp only [ee]
    rw [this]
    simp [mapE_eq]
   have hln : L.length = n := by rw [gL, mapE_len, hn, g1]; simp; omega
   have hpl : p < L.length := by omega
   have hql : q < L.length := by omega
   have hpl2 : q < (setA L p y.enc).length := by simp only [ee]; rw [List.length_set]; exact hql
   have hib : i < iOf n := by rw [kn]; omega
   have hjb : j < iOf n := by rw [kn]; omega
   have hi0 : 0 ≤ i := by omega
   have hj0' : 0 ≤ j := by omega
   rw [Fld.enc_eq] at ha1 ha2
   rw [Fld.enc_eq x, Fld.enc_eq y] at hs2
   rw [Fld.enc_eq y] at hpl2
   generalize ba x.nm = xs at *
   generalize ba y.nm = ys at *
   generalize x.kd = xk at *
   generalize y.kd = yk at *
   clear hs1 eL eL2
   refine goB hX 0 (by conv => lhs; cbv; try simp only [hc]; cbv; try simp only [hc]; cbv; try simp only [hc]; cbv; try simp only [hc]; cbv) ?_
   refine goB hX 1 (by conv => lhs; cbv; try simp only [hc, kxi, kxj, ha1, ha2]; cbv; try simp only [hc, kxi, kxj, ha1, ha2]; cbv; try simp only [hc, kxi, kxj, ha1, ha2]; cbv; try simp only [hc, kxi, kxj, ha1, ha2]; cbv) ?_
   refine tr_drawB rfl (by conv => lhs; cbv) rfl ?_
   refine tgB hX (by conv => lhs; cbv; try simp only [kxi, kxj, ha1, ha2]; cbv; try simp only [kxi, kxj, ha1, ha2]; cbv; try simp only [kxi, kxj, ha1, ha2]; cbv; try simp only [kxi, kxj, ha1, ha2]; cbv) ?_
   refine tr_nil ⟨rfl, ?_, ?_⟩
   · simp only [LooksL, lookAll, List.append_nil]; and_intros <;> first | trivial | (intro hp; first | rfl | exact absurd (show false = true from hp) Bool.false_ne_true)
   refine goA 60 ?_
   exact loopP_next (a ++ [x], m', y :: b, iAdd .i64 i 1, iSub .i64 j 1, setA (setA L p (.agg [str ys, int yk])) q (.agg [str xs, int xk])) ⟨by rw [g1]; simp, by simp [g2], by rw [hi2]; simp, by rw [hj2]; simp; omega, hs2⟩ (by simp; omega) (ent_fw ⟨.refl _, .refl _, .refl _, trivial⟩)
theorem enters_slices_Clone___api_Field_api_Field_ : Enters EE.P 29 := enters_of (fn := Tryd.f29) (n := 8) (ac := Trydc29) rfl (by decide) Trydp29
theorem fit_fld (l : List Fld) : fitB 2 (mapE Fld.enc l) = true := by
 rw [mapE_eq, fitB, List.all_map, List.all_eq_true]
 intro f _
 rw [Function.comp_apply, Fld.enc_eq]; rfl
theorem C_Clone (l : List Fld) (n : Nat) (hn : n = l.length) (hl : l.length ≤ 1048576) :
 ACall EE 29 [.isl 2 (mapE Fld.enc l)] [] fun v H' => (l = [] ∧ v = .val (.slice none 0 0) ∧ H' = []) ∨ (v = .sl 0 2 0 n ∧ H' = [.arr 2 (mapE Fld.enc l)]) := by
 have kcL := Fld.closedL l
 have kft := fit_fld l
 refine wordsN ?_; unhygienic intros
 have hel := mapE_len Fld.enc l
 generalize hes : mapE Fld.enc l = es at *
 refine rcall_body (fn := Tryd.f29) (n := 8) (ac := Trydc29) (rvs := [.t 2]) rfl Trydp29 rfl rfl rfl ?_
 have ke1 : addN 0 (lenN es) = n := by simp only [ee]; omega
 have ke2 : catA (dropA [] 0) es = es := by simp only [ee]; rfl
 refine goA 60 ?_
 refine on_eqnilI rfl rfl rfl rfl (fun t ht => ?_)
 cases t with
 | true =>
  have he := ht rfl
  have hl0 : l = [] := by
   cases l with
   | nil => rfl
   | cons f r => rw [he] at hel; simp at hel
  refine goA 60 ?_
  exact o_ret (F2 := [(2, .val (.slice none 0 0))]) (H2 := []) (ent_fw ⟨.refl _, trivial⟩) rfl (.inl ⟨hl0, rfl, rfl⟩)
 | false =>
  refine goA 60 ?_
  (rw [ke1, ke2]; exact o_ret (F2 := [(2, .sl 0 2 0 n)]) (H2 := [.arr 2 es]) (ent_subN [.gone, .to 0] [some 1] trivial (by simp) (by simp) ⟨trivial, ⟨by simp, rfl⟩, trivial⟩ ⟨osrc_arr (b := 1) rfl rfl rfl rfl kcL, trivial⟩ ⟨.refl _, trivial⟩) rfl (.inr ⟨rfl, rfl⟩))
end Go.Am
end
