/- Contracts of the program's functions, for every argument that meets the conditions that each theorem names. -/
import Derived.Test.YtehpdnkachbakaaDoorAm6
import Derived.Test.YtehpdnkachbakaaDoorCt5
import Derived.Test.YtehpdnkachbakaaDoorCt3
import Derived.Test.YtehpdnkachbakaaDoorCt2
import Derived.Test.YtehpdnkachbakaaDoorCt4
section
set_option maxHeartbeats 16000000
set_option maxRecDepth 100000
namespace Go.Am
open Go.Proofs
theorem P_lawWraps (p : Pat) (e : Ex) (hs : p.Sm) (he : e.Sm) : PCall EE 3 [p.enc, e.enc] (bool true) := by
 have q0 := P_pattern_Size p hs
 have q1 := P_ref15_Few p hs
 have q2 := P_ref08_Few e he
 have q3 := P_ref08_Check e he
 have q4 := P_awake
 have q5 := P_scCheck p hs
 have q6 := fun h => P_scCheck (wrapP 7 p e) (wrap_sm hs he h)
 have q7 := P_Returns p [e] hs (fun x hx => by rw [List.mem_singleton.1 hx]; exact he) (by simp)
 have hpl := fun h1 h2 h3 h4 => wraps_plain (p := p) (e := e) h1 h2 h3 h4
 have kc1 := Pat.closed p
 have kc2 := Ex.closed e
 obtain ⟨n, hn⟩ : ∃ n : Int, n = (p.cnt : Int) := ⟨_, rfl⟩
 obtain ⟨d, hd⟩ : ∃ d : Int, d = (p.dep : Int) := ⟨_, rfl⟩
 rw [← hn, ← hd] at q0
 generalize p.cnt = pn at *
 generalize p.dep = pd at *
 generalize p.few = fp at *
 generalize e.few = fe at *
 generalize e.chk = ec at *
 generalize p.scE = se at *
 generalize p.scI = si at *
 generalize p.rtE [e] = re at *
 generalize p.rtI [e] = ri at *
 generalize (wrapP 7 p e).scE = we at *
 generalize (wrapP 7 p e).scI = wi at *
 generalize e.fol p.retP = fo at *
 obtain ⟨eO, eA, eV, eF, eK, eXk, eXn, eXt, hxe⟩ := Ex.form e
 have hw := Pat.enc_c 7 [p] 0 0 0 0 hxe
 unfold wrapP at q6
 rw [hw] at q6
 simp only [mapE_eq, List.map_cons, List.map_nil, List.cons_append, List.nil_append] at q6 q7
 obtain ⟨pO, pA, pT, pV, pS, pN, pCo, pCa, pCv, pCf, pCk, pXk, pXn, pXt, hx⟩ := Pat.form p
 rw [hx] at q0 q1 q5 q6 q7 kc1 ⊢
 rw [hxe] at q2 q3 q7 kc2 ⊢
 clear hx hxe hs he hw
 have kL1 : AV.closedL [.agg [int pO, .isl 14 pA, int pT, int pV, int pS, int pN, int pCo, .isl 8 pCa, int pCv, int pCf, int pCk, int pXk, int pXn, str pXt]] = true := closed1 kc1
 have kL2 : AV.closedL [.agg [int eO, .isl 8 eA, int eV, int eF, int eK, int eXk, int eXn, str eXt]] = true := closed1 kc2
 have kE : (AV.isl 8 eA).closed = true := by have := kc2; simp [AV.closed, AV.closedL] at this ⊢; exact this
 refine wordsN ?_; unhygienic intros
 have t1 : ∀ x : Int, iEq x x = true := fun x => by simp only [ee]; simp
 have n0 : bNot false = true := by simp only [ee]; rfl
 have n1 : bNot true = false := by simp only [ee]; rfl
 refine fn_body (fn := Tryd.f3) (n := 77) (ac := Trydc3) (rvs := [.t 4]) rfl (by decide) Trydp3 rfl rfl rfl ?_
 cases fp with
 | false =>
  refine goA 60 ?_
  refine oPA q0 ?_
  refine goA 60 ?_
  refine oPA q1 ?_
  refine goB hX 0 (by conv => lhs; cbv; try simp only [n0]; cbv; try simp only [n0]; cbv; try simp only [n0]; cbv; try simp only [n0]; cbv) ?_
  refine goA 60 ?_
  refine on_gskip rfl rfl ?_
  refine goB hX 0 (by conv => lhs; cbv; try simp only [n0]; cbv; try simp only [n0]; cbv; try simp only [n0]; cbv; try simp only [n0]; cbv) ?_
  refine on_guard rfl rfl (fun c1 => ?_) (fun c1 => ?_)
  ·
   simp [ee] at c1
   refine goA 60 ?_
   refine on_gskip rfl rfl ?_
   refine goA 60 ?_
   refine oPA q4 ?_
   refine goA 60 ?_
   refine fn_ret rfl rfl (.val ?_)
   rfl
  ·
   simp [ee] at c1
 | true =>
 cases fe with
 | false =>
  refine goA 60 ?_
  refine oPA q0 ?_
  refine goA 60 ?_
  refine oPA q1 ?_
  refine goB hX 0 (by conv => lhs; cbv; try simp only [n0, n1]; cbv; try simp only [n0, n1]; cbv; try simp only [n0, n1]; cbv; try simp only [n0, n1]; cbv) ?_
  refine goA 60 ?_
  refine oPG q2 ?_
  refine goB hX 0 (by conv => lhs; cbv; try simp only [n0, n1]; cbv; try simp only [n0, n1]; cbv; try simp only [n0, n1]; cbv; try simp only [n0, n1]; cbv) ?_
  refine on_guard rfl rfl (fun c1 => ?_) (fun c1 => ?_)
  ·
   simp [ee] at c1
   refine goA 60 ?_
   refine on_gskip rfl rfl ?_
   refine goA 60 ?_
   refine oPA q4 ?_
   refine goA 60 ?_
   refine fn_ret rfl rfl (.val ?_)
   rfl
  ·
   simp [ee] at c1
 | true =>
 by_cases h1 : 64 ≤ n
 · have k1 : iLe 64 n = true := by simp only [ee]; simpa using h1
   refine goA 60 ?_
   refine oPA q0 ?_
   refine goA 60 ?_
   refine oPA q1 ?_
   refine goB hX 0 (by conv => lhs; cbv; try simp only [n1, k1]; cbv; try simp only [n1, k1]; cbv; try simp only [n1, k1]; cbv; try simp only [n1, k1]; cbv) ?_
   refine goA 60 ?_
   refine oPG q2 ?_
   refine goB hX 0 (by conv => lhs; cbv; try simp only [n1, k1]; cbv; try simp only [n1, k1]; cbv; try simp only [n1, k1]; cbv; try simp only [n1, k1]; cbv) ?_
   refine on_guard rfl rfl (fun c1 => ?_) (fun c1 => ?_)
   ·
    simp [ee] at c1
    refine goA 60 ?_
    refine on_gskip rfl rfl ?_
    refine goA 60 ?_
    refine oPA q4 ?_
    refine goA 60 ?_
    refine fn_ret rfl rfl (.val ?_)
    rfl
   ·
    simp [ee] at c1
 have k1 : iLe 64 n = false := by simp only [ee]; simpa using h1
 by_cases h2 : 12 ≤ d
 · have k2 : iLe 12 d = true := by simp only [ee]; simpa using h2
   refine goA 60 ?_
   refine oPA q0 ?_
   refine goA 60 ?_
   refine oPA q1 ?_
   refine goB hX 0 (by conv => lhs; cbv; try simp only [n1, k1, k2]; cbv; try simp only [n1, k1, k2]; cbv; try simp only [n1, k1, k2]; cbv; try simp only [n1, k1, k2]; cbv) ?_
   refine goA 60 ?_
   refine oPG q2 ?_
   refine goB hX 0 (by conv => lhs; cbv; try simp only [n1, k1, k2]; cbv; try simp only [n1, k1, k2]; cbv; try simp only [n1, k1, k2]; cbv; try simp only [n1, k1, k2]; cbv) ?_
   refine on_guard rfl rfl (fun c1 => ?_) (fun c1 => ?_)
   ·
    simp [ee] at c1
    refine goA 60 ?_
    refine on_gskip rfl rfl ?_
    refine goA 60 ?_
    refine oPA q4 ?_
    refine goA 60 ?_
    refine fn_ret rfl rfl (.val ?_)
    rfl
   ·
    simp [ee] at c1
 have k2 : iLe 12 d = false := by simp only [ee]; simpa using h2
 by_cases h3 : ec = 0
 rotate_left
 · have k3 : iNe ec 0 = true := by simp only [ee]; simpa using h3
   refine goA 60 ?_
   refine oPA q0 ?_
   refine goA 60 ?_
   refine oPA q1 ?_
   refine goB hX 0 (by conv => lhs; cbv; try simp only [n1, k1, k2, k3]; cbv; try simp only [n1, k1, k2, k3]; cbv; try simp only [n1, k1, k2, k3]; cbv; try simp only [n1, k1, k2, k3]; cbv) ?_
   refine goA 60 ?_
   refine oPG q2 ?_
   refine goB hX 0 (by conv => lhs; cbv; try simp only [n1, k1, k2, k3]; cbv; try simp only [n1, k1, k2, k3]; cbv; try simp only [n1, k1, k2, k3]; cbv; try simp only [n1, k1, k2, k3]; cbv) ?_
   refine on_guard rfl rfl (fun c1 => ?_) (fun c1 => ?_)
   ·
    simp [ee] at c1
   ·
    simp [ee] at c1
    refine goA 60 ?_
    refine oPG q3 ?_
    refine goB hX 0 (by conv => lhs; cbv; try simp only [n1, k1, k2, k3]; cbv; try simp only [n1, k1, k2, k3]; cbv; try simp only [n1, k1, k2, k3]; cbv; try simp only [n1, k1, k2, k3]; cbv) ?_
    refine on_cond rfl (fun c2 => ?_) (fun c2 => ?_)
    ·
     simp [ee] at c2
     refine goA 60 ?_
     refine oPA q4 ?_
     refine goA 60 ?_
     refine fn_ret rfl rfl (.val ?_)
     rfl
    ·
     simp [ee] at c2
 have k3 : iNe ec 0 = false := by simp only [ee]; simpa using h3
 by_cases h4 : se = 0
 rotate_left
 · have k4 : iNe se 0 = true := by simp only [ee]; simpa using h4
   refine goA 60 ?_
   refine oPA q0 ?_
   refine goA 60 ?_
   refine oPA q1 ?_
   refine goB hX 0 (by conv => lhs; cbv; try simp only [n1, k1, k2, k3, k4]; cbv; try simp only [n1, k1, k2, k3, k4]; cbv; try simp only [n1, k1, k2, k3, k4]; cbv; try simp only [n1, k1, k2, k3, k4]; cbv) ?_
   refine goA 60 ?_
   refine oPG q2 ?_
   refine goB hX 0 (by conv => lhs; cbv; try simp only [n1, k1, k2, k3, k4]; cbv; try simp only [n1, k1, k2, k3, k4]; cbv; try simp only [n1, k1, k2, k3, k4]; cbv; try simp only [n1, k1, k2, k3, k4]; cbv) ?_
   refine on_guard rfl rfl (fun c1 => ?_) (fun c1 => ?_)
   ·
    simp [ee] at c1
   ·
    simp [ee] at c1
    refine goA 60 ?_
    refine oPG q3 ?_
    refine goB hX 0 (by conv => lhs; cbv; try simp only [n1, k1, k2, k3, k4]; cbv; try simp only [n1, k1, k2, k3, k4]; cbv; try simp only [n1, k1, k2, k3, k4]; cbv; try simp only [n1, k1, k2, k3, k4]; cbv) ?_
    refine on_cond rfl (fun c2 => ?_) (fun c2 => ?_)
    ·
     simp [ee] at c2
    ·
     simp [ee] at c2
     refine goA 60 ?_
     refine oPA q5 ?_
     refine goB hX 0 (by conv => lhs; cbv; try simp only [n1, k1, k2, k3, k4]; cbv; try simp only [n1, k1, k2, k3, k4]; cbv; try simp only [n1, k1, k2, k3, k4]; cbv; try simp only [n1, k1, k2, k3, k4]; cbv) ?_
     refine goA 60 ?_
     refine oPA q4 ?_
     refine goA 60 ?_
     refine fn_ret rfl rfl (.val ?_)
     rfl
 have k4 : iNe se 0 = false := by simp only [ee]; simpa using h4
 obtain ⟨r1, r2, r3, r4⟩ := hpl h3 h4 (by omega) (by omega)
 subst r1 r2 r3 r4
 have q6 := q6 (by omega)
 clear hpl
 refine goA 60 ?_
 refine oPA q0 ?_
 refine goA 60 ?_
 refine oPA q1 ?_
 refine goB hX 0 (by conv => lhs; cbv; try simp only [n1, k1, k2, k3, k4, t1]; cbv; try simp only [n1, k1, k2, k3, k4, t1]; cbv; try simp only [n1, k1, k2, k3, k4, t1]; cbv; try simp only [n1, k1, k2, k3, k4, t1]; cbv) ?_
 refine goA 60 ?_
 refine oPG q2 ?_
 refine goB hX 0 (by conv => lhs; cbv; try simp only [n1, k1, k2, k3, k4, t1]; cbv; try simp only [n1, k1, k2, k3, k4, t1]; cbv; try simp only [n1, k1, k2, k3, k4, t1]; cbv; try simp only [n1, k1, k2, k3, k4, t1]; cbv) ?_
 refine on_guard rfl rfl (fun c1 => ?_) (fun c1 => ?_)
 ·
  simp [ee] at c1
 ·
  simp [ee] at c1
  refine goA 60 ?_
  refine oPG q3 ?_
  refine goB hX 0 (by conv => lhs; cbv; try simp only [n1, k1, k2, k3, k4, t1]; cbv; try simp only [n1, k1, k2, k3, k4, t1]; cbv; try simp only [n1, k1, k2, k3, k4, t1]; cbv; try simp only [n1, k1, k2, k3, k4, t1]; cbv) ?_
  refine on_cond rfl (fun c2 => ?_) (fun c2 => ?_)
  ·
   simp [ee] at c2
  ·
   simp [ee] at c2
   refine goA 60 ?_
   refine oPA q5 ?_
   refine goB hX 0 (by conv => lhs; cbv; try simp only [n1, k1, k2, k3, k4, t1]; cbv; try simp only [n1, k1, k2, k3, k4, t1]; cbv; try simp only [n1, k1, k2, k3, k4, t1]; cbv; try simp only [n1, k1, k2, k3, k4, t1]; cbv) ?_
   refine goA 60 ?_
   refine on_lend rfl rfl q6 rfl ⟨[.gone, .gone, .isl 14 ([AV.agg [AV.val (Value.int IntKind.i64 pO), AV.isl 14 pA, AV.val (Value.int IntKind.i64 pT), AV.val (Value.int IntKind.i64 pV), AV.val (Value.int IntKind.i64 pS), AV.val (Value.int IntKind.i64 pN), AV.val (Value.int IntKind.i64 pCo), AV.isl 8 pCa, AV.val (Value.int IntKind.i64 pCv), AV.val (Value.int IntKind.i64 pCf), AV.val (Value.int IntKind.i64 pCk), AV.val (Value.int IntKind.i64 pXk), AV.val (Value.int IntKind.i64 pXn), AV.val (Value.string pXt)]])], ⟨trivial, trivial, ⟨_, rfl, (subL_closed _ kL1).symm⟩, trivial⟩, ⟨.agg' ⟨.refl _, .refl _, .refl _, .refl _, .refl _, .refl _, .refl _, .cl kE, .refl _, .refl _, .refl _, .refl _, .refl _, .refl _, trivial⟩, trivial⟩⟩ ?_
   refine goA 60 ?_
   refine on_lend rfl rfl q7 rfl ⟨[.gone, .gone, .gone, .isl 8 ([AV.agg [AV.val (Value.int IntKind.i64 eO), AV.isl 8 eA, AV.val (Value.int IntKind.i64 eV), AV.val (Value.int IntKind.i64 eF), AV.val (Value.int IntKind.i64 eK), AV.val (Value.int IntKind.i64 eXk), AV.val (Value.int IntKind.i64 eXn), AV.val (Value.string eXt)]])], ⟨trivial, trivial, trivial, ⟨_, rfl, (subL_closed _ kL2).symm⟩, trivial⟩, ⟨.cl kc1, .refl _, trivial⟩⟩ ?_
   refine goB hX 0 (by conv => lhs; cbv; try simp only [n1, k1, k2, k3, k4, t1]; cbv; try simp only [n1, k1, k2, k3, k4, t1]; cbv; try simp only [n1, k1, k2, k3, k4, t1]; cbv; try simp only [n1, k1, k2, k3, k4, t1]; cbv) ?_
   refine on_guard rfl rfl (fun c3 => ?_) (fun c3 => ?_)
   ·
    simp [ee] at c3
    refine oPG q4 ?_
    refine goA 60 ?_
    refine fn_ret rfl rfl (.val ?_)
    rfl
   ·
    simp [ee] at c3
theorem bound_sub {p q : Pat} (h : q ∈ p.nodes) : ∀ n ∈ q.bound, n ∈ p.bound := fun n hn => by
 rw [Pat.bound_mem] at hn ⊢
 unfold bndF at hn ⊢
 obtain ⟨x, hx, rfl⟩ := List.mem_map.1 hn
 obtain ⟨h1, h2⟩ := List.mem_filter.1 hx
 exact List.mem_map.2 ⟨x, List.mem_filter.2 ⟨(cnt_node p q h).2.2 x h1, h2⟩, rfl⟩
theorem arg_nodes {o a t v s n c} {e : Pat} (he : e ∈ a) : e ∈ (Pat.mk o a t v s n c).nodes := by
 rw [Pat.nodes]
 obtain ⟨d, r, rfl⟩ := List.append_of_mem he
 simp [Pat.nodesL_append, Pat.nodesL, Pat.nodes_eq e]
theorem ones_bd : ∀ p : Pat, ∀ n ∈ p.ones, n ∈ p.bound := Pat.ind fun o a t v s n c ih m hm => by
 rw [Pat.ones] at hm
 split at hm
 · split at hm
   · rename_i _ h0
     simp at hm
     subst hm
     rw [Pat.bound_mem, Pat.nodes, bndF_cons, if_pos (show (Pat.mk o a t m s n c).op = 0 from h0)]
     simp [Pat.var]
   · have hL : ∀ (r : List Pat) (acc : List Int), (∀ e ∈ r, e ∈ a) → (∀ k ∈ acc, k ∈ (Pat.mk o a t v s n c).bound) → ∀ k ∈ Pat.onesL acc r, k ∈ (Pat.mk o a t v s n c).bound := by
      intro r
      induction r with
      | nil => intro acc _ ha; rw [Pat.onesL]; exact ha
      | cons x r ihr =>
       intro acc hm ha
       rw [Pat.onesL]
       refine ihr _ (fun e he => hm e (by simp [he])) fun k hk => ?_
       rcases (uni_mem _ _ _).1 hk with h | h
       · exact ha k h
       · exact bound_sub (arg_nodes (hm x (by simp))) k (ih x (hm x (by simp)) k h)
     exact hL a [] (fun _ h => h) (fun _ h => by cases h) m hm
 · cases hm
def Below (m : Nat) (l : List Pat) : Prop := ∀ q ∈ l, typedF q.op = true → 0 ≤ q.var ∧ q.var < m
def Plc.nn (l : Plc) : Prop := (∀ n ∈ l.us, 0 ≤ n) ∧ ∀ n ∈ l.si, 0 ≤ n
theorem bound_nn {m : Nat} {p : Pat} (h : Below m p.nodes) : ∀ n ∈ p.bound, 0 ≤ n := fun n hn => by
 rw [Pat.bound_mem] at hn
 unfold bndF at hn
 obtain ⟨q, hq, rfl⟩ := List.mem_map.1 hn
 obtain ⟨h1, h2⟩ := List.mem_filter.1 hq
 exact (h q h1 (by rw [show q.op = 0 by simpa using h2]; rfl)).1
theorem ones_nn {m : Nat} {p : Pat} (h : Below m p.nodes) : ∀ n ∈ p.ones, 0 ≤ n := fun n hn => bound_nn h n (ones_bd p n hn)
theorem Plc.nn.plus {l : Plc} (h : l.nn) {m : Nat} {e : Pat} (he : Below m e.nodes) : (l.plus e).nn :=
 ⟨fun n hn => by rcases (uni_mem _ _ _).1 hn with k | k; exact h.1 n k; exact bound_nn he n k, fun n hn => by rcases (uni_mem _ _ _).1 hn with k | k; exact h.2 n k; exact ones_nn he n k⟩
end Go.Am
end
