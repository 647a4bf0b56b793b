/- Contracts of the program's functions, for every argument that meets the conditions that each theorem names. -/
import Derived.Test.YtehpdnkachbakaaDoorAm6
import Derived.Test.YtehpdnkachbakaaDoorCt5
import Derived.Test.YtehpdnkachbakaaDoorCt4
import Derived.Test.YtehpdnkachbakaaDoorCt3
import Derived.Test.YtehpdnkachbakaaDoorCt2
section
set_option maxHeartbeats 16000000
set_option maxRecDepth 100000
namespace Go.Am
open Go.Proofs
def OrdV : Int → List Pat → Prop
 | _, [] => True
 | k, q :: r => (typedF q.op = true → q.var = k) ∧ OrdV (if typedF q.op = true then k + 1 else k) r
def cntV : List Pat → Int
 | [] => 0
 | q :: r => (if typedF q.op = true then 1 else 0) + cntV r
theorem cntV_pos : ∀ l, 0 ≤ cntV l
 | [] => by simp [cntV]
 | q :: r => by have := cntV_pos r; rw [cntV]; split <;> omega
theorem OrdV_append : ∀ (a b : List Pat) (k : Int), OrdV k (a ++ b) ↔ OrdV k a ∧ OrdV (k + cntV a) b
 | [], b, k => by simp [OrdV, cntV]
 | q :: a, b, k => by
  rw [List.cons_append, OrdV, OrdV, OrdV_append a b, cntV, and_assoc]
  have : (if typedF q.op = true then k + 1 else k) + cntV a = k + ((if typedF q.op = true then 1 else 0) + cntV a) := by split <;> omega
  rw [this]
theorem OrdV_mem : ∀ {l : List Pat} {k : Int}, OrdV k l → ∀ q ∈ l, typedF q.op = true → k ≤ q.var ∧ q.var < k + cntV l
 | [], _, _, _, h, _ => by cases h
 | x :: r, k, ho, q, hq, ht => by
  rw [OrdV] at ho
  rw [cntV]
  have h0 := cntV_pos r
  rcases List.mem_cons.1 hq with rfl | hq
  · have := ho.1 ht; rw [if_pos ht]; omega
  · have := OrdV_mem ho.2 q hq ht
    split at this <;> rename_i hx
    · rw [if_pos hx]; omega
    · rw [if_neg hx]; omega
theorem cfold_ord : ∀ (l : List Pat) (k m : Int), (l.foldl cstep (k, m, true)).2.2 = true → OrdV k l
 | [], _, _, _ => trivial
 | q :: r, k, m, h => by
  rw [List.foldl_cons] at h
  have hb : ∀ (l : List Pat) (s : Int × Int × Bool), (l.foldl cstep s).2.2 = true → s.2.2 = true := by
   intro l
   induction l with
   | nil => intro s h; exact h
   | cons x r ih => intro s h; have := ih _ h; simp only [cstep, Bool.and_eq_true] at this; exact this.1.1
  have h1 := hb _ _ h
  have h2 : cstep (k, m, true) q = ((if typedF q.op = true then k + 1 else k), (if scopeF q.op = true then m + 1 else m), true) := by
   have : (cstep (k, m, true) q).2.2 = true := h1
   unfold cstep at this ⊢
   dsimp only at this ⊢
   rw [this]
  rw [h2] at h
  refine ⟨fun ht => ?_, cfold_ord r _ _ h⟩
  simp only [cstep, ht, Bool.and_eq_true, Bool.true_and, Bool.not_true, Bool.false_or, beq_iff_eq] at h1
  exact h1.1
theorem chk_ord {p : Pat} (h : p.chk = 0) : OrdV 0 p.nodes := cfold_ord _ _ _ (chk_zero h).2
theorem bnd_ord {l : List Pat} {k : Int} (ho : OrdV k l) {n : Int} (hn : n ∈ bndF l) : k ≤ n ∧ n < k + cntV l := by
 unfold bndF at hn
 obtain ⟨q, hq, rfl⟩ := List.mem_map.1 hn
 obtain ⟨h1, h2⟩ := List.mem_filter.1 hq
 exact OrdV_mem ho q h1 (by rw [show q.op = 0 by simpa using h2]; rfl)
theorem lf_ordL {b : Bool} : ∀ (r : List Pat), (∀ e ∈ r, ∀ (k : Int) (l : Plc), OrdV k e.nodes → (∀ n ∈ l.us, n < k) → ∀ x ∈ Pat.lf l e, typedF x.1.op = true → ∀ n ∈ x.2.us, n < x.1.var) →
 ∀ (k : Int) (l : Plc), OrdV k (Pat.nodesL r) → (∀ n ∈ l.us, n < k) → ∀ x ∈ Pat.lfL b l r, typedF x.1.op = true → ∀ n ∈ x.2.us, n < x.1.var
 | [], _, _, _, _, _, x, hx, _ => by cases hx
 | e :: r, ih, k, l, ho, hl, x, hx, ht => by
  rw [Pat.nodesL, OrdV_append] at ho
  rw [Pat.lfL] at hx
  rcases List.mem_append.1 hx with hx | hx
  · exact ih e (by simp) k l ho.1 hl x hx ht
  · have hc := cntV_pos e.nodes
    refine lf_ordL r (fun e he => ih e (by simp [he])) (k + cntV e.nodes) _ ho.2 (fun n hn => ?_) x hx ht
    split at hn
    · rcases (uni_mem _ _ _).1 hn with h | h
      · have := hl n h; omega
      · rw [Pat.bound_mem] at h; exact (bnd_ord ho.1 h).2
    · have := hl n hn; omega
theorem lf_ord : ∀ (p : Pat) (k : Int) (l : Plc), OrdV k p.nodes → (∀ n ∈ l.us, n < k) → ∀ x ∈ Pat.lf l p, typedF x.1.op = true → ∀ n ∈ x.2.us, n < x.1.var := Pat.ind fun o a t v s n c ih k l ho hl x hx ht => by
 rw [Pat.nodes, OrdV] at ho
 rw [Pat.lf] at hx
 rcases List.mem_cons.1 hx with rfl | hx
 · intro n hn
   have := ho.1 ht
   have := hl n hn
   dsimp only at *
   omega
 · refine lf_ordL a ih _ l ho.2 (fun n hn => ?_) x hx ht
   have := hl n hn
   split <;> omega
theorem lf_bdL {b : Bool} {B : List Int} : ∀ (r : List Pat), (∀ e ∈ r, ∀ l : Plc, (∀ n ∈ l.us, n ∈ B) → (∀ n ∈ e.bound, n ∈ B) → ∀ x ∈ Pat.lf l e, ∀ n ∈ x.2.us, n ∈ B) →
 ∀ l : Plc, (∀ n ∈ l.us, n ∈ B) → (∀ e ∈ r, ∀ n ∈ e.bound, n ∈ B) → ∀ x ∈ Pat.lfL b l r, ∀ n ∈ x.2.us, n ∈ B
 | [], _, _, _, _, x, hx => by cases hx
 | e :: r, ih, l, hl, hb, x, hx => by
  rw [Pat.lfL] at hx
  rcases List.mem_append.1 hx with hx | hx
  · exact ih e (by simp) l hl (hb e (by simp)) x hx
  · refine lf_bdL r (fun e he => ih e (by simp [he])) _ (fun n hn => ?_) (fun e he => hb e (by simp [he])) x hx
    split at hn
    · rcases (uni_mem _ _ _).1 hn with h | h
      · exact hl n h
      · exact hb e (by simp) n h
    · exact hl n hn
theorem bound_sub {p q : Pat} (h : q ∈ p.nodes) : ∀ n ∈ q.bound, n ∈ p.bound := fun n hn => by
 rw [Pat.bound_mem] at hn ⊢
 unfold bndF at hn ⊢
 obtain ⟨x, hx, rfl⟩ := List.mem_map.1 hn
 obtain ⟨h1, h2⟩ := List.mem_filter.1 hx
 exact List.mem_map.2 ⟨x, List.mem_filter.2 ⟨(cnt_node p q h).2.2 x h1, h2⟩, rfl⟩
theorem arg_nodes {o a t v s n c} {e : Pat} (he : e ∈ a) : e ∈ (Pat.mk o a t v s n c).nodes := by
 rw [Pat.nodes]
 obtain ⟨d, r, rfl⟩ := List.append_of_mem he
 simp [Pat.nodesL_append, Pat.nodesL, Pat.nodes_eq e]
theorem lf_bd {B : List Int} : ∀ (p : Pat) (l : Plc), (∀ n ∈ l.us, n ∈ B) → (∀ n ∈ p.bound, n ∈ B) → ∀ x ∈ Pat.lf l p, ∀ n ∈ x.2.us, n ∈ B := Pat.ind fun o a t v s n c ih l hl hb x hx => by
 rw [Pat.lf] at hx
 rcases List.mem_cons.1 hx with rfl | hx
 · exact hl
 · exact lf_bdL a ih l hl (fun e he n hn => hb n (bound_sub (arg_nodes he) n hn)) x hx
theorem ones_bd : ∀ p : Pat, ∀ n ∈ p.ones, n ∈ p.bound := Pat.ind fun o a t v s n c ih m hm => by
 rw [Pat.ones] at hm
 split at hm
 · split at hm
   · rename_i _ h0
     simp at hm
     subst hm
     rw [Pat.bound_mem, Pat.nodes, bndF_cons, if_pos (show (Pat.mk o a t m s n c).op = 0 from h0)]
     simp [Pat.var]
   · have hL : ∀ (r : List Pat) (acc : List Int), (∀ e ∈ r, e ∈ a) → (∀ k ∈ acc, k ∈ (Pat.mk o a t v s n c).bound) → ∀ k ∈ Pat.onesL acc r, k ∈ (Pat.mk o a t v s n c).bound := by
      intro r
      induction r with
      | nil => intro acc _ ha; rw [Pat.onesL]; exact ha
      | cons x r ihr =>
       intro acc hm ha
       rw [Pat.onesL]
       refine ihr _ (fun e he => hm e (by simp [he])) fun k hk => ?_
       rcases (uni_mem _ _ _).1 hk with h | h
       · exact ha k h
       · exact bound_sub (arg_nodes (hm x (by simp))) k (ih x (hm x (by simp)) k h)
     exact hL a [] (fun _ h => h) (fun _ h => by cases h) m hm
 · cases hm
def Plc.good (l : Plc) : Prop := ∀ n ∈ l.si, n ∈ l.us
theorem lf_goodL {b : Bool} : ∀ (r : List Pat), (∀ e ∈ r, ∀ l : Plc, l.good → ∀ x ∈ Pat.lf l e, x.2.good) → ∀ l : Plc, l.good → ∀ x ∈ Pat.lfL b l r, x.2.good
 | [], _, _, _, x, hx => by cases hx
 | e :: r, ih, l, hl, x, hx => by
  rw [Pat.lfL] at hx
  rcases List.mem_append.1 hx with hx | hx
  · exact ih e (by simp) l hl x hx
  · refine lf_goodL r (fun e he => ih e (by simp [he])) _ ?_ x hx
    split
    · intro n hn
      rcases (uni_mem _ _ _).1 hn with h | h
      · exact (uni_mem _ _ _).2 (.inl (hl n h))
      · exact (uni_mem _ _ _).2 (.inr (ones_bd e n h))
    · exact hl
theorem lf_good : ∀ (p : Pat) (l : Plc), l.good → ∀ x ∈ Pat.lf l p, x.2.good := Pat.ind fun o a t v s n c ih l hl x hx => by
 rw [Pat.lf] at hx
 rcases List.mem_cons.1 hx with rfl | hx
 · exact hl
 · exact lf_goodL a ih l hl x hx
theorem own_good {q : Pat} {l : Plc} (h : l.good) : (q.own l).good := by
 unfold Pat.own
 split
 · intro n hn
   rcases (uni_mem _ _ _).1 hn with k | k
   · exact (uni_mem _ _ _).2 (.inl (h n k))
   · exact (uni_mem _ _ _).2 (.inr k)
 split
 · intro n hn
   rcases (uni_mem _ _ _).1 hn with k | k
   · exact (uni_mem _ _ _).2 (.inl ((uni_mem _ _ _).2 (.inl (h n k))))
   · exact (uni_mem _ _ _).2 (.inr k)
 · intro n hn
   rcases (uni_mem _ _ _).1 hn with k | k
   · exact (uni_mem _ _ _).2 (.inl (h n k))
   · exact (uni_mem _ _ _).2 (.inr (ones_bd _ n k))
theorem own_sorted (q : Pat) (l : Plc) : (q.own l).us.Pairwise (· < ·) ∧ (q.own l).si.Pairwise (· < ·) := by
 unfold Pat.own
 split
 · exact ⟨uni_sorted _ _, uni_sorted _ _⟩
 split
 · exact ⟨uni_sorted _ _, uni_sorted _ _⟩
 · exact ⟨uni_sorted _ _, uni_sorted _ _⟩
theorem nests_plain {p : Pat} (hk : p.chk = 0) (i : Nat) (hi : i < p.nodes.length) :
 let q := p.nodes.getD i Pat0
 (∀ n ∈ (p.atP i).si, n ∈ (p.atP i).us) ∧ (p.atP i).us.Pairwise (· ≤ ·) ∧ (p.atP i).si.Pairwise (· ≤ ·) ∧
 (p.atE i = 0 ∨ (p.atE i = 1 ∧ (p.atP i).us = [] ∧ (p.atP i).si = [])) ∧
 (q.op = 0 → ∀ n ∈ (p.atP i).us, n ≤ q.var) ∧ (q.op = 7 → ∀ n ∈ (p.atP i).us, n ∈ p.bound) ∧
 (q.op = 0 ∨ q.op = 5 → p.atE i = 0 ∧ q.var ∈ (p.atP i).si) := by
 intro q
 have hr : (0 : Int) ≤ (i : Int) ∧ (i : Int) < p.nodes.length := by omega
 have hnode : p.nodeAt i = q := by
  unfold Pat.nodeAt; rw [if_pos hr]; rfl
 have hE : p.atE i = if testsF q.op = true then 0 else 1 := by
  unfold Pat.atE; rw [if_neg (fun k => k hk), if_pos hr, hnode]
 by_cases ht : testsF q.op = true
 · rw [if_pos ht] at hE
   obtain ⟨x, hx⟩ : ∃ x, x = (Pat.lf PlcS p).getD i (Pat0, Plc0) := ⟨_, rfl⟩
   have hlen := Pat.lf_len p PlcS
   have hn := p.nodes_len
   have hm : x ∈ Pat.lf PlcS p := by rw [hx, getD_el _ (by omega)]; exact List.getElem_mem _
   have hx1 : x.1 = q := by rw [hx, lf_at]
   have hP : p.atP i = x.1.own x.2 := by
    unfold Pat.atP; rw [if_pos hE, hx]; rfl
   have hgood : x.2.good := lf_good p PlcS (fun _ h => by cases h) x hm
   have hord := lf_ord p 0 PlcS (chk_ord hk) (fun _ h => by cases h) x hm
   have hbd := lf_bd (B := p.bound) p PlcS (fun _ h => by cases h) (fun _ h => h) x hm
   have hqn : x.1 ∈ p.nodes := (Pat.lf_ok p (chk_wf hk) PlcS PlcS_ok x hm).2
   have hwf := (chk_wf hk).node hqn
   have hsorted := own_sorted x.1 x.2
   have hg := own_good (q := x.1) hgood
   rw [hP, hE, ← hx1]
   refine ⟨hg, hsorted.1.imp fun h => by omega, hsorted.2.imp fun h => by omega, .inl rfl, fun h0 n hn => ?_, fun h7 n hn => ?_, fun h05 => ⟨rfl, ?_⟩⟩
   · unfold Pat.own at hn
     rw [if_pos h0] at hn
     rcases (uni_mem _ _ _).1 hn with k | k
     · have := hord (by rw [h0]; rfl) n k; omega
     · simp at k; omega
   · unfold Pat.own at hn
     rw [if_neg (by omega), if_neg (by omega)] at hn
     rcases (uni_mem _ _ _).1 hn with k | k
     · exact hbd n k
     · obtain ⟨e, he⟩ := hwf.self.2.2.2.2 (by omega)
       have hb := bound_arg (p := x.1) (by omega) he
       have ha : x.1.arg0 = e := by unfold Pat.arg0; rw [he]; rfl
       rw [ha, ← hb] at k
       exact bound_sub hqn n k
   · unfold Pat.own
     rcases h05 with h | h
     · rw [if_pos h]; exact (uni_mem _ _ _).2 (.inr (by simp))
     · rw [if_neg (by omega), if_pos h]; exact (uni_mem _ _ _).2 (.inr (by simp))
 · rw [if_neg ht] at hE
   have hP : p.atP i = Plc0 := by unfold Pat.atP; rw [if_neg (by rw [hE]; decide)]
   rw [hP, hE]
   have hno : q.op ≠ 0 ∧ q.op ≠ 5 ∧ q.op ≠ 7 := by unfold testsF at ht; simp at ht; omega
   refine ⟨fun _ h => (by cases h), List.Pairwise.nil, List.Pairwise.nil, .inr ⟨rfl, rfl, rfl⟩, fun h => absurd h hno.1, fun h => absurd h hno.2.2, fun h => ?_⟩
   rcases h with h | h
   · exact absurd h hno.1
   · exact absurd h hno.2.1
theorem P_nests1 (l : List Int) (v : Int) (hl : l.length < 1048577) : PCall EE 21 [int v, .iptr [.isl 1 (mapE int l)]] (bool (!decide (v ∈ l))) := by
 have q1 := P_Contains l v hl
 have kc1 := closedI_int l
 generalize decide (v ∈ l) = b at *
 generalize mapE int l = es at *
 refine wordsN ?_; unhygienic intros
 have n1 : bNot b = !b := by simp only [ee]
 refine fn_body (fn := Tryd.f21) (n := 8) (ac := Trydc21) (rvs := [.t 3]) rfl (by decide) Trydp21 rfl rfl rfl ?_
 refine goA 60 ?_
 refine oPA q1 ?_
 refine goA 60 ?_
 refine fn_ret rfl rfl (.val ?_)
 exact congrArg Value.bool n1
theorem P_isNaN (a : Int) : PCall EE 66 [int a] (bool false) := by
 refine wordsN ?_; unhygienic intros
 have t2 : ∀ x : Int, iNe x x = false := fun x => by simp only [ee]; simp
 refine fn_body (fn := Tryd.f66) (n := 6) (ac := Trydc66) (rvs := [.t 2]) rfl (by decide) Trydp66 rfl rfl rfl ?_
 refine goA 60 ?_
 refine fn_ret rfl rfl (.val ?_)
 exact congrArg Value.bool (t2 _)
theorem P_cmpLess (a b : Int) : PCall EE 48 [int a, int b] (bool (decide (a < b))) := by
 have q1 := P_isNaN a
 have q2 := P_isNaN b
 refine wordsN ?_; unhygienic intros
 have t2 : iLt a b = decide (a < b) := by simp only [ee]
 generalize decide (a < b) = r at *
 refine fn_body (fn := Tryd.f48) (n := 17) (ac := Trydc48) (rvs := [.t 4]) rfl (by decide) Trydp48 rfl rfl rfl ?_
 refine goA 60 ?_
 refine oPA q1 ?_
 refine goA 60 ?_
 refine on_gskip rfl rfl ?_
 refine goA 60 ?_
 refine fn_ret rfl rfl (.val ?_)
 exact congrArg Value.bool (by rw [t2]; simp only [ee]; simp)
theorem mapE_at (l : List Int) (k : Nat) (h : k < l.length) : (mapE int l).getD k .undef = int (l.getD k 0) := by
 rw [mapE_eq, getD_el _ (by rw [List.length_map]; exact h), List.getElem_map, getD_el _ h]
theorem P_IsSorted (l : List Int) (hl : l.length < 1048577) (hs : l.Pairwise (· ≤ ·)) : PCall EE 22 [.isl 1 (mapE int l)] (bool true) := by
 have hcI := closedI_int l
 have hless := fun k : Nat => P_cmpLess (l.getD (k + 1) 0) (l.getD k 0)
 have hdec : ∀ k : Nat, k + 1 < l.length → decide (l.getD (k + 1) 0 < l.getD k 0) = false := fun k hk => by
  rw [getD_el _ hk, getD_el _ (by omega)]
  have := (List.pairwise_iff_getElem.1 hs) k (k + 1) (by omega) hk (by omega)
  simp; omega
 have hget := mapE_at l
 have hel : (mapE int l).length = l.length := mapE_len _ _
 generalize l.length = n at *
 refine wordsN ?_; unhygienic intros
 generalize hes : mapE int l = es at *
 have k0 : iSub .i64 (lenA es) 1 = (n : Int) - 1 := by simp only [ee]; rw [hel, wrap64 (by omega) (by omega)]
 obtain ⟨m, hm⟩ : ∃ m : Int, m = (n : Int) - 1 := ⟨_, rfl⟩
 rw [← hm] at k0
 refine fn_body (fn := Tryd.f22) (n := 21) (ac := Trydc22) (rvs := [.t 2]) rfl (by decide) Trydp22 rfl rfl rfl ?_
 refine goA 60 ?_
 refine on_loopP (ι := Int) (fun p => ([(3, int p), (0, .isl 1 es)], [])) (fun p => -1 ≤ p ∧ p < n) (fun p => (p + 1).toNat) m ⟨by omega, by omega⟩ ?_ ?_
 · exact (ent_sub [] [] trivial trivial ⟨.of (congrArg int (by assumption)), .cl hcI, trivial⟩)
 rintro i ⟨g1, g2⟩
 dsimp only at g1 g2 ⊢
 by_cases hi : 0 < i
 · obtain ⟨k, hk⟩ : ∃ k : Nat, i = (k : Int) + 1 := ⟨(i - 1).toNat, by omega⟩
   have hc : iLt 0 i = true := by simp only [ee]; simpa using hi
   have ks : iSub .i64 i 1 = (k : Int) := by simp only [ee]; rw [wrap64 (by omega) (by omega)]; omega
   have hat : atA es i = int (l.getD (k + 1) 0) := by simp only [ee]; rw [← hget (k + 1) (by omega)]; congr 1; omega
   have hat2 : atA es (k : Int) = int (l.getD k 0) := by simp only [ee]; rw [← hget k (by omega)]; congr 1
   have q1 := hless k
   rw [hdec k (by omega)] at q1
   generalize l.getD (k + 1) 0 = b at *
   generalize l.getD k 0 = a at *
   obtain ⟨j, hj⟩ : ∃ j : Int, j = (k : Int) := ⟨_, rfl⟩
   rw [← hj] at ks hat2
   refine goB hX 0 (by conv => lhs; cbv; try simp only [hc, ks, hat, hat2]; cbv; try simp only [hc, ks, hat, hat2]; cbv; try simp only [hc, ks, hat, hat2]; cbv; try simp only [hc, ks, hat, hat2]; cbv) ?_
   refine goB hX 1 (by conv => lhs; cbv; try simp only [hc, ks, hat, hat2]; cbv; try simp only [hc, ks, hat, hat2]; cbv; try simp only [hc, ks, hat, hat2]; cbv; try simp only [hc, ks, hat, hat2]; cbv) ?_
   refine tr_drawB rfl (by conv => lhs; cbv) rfl ?_
   refine tgB hX (by conv => lhs; cbv; try simp only [hc, ks, hat, hat2]; cbv; try simp only [hc, ks, hat, hat2]; cbv; try simp only [hc, ks, hat, hat2]; cbv; try simp only [hc, ks, hat, hat2]; cbv) ?_
   refine oPT q1 ?_
   refine tr_nil ⟨rfl, by simp [LooksL, lookAll], ?_⟩
   refine goA 60 ?_
   refine loopP_next j ⟨by omega, by omega⟩ (by omega) (ent_sub [] [] trivial trivial ⟨.of (congrArg int (by assumption)), .cl hcI, trivial⟩)
 · have hc : iLt 0 i = false := by simp only [ee]; simpa using hi
   refine goB hX 0 (by conv => lhs; cbv; try simp only [hc]; cbv; try simp only [hc]; cbv; try simp only [hc]; cbv; try simp only [hc]; cbv) ?_
   refine goA 60 ?_
   refine loopP_exit ?_
   refine goA 60 ?_
   refine fn_ret rfl rfl (.val ?_)
   rfl
theorem Plc0_ok : Plc0.ok := ⟨fun _ h => (by cases h), fun _ h => (by cases h), by decide, by decide⟩
theorem atP_ok (p : Pat) (i : Int) : (p.atP i).ok := by
 unfold Pat.atP
 by_cases h : p.atE i = 0
 · rw [if_pos h]
   unfold Pat.atE at h
   by_cases hk : p.chk = 0
   · rw [if_neg (fun k => k hk)] at h
     by_cases hi : 0 ≤ i ∧ i < p.nodes.length
     · rw [if_pos hi] at h
       by_cases ht : testsF (p.nodeAt i).op = true
       · have hw := chk_wf hk
         have hx := lf_at p PlcS i.toNat
         have hlen := Pat.lf_len p PlcS
         have hn := p.nodes_len
         have hm : (Pat.lf PlcS p).getD i.toNat (Pat0, Plc0) ∈ Pat.lf PlcS p := by
          rw [getD_el _ (by omega)]; exact List.getElem_mem _
         obtain ⟨a1, a2⟩ := Pat.lf_ok p hw PlcS PlcS_ok _ hm
         refine own_ok (hw.node a2) ?_ a1
         rw [hx]; unfold Pat.nodeAt at ht; rw [if_pos hi] at ht; exact ht
       · rw [if_neg ht] at h; exact absurd h (by decide)
     · rw [if_neg hi] at h; exact absurd h (by decide)
   · rw [if_pos hk] at h; exact absurd h hk
 · rw [if_neg h]; exact Plc0_ok
theorem P_lawNests (p : Pat) (hs : p.Sm) : PCall EE 5 [p.enc] (bool true) := by
 have q1 := P_ref15_Few p hs
 have q3 := P_pattern_Check p hs
 have q4 := P_awake
 have q9 := P_Bound p hs
 have zN := P_ref09_Nodes p hs
 have zU := fun i => P_Usable p i hs
 have zS := fun i => P_Single p i hs
 have hpl := fun h k hk => nests_plain (p := p) h k hk
 have hbl := fun h => bound_len (chk_wf (p := p) h)
 have hok := fun i => atP_ok p i
 have hnl := Pat.nodes_len p
 have hcn := hs.1
 have kc1 := Pat.closed p
 have kcN := Pat.closedI p.nodes
 have kcb := closedI_int p.bound
 have hqsm : ∀ q ∈ p.nodes, q.enc.closed = true := fun q _ => Pat.closed q
 generalize p.bound = bd at *
 generalize p.few = fp at *
 generalize p.chk = ck at *
 generalize p.nodes = L at *
 obtain ⟨aE, haE⟩ : ∃ f : Int → Int, f = fun i => p.atE i := ⟨_, rfl⟩
 obtain ⟨aP, haP⟩ : ∃ f : Int → Plc, f = fun i => p.atP i := ⟨_, rfl⟩
 have ha1 : ∀ i, p.atE i = aE i := fun i => by rw [haE]
 have ha2 : ∀ i, p.atP i = aP i := fun i => by rw [haP]
 simp only [ha1, ha2] at zU zS hpl hok
 clear ha1 ha2 haE haP
 obtain ⟨pO, pA, pT, pV, pS, pN, pCo, pCa, pCv, pCf, pCk, pXk, pXn, pXt, hx⟩ := Pat.form p
 rw [hx] at q1 q3 q9 zN kc1 ⊢
 simp only [hx] at zU zS
 clear hx hs
 have kcC : AV.closedL [int pO, .isl 14 pA, int pT, int pV, int pS, int pN, int pCo, .isl 8 pCa, int pCv, int pCf, int pCk, int pXk, int pXn, str pXt] = true := kc1
 refine wordsN ?_; unhygienic intros
 have t1 : ∀ x : Int, iEq x x = true := fun x => by simp only [ee]; simp
 have t2 : ∀ x : Int, iNe x x = false := fun x => by simp only [ee]; simp
 have n0 : bNot false = true := by simp only [ee]; rfl
 have n1 : bNot true = false := by simp only [ee]; rfl
 generalize hes : mapE Pat.enc L = es at *
 have hel : es.length = L.length := by rw [← hes, mapE_len]
 generalize hba : mapE int bd = ba at *
 refine fn_body (fn := Tryd.f5) (n := 123) (ac := Trydc5) (rvs := [.t 2]) rfl (by decide) Trydp5 rfl rfl rfl ?_
 cases fp with
 | false =>
  refine goA 60 ?_
  refine oPA q1 ?_
  refine goB hX 0 (by conv => lhs; cbv; try simp only [n0]; cbv; try simp only [n0]; cbv; try simp only [n0]; cbv; try simp only [n0]; cbv) ?_
  refine goA 60 ?_
  refine on_gskip rfl rfl ?_
  refine goA 60 ?_
  refine oPA q4 ?_
  refine goA 60 ?_
  refine fn_ret rfl rfl (.val ?_)
  rfl
 | true =>
 by_cases h3 : ck = 0
 rotate_left
 · have k3 : iNe ck 0 = true := by simp only [ee]; simpa using h3
   refine goA 60 ?_
   refine oPA q1 ?_
   refine goB hX 0 (by conv => lhs; cbv; try simp only [n1, k3]; cbv; try simp only [n1, k3]; cbv; try simp only [n1, k3]; cbv; try simp only [n1, k3]; cbv) ?_
   refine goA 60 ?_
   refine oPG q3 ?_
   refine goB hX 0 (by conv => lhs; cbv; try simp only [n1, k3]; cbv; try simp only [n1, k3]; cbv; try simp only [n1, k3]; cbv; try simp only [n1, k3]; cbv) ?_
   refine on_cond rfl (fun c1 => ?_) (fun c1 => ?_)
   ·
    simp [ee] at c1
    refine goA 60 ?_
    refine oPA q4 ?_
    refine goA 60 ?_
    refine fn_ret rfl rfl (.val ?_)
    rfl
   ·
    simp [ee] at c1
 replace hpl := hpl h3
 replace hbl := hbl h3
 subst h3
 have k3 := t2 0
 refine goA 60 ?_
 refine oPA q1 ?_
 refine goB hX 0 (by conv => lhs; cbv; try simp only [n1, k3]; cbv; try simp only [n1, k3]; cbv; try simp only [n1, k3]; cbv; try simp only [n1, k3]; cbv) ?_
 refine goA 60 ?_
 refine oPG q3 ?_
 refine goB hX 0 (by conv => lhs; cbv; try simp only [n1, k3]; cbv; try simp only [n1, k3]; cbv; try simp only [n1, k3]; cbv; try simp only [n1, k3]; cbv) ?_
 refine on_cond rfl (fun c1 => ?_) (fun c1 => ?_)
 ·
  simp [ee] at c1
 simp [ee] at c1
 refine goA 60 ?_
 refine oPA q9 ?_
 refine goA 60 ?_
 refine oPA zN ?_
 refine goA 60 ?_
 refine on_loopP (ι := List Pat × List Pat × Int) (fun p => ([(26, int p.2.2), (25, int (lenA es)), (24, .isl 14 es), (3, .isl 1 ba), (1, .iptr [int pO, .isl 14 pA, int pT, int pV, int pS, int pN, int pCo, .isl 8 pCa, int pCv, int pCf, int pCk, int pXk, int pXn, str pXt])], [])) (fun p => L = p.1 ++ p.2.1 ∧ p.2.2 = p.1.length) (fun p => p.2.1.length) ([], L, 0) ⟨rfl, rfl⟩ ?_ ?_
 · exact (ent_sub [.icells ([int pO, AV.isl 14 pA, int pT, int pV, int pS, int pN, int pCo, AV.isl 8 pCa, int pCv, int pCf, int pCk, int pXk, int pXn, str pXt])] [] ⟨⟨_, rfl, (subL_closed _ kcC).symm⟩, trivial⟩ trivial ⟨.refl _, .refl _, .cl kcN, .cl kcb, .refl _, trivial⟩)
 rintro ⟨d, r, i⟩ ⟨g1, gi⟩
 dsimp only at g1 gi ⊢
 cases r with
 | nil =>
  have L1 := len_split g1
  try simp only [List.length] at L1
  have hc : iLt i (lenA es) = false := lt_f e_iLt e_lenA (by omega)
  refine goB hX 0 (by conv => lhs; cbv; try simp only [hc]; cbv; try simp only [hc]; cbv; try simp only [hc]; cbv; try simp only [hc]; cbv) ?_
  refine goA 60 ?_
  refine loopP_exit ?_
  refine goA 60 ?_
  refine oPA q4 ?_
  refine goA 60 ?_
  refine fn_ret rfl rfl (.val ?_)
  rfl
 | cons q r =>
  have L1 := len_split g1
  try simp only [List.length] at L1
  have hc : iLt i (lenA es) = true := lt_t e_iLt e_lenA (by omega)
  have hat := el_at e_atA hes g1 gi
  have hi2 : iAdd .i64 i 1 = ((d ++ [q]).length : Int) := by rw [List.length_append]; exact inc_w e_iAdd gi (by omega)
  have hq : L.getD d.length Pat0 = q := by rw [g1]; simp [List.getD_eq_getElem?_getD]
  have hh := hpl d.length (by omega)
  rw [hq, ← gi] at hh
  have zU := zU i
  have zS := zS i
  obtain ⟨_, _, l1, l2⟩ := hok i
  clear hpl hok hq
  generalize aE i = er at *
  generalize hus : (aP i).us = us at *
  generalize hsi : (aP i).si = si at *
  obtain ⟨f1, f2, f3, f4, f5, f6, f7⟩ := hh
  have hua := closedI_int us
  have hsa := closedI_int si
  have hip : (AV.iptr [.isl 1 (mapE int us)]).closed = true := by simp only [closed_iptr, AV.closedL, Bool.and_true]; exact hua
  have hipL : AV.closedL [AV.iptr [.isl 1 (mapE int us)]] = true := closed1 hip
  have huL : AV.closedL [AV.isl 1 (mapE int us)] = true := closed1 hua
  have qC := P_ContainsFunc 21 [.iptr [.isl 1 (mapE int us)]] hipL (fun v => !decide (v ∈ us)) si (by omega) (fun x hx => P_nests1 us x (by omega))
  have hany : (si.any fun v => !decide (v ∈ us)) = false := by
   rw [List.any_eq_false]; intro x hx; simp; exact f1 x hx
  rw [hany] at qC
  have qD := P_IsSorted us (by omega) f2
  have qE := P_IsSorted si (by omega) f3
  have qF := fun v => P_Contains bd v (by omega)
  have qG := P_Contains si q.var (by omega)
  have hqc := Pat.closed q
  clear hany
  obtain ⟨qO, qA, qT, qV, qS, qN, qCo, qCa, qCv, qCf, qCk, qXk, qXn, qXt, hxq, hxqc, hqO, hqA, hqT, hqV, hqS, hqN⟩ := Pat.form2 q
  rw [hxq] at hat hqc
  simp only [← hqO, ← hqV] at f5 f6 f7 qG
  have kqC : AV.closedL [int qO, .isl 14 qA, int qT, int qV, int qS, int qN, int qCo, .isl 8 qCa, int qCv, int qCf, int qCk, int qXk, int qXn, str qXt] = true := hqc
  clear hxq hxqc hqO hqA hqT hqV hqS hqN hus hsi
  rw [hba] at qF
  generalize hu : mapE int us = ua at *
  generalize hsE : mapE int si = sa at *
  have hsl : sa.length = si.length := by rw [← hsE, mapE_len]
  have hul : ua.length = us.length := by rw [← hu, mapE_len]
  rcases f4 with rfl | ⟨rfl, hus, hsi⟩
  · have w0 := t2 0
    refine goB hX 0 (by conv => lhs; cbv; try simp only [hc, hat, t2]; cbv; try simp only [hc, hat, t2]; cbv; try simp only [hc, hat, t2]; cbv; try simp only [hc, hat, t2]; cbv) ?_
    refine goB hX 1 (by conv => lhs; cbv; try simp only [hc, hat, t2]; cbv; try simp only [hc, hat, t2]; cbv; try simp only [hc, hat, t2]; cbv; try simp only [hc, hat, t2]; cbv) ?_
    refine oPA zU ?_
    refine goA 60 ?_
    refine oPA zS ?_
    refine goB hX 0 (by conv => lhs; cbv; try simp only [hc, hat, t2]; cbv; try simp only [hc, hat, t2]; cbv; try simp only [hc, hat, t2]; cbv; try simp only [hc, hat, t2]; cbv) ?_
    refine goB hX 1 (by conv => lhs; cbv; try simp only [hc, hat, t2]; cbv; try simp only [hc, hat, t2]; cbv; try simp only [hc, hat, t2]; cbv; try simp only [hc, hat, t2]; cbv) ?_
    refine goB hX 1 (by conv => lhs; cbv; try simp only [hc, hat, t2]; cbv; try simp only [hc, hat, t2]; cbv; try simp only [hc, hat, t2]; cbv; try simp only [hc, hat, t2]; cbv) ?_
    refine goB hX 1 (by conv => lhs; cbv; try simp only [hc, hat, t2]; cbv; try simp only [hc, hat, t2]; cbv; try simp only [hc, hat, t2]; cbv; try simp only [hc, hat, t2]; cbv) ?_
    refine goB hX 1 (by conv => lhs; cbv; try simp only [hc, hat, t2]; cbv; try simp only [hc, hat, t2]; cbv; try simp only [hc, hat, t2]; cbv; try simp only [hc, hat, t2]; cbv) ?_
    refine goB hX 1 (by conv => lhs; cbv; try simp only [hc, hat, t2]; cbv; try simp only [hc, hat, t2]; cbv; try simp only [hc, hat, t2]; cbv; try simp only [hc, hat, t2]; cbv) ?_
    refine goB hX 1 (by conv => lhs; cbv; try simp only [hc, hat, t2]; cbv; try simp only [hc, hat, t2]; cbv; try simp only [hc, hat, t2]; cbv; try simp only [hc, hat, t2]; cbv) ?_
    refine goB hX 1 (by conv => lhs; cbv; try simp only [hc, hat, t2]; cbv; try simp only [hc, hat, t2]; cbv; try simp only [hc, hat, t2]; cbv; try simp only [hc, hat, t2]; cbv) ?_
    refine on_cond rfl (fun c1 => ?_) (fun c1 => ?_)
    ·
     simp [ee] at c1
    simp [ee] at c1
    refine goA 60 ?_
    refine on_entO (F' := [(62, .isl 1 sa), (63, .fn 21 [.iptr [.isl 1 ua]]), (8, .isl 1 sa), (7, int 0), (6, .iptr [.isl 1 ua]), (5, .iptr [int qO, .isl 14 qA, int qT, int qV, int qS, int qN, int qCo, .isl 8 qCa, int qCv, int qCf, int qCk, int qXk, int qXn, str qXt]), (26, int i), (25, int (lenA es)), (24, .isl 14 es), (3, .isl 1 ba), (1, .iptr [int pO, .isl 14 pA, int pT, int pV, int pS, int pN, int pCo, .isl 8 pCa, int pCv, int pCf, int pCk, int pXk, int pXn, str pXt])]) (H' := []) ?_ ?_
    · exact (ent_sub [.icells ([int qO, AV.isl 14 qA, int qT, int qV, int qS, int qN, int qCo, AV.isl 8 qCa, int qCv, int qCf, int qCk, int qXk, int qXn, str qXt]), .icells ([AV.isl 1 ua])] [] ⟨⟨_, rfl, (subL_closed _ kqC).symm⟩, ⟨_, rfl, (subL_closed _ huL).symm⟩, trivial⟩ trivial ⟨.cl hsa, .refl _, .cl hsa, .refl _, .refl _, .refl _, .refl _, .refl _, .cl kcN, .cl kcb, .cl kc1, trivial⟩)
    refine oPA qC ?_
    refine goA 60 ?_
    refine oPG qD ?_
    refine goB hX 0 (by conv => lhs; cbv; try simp only [n1, n0]; cbv; try simp only [n1, n0]; cbv; try simp only [n1, n0]; cbv; try simp only [n1, n0]; cbv) ?_
    refine on_guard rfl rfl (fun c1 => ?_) (fun c1 => ?_)
    ·
     simp [ee] at c1
    simp [ee] at c1
    refine goA 60 ?_
    refine oPG qE ?_
    refine goB hX 0 (by conv => lhs; cbv; try simp only [n1, n0]; cbv; try simp only [n1, n0]; cbv; try simp only [n1, n0]; cbv; try simp only [n1, n0]; cbv) ?_
    refine on_cond rfl (fun c2 => ?_) (fun c2 => ?_)
    ·
     simp [ee] at c2
    simp [ee] at c2
    refine goA 60 ?_
    refine on_loopP (ι := List Int × List Int × Int) (fun p => ([(77, int p.2.2), (76, int (lenA ua)), (75, .isl 1 ua), (8, .isl 1 sa), (7, int 0), (5, .iptr [int qO, .isl 14 qA, int qT, int qV, int qS, int qN, int qCo, .isl 8 qCa, int qCv, int qCf, int qCk, int qXk, int qXn, str qXt]), (26, int i), (25, int (lenA es)), (24, .isl 14 es), (3, .isl 1 ba), (1, .iptr [int pO, .isl 14 pA, int pT, int pV, int pS, int pN, int pCo, .isl 8 pCa, int pCv, int pCf, int pCk, int pXk, int pXn, str pXt])], [])) (fun p => us = p.1 ++ p.2.1 ∧ p.2.2 = p.1.length) (fun p => p.2.1.length) ([], us, 0) ⟨rfl, rfl⟩ ?_ ?_
    · exact (ent_sub [] [] trivial trivial ⟨.refl _, .refl _, .cl hua, .cl hsa, .refl _, .cl hqc, .refl _, .refl _, .cl kcN, .cl kcb, .cl kc1, trivial⟩)
    rintro ⟨d2, r2, j⟩ ⟨g2, gj⟩
    dsimp only at g2 gj ⊢
    cases r2 with
    | nil =>
     have L2 := len_split g2
     try simp only [List.length] at L2
     have hc2 : iLt j (lenA ua) = false := lt_f e_iLt e_lenA (by omega)
     by_cases o0 : qO = 0
     · have e0 : iEq qO 0 = true := by simp only [ee]; simpa using o0
       have qG := qG
       rw [decide_eq_true (f7 (.inl o0)).2] at qG
       refine goB hX 0 (by conv => lhs; cbv; try simp only [hc2, e0, t2, n1]; cbv; try simp only [hc2, e0, t2, n1]; cbv; try simp only [hc2, e0, t2, n1]; cbv; try simp only [hc2, e0, t2, n1]; cbv) ?_
       refine goA 60 ?_
       refine loopP_exit ?_
       refine goB hX 0 (by conv => lhs; cbv; try simp only [hc2, e0, t2, n1]; cbv; try simp only [hc2, e0, t2, n1]; cbv; try simp only [hc2, e0, t2, n1]; cbv; try simp only [hc2, e0, t2, n1]; cbv) ?_
       refine on_guard rfl rfl (fun c1 => ?_) (fun c1 => ?_)
       ·
        simp [ee] at c1
        refine goB hX 1 (by conv => lhs; cbv; try simp only [hc2, e0, t2, n1]; cbv; try simp only [hc2, e0, t2, n1]; cbv; try simp only [hc2, e0, t2, n1]; cbv; try simp only [hc2, e0, t2, n1]; cbv) ?_
        refine goB hX 1 (by conv => lhs; cbv; try simp only [hc2, e0, t2, n1]; cbv; try simp only [hc2, e0, t2, n1]; cbv; try simp only [hc2, e0, t2, n1]; cbv; try simp only [hc2, e0, t2, n1]; cbv) ?_
        refine goA 60 ?_
        refine oPG qG ?_
        refine goB hX 0 (by conv => lhs; cbv; try simp only [hc2, e0, t2, n1]; cbv; try simp only [hc2, e0, t2, n1]; cbv; try simp only [hc2, e0, t2, n1]; cbv; try simp only [hc2, e0, t2, n1]; cbv) ?_
        refine goB hX 1 (by conv => lhs; cbv; try simp only [hc2, e0, t2, n1]; cbv; try simp only [hc2, e0, t2, n1]; cbv; try simp only [hc2, e0, t2, n1]; cbv; try simp only [hc2, e0, t2, n1]; cbv) ?_
        refine on_cond rfl (fun c2 => ?_) (fun c2 => ?_)
        ·
         simp [ee] at c2
        ·
         simp [ee] at c2
         refine goA 60 ?_
         refine loopP_next (d ++ [q], r, iAdd .i64 i 1) ⟨by simp [g1], hi2⟩ (by simp) (ent_sub [] [] trivial trivial ⟨.refl _, .refl _, .cl kcN, .cl kcb, .cl kc1, trivial⟩)
       ·
        simp [ee] at c1
     have e0 : iEq qO 0 = false := by simp only [ee]; simpa using o0
     by_cases o5 : qO = 5
     · have e5 : iEq qO 5 = true := by simp only [ee]; simpa using o5
       have qG := qG
       rw [decide_eq_true (f7 (.inr o5)).2] at qG
       refine goB hX 0 (by conv => lhs; cbv; try simp only [hc2, e0, e5, t2, n1]; cbv; try simp only [hc2, e0, e5, t2, n1]; cbv; try simp only [hc2, e0, e5, t2, n1]; cbv; try simp only [hc2, e0, e5, t2, n1]; cbv) ?_
       refine goA 60 ?_
       refine loopP_exit ?_
       refine goB hX 0 (by conv => lhs; cbv; try simp only [hc2, e0, e5, t2, n1]; cbv; try simp only [hc2, e0, e5, t2, n1]; cbv; try simp only [hc2, e0, e5, t2, n1]; cbv; try simp only [hc2, e0, e5, t2, n1]; cbv) ?_
       refine on_guard rfl rfl (fun c1 => ?_) (fun c1 => ?_)
       ·
        simp [ee] at c1
        refine goB hX 1 (by conv => lhs; cbv; try simp only [hc2, e0, e5, t2, n1]; cbv; try simp only [hc2, e0, e5, t2, n1]; cbv; try simp only [hc2, e0, e5, t2, n1]; cbv; try simp only [hc2, e0, e5, t2, n1]; cbv) ?_
        refine goB hX 1 (by conv => lhs; cbv; try simp only [hc2, e0, e5, t2, n1]; cbv; try simp only [hc2, e0, e5, t2, n1]; cbv; try simp only [hc2, e0, e5, t2, n1]; cbv; try simp only [hc2, e0, e5, t2, n1]; cbv) ?_
        refine goA 60 ?_
        refine oPG qG ?_
        refine goB hX 0 (by conv => lhs; cbv; try simp only [hc2, e0, e5, t2, n1]; cbv; try simp only [hc2, e0, e5, t2, n1]; cbv; try simp only [hc2, e0, e5, t2, n1]; cbv; try simp only [hc2, e0, e5, t2, n1]; cbv) ?_
        refine goB hX 1 (by conv => lhs; cbv; try simp only [hc2, e0, e5, t2, n1]; cbv; try simp only [hc2, e0, e5, t2, n1]; cbv; try simp only [hc2, e0, e5, t2, n1]; cbv; try simp only [hc2, e0, e5, t2, n1]; cbv) ?_
        refine on_cond rfl (fun c2 => ?_) (fun c2 => ?_)
        ·
         simp [ee] at c2
        ·
         simp [ee] at c2
         refine goA 60 ?_
         refine loopP_next (d ++ [q], r, iAdd .i64 i 1) ⟨by simp [g1], hi2⟩ (by simp) (ent_sub [] [] trivial trivial ⟨.refl _, .refl _, .cl kcN, .cl kcb, .cl kc1, trivial⟩)
       ·
        simp [ee] at c1
     have e5 : iEq qO 5 = false := by simp only [ee]; simpa using o5
     refine goB hX 0 (by conv => lhs; cbv; try simp only [hc2, e0, e5, t2, n1]; cbv; try simp only [hc2, e0, e5, t2, n1]; cbv; try simp only [hc2, e0, e5, t2, n1]; cbv; try simp only [hc2, e0, e5, t2, n1]; cbv) ?_
     refine goA 60 ?_
     refine loopP_exit ?_
     refine goB hX 0 (by conv => lhs; cbv; try simp only [hc2, e0, e5, t2, n1]; cbv; try simp only [hc2, e0, e5, t2, n1]; cbv; try simp only [hc2, e0, e5, t2, n1]; cbv; try simp only [hc2, e0, e5, t2, n1]; cbv) ?_
     refine on_guard rfl rfl (fun c1 => ?_) (fun c1 => ?_)
     ·
      simp [ee] at c1
     ·
      simp [ee] at c1
      refine goA 60 ?_
      refine on_gskip rfl rfl ?_
      refine goA 60 ?_
      refine loopP_next (d ++ [q], r, iAdd .i64 i 1) ⟨by simp [g1], hi2⟩ (by simp) (ent_sub [] [] trivial trivial ⟨.refl _, .refl _, .cl kcN, .cl kcb, .cl kc1, trivial⟩)
    | cons x r2 =>
     have L2 := len_split g2
     try simp only [List.length] at L2
     have hc2 : iLt j (lenA ua) = true := lt_t e_iLt e_lenA (by omega)
     have hat2 := el_at e_atA hu g2 gj
     have hj2 : iAdd .i64 j 1 = ((d2 ++ [x]).length : Int) := by rw [List.length_append]; exact inc_w e_iAdd gj (by omega)
     have hxm : x ∈ us := by rw [g2]; simp
     by_cases o0 : qO = 0
     · have e0 : iEq qO 0 = true := by simp only [ee]; simpa using o0
       have e7 : iEq qO 7 = false := by simp only [ee]; simp; omega
       have ex : iLt qV x = false := by have := f5 o0 x hxm; simp only [ee]; simp; omega
       refine goB hX 0 (by conv => lhs; cbv; try simp only [hc2, hat2, e0, e7, ex]; cbv; try simp only [hc2, hat2, e0, e7, ex]; cbv; try simp only [hc2, hat2, e0, e7, ex]; cbv; try simp only [hc2, hat2, e0, e7, ex]; cbv) ?_
       refine goB hX 1 (by conv => lhs; cbv; try simp only [hc2, hat2, e0, e7, ex]; cbv; try simp only [hc2, hat2, e0, e7, ex]; cbv; try simp only [hc2, hat2, e0, e7, ex]; cbv; try simp only [hc2, hat2, e0, e7, ex]; cbv) ?_
       refine on_guard rfl rfl (fun c1 => ?_) (fun c1 => ?_)
       ·
        simp [ee] at c1
       ·
        simp [ee] at c1
        refine goB hX 1 (by conv => lhs; cbv; try simp only [hc2, hat2, e0, e7, ex]; cbv; try simp only [hc2, hat2, e0, e7, ex]; cbv; try simp only [hc2, hat2, e0, e7, ex]; cbv; try simp only [hc2, hat2, e0, e7, ex]; cbv) ?_
        refine goB hX 1 (by conv => lhs; cbv; try simp only [hc2, hat2, e0, e7, ex]; cbv; try simp only [hc2, hat2, e0, e7, ex]; cbv; try simp only [hc2, hat2, e0, e7, ex]; cbv; try simp only [hc2, hat2, e0, e7, ex]; cbv) ?_
        refine goB hX 1 (by conv => lhs; cbv; try simp only [hc2, hat2, e0, e7, ex]; cbv; try simp only [hc2, hat2, e0, e7, ex]; cbv; try simp only [hc2, hat2, e0, e7, ex]; cbv; try simp only [hc2, hat2, e0, e7, ex]; cbv) ?_
        refine goB hX 1 (by conv => lhs; cbv; try simp only [hc2, hat2, e0, e7, ex]; cbv; try simp only [hc2, hat2, e0, e7, ex]; cbv; try simp only [hc2, hat2, e0, e7, ex]; cbv; try simp only [hc2, hat2, e0, e7, ex]; cbv) ?_
        refine goB hX 1 (by conv => lhs; cbv; try simp only [hc2, hat2, e0, e7, ex]; cbv; try simp only [hc2, hat2, e0, e7, ex]; cbv; try simp only [hc2, hat2, e0, e7, ex]; cbv; try simp only [hc2, hat2, e0, e7, ex]; cbv) ?_
        refine goB hX 1 (by conv => lhs; cbv; try simp only [hc2, hat2, e0, e7, ex]; cbv; try simp only [hc2, hat2, e0, e7, ex]; cbv; try simp only [hc2, hat2, e0, e7, ex]; cbv; try simp only [hc2, hat2, e0, e7, ex]; cbv) ?_
        refine goB hX 1 (by conv => lhs; cbv; try simp only [hc2, hat2, e0, e7, ex]; cbv; try simp only [hc2, hat2, e0, e7, ex]; cbv; try simp only [hc2, hat2, e0, e7, ex]; cbv; try simp only [hc2, hat2, e0, e7, ex]; cbv) ?_
        refine goB hX 1 (by conv => lhs; cbv; try simp only [hc2, hat2, e0, e7, ex]; cbv; try simp only [hc2, hat2, e0, e7, ex]; cbv; try simp only [hc2, hat2, e0, e7, ex]; cbv; try simp only [hc2, hat2, e0, e7, ex]; cbv) ?_
        refine on_cond rfl (fun c2 => ?_) (fun c2 => ?_)
        ·
         simp [ee] at c2
        ·
         simp [ee] at c2
         refine goA 60 ?_
         refine loopP_next (d2 ++ [x], r2, iAdd .i64 j 1) ⟨by simp [g2], hj2⟩ (by simp) (ent_sub [] [] trivial trivial ⟨.refl _, .refl _, .cl hua, .cl hsa, .refl _, .cl hqc, .refl _, .refl _, .cl kcN, .cl kcb, .cl kc1, trivial⟩)
     have e0 : iEq qO 0 = false := by simp only [ee]; simpa using o0
     by_cases o7 : qO = 7
     · have e7 : iEq qO 7 = true := by simp only [ee]; simpa using o7
       have qF := qF x
       rw [decide_eq_true (f6 o7 x hxm)] at qF
       refine goB hX 0 (by conv => lhs; cbv; try simp only [hc2, hat2, e0, e7, n1]; cbv; try simp only [hc2, hat2, e0, e7, n1]; cbv; try simp only [hc2, hat2, e0, e7, n1]; cbv; try simp only [hc2, hat2, e0, e7, n1]; cbv) ?_
       refine goB hX 1 (by conv => lhs; cbv; try simp only [hc2, hat2, e0, e7, n1]; cbv; try simp only [hc2, hat2, e0, e7, n1]; cbv; try simp only [hc2, hat2, e0, e7, n1]; cbv; try simp only [hc2, hat2, e0, e7, n1]; cbv) ?_
       refine on_guard rfl rfl (fun c1 => ?_) (fun c1 => ?_)
       ·
        simp [ee] at c1
       ·
        simp [ee] at c1
        refine goB hX 1 (by conv => lhs; cbv; try simp only [hc2, hat2, e0, e7, n1]; cbv; try simp only [hc2, hat2, e0, e7, n1]; cbv; try simp only [hc2, hat2, e0, e7, n1]; cbv; try simp only [hc2, hat2, e0, e7, n1]; cbv) ?_
        refine goB hX 1 (by conv => lhs; cbv; try simp only [hc2, hat2, e0, e7, n1]; cbv; try simp only [hc2, hat2, e0, e7, n1]; cbv; try simp only [hc2, hat2, e0, e7, n1]; cbv; try simp only [hc2, hat2, e0, e7, n1]; cbv) ?_
        refine goB hX 1 (by conv => lhs; cbv; try simp only [hc2, hat2, e0, e7, n1]; cbv; try simp only [hc2, hat2, e0, e7, n1]; cbv; try simp only [hc2, hat2, e0, e7, n1]; cbv; try simp only [hc2, hat2, e0, e7, n1]; cbv) ?_
        refine goA 60 ?_
        refine oPG qF ?_
        refine goB hX 0 (by conv => lhs; cbv; try simp only [hc2, hat2, e0, e7, n1]; cbv; try simp only [hc2, hat2, e0, e7, n1]; cbv; try simp only [hc2, hat2, e0, e7, n1]; cbv; try simp only [hc2, hat2, e0, e7, n1]; cbv) ?_
        refine goB hX 1 (by conv => lhs; cbv; try simp only [hc2, hat2, e0, e7, n1]; cbv; try simp only [hc2, hat2, e0, e7, n1]; cbv; try simp only [hc2, hat2, e0, e7, n1]; cbv; try simp only [hc2, hat2, e0, e7, n1]; cbv) ?_
        refine on_cond rfl (fun c2 => ?_) (fun c2 => ?_)
        ·
         simp [ee] at c2
        ·
         simp [ee] at c2
         refine goA 60 ?_
         refine loopP_next (d2 ++ [x], r2, iAdd .i64 j 1) ⟨by simp [g2], hj2⟩ (by simp) (ent_sub [] [] trivial trivial ⟨.refl _, .refl _, .cl hua, .cl hsa, .refl _, .cl hqc, .refl _, .refl _, .cl kcN, .cl kcb, .cl kc1, trivial⟩)
     have e7 : iEq qO 7 = false := by simp only [ee]; simpa using o7
     refine goB hX 0 (by conv => lhs; cbv; try simp only [hc2, hat2, e0, e7]; cbv; try simp only [hc2, hat2, e0, e7]; cbv; try simp only [hc2, hat2, e0, e7]; cbv; try simp only [hc2, hat2, e0, e7]; cbv) ?_
     refine goB hX 1 (by conv => lhs; cbv; try simp only [hc2, hat2, e0, e7]; cbv; try simp only [hc2, hat2, e0, e7]; cbv; try simp only [hc2, hat2, e0, e7]; cbv; try simp only [hc2, hat2, e0, e7]; cbv) ?_
     refine on_guard rfl rfl (fun c1 => ?_) (fun c1 => ?_)
     ·
      simp [ee] at c1
     ·
      simp [ee] at c1
      refine goB hX 1 (by conv => lhs; cbv; try simp only [hc2, hat2, e0, e7]; cbv; try simp only [hc2, hat2, e0, e7]; cbv; try simp only [hc2, hat2, e0, e7]; cbv; try simp only [hc2, hat2, e0, e7]; cbv) ?_
      refine goB hX 1 (by conv => lhs; cbv; try simp only [hc2, hat2, e0, e7]; cbv; try simp only [hc2, hat2, e0, e7]; cbv; try simp only [hc2, hat2, e0, e7]; cbv; try simp only [hc2, hat2, e0, e7]; cbv) ?_
      refine goB hX 1 (by conv => lhs; cbv; try simp only [hc2, hat2, e0, e7]; cbv; try simp only [hc2, hat2, e0, e7]; cbv; try simp only [hc2, hat2, e0, e7]; cbv; try simp only [hc2, hat2, e0, e7]; cbv) ?_
      refine goB hX 1 (by conv => lhs; cbv; try simp only [hc2, hat2, e0, e7]; cbv; try simp only [hc2, hat2, e0, e7]; cbv; try simp only [hc2, hat2, e0, e7]; cbv; try simp only [hc2, hat2, e0, e7]; cbv) ?_
      refine goB hX 1 (by conv => lhs; cbv; try simp only [hc2, hat2, e0, e7]; cbv; try simp only [hc2, hat2, e0, e7]; cbv; try simp only [hc2, hat2, e0, e7]; cbv; try simp only [hc2, hat2, e0, e7]; cbv) ?_
      refine goB hX 1 (by conv => lhs; cbv; try simp only [hc2, hat2, e0, e7]; cbv; try simp only [hc2, hat2, e0, e7]; cbv; try simp only [hc2, hat2, e0, e7]; cbv; try simp only [hc2, hat2, e0, e7]; cbv) ?_
      refine goB hX 1 (by conv => lhs; cbv; try simp only [hc2, hat2, e0, e7]; cbv; try simp only [hc2, hat2, e0, e7]; cbv; try simp only [hc2, hat2, e0, e7]; cbv; try simp only [hc2, hat2, e0, e7]; cbv) ?_
      refine goB hX 1 (by conv => lhs; cbv; try simp only [hc2, hat2, e0, e7]; cbv; try simp only [hc2, hat2, e0, e7]; cbv; try simp only [hc2, hat2, e0, e7]; cbv; try simp only [hc2, hat2, e0, e7]; cbv) ?_
      refine on_cond rfl (fun c2 => ?_) (fun c2 => ?_)
      ·
       simp [ee] at c2
      ·
       simp [ee] at c2
       refine goA 60 ?_
       refine loopP_next (d2 ++ [x], r2, iAdd .i64 j 1) ⟨by simp [g2], hj2⟩ (by simp) (ent_sub [] [] trivial trivial ⟨.refl _, .refl _, .cl hua, .cl hsa, .refl _, .cl hqc, .refl _, .refl _, .cl kcN, .cl kcb, .cl kc1, trivial⟩)
  · have w1 : iNe 1 0 = true := by simp only [ee]; rfl
    have w2 : iNe 1 1 = false := t2 1
    have hu0 : us.length = 0 := by rw [hus]; rfl
    have wl : iLt 0 (iAdd .i64 (lenA ua) (lenA sa)) = false := by
     have h1 : lenA ua = 0 := by simp only [ee]; omega
     have hs0 : si.length = 0 := by rw [hsi]; rfl
     have h2 : lenA sa = 0 := by simp only [ee]; omega
     rw [h1, h2]; simp only [ee]; rfl
    have e0 : iEq qO 0 = false := by
     simp only [ee]; simp; intro h; have := (f7 (.inl h)).1; omega
    have e5 : iEq qO 5 = false := by
     simp only [ee]; simp; intro h; have := (f7 (.inr h)).1; omega
    refine goB hX 0 (by conv => lhs; cbv; try simp only [hc, hat, t2, w1, w2, wl]; cbv; try simp only [hc, hat, t2, w1, w2, wl]; cbv; try simp only [hc, hat, t2, w1, w2, wl]; cbv; try simp only [hc, hat, t2, w1, w2, wl]; cbv) ?_
    refine goB hX 1 (by conv => lhs; cbv; try simp only [hc, hat, t2, w1, w2, wl]; cbv; try simp only [hc, hat, t2, w1, w2, wl]; cbv; try simp only [hc, hat, t2, w1, w2, wl]; cbv; try simp only [hc, hat, t2, w1, w2, wl]; cbv) ?_
    refine oPA zU ?_
    refine goA 60 ?_
    refine oPA zS ?_
    refine goB hX 0 (by conv => lhs; cbv; try simp only [hc, hat, t2, w1, w2, wl]; cbv; try simp only [hc, hat, t2, w1, w2, wl]; cbv; try simp only [hc, hat, t2, w1, w2, wl]; cbv; try simp only [hc, hat, t2, w1, w2, wl]; cbv) ?_
    refine goB hX 1 (by conv => lhs; cbv; try simp only [hc, hat, t2, w1, w2, wl]; cbv; try simp only [hc, hat, t2, w1, w2, wl]; cbv; try simp only [hc, hat, t2, w1, w2, wl]; cbv; try simp only [hc, hat, t2, w1, w2, wl]; cbv) ?_
    refine goB hX 1 (by conv => lhs; cbv; try simp only [hc, hat, t2, w1, w2, wl]; cbv; try simp only [hc, hat, t2, w1, w2, wl]; cbv; try simp only [hc, hat, t2, w1, w2, wl]; cbv; try simp only [hc, hat, t2, w1, w2, wl]; cbv) ?_
    refine goB hX 1 (by conv => lhs; cbv; try simp only [hc, hat, t2, w1, w2, wl]; cbv; try simp only [hc, hat, t2, w1, w2, wl]; cbv; try simp only [hc, hat, t2, w1, w2, wl]; cbv; try simp only [hc, hat, t2, w1, w2, wl]; cbv) ?_
    refine goB hX 1 (by conv => lhs; cbv; try simp only [hc, hat, t2, w1, w2, wl]; cbv; try simp only [hc, hat, t2, w1, w2, wl]; cbv; try simp only [hc, hat, t2, w1, w2, wl]; cbv; try simp only [hc, hat, t2, w1, w2, wl]; cbv) ?_
    refine goB hX 1 (by conv => lhs; cbv; try simp only [hc, hat, t2, w1, w2, wl]; cbv; try simp only [hc, hat, t2, w1, w2, wl]; cbv; try simp only [hc, hat, t2, w1, w2, wl]; cbv; try simp only [hc, hat, t2, w1, w2, wl]; cbv) ?_
    refine goB hX 1 (by conv => lhs; cbv; try simp only [hc, hat, t2, w1, w2, wl]; cbv; try simp only [hc, hat, t2, w1, w2, wl]; cbv; try simp only [hc, hat, t2, w1, w2, wl]; cbv; try simp only [hc, hat, t2, w1, w2, wl]; cbv) ?_
    refine goB hX 1 (by conv => lhs; cbv; try simp only [hc, hat, t2, w1, w2, wl]; cbv; try simp only [hc, hat, t2, w1, w2, wl]; cbv; try simp only [hc, hat, t2, w1, w2, wl]; cbv; try simp only [hc, hat, t2, w1, w2, wl]; cbv) ?_
    refine goB hX 1 (by conv => lhs; cbv; try simp only [hc, hat, t2, w1, w2, wl]; cbv; try simp only [hc, hat, t2, w1, w2, wl]; cbv; try simp only [hc, hat, t2, w1, w2, wl]; cbv; try simp only [hc, hat, t2, w1, w2, wl]; cbv) ?_
    refine goB hX 1 (by conv => lhs; cbv; try simp only [hc, hat, t2, w1, w2, wl]; cbv; try simp only [hc, hat, t2, w1, w2, wl]; cbv; try simp only [hc, hat, t2, w1, w2, wl]; cbv; try simp only [hc, hat, t2, w1, w2, wl]; cbv) ?_
    refine goB hX 1 (by conv => lhs; cbv; try simp only [hc, hat, t2, w1, w2, wl]; cbv; try simp only [hc, hat, t2, w1, w2, wl]; cbv; try simp only [hc, hat, t2, w1, w2, wl]; cbv; try simp only [hc, hat, t2, w1, w2, wl]; cbv) ?_
    refine goB hX 1 (by conv => lhs; cbv; try simp only [hc, hat, t2, w1, w2, wl]; cbv; try simp only [hc, hat, t2, w1, w2, wl]; cbv; try simp only [hc, hat, t2, w1, w2, wl]; cbv; try simp only [hc, hat, t2, w1, w2, wl]; cbv) ?_
    refine goB hX 1 (by conv => lhs; cbv; try simp only [hc, hat, t2, w1, w2, wl]; cbv; try simp only [hc, hat, t2, w1, w2, wl]; cbv; try simp only [hc, hat, t2, w1, w2, wl]; cbv; try simp only [hc, hat, t2, w1, w2, wl]; cbv) ?_
    refine goB hX 1 (by conv => lhs; cbv; try simp only [hc, hat, t2, w1, w2, wl]; cbv; try simp only [hc, hat, t2, w1, w2, wl]; cbv; try simp only [hc, hat, t2, w1, w2, wl]; cbv; try simp only [hc, hat, t2, w1, w2, wl]; cbv) ?_
    refine on_cond rfl (fun c1 => ?_) (fun c1 => ?_)
    ·
     simp [ee] at c1
    simp [ee] at c1
    refine goA 60 ?_
    refine on_entO (F' := [(62, .isl 1 sa), (63, .fn 21 [.iptr [.isl 1 ua]]), (8, .isl 1 sa), (7, int 1), (6, .iptr [.isl 1 ua]), (5, .iptr [int qO, .isl 14 qA, int qT, int qV, int qS, int qN, int qCo, .isl 8 qCa, int qCv, int qCf, int qCk, int qXk, int qXn, str qXt]), (26, int i), (25, int (lenA es)), (24, .isl 14 es), (3, .isl 1 ba), (1, .iptr [int pO, .isl 14 pA, int pT, int pV, int pS, int pN, int pCo, .isl 8 pCa, int pCv, int pCf, int pCk, int pXk, int pXn, str pXt])]) (H' := []) ?_ ?_
    · exact (ent_sub [.icells ([int qO, AV.isl 14 qA, int qT, int qV, int qS, int qN, int qCo, AV.isl 8 qCa, int qCv, int qCf, int qCk, int qXk, int qXn, str qXt]), .icells ([AV.isl 1 ua])] [] ⟨⟨_, rfl, (subL_closed _ kqC).symm⟩, ⟨_, rfl, (subL_closed _ huL).symm⟩, trivial⟩ trivial ⟨.cl hsa, .refl _, .cl hsa, .refl _, .refl _, .refl _, .refl _, .refl _, .cl kcN, .cl kcb, .cl kc1, trivial⟩)
    refine oPA qC ?_
    refine goA 60 ?_
    refine oPG qD ?_
    refine goB hX 0 (by conv => lhs; cbv; try simp only [n1, n0]; cbv; try simp only [n1, n0]; cbv; try simp only [n1, n0]; cbv; try simp only [n1, n0]; cbv) ?_
    refine on_guard rfl rfl (fun c1 => ?_) (fun c1 => ?_)
    ·
     simp [ee] at c1
    simp [ee] at c1
    refine goA 60 ?_
    refine oPG qE ?_
    refine goB hX 0 (by conv => lhs; cbv; try simp only [n1, n0]; cbv; try simp only [n1, n0]; cbv; try simp only [n1, n0]; cbv; try simp only [n1, n0]; cbv) ?_
    refine on_cond rfl (fun c2 => ?_) (fun c2 => ?_)
    ·
     simp [ee] at c2
    simp [ee] at c2
    refine goA 60 ?_
    refine on_loopP (ι := List Int × List Int × Int) (fun p => ([(77, int p.2.2), (76, int (lenA ua)), (75, .isl 1 ua), (8, .isl 1 sa), (7, int 1), (5, .iptr [int qO, .isl 14 qA, int qT, int qV, int qS, int qN, int qCo, .isl 8 qCa, int qCv, int qCf, int qCk, int qXk, int qXn, str qXt]), (26, int i), (25, int (lenA es)), (24, .isl 14 es), (3, .isl 1 ba), (1, .iptr [int pO, .isl 14 pA, int pT, int pV, int pS, int pN, int pCo, .isl 8 pCa, int pCv, int pCf, int pCk, int pXk, int pXn, str pXt])], [])) (fun p => us = p.1 ++ p.2.1 ∧ p.2.2 = p.1.length) (fun p => p.2.1.length) ([], us, 0) ⟨rfl, rfl⟩ ?_ ?_
    · exact (ent_sub [] [] trivial trivial ⟨.refl _, .refl _, .cl hua, .cl hsa, .refl _, .cl hqc, .refl _, .refl _, .cl kcN, .cl kcb, .cl kc1, trivial⟩)
    rintro ⟨d2, r2, j⟩ ⟨g2, gj⟩
    dsimp only at g2 gj ⊢
    cases r2 with
    | nil =>
     have L2 := len_split g2
     try simp only [List.length] at L2
     have hc2 : iLt j (lenA ua) = false := lt_f e_iLt e_lenA (by omega)
     refine goB hX 0 (by conv => lhs; cbv; try simp only [hc2, e0, e5, t2, n1]; cbv; try simp only [hc2, e0, e5, t2, n1]; cbv; try simp only [hc2, e0, e5, t2, n1]; cbv; try simp only [hc2, e0, e5, t2, n1]; cbv) ?_
     refine goA 60 ?_
     refine loopP_exit ?_
     refine goB hX 0 (by conv => lhs; cbv; try simp only [hc2, e0, e5, t2, n1]; cbv; try simp only [hc2, e0, e5, t2, n1]; cbv; try simp only [hc2, e0, e5, t2, n1]; cbv; try simp only [hc2, e0, e5, t2, n1]; cbv) ?_
     refine on_guard rfl rfl (fun c1 => ?_) (fun c1 => ?_)
     ·
      simp [ee] at c1
     ·
      simp [ee] at c1
      refine goA 60 ?_
      refine on_gskip rfl rfl ?_
      refine goA 60 ?_
      refine loopP_next (d ++ [q], r, iAdd .i64 i 1) ⟨by simp [g1], hi2⟩ (by simp) (ent_sub [] [] trivial trivial ⟨.refl _, .refl _, .cl kcN, .cl kcb, .cl kc1, trivial⟩)
    | cons x r2 =>
     exfalso
     rw [g2] at hu0
     simp at hu0
def Below (m : Nat) (l : List Pat) : Prop := ∀ q ∈ l, typedF q.op = true → 0 ≤ q.var ∧ q.var < m
def Plc.nn (l : Plc) : Prop := (∀ n ∈ l.us, 0 ≤ n) ∧ ∀ n ∈ l.si, 0 ≤ n
theorem bound_nn {m : Nat} {p : Pat} (h : Below m p.nodes) : ∀ n ∈ p.bound, 0 ≤ n := fun n hn => by
 rw [Pat.bound_mem] at hn
 unfold bndF at hn
 obtain ⟨q, hq, rfl⟩ := List.mem_map.1 hn
 obtain ⟨h1, h2⟩ := List.mem_filter.1 hq
 exact (h q h1 (by rw [show q.op = 0 by simpa using h2]; rfl)).1
theorem ones_nn {m : Nat} {p : Pat} (h : Below m p.nodes) : ∀ n ∈ p.ones, 0 ≤ n := fun n hn => bound_nn h n (ones_bd p n hn)
theorem Plc.nn.plus {l : Plc} (h : l.nn) {m : Nat} {e : Pat} (he : Below m e.nodes) : (l.plus e).nn :=
 ⟨fun n hn => by rcases (uni_mem _ _ _).1 hn with k | k; exact h.1 n k; exact bound_nn he n k, fun n hn => by rcases (uni_mem _ _ _).1 hn with k | k; exact h.2 n k; exact ones_nn he n k⟩
end Go.Am
end
