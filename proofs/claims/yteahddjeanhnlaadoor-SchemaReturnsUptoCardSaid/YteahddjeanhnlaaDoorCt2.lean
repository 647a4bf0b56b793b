/- Contracts of the program's functions, for every argument that meets the conditions that each theorem names. -/
import Derived.Test.YteahddjeanhnlaaDoorAm6
import Derived.Test.YteahddjeanhnlaaDoorCt1
import Derived.Test.YteahddjeanhnlaaDoorRows
import Derived.Test.YteahddjeanhnlaaDoorCards
import Derived.Test.YteahddjeanhnlaaDoorTie
import Derived.Test.YteahddjeanhnlaaDoorAm5
import Derived.ProofKit
import Derived.OpenShut
import Derived.Deep.DeepHandedRow
import Derived.Deep.CondSized
import Derived.Lib.LaidTab
import Derived.LaidMore
section
set_option maxHeartbeats 16000000
set_option maxRecDepth 100000
namespace Go.Am
open Go.Proofs Go.ChangeShapes Go.WideShapes Go.ChangeAt Go.RowKit
theorem cellsF : Tryd.prog.cellsOf 59 = 2 := by kernel_rfl
theorem cellsS : Tryd.prog.cellsOf 24 = 2 := by kernel_rfl
theorem aggF : aggT EE.P 59 = true := by kernel_rfl
theorem aggS : aggT EE.P 24 = true := by kernel_rfl
theorem rdFld {n : Nat} {x : AV} (h : El EE.P (Cl EE.P n) 59 x) : ∃ f : Fld, x = f.enc := by
 obtain ⟨cs, rfl, g⟩ := h.agg aggF
 obtain ⟨m, a, r, rfl, ha, b, r, rfl, hb, rfl⟩ := g.struct Tryd.underlying59
 obtain ⟨s, rfl, _⟩ := ha.str Tryd.underlying9
 obtain ⟨i2, rfl, _⟩ := hb.int Tryd.underlying3
 exact ⟨⟨s.data.toList, i2⟩, by rw [Fld.enc_eq]; show _ = AV.agg [str (ba s.data.toList), _]; rw [← ba_of]; rfl⟩
theorem rdSch {n : Nat} {x : AV} (h : El EE.P (Cl EE.P n) 24 x) : ∃ q : Sch, x = q.enc := by
 obtain ⟨cs, rfl, g⟩ := h.agg aggS
 obtain ⟨m, a, r, rfl, ha, b, r, rfl, hb, rfl⟩ := g.struct Tryd.underlying24
 obtain ⟨s, rfl, _⟩ := ha.str Tryd.underlying9
 obtain ⟨m2, es, rfl, hl, hes⟩ := hb.slice Tryd.underlying22
 obtain ⟨l, rfl, _⟩ := list_enc (enc := Fld.enc) (ok := fun _ => True) fun x hx => by
  obtain ⟨q, hq⟩ := rdFld (hes x hx)
  exact ⟨q, hq, trivial⟩
 exact ⟨⟨s.data.toList, l⟩, by rw [Sch.enc_eq]; show _ = AV.agg [str (ba s.data.toList), _]; rw [← ba_of, cellsF]; rfl⟩
theorem rdSchs {n : Nat} {x : AV} (h : El EE.P (Cl EE.P n) 26 x) : ∃ l : List Sch, x = .isl 2 (mapE Sch.enc l) := by
 obtain ⟨m, es, h, hl, he⟩ := (h.one (by kernel_rfl)).slice Tryd.underlying26
 obtain ⟨l, rfl, _⟩ := list_enc (enc := Sch.enc) (ok := fun _ => True) fun x hx => by
  obtain ⟨e, hq⟩ := rdSch (he x hx)
  exact ⟨e, hq, trivial⟩
 exact ⟨l, by rw [cellsS] at h; simpa using h⟩
theorem str_bulk (s : Bs) : s.length ≤ (str (ba s)).bulk := by
 have := ba_size s
 simp only [AV.bulk]; omega
theorem bulk_mem {x : AV} : ∀ {l : List AV}, x ∈ l → x.bulk ≤ AV.bulkL l
 | y :: l, h => by
  rw [AV.bulkL]
  rcases List.mem_cons.1 h with rfl | h
  · omega
  · have := bulk_mem h; omega
theorem bulk_len : ∀ l : List AV, l.length ≤ AV.bulkL l
 | [] => by simp
 | x :: l => by
  have := bulk_len l
  have : 1 ≤ x.bulk := by
   cases x with
   | val v => cases v <;> simp [AV.bulk]
   | _ => simp [AV.bulk]
  rw [AV.bulkL, List.length_cons]; omega
theorem Sch.short_bulk {q : Sch} (h : q.enc.bulk ≤ 1048576) : q.Short := by
 rw [Sch.enc_eq] at h
 have h1 := str_bulk q.nm
 have h2 := bulk_len (mapE Fld.enc q.fs)
 rw [mapE_len] at h2
 simp only [AV.bulk, AV.bulkL] at h h1
 refine ⟨by omega, by omega, fun f hf => ?_⟩
 have h3 := bulk_mem (x := f.enc) (l := mapE Fld.enc q.fs) (by rw [mapE_eq]; exact List.mem_map.2 ⟨f, hf, rfl⟩)
 have h4 := str_bulk f.nm
 rw [Fld.enc_eq] at h3
 simp only [AV.bulk, AV.bulkL] at h3 h4
 omega
theorem Sch.list_bulk {l : List Sch} (h : (AV.isl 2 (mapE Sch.enc l)).bulk ≤ 1048576) : l.length < 1048577 ∧ ∀ q ∈ l, q.Short := by
 have h2 := bulk_len (mapE Sch.enc l)
 rw [mapE_len] at h2
 simp only [AV.bulk] at h
 refine ⟨by omega, fun q hq => Sch.short_bulk ?_⟩
 have h3 := bulk_mem (x := q.enc) (l := mapE Sch.enc l) (by rw [mapE_eq]; exact List.mem_map.2 ⟨q, hq, rfl⟩)
 omega
theorem own_none : ownKnob Tryd.prog.godebug = none := by kernel_rfl
theorem kidsP : Kids EE.P (· < EE.P.types.size) := kids_rows (by kernel_rfl) (by kernel_rfl)
theorem fullP : ∀ t e, t < EE.P.types.size → EE.P.underlying t = some (.slice e) → 0 < EE.P.cellsOf e := slices_full_of EE.P (by kernel_rfl)
theorem gWords : Tryd.prog.globalNamed "tidegate/schema.words" = some 0 := by kernel_rfl
theorem gWordsT : ∃ t, (Tryd.prog.globals[0]?).map (·.type) = some t ∧ flatTy Tryd.prog 8 t = true := ⟨_, rfl, by kernel_rfl⟩
theorem kw_lit : str (Classical.choice kwBox_ne).i = .val (.string ⟨#[105, 110, 116]⟩) ∧ str (Classical.choice kwBox_ne).b = .val (.string ⟨#[98, 111, 111, 108]⟩) ∧ str (Classical.choice kwBox_ne).s = .val (.string ⟨#[115, 116, 114, 105, 110, 103]⟩) := by
 rw [(Classical.choice kwBox_ne).hi, (Classical.choice kwBox_ne).hb, (Classical.choice kwBox_ne).hs, ba_eq, ba_eq, ba_eq]
 exact ⟨rfl, rfl, rfl⟩
theorem globE {laid : List (String × DataW Unit)} (hm : ("tidegate/schema.words", Proofs.YteahddjeanhnlaaDoor.Rows.laid_tidegate_schema_words) ∈ laid) {W : World} (h : laidMet Tryd.prog laid W) :
 ∀ g, VRep ⟨fun _ => none, fun b => b < W.heap.size⟩ 0 W (EE.G g) (.pointer (some ⟨g, 0, none⟩)) := by
 intro g
 obtain ⟨ps, hv, _⟩ := h
 obtain ⟨t, ht, hf⟩ := gWordsT
 have hc := laid_cells hv hm gWords ht hf
 obtain ⟨k1, k2, k3⟩ := kw_lit
 show VRep _ 0 W (cond (Nat.beq g 0) (.iptr [str (Classical.choice kwBox_ne).i, str (Classical.choice kwBox_ne).b, str (Classical.choice kwBox_ne).s]) .undef) _
 rw [k1, k2, k3]
 cases hb : Nat.beq g 0 with
 | false => exact .undef _
 | true =>
  obtain rfl := Nat.eq_of_beq_eq_true hb
  have e : flatD (H := Unit) Proofs.YteahddjeanhnlaaDoor.Rows.laid_tidegate_schema_words = [.string ⟨#[105, 110, 116]⟩, .string ⟨#[98, 111, 111, 108]⟩, .string ⟨#[115, 116, 114, 105, 110, 103]⟩] := by rfl
  rw [e] at hc
  exact glob_rep hc gWords rfl (by
   intro v hv c h
   subst h
   simp at hv)
theorem bulk_upto {H : Type} : (∀ d : DataW H, Proofs.YteahddjeanhnlaaDoor.Rows.uptoBulk d = dBulk d) ∧ (∀ d : List (DataW H), Proofs.YteahddjeanhnlaaDoor.Rows.uptoBulkAll d = dBulkAll d) := by
 have : ∀ k : Nat, (∀ d : DataW H, SizeOf.sizeOf d ≤ k → Proofs.YteahddjeanhnlaaDoor.Rows.uptoBulk d = dBulk d) ∧ (∀ d : List (DataW H), SizeOf.sizeOf d ≤ k → Proofs.YteahddjeanhnlaaDoor.Rows.uptoBulkAll d = dBulkAll d) ∧ (∀ d : List (Lit × DataW H), SizeOf.sizeOf d ≤ k → Proofs.YteahddjeanhnlaaDoor.Rows.uptoBulkEntries d = dBulkEntries d) ∧ (∀ d : Lit × DataW H, SizeOf.sizeOf d ≤ k → Proofs.YteahddjeanhnlaaDoor.Rows.uptoBulkEntry d = dBulkEntry d) := by
  intro k
  induction k with
  | zero =>
   refine ⟨fun d h => ?_, fun d h => ?_, fun d h => ?_, fun d h => ?_⟩
   · cases d <;> simp at h <;> omega
   · cases d <;> simp at h <;> omega
   · cases d <;> simp at h <;> omega
   · obtain ⟨a, b⟩ := d; simp at h <;> omega
  | succ k ih =>
   obtain ⟨i1, i2, i3, i4⟩ := ih
   refine ⟨fun d h => ?_, fun d h => ?_, fun d h => ?_, fun d h => ?_⟩
   · cases d with
     | lit l => cases l <;> simp [Proofs.YteahddjeanhnlaaDoor.Rows.uptoBulk, dBulk]
     | nil => simp [Proofs.YteahddjeanhnlaaDoor.Rows.uptoBulk, dBulk]
     | ptr d => simp only [Proofs.YteahddjeanhnlaaDoor.Rows.uptoBulk, dBulk]; rw [i1 d (by simp at h; omega)]
     | slice a b => simp only [Proofs.YteahddjeanhnlaaDoor.Rows.uptoBulk, dBulk]; rw [i2 a (by simp at h; omega), i2 b (by simp at h; omega)]
     | agg a => simp only [Proofs.YteahddjeanhnlaaDoor.Rows.uptoBulk, dBulk]; rw [i2 a (by simp at h; omega)]
     | iface t d => simp only [Proofs.YteahddjeanhnlaaDoor.Rows.uptoBulk, dBulk]; rw [i1 d (by simp at h; omega)]
     | map a => simp only [Proofs.YteahddjeanhnlaaDoor.Rows.uptoBulk, dBulk]; rw [i3 a (by simp at h; omega)]
     | held a => simp only [Proofs.YteahddjeanhnlaaDoor.Rows.uptoBulk, dBulk]
   · cases d with
     | nil => simp only [Proofs.YteahddjeanhnlaaDoor.Rows.uptoBulkAll, dBulkAll]
     | cons x r => simp only [Proofs.YteahddjeanhnlaaDoor.Rows.uptoBulkAll, dBulkAll]; rw [i1 x (by simp at h; omega), i2 r (by simp at h; omega)]
   · cases d with
     | nil => simp only [Proofs.YteahddjeanhnlaaDoor.Rows.uptoBulkEntries, dBulkEntries]
     | cons x r => simp only [Proofs.YteahddjeanhnlaaDoor.Rows.uptoBulkEntries, dBulkEntries]; rw [i4 x (by simp at h; omega), i3 r (by simp at h; omega)]
   · obtain ⟨l, b⟩ := d
     cases l <;> (simp only [Proofs.YteahddjeanhnlaaDoor.Rows.uptoBulkEntry, dBulkEntry]; rw [i1 b (by simp at h; omega)])
 exact ⟨fun d => (this _).1 d (Nat.le_refl _), fun d => (this _).2.1 d (Nat.le_refl _)⟩
noncomputable def laidH (os : Os) : Array Obj := (World.holding Tryd.prog os ⟨#[], #[], []⟩).heap
noncomputable def putRow (h : Array Obj) (g : Nat) (vs : Array Value) : Array Obj := h.modify g fun
      | .cells _ t frozen => .cells vs t frozen
      | o => o
noncomputable def laidW (os : Os) : World :=
 { World.holding Tryd.prog os ⟨#[], #[], []⟩ with heap := (putRow (putRow (putRow (putRow (laidH os) 0 (flatD (H := Unit) Proofs.YteahddjeanhnlaaDoor.Rows.laid_tidegate_schema_words).toArray) 3 (flatD Proofs.YteahddjeanhnlaaDoor.Rows.laid_unicode_utf8_first).toArray) 4 (flatD (H := Unit) Proofs.YteahddjeanhnlaaDoor.Rows.laid_unicode_utf8_acceptRanges).toArray) 1 #[.slice (some ⟨(laidH os).size, 0, none⟩) 3 3]).push (.cells #[.string ⟨#[105, 110, 116]⟩, .string ⟨#[98, 111, 111, 108]⟩, .string ⟨#[115, 116, 114, 105, 110, 103]⟩] 9 (0, 0)) }
end Go.Am
end
section
set_option maxHeartbeats 16000000
set_option maxRecDepth 100000
namespace Go.Am
open Go.Proofs
def chkL : List Bs → List Sch → Int
 | _, [] => 0
 | seen, q :: r => if q.chk ≠ 0 then q.chk else if q.nm ∈ seen then 7 else chkL (seen ++ [q.nm]) r
def chkAll (l : List Sch) : Int := if 16 < l.length then 5 else chkL [] l
def idxI (q : Sch) (nm : Bs) : Int := if q.chk ≠ 0 then 0 else if Fld.pos q.fs nm < 0 then 0 else Fld.pos q.fs nm
def idxE (q : Sch) (nm : Bs) : Int := if q.chk ≠ 0 then q.chk else if Fld.pos q.fs nm < 0 then 6 else 0
theorem chkF_zero : ∀ (r : List Fld) (s : List Bs), chkF s r = 0 ↔ (∀ f ∈ r, fnameB f.nm = true ∧ 0 ≤ f.kd ∧ f.kd < 3) ∧ (r.map Fld.nm).Nodup ∧ ∀ f ∈ r, f.nm ∉ s
 | [], s => by simp [chkF]
 | f :: r, s => by
  rw [chkF]
  have ih := chkF_zero r (s ++ [f.nm])
  by_cases h1 : fnameB f.nm = false
  · rw [if_pos h1]; simp [h1]
  rw [if_neg h1]
  by_cases h2 : f.nm ∈ s
  · rw [if_pos h2]; simp [h2]
  rw [if_neg h2]
  by_cases h3 : f.kd < 0 ∨ 3 ≤ f.kd
  · rw [if_pos h3]
    constructor
    · intro h; cases h
    · rintro ⟨h, _⟩
      have := h f (by simp)
      omega
  rw [if_neg h3, ih]
  constructor
  · rintro ⟨a, b, c⟩
    refine ⟨fun g hg => ?_, ?_, fun g hg => ?_⟩
    · rcases List.mem_cons.1 hg with rfl | hg
      · exact ⟨by simpa using h1, by omega, by omega⟩
      · exact a g hg
    · rw [List.map_cons, List.nodup_cons]
      refine ⟨fun h => ?_, b⟩
      obtain ⟨g, hg, e⟩ := List.mem_map.1 h
      exact c g hg (by simp [e])
    · rcases List.mem_cons.1 hg with rfl | hg
      · exact h2
      · intro h; exact c g hg (by simp [h])
  · rintro ⟨a, b, c⟩
    rw [List.map_cons, List.nodup_cons] at b
    refine ⟨fun g hg => a g (by simp [hg]), b.2, fun g hg h => ?_⟩
    rcases List.mem_append.1 h with h | h
    · exact c g (by simp [hg]) h
    · simp at h
      exact b.1 (List.mem_map.2 ⟨g, hg, h⟩)
theorem Sch.chk_zero (q : Sch) : q.chk = 0 ↔ nameB q.nm = true ∧ q.fs.length ≤ 8 ∧ (∀ f ∈ q.fs, fnameB f.nm = true ∧ 0 ≤ f.kd ∧ f.kd < 3) ∧ (q.fs.map Fld.nm).Nodup := by
 rw [Sch.chk]
 by_cases h1 : nameB q.nm = false
 · rw [if_pos h1]; simp [h1]
 rw [if_neg h1]
 by_cases h2 : 8 < q.fs.length
 · rw [if_pos h2]
   constructor
   · intro h; cases h
   · rintro ⟨_, h, _⟩; omega
 rw [if_neg h2, chkF_zero]
 simp at h1
 constructor
 · rintro ⟨a, b, _⟩; exact ⟨h1, by omega, a, b⟩
 · rintro ⟨_, _, a, b⟩; exact ⟨a, b, by simp⟩
theorem chkL_zero : ∀ (r : List Sch) (s : List Bs), chkL s r = 0 ↔ (∀ q ∈ r, q.chk = 0) ∧ (r.map Sch.nm).Nodup ∧ ∀ q ∈ r, q.nm ∉ s
 | [], s => by simp [chkL]
 | f :: r, s => by
  rw [chkL]
  have ih := chkL_zero r (s ++ [f.nm])
  by_cases h1 : f.chk ≠ 0
  · rw [if_pos h1]
    constructor
    · intro h; exact absurd h h1
    · rintro ⟨h, _⟩; exact h f (by simp)
  rw [if_neg h1]
  by_cases h2 : f.nm ∈ s
  · rw [if_pos h2]; simp [h2]
  rw [if_neg h2, ih]
  constructor
  · rintro ⟨a, b, c⟩
    refine ⟨fun g hg => ?_, ?_, fun g hg => ?_⟩
    · rcases List.mem_cons.1 hg with rfl | hg
      · simpa using h1
      · exact a g hg
    · rw [List.map_cons, List.nodup_cons]
      refine ⟨fun h => ?_, b⟩
      obtain ⟨g, hg, e⟩ := List.mem_map.1 h
      exact c g hg (by simp [e])
    · rcases List.mem_cons.1 hg with rfl | hg
      · exact h2
      · intro h; exact c g hg (by simp [h])
  · rintro ⟨a, b, c⟩
    rw [List.map_cons, List.nodup_cons] at b
    refine ⟨fun g hg => a g (by simp [hg]), b.2, fun g hg h => ?_⟩
    rcases List.mem_append.1 h with h | h
    · exact c g (by simp [hg]) h
    · simp at h
      exact b.1 (List.mem_map.2 ⟨g, hg, h⟩)
theorem chkAll_zero (l : List Sch) : chkAll l = 0 ↔ l.length ≤ 16 ∧ (∀ q ∈ l, q.chk = 0) ∧ (l.map Sch.nm).Nodup := by
 rw [chkAll]
 by_cases h : 16 < l.length
 · rw [if_pos h]
   constructor
   · intro h; cases h
   · rintro ⟨h, _⟩; omega
 rw [if_neg h, chkL_zero]
 constructor
 · rintro ⟨a, b, _⟩; exact ⟨by omega, a, b⟩
 · rintro ⟨_, a, b⟩; exact ⟨a, b, by simp⟩
def kw (k : Int) : Bs := if k = 0 then bInt else if k = 1 then bBool else bStr
def fmtF (f : Fld) : Bs := 32 :: (f.nm ++ 58 :: kw f.kd)
def fmtS (q : Sch) : Bs := q.nm ++ (q.fs.flatMap fmtF ++ [10])
def fmt (l : List Sch) : Bs := l.flatMap fmtS
theorem kw_len (k : Int) : (kw k).length ≤ 6 := by
 unfold kw
 split
 · decide
 · split <;> decide
structure Tok where
 at' : Nat
 fst : Bool
 w : Bs
def nsp (c : UInt8) : Bool := c != 32 && c != 10
theorem dropWhile_le (p : UInt8 → Bool) : ∀ l : Bs, (l.dropWhile p).length ≤ l.length
 | [] => by simp
 | c :: l => by
  rw [List.dropWhile_cons]
  have := dropWhile_le p l
  split <;> simp only [List.length_cons] <;> omega
def toks : Bs → Nat → Bool → List Tok
 | [], _, _ => []
 | c :: r, a, f => if c = 10 then toks r (a + 1) true else if c = 32 then toks r (a + 1) f else ⟨a, f, c :: r.takeWhile nsp⟩ :: toks (r.dropWhile nsp) (a + 1 + (r.takeWhile nsp).length) false
 termination_by l => l.length
 decreasing_by
  all_goals simp only [List.length_cons]
  · omega
  · omega
  · have := dropWhile_le nsp r; omega
theorem toks_nil (a : Nat) (f : Bool) : toks [] a f = [] := by rw [toks]
theorem toks_nl (r : Bs) (a : Nat) (f : Bool) : toks (10 :: r) a f = toks r (a + 1) true := by rw [toks, if_pos rfl]
theorem toks_sp (r : Bs) (a : Nat) (f : Bool) : toks (32 :: r) a f = toks r (a + 1) f := by rw [toks, if_neg (by decide), if_pos rfl]
def stops (r : Bs) : Prop := match r with
 | [] => True
 | c :: _ => nsp c = false
theorem take_nsp : ∀ {w r : Bs}, (∀ c ∈ w, nsp c = true) → stops r → (w ++ r).takeWhile nsp = w ∧ (w ++ r).dropWhile nsp = r
 | [], [], _, _ => by simp
 | [], c :: r, _, h => by
  have h : nsp c = false := h
  simp [h]
 | c :: w, r, h1, h2 => by
  have ih := take_nsp (w := w) (r := r) (fun x hx => h1 x (by simp [hx])) h2
  simp [h1 c (by simp), ih.1, ih.2]
theorem toks_word {w r : Bs} (a : Nat) (f : Bool) (h0 : w ≠ []) (h1 : ∀ c ∈ w, nsp c = true) (h2 : stops r) : toks (w ++ r) a f = ⟨a, f, w⟩ :: toks r (a + w.length) false := by
 cases w with
 | nil => exact absurd rfl h0
 | cons c w =>
  have hc := h1 c (by simp)
  have ht := take_nsp (w := w) (r := r) (fun x hx => h1 x (by simp [hx])) h2
  rw [List.cons_append, toks, if_neg (by rintro rfl; revert hc; decide), if_neg (by rintro rfl; revert hc; decide), ht.1, ht.2]
  simp only [List.length_cons]
  rw [Nat.add_assoc, Nat.add_comm 1]
theorem split_nsp : ∀ l : Bs, ∃ w r, l = w ++ r ∧ (∀ c ∈ w, nsp c = true) ∧ stops r
 | [] => ⟨[], [], rfl, by simp, trivial⟩
 | c :: l => by
  cases h : nsp c with
  | false => exact ⟨[], c :: l, rfl, by simp, h⟩
  | true =>
   obtain ⟨w, r, e, a, b⟩ := split_nsp l
   refine ⟨c :: w, r, by rw [e]; rfl, fun x hx => ?_, b⟩
   rcases List.mem_cons.1 hx with rfl | hx
   · exact h
   · exact a x hx
theorem toks_cases (l : Bs) : l = [] ∨ (∃ r, l = 10 :: r) ∨ (∃ r, l = 32 :: r) ∨ ∃ w r, l = w ++ r ∧ w ≠ [] ∧ (∀ c ∈ w, nsp c = true) ∧ stops r := by
 cases l with
 | nil => exact .inl rfl
 | cons c r =>
  by_cases h1 : c = 10
  · exact .inr (.inl ⟨r, by rw [h1]⟩)
  by_cases h2 : c = 32
  · exact .inr (.inr (.inl ⟨r, by rw [h2]⟩))
  obtain ⟨w, r', e, a, b⟩ := split_nsp r
  refine .inr (.inr (.inr ⟨c :: w, r', by rw [e]; rfl, by simp, fun x hx => ?_, b⟩))
  rcases List.mem_cons.1 hx with rfl | hx
  · simp [nsp, h1, h2]
  · exact a x hx
theorem toks_line : ∀ (n : Nat) (d r : Bs) (a : Nat) (f : Bool), d.length ≤ n → (10 : UInt8) ∉ d → toks (d ++ 10 :: r) a f = toks d a f ++ toks r (a + d.length + 1) true
 | 0, d, r, a, f, hn, _ => by
  cases d with
  | nil => rw [List.nil_append, toks_nl, toks_nil]; simp
  | cons c d => simp at hn
 | n + 1, d, r, a, f, hn, h => by
  rcases toks_cases d with rfl | ⟨d, rfl⟩ | ⟨d, rfl⟩ | ⟨w, d, rfl, h0, h1, h2⟩
  · rw [List.nil_append, toks_nl, toks_nil]; simp
  · simp at h
  · rw [List.cons_append, toks_sp, toks_sp, toks_line n d r (a + 1) f (by simp at hn; omega) (by simp at h; exact h)]
    simp only [List.length_cons]; congr 2; omega
  · have hd : (10 : UInt8) ∉ d := fun hh => h (by simp [hh])
    have hl : d.length ≤ n := by
     have := List.length_pos_iff.2 h0
     simp at hn; omega
    have h3 : stops (d ++ 10 :: r) := by
     cases d with
     | nil => show nsp 10 = false; decide
     | cons c d => exact h2
    rw [List.append_assoc, toks_word a f h0 h1 h3, toks_word a f h0 h1 h2, toks_line n d r (a + w.length) false hl hd]
    simp only [List.cons_append, List.length_append]; congr 3; omega
theorem toks_shift : ∀ (n : Nat) (l : Bs) (k a : Nat) (f : Bool), l.length ≤ n → toks l (k + a) f = (toks l a f).map fun t => ⟨k + t.at', t.fst, t.w⟩
 | 0, l, k, a, f, hn => by
  cases l with
  | nil => rw [toks_nil, toks_nil]; rfl
  | cons c d => simp at hn
 | n + 1, l, k, a, f, hn => by
  rcases toks_cases l with rfl | ⟨d, rfl⟩ | ⟨d, rfl⟩ | ⟨w, d, rfl, h0, h1, h2⟩
  · rw [toks_nil, toks_nil]; rfl
  · rw [toks_nl, toks_nl, Nat.add_assoc, toks_shift n d k (a + 1) true (by simp at hn; omega)]
  · rw [toks_sp, toks_sp, Nat.add_assoc, toks_shift n d k (a + 1) f (by simp at hn; omega)]
  · have hl : d.length ≤ n := by
     have := List.length_pos_iff.2 h0
     simp at hn; omega
    rw [toks_word (k + a) f h0 h1 h2, toks_word a f h0 h1 h2, Nat.add_assoc, toks_shift n d k (a + w.length) false hl]
    rfl
def kdOf (w : Bs) : Int := if w = bInt then 0 else if w = bBool then 1 else if w = bStr then 2 else -1
def begE (l : List Sch) (w : Bs) : Int := if (58 : UInt8) ∈ w then 4 else if l.length = 16 then 5 else if nameB w = false then 8 else if 0 ≤ Sch.wh l w then 7 else 0
def fldE (fs : List Fld) (w : Bs) : Int := if kdOf (cutR 58 w) < 0 then 4 else if fs.length = 8 then 5 else if fnameB (cutL 58 w) = false then 8 else if 0 ≤ Fld.pos fs (cutL 58 w) then 7 else 0
def newF (w : Bs) : Fld := ⟨cutL 58 w, kdOf (cutR 58 w)⟩
def lastF (l : List Sch) : List Fld := match l.getLast? with
 | some q => q.fs
 | none => []
def stepE (l : List Sch) (b : Bool) (w : Bs) : Int := if b then begE l w else fldE (lastF l) w
def addF (l : List Sch) (f : Fld) : List Sch := match l.getLast? with
 | some q => l.dropLast ++ [⟨q.nm, q.fs ++ [f]⟩]
 | none => []
def stepL (l : List Sch) (b : Bool) (w : Bs) : List Sch := if b then l ++ [⟨w, []⟩] else addF l (newF w)
theorem lastF_app (d : List Sch) (q : Sch) : lastF (d ++ [q]) = q.fs := by simp [lastF]
theorem addF_app (d : List Sch) (q : Sch) (f : Fld) : addF (d ++ [q]) f = d ++ [⟨q.nm, q.fs ++ [f]⟩] := by simp [addF]
def rdT : List Tok → List Sch → List Sch × Int × Int
 | [], l => (l, 0, 0)
 | t :: r, l => if stepE l t.fst t.w ≠ 0 then ([], (t.at' : Int), stepE l t.fst t.w) else rdT r (stepL l t.fst t.w)
def prs (s : Bs) : List Sch × Int × Int := if 65536 < s.length then ([], 0, 13) else rdT (toks s 0 true) []
theorem toks_at : ∀ (n : Nat) (l : Bs) (a : Nat) (f : Bool), l.length ≤ n → ∀ t ∈ toks l a f, a ≤ t.at' ∧ t.at' + t.w.length ≤ a + l.length ∧ t.w ≠ [] ∧ ∀ c ∈ t.w, nsp c = true
 | 0, l, a, f, hn, t, ht => by
  cases l with
  | nil => rw [toks_nil] at ht; cases ht
  | cons c d => simp at hn
 | n + 1, l, a, f, hn, t, ht => by
  rcases toks_cases l with rfl | ⟨d, rfl⟩ | ⟨d, rfl⟩ | ⟨w, d, rfl, h0, h1, h2⟩
  · rw [toks_nil] at ht; cases ht
  · rw [toks_nl] at ht
    have := toks_at n d (a + 1) true (by simp at hn; omega) t ht
    simp only [List.length_cons]; exact ⟨by omega, by omega, this.2.2⟩
  · rw [toks_sp] at ht
    have := toks_at n d (a + 1) f (by simp at hn; omega) t ht
    simp only [List.length_cons]; exact ⟨by omega, by omega, this.2.2⟩
  · have hl : d.length ≤ n := by
     have := List.length_pos_iff.2 h0
     simp at hn; omega
    rw [toks_word a f h0 h1 h2] at ht
    simp only [List.length_append]
    rcases List.mem_cons.1 ht with rfl | ht
    · exact ⟨Nat.le_refl _, by simp only; omega, h0, h1⟩
    · have := toks_at n d (a + w.length) false hl t ht
      exact ⟨by omega, by omega, this.2.2⟩
def wrd (l : Bs) (f : Bool) : List (Bool × Bs) := (toks l 0 f).map fun t => (t.fst, t.w)
theorem toks_wrd (l : Bs) (a : Nat) (f : Bool) : (toks l a f).map (fun t => (t.fst, t.w)) = wrd l f := by
 rw [wrd, ← Nat.add_zero a, toks_shift l.length l a 0 f (Nat.le_refl _), List.map_map]; rfl
theorem wrd_nil (f : Bool) : wrd [] f = [] := by rw [wrd, toks_nil]; rfl
theorem wrd_nl (r : Bs) (f : Bool) : wrd (10 :: r) f = wrd r true := by rw [wrd, toks_nl, toks_wrd]
theorem wrd_sp (r : Bs) (f : Bool) : wrd (32 :: r) f = wrd r f := by rw [wrd, toks_sp, toks_wrd]
theorem wrd_word {w r : Bs} (f : Bool) (h0 : w ≠ []) (h1 : ∀ c ∈ w, nsp c = true) (h2 : stops r) : wrd (w ++ r) f = (f, w) :: wrd r false := by
 rw [wrd, toks_word 0 f h0 h1 h2, List.map_cons, toks_wrd]
def rdW : List (Bool × Bs) → List Sch → Option (List Sch)
 | [], l => some l
 | (b, w) :: r, l => if stepE l b w ≠ 0 then none else rdW r (stepL l b w)
theorem rdT_W : ∀ (ts : List Tok) (l m : List Sch), rdW (ts.map fun t => (t.fst, t.w)) l = some m ↔ rdT ts l = (m, 0, 0)
 | [], l, m => by
  simp [rdW, rdT]
 | t :: r, l, m => by
  rw [List.map_cons, rdW, rdT]
  by_cases g : stepE l t.fst t.w ≠ 0
  · rw [if_pos g, if_pos g]
    constructor
    · intro h; cases h
    · intro h
      simp only [Prod.mk.injEq] at h
      exact absurd h.2.2 g
  · rw [if_neg g, if_neg g]
    exact rdT_W r _ m
theorem prs_of {s : Bs} {l : List Sch} (hs : s.length ≤ 65536) (h : rdW (wrd s true) [] = some l) : prs s = (l, 0, 0) := by
 rw [prs, if_neg (by omega)]
 exact (rdT_W _ _ _).1 (by rw [toks_wrd]; exact h)
def fldW (f : Fld) : Bs := f.nm ++ 58 :: kw f.kd
def wordsF (l : List Fld) : List (Bool × Bs) := l.map fun f => (false, fldW f)
def wordsS (l : List Sch) : List (Bool × Bs) := l.flatMap fun q => (true, q.nm) :: wordsF q.fs
theorem okCh_ns (c : UInt8) (h : okCh c = true) : nsp c = true ∧ c ≠ 58 := by
 constructor
 · rw [nsp]
   by_cases h1 : c = 32
   · subst h1; revert h; decide
   by_cases h2 : c = 10
   · subst h2; revert h; decide
   simp [h1, h2]
 · rintro rfl; revert h; decide
theorem nameB_ch {w : Bs} (h : nameB w = true) : w ≠ [] ∧ w.length ≤ 24 ∧ (∀ c ∈ w, nsp c = true) ∧ (58 : UInt8) ∉ w := by
 cases w with
 | nil => simp [nameB] at h
 | cons c w =>
  simp only [nameB, Bool.and_eq_true, decide_eq_true_eq] at h
  obtain ⟨h1, h2, h3⟩ := h
  have ha : ∀ x ∈ c :: w, okCh x = true := fun x hx => List.all_eq_true.1 h3 x hx
  exact ⟨by simp, h1, fun x hx => (okCh_ns x (ha x hx)).1, fun hx => (okCh_ns _ (ha _ hx)).2 rfl⟩
theorem kw_ch (k : Int) : ∀ c ∈ kw k, nsp c = true ∧ c ≠ 58 := by
 unfold kw
 split
 · decide
 · split <;> decide
theorem kdOf_kw {k : Int} (h0 : 0 ≤ k) (h3 : k < 3) : kdOf (kw k) = k := by
 have : k = 0 ∨ k = 1 ∨ k = 2 := by omega
 rcases this with rfl | rfl | rfl <;> decide
theorem fldW_ch {f : Fld} (h : fnameB f.nm = true) : fldW f ≠ [] ∧ ∀ c ∈ fldW f, nsp c = true := by
 simp only [fnameB, Bool.and_eq_true] at h
 obtain ⟨a, _, b, _⟩ := nameB_ch h.1
 refine ⟨by simp [fldW], fun c hc => ?_⟩
 rw [fldW] at hc
 rcases List.mem_append.1 hc with hc | hc
 · exact b c hc
 · rcases List.mem_cons.1 hc with rfl | hc
   · decide
   · exact (kw_ch _ c hc).1
theorem fldW_new {f : Fld} (h : fnameB f.nm = true ∧ 0 ≤ f.kd ∧ f.kd < 3) : newF (fldW f) = f := by
 have hn := h.1
 simp only [fnameB, Bool.and_eq_true] at hn
 obtain ⟨_, _, _, b⟩ := nameB_ch hn.1
 rw [newF, fldW, cutL_app _ b, cutR_app _ b, kdOf_kw h.2.1 h.2.2]
theorem wrd_fields (g : Bs → Bs) (t : Bs) (ht : ∀ w, stops (g w)) (hw : ∀ w f, wrd (g w) f = wrd w f) (h32 : stops t) : ∀ l : List Fld, (∀ f ∈ l, fnameB f.nm = true) → stops (l.foldr (fun f r => g (fldW f ++ r)) t) ∧ wrd (l.foldr (fun f r => g (fldW f ++ r)) t) false = wordsF l ++ wrd t false
 | [], _ => ⟨h32, rfl⟩
 | f :: l, h => by
  have ih := wrd_fields g t ht hw h32 l fun x hx => h x (by simp [hx])
  obtain ⟨a, b⟩ := fldW_ch (h f (by simp))
  refine ⟨ht _, ?_⟩
  rw [List.foldr_cons, hw, wrd_word false a b ih.1, ih.2]; rfl
theorem wrd_lines (g e : Bs → Bs) (hg1 : ∀ w, stops (g w)) (hg2 : ∀ w f, wrd (g w) f = wrd w f) (he1 : ∀ w, stops (e w)) (he2 : ∀ w f, wrd (e w) f = wrd w true) (t : Bs) :
 ∀ l : List Sch, (∀ q ∈ l, q.chk = 0) → wrd (l.foldr (fun q r => q.nm ++ q.fs.foldr (fun f r => g (fldW f ++ r)) (e r)) t) true = wordsS l ++ wrd t true
 | [], _ => rfl
 | q :: l, h => by
  have ih := wrd_lines g e hg1 hg2 he1 he2 t l fun x hx => h x (by simp [hx])
  obtain ⟨h1, _, h3, _⟩ := (Sch.chk_zero q).1 (h q (by simp))
  obtain ⟨a, _, b, _⟩ := nameB_ch h1
  have hf := wrd_fields g (e (l.foldr (fun q r => q.nm ++ q.fs.foldr (fun f r => g (fldW f ++ r)) (e r)) t)) hg1 hg2 (he1 _) q.fs fun f hf => (h3 f hf).1
  rw [List.foldr_cons, wrd_word true a b hf.1, hf.2, he2, ih]
  simp [wordsS]
theorem fmt_fold (l : List Sch) : fmt l = l.foldr (fun q r => q.nm ++ q.fs.foldr (fun f r => 32 :: (fldW f ++ r)) (10 :: r)) [] := by
 have hf : ∀ (fs : List Fld) (r : Bs), fs.flatMap fmtF ++ r = fs.foldr (fun f r => 32 :: (fldW f ++ r)) r := by
  intro fs r
  induction fs with
  | nil => rfl
  | cons f fs ih => rw [List.flatMap_cons, List.append_assoc, ih]; rfl
 induction l with
 | nil => rfl
 | cons q l ih =>
  rw [fmt, List.flatMap_cons, ← fmt, ih, List.foldr_cons, fmtS, List.append_assoc, List.append_assoc, hf]; rfl
theorem wrd_fmt {l : List Sch} (h : ∀ q ∈ l, q.chk = 0) : wrd (fmt l) true = wordsS l := by
 rw [fmt_fold]
 have := wrd_lines (fun w => 32 :: w) (fun w => 10 :: w) (fun w => by show nsp 32 = false; decide) (fun w f => wrd_sp w f) (fun w => by show nsp 10 = false; decide) (fun w f => wrd_nl w f) [] l h
 rw [wrd_nil, List.append_nil] at this
 exact this
theorem rdW_fields (d : List Sch) (nm : Bs) (r : List (Bool × Bs)) : ∀ (b a : List Fld), (∀ f ∈ b, fnameB f.nm = true ∧ 0 ≤ f.kd ∧ f.kd < 3) → ((a ++ b).map Fld.nm).Nodup → (a ++ b).length ≤ 8 →
 rdW (wordsF b ++ r) (d ++ [⟨nm, a⟩]) = rdW r (d ++ [⟨nm, a ++ b⟩])
 | [], a, _, _, _ => by simp [wordsF]
 | f :: b, a, h1, h2, h3 => by
  obtain ⟨g1, g2, g3⟩ := h1 f (by simp)
  have hn := g1
  simp only [fnameB, Bool.and_eq_true] at hn
  obtain ⟨_, _, _, hc⟩ := nameB_ch hn.1
  have hpos : Fld.pos a f.nm = -1 := pos_miss fun x hx e => by
   rw [List.map_append, List.nodup_append] at h2
   exact h2.2.2 x.nm (List.mem_map.2 ⟨x, hx, rfl⟩) f.nm (by simp) e
  have he : stepE (d ++ [⟨nm, a⟩]) false (fldW f) = 0 := by
   simp only [stepE]
   rw [if_neg (by decide), lastF_app, fldE]
   dsimp only
   rw [fldW, cutL_app _ hc, cutR_app _ hc, kdOf_kw g2 g3, if_neg (by omega), if_neg (by simp at h3; omega), if_neg (by simp [g1]), hpos, if_neg (by decide)]
  have hl : stepL (d ++ [⟨nm, a⟩]) false (fldW f) = d ++ [⟨nm, a ++ [f]⟩] := by
   simp only [stepL]
   rw [if_neg (by decide), addF_app, fldW_new ⟨g1, g2, g3⟩]
  have ih := rdW_fields d nm r b (a ++ [f]) (fun x hx => h1 x (by simp [hx])) (by simpa using h2) (by simpa using h3)
  show rdW ((false, fldW f) :: (wordsF b ++ r)) _ = _
  rw [rdW, if_neg (by rw [he]; simp), hl, ih]; simp
theorem rdW_schs : ∀ (b a : List Sch), (∀ q ∈ b, q.chk = 0) → ((a ++ b).map Sch.nm).Nodup → (a ++ b).length ≤ 16 → rdW (wordsS b) a = some (a ++ b)
 | [], a, _, _, _ => by simp [wordsS, rdW]
 | q :: b, a, h1, h2, h3 => by
  obtain ⟨g1, g2, g3, g4⟩ := (Sch.chk_zero q).1 (h1 q (by simp))
  obtain ⟨_, _, _, hc⟩ := nameB_ch g1
  have hwh : Sch.wh a q.nm = -1 := wh_miss fun x hx e => by
   rw [List.map_append, List.nodup_append] at h2
   exact h2.2.2 x.nm (List.mem_map.2 ⟨x, hx, rfl⟩) q.nm (by simp) e
  have he : stepE a true q.nm = 0 := by
   show begE a q.nm = 0
   rw [begE, if_neg hc, if_neg (by simp at h3; omega), if_neg (by simp [g1]), hwh, if_neg (by decide)]
  have hl : stepL a true q.nm = a ++ [⟨q.nm, []⟩] := by
   rfl
  have ih := rdW_schs b (a ++ [q]) (fun x hx => h1 x (by simp [hx])) (by simpa using h2) (by simpa using h3)
  rw [wordsS, List.flatMap_cons, ← wordsS, List.cons_append, rdW, if_neg (by rw [he]; simp), hl, rdW_fields a q.nm (wordsS b) q.fs [] g3 (by simpa using g4) (by simpa using g2), List.nil_append]
  rw [show a ++ [({ nm := q.nm, fs := q.fs } : Sch)] = a ++ [q] from rfl, ih]
  simp
theorem rdW_all {l : List Sch} (h : chkAll l = 0) : rdW (wordsS l) [] = some l := by
 obtain ⟨h1, h2, h3⟩ := (chkAll_zero l).1 h
 have := rdW_schs l [] h2 (by simpa using h3) (by simpa using h1)
 simpa using this
theorem fmt_len {l : List Sch} (h : chkAll l = 0) : (fmt l).length ≤ 4496 := by
 obtain ⟨h1, h2, _⟩ := (chkAll_zero l).1 h
 have hq : ∀ q ∈ l, (fmtS q).length ≤ 281 := fun q hq => by
  obtain ⟨g1, g2, g3, _⟩ := (Sch.chk_zero q).1 (h2 q hq)
  have hn := (nameB_ch g1).2.1
  have hf : ∀ fs : List Fld, (∀ f ∈ fs, fnameB f.nm = true) → (fs.flatMap fmtF).length ≤ fs.length * 32 := by
   intro fs
   induction fs with
   | nil => simp
   | cons f fs ih =>
    intro hfs
    have i1 := ih fun x hx => hfs x (by simp [hx])
    have := hfs f (by simp)
    simp only [fnameB, Bool.and_eq_true] at this
    have := (nameB_ch this.1).2.1
    have := kw_len f.kd
    rw [List.flatMap_cons, List.length_append, List.length_cons]
    simp only [fmtF, List.length_cons, List.length_append]
    omega
  have := hf q.fs fun f hf => (g3 f hf).1
  rw [fmtS, List.length_append, List.length_append]
  simp only [List.length_cons, List.length_nil]
  omega
 have : ∀ l : List Sch, (∀ q ∈ l, (fmtS q).length ≤ 281) → (fmt l).length ≤ l.length * 281 := by
  intro l
  induction l with
  | nil => simp [fmt]
  | cons q l ih =>
   intro h
   have := ih fun x hx => h x (by simp [hx])
   have := h q (by simp)
   rw [fmt, List.flatMap_cons, ← fmt, List.length_append, List.length_cons]
   omega
 have := this l hq
 omega
theorem prs_fmt {l : List Sch} (h : chkAll l = 0) : prs (fmt l) = (l, 0, 0) :=
 prs_of (by have := fmt_len h; omega) (by rw [wrd_fmt ((chkAll_zero l).1 h).2.1]; exact rdW_all h)
theorem wrd_two (r : Bs) (f : Bool) : wrd (32 :: 32 :: 32 :: r) f = wrd r f := by rw [wrd_sp, wrd_sp, wrd_sp]
theorem wrd_nl3 (r : Bs) (f : Bool) : wrd (32 :: 10 :: 32 :: 10 :: r) f = wrd r true := by rw [wrd_sp, wrd_nl, wrd_sp, wrd_nl]
theorem subC_cons_ne {c x : UInt8} {new l : Bs} (h : x ≠ c) : subC c new (x :: l) = x :: subC c new l := by simp [subC, h]
theorem subC_cons_eq {c : UInt8} {new l : Bs} : subC c new (c :: l) = new ++ subC c new l := by simp [subC]
theorem subC_word {c : UInt8} {new : Bs} : ∀ {w : Bs} (r : Bs), c ∉ w → subC c new (w ++ r) = w ++ subC c new r
 | [], r, _ => rfl
 | x :: w, r, h => by
  simp only [List.mem_cons, not_or] at h
  rw [List.cons_append, subC_cons_ne (Ne.symm h.1), subC_word r h.2]; rfl
def wide (s : Bs) : Bs := [32, 10, 10] ++ subC 10 [32, 10, 32, 10] (subC 32 [32, 32, 32] s)
theorem not_in {c : UInt8} {w : Bs} (hc : nsp c = false) (h : ∀ x ∈ w, nsp x = true) : c ∉ w := fun hh => by rw [h c hh] at hc; cases hc
theorem sub_fmt {l : List Sch} (h : ∀ q ∈ l, q.chk = 0) : subC 10 [32, 10, 32, 10] (subC 32 [32, 32, 32] (fmt l)) = l.foldr (fun q r => q.nm ++ q.fs.foldr (fun f r => 32 :: 32 :: 32 :: (fldW f ++ r)) (32 :: 10 :: 32 :: 10 :: r)) [] := by
 rw [fmt_fold]
 have hf : ∀ (fs : List Fld) (r : Bs), (∀ f ∈ fs, fnameB f.nm = true) → subC 10 [32, 10, 32, 10] (subC 32 [32, 32, 32] (fs.foldr (fun f r => 32 :: (fldW f ++ r)) (10 :: r))) = fs.foldr (fun f r => 32 :: 32 :: 32 :: (fldW f ++ r)) (32 :: 10 :: 32 :: 10 :: subC 10 [32, 10, 32, 10] (subC 32 [32, 32, 32] r)) := by
  intro fs r
  induction fs with
  | nil =>
   intro _
   rw [List.foldr_nil, List.foldr_nil, subC_cons_ne (by decide), subC_cons_eq]; rfl
  | cons f fs ih =>
   intro h
   have ih := ih fun x hx => h x (by simp [hx])
   have hw := (fldW_ch (h f (by simp))).2
   rw [List.foldr_cons, List.foldr_cons, subC_cons_eq, subC_word _ (not_in (by decide) hw)]
   show subC 10 [32, 10, 32, 10] (32 :: 32 :: 32 :: (fldW f ++ _)) = _
   rw [subC_cons_ne (by decide), subC_cons_ne (by decide), subC_cons_ne (by decide), subC_word _ (not_in (by decide) hw), ih]
 induction l with
 | nil => rfl
 | cons q l ih =>
  obtain ⟨h1, _, h3, _⟩ := (Sch.chk_zero q).1 (h q (by simp))
  obtain ⟨_, _, b, _⟩ := nameB_ch h1
  rw [List.foldr_cons, List.foldr_cons, subC_word _ (not_in (by decide) b), subC_word _ (not_in (by decide) b), hf _ _ fun f hf => (h3 f hf).1, ih fun x hx => h x (by simp [hx])]
theorem wide_len {l : List Sch} (h : chkAll l = 0) : (wide (fmt l)).length ≤ 65536 := by
 have h1 := fmt_len h
 have hs : ∀ (c : UInt8) (new : Bs) (k : Nat), new.length ≤ k → 1 ≤ k → ∀ l : Bs, (subC c new l).length ≤ l.length * k := by
  intro c new k hk h1 l
  induction l with
  | nil => simp [subC]
  | cons x l ih =>
   by_cases e : x = c
   · subst e
     rw [subC_cons_eq, List.length_append, List.length_cons, Nat.add_mul]; omega
   · rw [subC_cons_ne e, List.length_cons, List.length_cons, Nat.add_mul]; omega
 have h2 := hs 32 [32, 32, 32] 3 (by decide) (by decide) (fmt l)
 have h3 := hs 10 [32, 10, 32, 10] 4 (by decide) (by decide) (subC 32 [32, 32, 32] (fmt l))
 rw [wide, List.length_append]
 simp only [List.length_cons, List.length_nil]
 omega
theorem prs_wide {l : List Sch} (h : chkAll l = 0) : prs (wide (fmt l)) = (l, 0, 0) := by
 have hq := ((chkAll_zero l).1 h).2.1
 refine prs_of (wide_len h) ?_
 have := wrd_lines (fun w => 32 :: 32 :: 32 :: w) (fun w => 32 :: 10 :: 32 :: 10 :: w) (fun w => by show nsp 32 = false; decide) wrd_two (fun w => by show nsp 32 = false; decide) wrd_nl3 [] l hq
 rw [wide, sub_fmt hq]
 generalize l.foldr (fun q r => q.nm ++ q.fs.foldr (fun f r => 32 :: 32 :: 32 :: (fldW f ++ r)) (32 :: 10 :: 32 :: 10 :: r)) [] = X at this ⊢
 show rdW (wrd (32 :: 10 :: 10 :: X) true) [] = _
 rw [wrd_sp, wrd_nl, wrd_nl, this, wrd_nil, List.append_nil]
 exact rdW_all h
theorem fmt_last {l : List Sch} (h : l ≠ []) : ∃ d, fmt l = d ++ [10] := by
 obtain ⟨a, q, rfl⟩ : ∃ a q, l = a ++ [q] := ⟨l.dropLast, l.getLast h, (List.dropLast_concat_getLast h).symm⟩
 exact ⟨fmt a ++ (q.nm ++ q.fs.flatMap fmtF), by simp [fmt, fmtS]⟩
theorem wrd_end : ∀ (n : Nat) (d : Bs) (f : Bool), d.length ≤ n → wrd (d ++ [10]) f = wrd d f
 | 0, d, f, hn => by
  cases d with
  | nil => rw [List.nil_append, wrd_nl, wrd_nil, wrd_nil]
  | cons c d => simp at hn
 | n + 1, d, f, hn => by
  rcases toks_cases d with rfl | ⟨d, rfl⟩ | ⟨d, rfl⟩ | ⟨w, d, rfl, h0, h1, h2⟩
  · rw [List.nil_append, wrd_nl, wrd_nil, wrd_nil]
  · rw [List.cons_append, wrd_nl, wrd_nl, wrd_end n d true (by simp at hn; omega)]
  · rw [List.cons_append, wrd_sp, wrd_sp, wrd_end n d f (by simp at hn; omega)]
  · have hl : d.length ≤ n := by
     have := List.length_pos_iff.2 h0
     simp at hn; omega
    have h3 : stops (d ++ [10]) := by
     cases d with
     | nil => show nsp 10 = false; decide
     | cons c d => exact h2
    rw [List.append_assoc, wrd_word f h0 h1 h3, wrd_word f h0 h1 h2, wrd_end n d false hl]
theorem prs_cut {l : List Sch} {d : Bs} (h : chkAll l = 0) (hd : fmt l = d ++ [10]) : prs d = (l, 0, 0) := by
 have h1 := fmt_len h
 rw [hd, List.length_append] at h1
 refine prs_of (by omega) ?_
 rw [← wrd_end d.length d true (Nat.le_refl _), ← hd, wrd_fmt ((chkAll_zero l).1 h).2.1]
 exact rdW_all h
theorem wh_ge {l : List Sch} {nm : Bs} (h : ¬ 0 ≤ Sch.wh l nm) : ∀ q ∈ l, q.nm ≠ nm := by
 intro q hq e
 have : ∀ (l : List Sch) (i : Int), q ∈ l → 0 ≤ i → 0 ≤ whF nm l i := by
  intro l
  induction l with
  | nil => intro i h; cases h
  | cons x l ih =>
   intro i h hi
   rw [whF]
   by_cases g : x.nm = nm
   · rw [if_pos g]; exact hi
   · rw [if_neg g]
     rcases List.mem_cons.1 h with rfl | h
     · exact absurd e g
     · exact ih (i + 1) h (by omega)
 exact h (this l 0 hq (by omega))
theorem pos_ge {l : List Fld} {nm : Bs} (h : ¬ 0 ≤ Fld.pos l nm) : ∀ q ∈ l, q.nm ≠ nm := by
 intro q hq e
 have : ∀ (l : List Fld) (i : Int), q ∈ l → 0 ≤ i → 0 ≤ posF nm l i := by
  intro l
  induction l with
  | nil => intro i h; cases h
  | cons x l ih =>
   intro i h hi
   rw [posF]
   by_cases g : x.nm = nm
   · rw [if_pos g]; exact hi
   · rw [if_neg g]
     rcases List.mem_cons.1 h with rfl | h
     · exact absurd e g
     · exact ih (i + 1) h (by omega)
 exact h (this l 0 hq (by omega))
theorem step_ok {l : List Sch} {b : Bool} {w : Bs} (hl : chkAll l = 0) (hb : b = true ∨ l ≠ []) (h : stepE l b w = 0) : chkAll (stepL l b w) = 0 ∧ stepL l b w ≠ [] := by
  obtain ⟨h1, h2, h3⟩ := (chkAll_zero l).1 hl
  cases b with
  | true =>
    have h : begE l w = 0 := h
    have e : stepL l true w = l ++ [⟨w, []⟩] := rfl
    rw [e]
    refine ⟨(chkAll_zero _).2 ?_, by simp⟩
    rw [begE] at h
    by_cases g1 : (58 : UInt8) ∈ w
    · rw [if_pos g1] at h; cases h
    rw [if_neg g1] at h
    by_cases g2 : l.length = 16
    · rw [if_pos g2] at h; cases h
    rw [if_neg g2] at h
    by_cases g3 : nameB w = false
    · rw [if_pos g3] at h; cases h
    rw [if_neg g3] at h
    by_cases g4 : 0 ≤ Sch.wh l w
    · rw [if_pos g4] at h; cases h
    refine ⟨by simp; omega, fun q hq => ?_, ?_⟩
    · rcases List.mem_append.1 hq with hq | hq
      · exact h2 q hq
      · simp at hq; subst hq
        exact (Sch.chk_zero _).2 ⟨by simpa using g3, by simp, by simp, by simp⟩
    · rw [List.map_append, List.nodup_append]
      refine ⟨h3, by simp, ?_⟩
      intro a ha b hb
      simp at hb; subst hb
      obtain ⟨q, hq, rfl⟩ := List.mem_map.1 ha
      exact wh_ge g4 q hq
  | false =>
    have hne : l ≠ [] := by rcases hb with hb | hb; cases hb; exact hb
    obtain ⟨a, q, rfl⟩ : ∃ a q, l = a ++ [q] := ⟨l.dropLast, l.getLast hne, (List.dropLast_concat_getLast hne).symm⟩
    have h : fldE (lastF (a ++ [q])) w = 0 := h
    have e : stepL (a ++ [q]) false w = a ++ [⟨q.nm, q.fs ++ [newF w]⟩] := addF_app a q (newF w)
    rw [e]
    refine ⟨(chkAll_zero _).2 ?_, by simp⟩
    rw [lastF_app, fldE] at h
    by_cases g1 : kdOf (cutR 58 w) < 0
    · rw [if_pos g1] at h; cases h
    rw [if_neg g1] at h
    by_cases g2 : q.fs.length = 8
    · rw [if_pos g2] at h; cases h
    rw [if_neg g2] at h
    by_cases g3 : fnameB (cutL 58 w) = false
    · rw [if_pos g3] at h; cases h
    rw [if_neg g3] at h
    by_cases g4 : 0 ≤ Fld.pos q.fs (cutL 58 w)
    · rw [if_pos g4] at h; cases h
    obtain ⟨i1, i2, i3, i4⟩ := (Sch.chk_zero q).1 (h2 q (by simp))
    have hk : kdOf (cutR 58 w) < 3 := by rw [kdOf]; split; · decide
                                         split; · decide
                                         split <;> decide
    refine ⟨by simpa using h1, fun p hp => ?_, by simpa using h3⟩
    rcases List.mem_append.1 hp with hp | hp
    · exact h2 p (by simp [hp])
    · simp at hp; subst hp
      refine (Sch.chk_zero _).2 ⟨i1, by simp; omega, fun f hf => ?_, ?_⟩
      · dsimp only at hf
        rcases List.mem_append.1 hf with hf | hf
        · exact i3 f hf
        · simp at hf; subst hf
          exact ⟨by simpa [newF] using g3, by simp [newF]; omega, hk⟩
      · dsimp only
        rw [List.map_append, List.nodup_append]
        refine ⟨i4, by simp, ?_⟩
        intro x hx b hb
        simp at hb; subst hb
        obtain ⟨f, hf, rfl⟩ := List.mem_map.1 hx
        exact pos_ge g4 f hf
theorem nodup_at {α β : Type} {g : α → β} {l d r : List α} {x : α} (h : (l.map g).Nodup) (e : l = d ++ x :: r) : ∀ y ∈ d, g y ≠ g x := by
 intro y hy hh
 rw [e, List.map_append, List.nodup_append] at h
 exact h.2.2 (g y) (List.mem_map.2 ⟨y, hy, rfl⟩) (g x) (by simp) hh
def cmpL (a : List Fld) : List Fld → Option (List Int)
 | [] => some []
 | f :: r => if Fld.pos a f.nm < 0 then none else if (a[(Fld.pos a f.nm).toNat]?).map Fld.kd ≠ some f.kd then none else (cmpL a r).map (Fld.pos a f.nm :: ·)
def cmpE (a b : Sch) : Int := if a.chk ≠ 0 then a.chk else b.chk
def cmpQ (a b : Sch) : Option (List Int) := if cmpE a b ≠ 0 then none else cmpL a.fs b.fs
theorem pos_cases (a : List Fld) (nm : Bs) : (Fld.pos a nm = -1 ∧ ∀ f ∈ a, f.nm ≠ nm) ∨ ∃ d f r, a = d ++ f :: r ∧ f.nm = nm ∧ (∀ g ∈ d, g.nm ≠ nm) ∧ Fld.pos a nm = d.length := by
 by_cases h : ∀ f ∈ a, f.nm ≠ nm
 · exact .inl ⟨pos_miss h, h⟩
 · have : ∀ a : List Fld, (¬ ∀ f ∈ a, f.nm ≠ nm) → ∃ d f r, a = d ++ f :: r ∧ f.nm = nm ∧ (∀ g ∈ d, g.nm ≠ nm) := by
    intro a
    induction a with
    | nil => intro h; exact absurd (by simp) h
    | cons x a ih =>
     intro h
     by_cases g : x.nm = nm
     · exact ⟨[], x, a, rfl, g, by simp⟩
     · obtain ⟨d, f, r, e, e2, e3⟩ := ih fun h2 => h (by simpa [g] using h2)
       exact ⟨x :: d, f, r, by rw [e]; rfl, e2, by simpa [g] using e3⟩
   obtain ⟨d, f, r, e, e2, e3⟩ := this a h
   exact .inr ⟨d, f, r, e, e2, e3, pos_hit e e3 e2⟩
theorem cmp_mem {a : List Fld} {f : Fld} (hn : (a.map Fld.nm).Nodup) : (¬ Fld.pos a f.nm < 0 ∧ (a[(Fld.pos a f.nm).toNat]?).map Fld.kd = some f.kd) ↔ f ∈ a := by
 rcases pos_cases a f.nm with ⟨h, h2⟩ | ⟨d, g, r, e, e2, e3, e4⟩
 · rw [h]
   constructor
   · rintro ⟨h, _⟩; exact absurd (by decide) h
   · intro hf; exact absurd rfl (h2 f hf)
 · rw [e4]
   have : a[d.length]? = some g := by rw [e]; simp
   rw [Int.toNat_natCast, this]
   constructor
   · rintro ⟨_, h⟩
     simp only [Option.map_some, Option.some.injEq] at h
     have : g = f := by cases g; cases f; simp_all
     rw [e, this]; simp
   · intro hf
     refine ⟨by omega, ?_⟩
     have : g = f := by
      rw [e] at hf hn
      rcases List.mem_append.1 hf with hf | hf
      · exact absurd rfl (e3 f hf)
      · rcases List.mem_cons.1 hf with hf | hf
        · exact hf.symm
        · rw [List.map_append, List.map_cons, List.nodup_append, List.nodup_cons] at hn
          exact absurd (List.mem_map.2 ⟨f, hf, e2.symm⟩) hn.2.1.1
     rw [this]; rfl
theorem cmp_all {a : List Fld} (hn : (a.map Fld.nm).Nodup) : ∀ l : List Fld, (∀ f ∈ l, f ∈ a) → cmpL a l = some (l.map fun f => Fld.pos a f.nm)
 | [], _ => rfl
 | f :: l, h => by
  obtain ⟨h1, h2⟩ := (cmp_mem hn).2 (h f (by simp))
  rw [cmpL, if_neg h1, if_neg (by simp [h2]), cmp_all hn l fun x hx => h x (by simp [hx])]; rfl
theorem cmp_only {a : List Fld} (hn : (a.map Fld.nm).Nodup) : ∀ (l : List Fld) {x : List Int}, cmpL a l = some x → (∀ f ∈ l, f ∈ a) ∧ x = l.map fun f => Fld.pos a f.nm
 | [], x, h => by
  rw [cmpL] at h
  simp only [Option.some.injEq] at h
  exact ⟨by simp, h.symm⟩
 | f :: l, x, h => by
  rw [cmpL] at h
  by_cases h1 : Fld.pos a f.nm < 0
  · rw [if_pos h1] at h; cases h
  rw [if_neg h1] at h
  by_cases h2 : (a[(Fld.pos a f.nm).toNat]?).map Fld.kd ≠ some f.kd
  · rw [if_pos h2] at h; cases h
  rw [if_neg h2] at h
  obtain ⟨y, hy, e⟩ := Option.map_eq_some_iff.1 h
  obtain ⟨i1, i2⟩ := cmp_only hn l hy
  refine ⟨fun g hg => ?_, by rw [← e, i2]; rfl⟩
  rcases List.mem_cons.1 hg with rfl | hg
  · exact (cmp_mem hn).1 ⟨h1, by simpa using h2⟩
  · exact i1 g hg
theorem cmp_self {a : Sch} (h : a.chk = 0) : cmpQ a a = some (a.fs.map fun f => Fld.pos a.fs f.nm) ∧ cmpE a a = 0 := by
 have hE : cmpE a a = 0 := by rw [cmpE]; simp [h]
 refine ⟨?_, hE⟩
 rw [cmpQ, if_neg (by simp [hE])]
 exact cmp_all ((Sch.chk_zero a).1 h).2.2.2 a.fs fun f hf => hf
theorem pos_nth {a d r : List Fld} {f : Fld} (hn : (a.map Fld.nm).Nodup) (e : a = d ++ f :: r) : Fld.pos a f.nm = d.length := pos_hit e (nodup_at hn e) rfl
theorem map_split {α β : Type} {g : α → β} : ∀ {l : List α} {d : List β} {k : β} {r : List β}, l.map g = d ++ k :: r → ∃ d' x r', l = d' ++ x :: r' ∧ d'.length = d.length ∧ g x = k
 | [], d, k, r, h => by simp at h
 | x :: l, [], k, r, h => by
  simp only [List.map_cons, List.nil_append, List.cons.injEq] at h
  exact ⟨[], x, l, rfl, rfl, h.1⟩
 | x :: l, y :: d, k, r, h => by
  simp only [List.map_cons, List.cons_append, List.cons.injEq] at h
  obtain ⟨d', z, r', e1, e2, e3⟩ := map_split h.2
  exact ⟨x :: d', z, r', by rw [e1]; rfl, by simp [e2], e3⟩
theorem self_at {a d r : List Fld} {D R : List Int} {k : Int} (hn : (a.map Fld.nm).Nodup) (e : a.map (fun f => Fld.pos a f.nm) = D ++ k :: R) : k = D.length := by
 obtain ⟨d', x, r', e1, e2, e3⟩ := map_split e
 rw [← e3, pos_nth hn e1, e2]
theorem trans_at {a b c : List Fld} {x y z D R : List Int} {k : Int} (hna : (a.map Fld.nm).Nodup) (hnb : (b.map Fld.nm).Nodup) (hab : cmpL a b = some x) (hbc : cmpL b c = some y) (hy : y = D ++ k :: R) :
 cmpL a c = some (c.map fun f => Fld.pos a f.nm) ∧ 0 ≤ k ∧ k < x.length ∧ (c.map fun f => Fld.pos a f.nm)[D.length]? = x[k.toNat]? := by
 obtain ⟨h1, h2⟩ := cmp_only hna b hab
 obtain ⟨h3, h4⟩ := cmp_only hnb c hbc
 refine ⟨cmp_all hna c fun f hf => h1 f (h3 f hf), ?_⟩
 rw [hy] at h4
 obtain ⟨d', f, r', e1, e2, e3⟩ := map_split h4.symm
 have hf : f ∈ b := h3 f (by rw [e1]; simp)
 obtain ⟨d2, r2, e4⟩ := List.append_of_mem hf
 have hk := pos_nth hnb e4
 rw [e3] at hk
 have hxl : x.length = b.length := by rw [h2]; simp
 refine ⟨by omega, by rw [hxl, e4]; simp; omega, ?_⟩
 rw [← e2, e1, h2, hk, Int.toNat_natCast]
 simp [e4]
theorem rev_at {a D R : List Fld} {n : Nat} {f : Fld} (hn : (a.map Fld.nm).Nodup) (e : (a.drop n).reverse = D ++ f :: R) : Fld.pos a f.nm = (a.length : Int) - 1 - D.length := by
 have h := congrArg List.reverse e
 rw [List.reverse_reverse, List.reverse_append, List.reverse_cons, List.append_assoc] at h
 have h2 : a = (a.take n ++ R.reverse) ++ f :: D.reverse := by
  rw [List.append_assoc, show R.reverse ++ f :: D.reverse = a.drop n by rw [h]; simp, List.take_append_drop]
 rw [pos_nth hn h2]
 have := congrArg List.length h2
 simp only [List.length_append, List.length_cons, List.length_reverse] at this ⊢
 omega
def lessF (a : List Fld) : List Fld := (a.drop (a.length / 2)).reverse
theorem less_ok {a : Sch} (h : a.chk = 0) : (Sch.mk a.nm (lessF a.fs)).chk = 0 ∧ cmpE a ⟨a.nm, lessF a.fs⟩ = 0 ∧ cmpQ a ⟨a.nm, lessF a.fs⟩ = some ((lessF a.fs).map fun f => Fld.pos a.fs f.nm) := by
 obtain ⟨h1, h2, h3, h4⟩ := (Sch.chk_zero a).1 h
 have hm : ∀ f ∈ lessF a.fs, f ∈ a.fs := fun f hf => List.mem_of_mem_drop (by simpa [lessF] using hf)
 have hc : (Sch.mk a.nm (lessF a.fs)).chk = 0 := by
  refine (Sch.chk_zero _).2 ⟨h1, ?_, fun f hf => h3 f (hm f hf), ?_⟩
  · simp only [lessF, List.length_reverse, List.length_drop]; omega
  · have : ((a.fs.drop (a.fs.length / 2)).map Fld.nm).Nodup := by
     rw [List.map_drop]; exact h4.sublist (List.drop_sublist _ _)
    simp only [lessF, List.map_reverse]
    exact List.pairwise_reverse.2 (this.imp fun h => Ne.symm h)
 have hE : cmpE a ⟨a.nm, lessF a.fs⟩ = 0 := by rw [cmpE, if_neg (by simp [h])]; exact hc
 refine ⟨hc, hE, ?_⟩
 rw [cmpQ, if_neg (by simp [hE])]
 exact cmp_all h4 _ hm
theorem P_CheckAll (l : List Sch) (hl : l.length < 1152921504606846976) (hs : ∀ q ∈ l, q.Short) : PCall EE 25 [.isl 2 (mapE Sch.enc l)] (int (chkAll l)) := by
 have kcl := Sch.closedI l
 rw [chkAll]
 refine wordsN ?_; unhygienic intros
 generalize hes : mapE Sch.enc l = es at *
 have hel : es.length = l.length := by rw [← hes, mapE_len]
 by_cases h8 : 16 < l.length
 · have k8 : iLt 16 (lenA es) = true := by simp only [ee]; simp; omega
   rw [if_pos h8]
   refine fn_body (fn := Tryd.f25) (n := 30) (ac := Trydc25) (rvs := [.t 2]) rfl (by decide) Trydp25 rfl rfl rfl ?_
   refine goB hX 0 (by conv => lhs; cbv; try simp only [k8]; cbv; try simp only [k8]; cbv; try simp only [k8]; cbv; try simp only [k8]; cbv) ?_
   refine goA 60 ?_
   refine fn_ret rfl rfl (.val ?_)
   rfl
 have k8 : iLt 16 (lenA es) = false := by simp only [ee]; simp; omega
 rw [if_neg h8]
 refine fn_body (fn := Tryd.f25) (n := 30) (ac := Trydc25) (rvs := [.t 2]) rfl (by decide) Trydp25 rfl rfl rfl ?_
 refine goB hX 0 (by conv => lhs; cbv; try simp only [k8]; cbv; try simp only [k8]; cbv; try simp only [k8]; cbv; try simp only [k8]; cbv) ?_
 refine goA 60 ?_
 refine on_loopP (ι := List Sch × List Sch × Int × List (AV × AV)) (fun p => ([(13, int p.2.2.1), (12, int (lenA es)), (11, .isl 2 es), (3, .amap 0)], [.amap p.2.2.2])) (fun p => l = p.1 ++ p.2.1 ∧ p.2.2.1 = p.1.length ∧ p.2.2.2 = ents (p.1.map Sch.nm) ∧ chkL [] l = chkL (p.1.map Sch.nm) p.2.1) (fun p => p.2.1.length) ([], l, 0, []) ⟨rfl, rfl, rfl, rfl⟩ ?_ ?_
 · have kcM : closedM [] = true := rfl
   exact (ent_sub [.to 0] [some 0] ⟨⟨by simp, rfl⟩, trivial⟩ ⟨osrc_amap (b := 0) rfl rfl rfl rfl (by rfl), trivial⟩ ⟨.refl _, .refl _, .cl kcl, .refl _, trivial⟩)
 rintro ⟨d, r, i, m⟩ ⟨g1, gi, gm, gc⟩
 dsimp only at g1 gi gm gc ⊢
 cases r with
 | nil =>
  have L1 := len_split g1
  try simp only [List.length] at L1
  have hc : iLt i (lenA es) = false := lt_f e_iLt e_lenA (by omega)
  rw [gc, chkL]
  refine goB hX 0 (by conv => lhs; cbv; try simp only [hc]; cbv; try simp only [hc]; cbv; try simp only [hc]; cbv; try simp only [hc]; cbv) ?_
  refine goA 60 ?_
  refine loopP_exit ?_
  refine goA 60 ?_
  refine fn_ret rfl rfl (.val ?_)
  rfl
 | cons f r =>
  have L1 := len_split g1
  try simp only [List.length] at L1
  have hc : iLt i (lenA es) = true := lt_t e_iLt e_lenA (by omega)
  have hat := el_at e_atA hes g1 gi
  have hi2 : iAdd .i64 i 1 = ((d ++ [f]).length : Int) := by rw [List.length_append]; exact inc_w e_iAdd gi (by omega)
  have pf := P_Check f (hs f (by rw [g1]; simp))
  have gc2 : chkL (d.map Sch.nm ++ [f.nm]) r = chkL ((d ++ [f]).map Sch.nm) r := by simp
  rw [chkL, gc2] at gc
  rw [gc]
  clear hs
  rw [Sch.enc_eq] at hat pf
  have kcf := Fld.closedI f.fs
  have kokL : mOkL true m (str (ba f.nm)) = true := by rw [gm]; exact ents_ok _ _
  have kok : mOk true m (str (ba f.nm)) = true := by simp only [ee]; rw [gm]; exact ents_ok _ _
  have kget : mGet true m (str (ba f.nm)) (bool false) = bool (decide (f.nm ∈ d.map Sch.nm)) := by simp only [ee]; rw [gm]; exact ents_get _ _
  have kput : f.nm ∉ d.map Sch.nm → mPut true m (str (ba f.nm)) (bool true) = ents ((d ++ [f]).map Sch.nm) := fun h => by simp only [ee]; rw [gm, ents_put _ _ h]; simp
  have kk1 : f.chk ≠ 0 → iNe f.chk 0 = true := fun h => by simp only [ee]; simpa using h
  have kk2 : ¬ f.chk ≠ 0 → iNe f.chk 0 = false := fun h => by simp only [ee]; simpa using h
  clear gc2
  generalize mapE Fld.enc f.fs = fe at *
  generalize f.chk = fc at *
  generalize hin : decide (f.nm ∈ d.map Sch.nm) = bi at *
  generalize ba f.nm = fs at *
  have kcA : AV.closedL [str fs, .isl 2 fe] = true := by simp [AV.closedL, closed_v, kcf]
  by_cases n0 : fc ≠ 0
  · have k0 := kk1 n0
    rw [if_pos n0]
    clear kk1 kk2 kput kokL kget kok gc
    refine goB hX 0 (by conv => lhs; cbv; try simp only [hc, hat, k0]; cbv; try simp only [hc, hat, k0]; cbv; try simp only [hc, hat, k0]; cbv; try simp only [hc, hat, k0]; cbv) ?_
    refine goB hX 1 (by conv => lhs; cbv; try simp only [hc, hat, k0]; cbv; try simp only [hc, hat, k0]; cbv; try simp only [hc, hat, k0]; cbv; try simp only [hc, hat, k0]; cbv) ?_
    refine oPA pf ?_
    refine goB hX 0 (by conv => lhs; cbv; try simp only [hc, hat, k0]; cbv; try simp only [hc, hat, k0]; cbv; try simp only [hc, hat, k0]; cbv; try simp only [hc, hat, k0]; cbv) ?_
    refine goA 60 ?_
    refine loopP_ret ?_
    refine goA 60 ?_
    refine fn_ret rfl rfl (.val ?_)
    rfl
  have k0 := kk2 n0
  rw [if_neg n0] at gc ⊢
  clear kk1 kk2
  cases bi with
  | true =>
   rw [if_pos (of_decide_eq_true hin)]
   clear kput kokL gc
   refine goB hX 0 (by conv => lhs; cbv; try simp only [hc, hat, k0, kget, kok]; cbv; try simp only [hc, hat, k0, kget, kok]; cbv; try simp only [hc, hat, k0, kget, kok]; cbv; try simp only [hc, hat, k0, kget, kok]; cbv) ?_
   refine goB hX 1 (by conv => lhs; cbv; try simp only [hc, hat, k0, kget, kok]; cbv; try simp only [hc, hat, k0, kget, kok]; cbv; try simp only [hc, hat, k0, kget, kok]; cbv; try simp only [hc, hat, k0, kget, kok]; cbv) ?_
   refine oPA pf ?_
   refine goB hX 0 (by conv => lhs; cbv; try simp only [hc, hat, k0, kget, kok]; cbv; try simp only [hc, hat, k0, kget, kok]; cbv; try simp only [hc, hat, k0, kget, kok]; cbv; try simp only [hc, hat, k0, kget, kok]; cbv) ?_
   refine goB hX 1 (by conv => lhs; cbv; try simp only [hc, hat, k0, kget, kok]; cbv; try simp only [hc, hat, k0, kget, kok]; cbv; try simp only [hc, hat, k0, kget, kok]; cbv; try simp only [hc, hat, k0, kget, kok]; cbv) ?_
   refine goA 60 ?_
   refine loopP_ret ?_
   refine goA 60 ?_
   refine fn_ret rfl rfl (.val ?_)
   rfl
  | false =>
  rw [if_neg (of_decide_eq_false hin)] at gc ⊢
  have kp := kput (of_decide_eq_false hin)
  clear kput
  have kcM : closedM (mPut true m (str fs) (bool true)) = true := by rw [kp]; exact ents_cl _
  refine goB hX 0 (by conv => lhs; cbv; try simp only [hc, hat, k0, kget, kok]; cbv; try simp only [hc, hat, k0, kget, kok]; cbv; try simp only [hc, hat, k0, kget, kok]; cbv; try simp only [hc, hat, k0, kget, kok]; cbv) ?_
  refine goB hX 1 (by conv => lhs; cbv; try simp only [hc, hat, k0, kget, kok]; cbv; try simp only [hc, hat, k0, kget, kok]; cbv; try simp only [hc, hat, k0, kget, kok]; cbv; try simp only [hc, hat, k0, kget, kok]; cbv) ?_
  refine oPA pf ?_
  refine goB hX 0 (by conv => lhs; cbv; try simp only [hc, hat, k0, kget, kok]; cbv; try simp only [hc, hat, k0, kget, kok]; cbv; try simp only [hc, hat, k0, kget, kok]; cbv; try simp only [hc, hat, k0, kget, kok]; cbv) ?_
  refine goB hX 1 (by conv => lhs; cbv; try simp only [hc, hat, k0, kget, kok]; cbv; try simp only [hc, hat, k0, kget, kok]; cbv; try simp only [hc, hat, k0, kget, kok]; cbv; try simp only [hc, hat, k0, kget, kok]; cbv) ?_
  refine go rfl hX 60 (by conv => lhs; cbv) ?_ ?_
  · simp only [ee]; simp only [kokL]; trivial
  refine loopP_next (d ++ [f], r, iAdd .i64 i 1, mPut true m (str fs) (bool true)) ⟨by simp [g1], hi2, kp, gc ▸ rfl⟩ (by simp) (ent_sub [.to 0, .gone] [some 0] ⟨⟨by simp, rfl⟩, trivial, trivial⟩ ⟨osrc_amap (b := 0) rfl rfl rfl rfl (by assumption), trivial⟩ ⟨.refl _, .refl _, .cl kcl, .refl _, trivial⟩)
theorem P_Index (q : Sch) (nm : Bs) (hq : q.Short) : PCall EE 13 [q.enc, str (ba nm)] (.tup [int (idxI q nm), int (idxE q nm)]) := by
 have kcf := Fld.closedI q.fs
 have pc := P_Check q hq
 have pw := P_position q.fs nm hq.2.1
 rw [Sch.enc_eq] at pc ⊢
 rw [idxI, idxE]
 generalize Fld.pos q.fs nm = P at *
 generalize q.chk = ec at *
 generalize ba nm = s at *
 generalize ba q.nm = qn at *
 generalize mapE Fld.enc q.fs = es at *
 have kcA : AV.closedL [str qn, .isl 2 es] = true := by simp [AV.closedL, closed_v, kcf]
 refine wordsN ?_; unhygienic intros
 by_cases n0 : ec ≠ 0
 · have k0 : iNe ec 0 = true := by simp only [ee]; simpa using n0
   rw [if_pos n0, if_pos n0]
   refine fn_body (fn := Tryd.f13) (n := 20) (ac := Trydc13) (rvs := [.t 4, .t 5]) rfl (by decide) Trydp13 rfl rfl rfl ?_
   refine goA 60 ?_
   refine oPA pc ?_
   refine goB hX 0 (by conv => lhs; cbv; try simp only [k0]; cbv; try simp only [k0]; cbv; try simp only [k0]; cbv; try simp only [k0]; cbv) ?_
   refine goA 60 ?_
   refine fn_ret rfl rfl ?_
   exact ⟨[.gone], ⟨trivial, trivial⟩, .refl _⟩
 have k0 : iNe ec 0 = false := by simp only [ee]; simpa using n0
 rw [if_neg n0, if_neg n0]
 by_cases n1 : P < 0
 · have k1 : iLe 0 P = false := by simp only [ee]; simpa using n1
   rw [if_pos n1, if_pos n1]
   refine fn_body (fn := Tryd.f13) (n := 20) (ac := Trydc13) (rvs := [.t 4, .t 5]) rfl (by decide) Trydp13 rfl rfl rfl ?_
   refine goA 60 ?_
   refine oPA pc ?_
   refine goB hX 0 (by conv => lhs; cbv; try simp only [k0, k1]; cbv; try simp only [k0, k1]; cbv; try simp only [k0, k1]; cbv; try simp only [k0, k1]; cbv) ?_
   refine goA 60 ?_
   refine oPA pw ?_
   refine goB hX 0 (by conv => lhs; cbv; try simp only [k0, k1]; cbv; try simp only [k0, k1]; cbv; try simp only [k0, k1]; cbv; try simp only [k0, k1]; cbv) ?_
   refine goA 60 ?_
   refine fn_ret rfl rfl ?_
   exact ⟨[.gone], ⟨trivial, trivial⟩, .refl _⟩
 have k1 : iLe 0 P = true := by simp only [ee]; simpa using n1
 rw [if_neg n1, if_neg n1]
 refine fn_body (fn := Tryd.f13) (n := 20) (ac := Trydc13) (rvs := [.t 4, .t 5]) rfl (by decide) Trydp13 rfl rfl rfl ?_
 refine goA 60 ?_
 refine oPA pc ?_
 refine goB hX 0 (by conv => lhs; cbv; try simp only [k0, k1]; cbv; try simp only [k0, k1]; cbv; try simp only [k0, k1]; cbv; try simp only [k0, k1]; cbv) ?_
 refine goA 60 ?_
 refine oPA pw ?_
 refine goB hX 0 (by conv => lhs; cbv; try simp only [k0, k1]; cbv; try simp only [k0, k1]; cbv; try simp only [k0, k1]; cbv; try simp only [k0, k1]; cbv) ?_
 refine goA 60 ?_
 refine fn_ret rfl rfl ?_
 exact ⟨[.gone], ⟨trivial, trivial⟩, .refl _⟩
theorem kwd {k : Int} (h0 : 0 ≤ k) (h3 : k < 3) : Wd.rowA [str (Classical.choice kwBox_ne).i, str (Classical.choice kwBox_ne).b, str (Classical.choice kwBox_ne).s] k 1 = [str (ba (kw k))] ∧ Wd.atA [str (Classical.choice kwBox_ne).i, str (Classical.choice kwBox_ne).b, str (Classical.choice kwBox_ne).s] k = str (ba (kw k)) := by
 rw [(Classical.choice kwBox_ne).hi, (Classical.choice kwBox_ne).hb, (Classical.choice kwBox_ne).hs]
 have : k = 0 ∨ k = 1 ∨ k = 2 := by omega
 rcases this with rfl | rfl | rfl <;> exact ⟨rfl, rfl⟩
theorem fmt_snoc (d : List Sch) (q : Sch) : fmt (d ++ [q]) = fmt d ++ (q.nm ++ (q.fs.flatMap fmtF ++ [10])) := by simp [fmt, fmtS]
theorem fmt_pre {l d r : List Sch} (h : l = d ++ r) : (fmt d).length ≤ (fmt l).length := by rw [h]; simp [fmt]
theorem nsp_of {c : UInt8} (h : nsp c = false) : ch c = 32 ∨ ch c = 10 := by
 simp only [nsp, Bool.and_eq_false_iff, bne_eq_false_iff_eq] at h
 rcases h with rfl | rfl
 · exact .inl rfl
 · exact .inr rfl
theorem nsp_ne {c : UInt8} (h : nsp c = true) : ch c ≠ 32 ∧ ch c ≠ 10 := by
 simp only [nsp, Bool.and_eq_true, bne_iff_ne, ne_eq] at h
 exact ⟨fun e => h.1 (ch_inj e), fun e => h.2 (ch_inj e)⟩
theorem mapE_snoc {α : Type} (g : α → AV) (d : List α) (x : α) : mapE g (d ++ [x]) = mapE g d ++ [g x] := by simp [mapE_eq]
theorem P_beginE (l : List Sch) (w : Bs) (hl : l.length < 1152921504606846976) (hw : w.length < 1152921504606846976) (he : begE l w ≠ 0) : PCall EE 41 [.isl 2 (mapE Sch.enc l), str (ba w)] (.tup [.val (.slice none 0 0), int (begE l w)]) := by
 have kcl := Sch.closedI l
 have pc := P_Contains 58 w
 rw [← one_ba] at pc
 have pn := P_name w hw
 have pt := P_taken l w hl
 rw [begE] at he ⊢
 generalize hb1 : decide ((58 : UInt8) ∈ w) = b1 at *
 generalize hb2 : nameB w = b2 at *
 generalize hb3 : decide (0 ≤ Sch.wh l w) = b3 at *
 generalize ba w = s at *
 refine wordsN ?_; unhygienic intros
 generalize hes : mapE Sch.enc l = es at *
 have hel : es.length = l.length := by rw [← hes, mapE_len]
 have n0 : bNot false = true := by simp only [ee]; rfl
 have n1 : bNot true = false := by simp only [ee]; rfl
 cases b1 with
 | true =>
  rw [if_pos (of_decide_eq_true hb1)]
  refine fn_body (fn := Tryd.f41) (n := 26) (ac := Trydc41) (rvs := [.t 4, .t 5]) rfl (by decide) Trydp41 rfl rfl rfl ?_
  refine goA 60 ?_
  refine oPA pc ?_
  refine goA 60 ?_
  refine fn_ret rfl rfl ?_
  exact ⟨[], trivial, .refl _⟩
 | false =>
 rw [if_neg (of_decide_eq_false hb1)] at he ⊢
 by_cases h16 : l.length = 16
 · rw [if_pos h16]
   have k : iEq (lenA es) 16 = true := by simp only [ee]; simp; omega
   refine fn_body (fn := Tryd.f41) (n := 26) (ac := Trydc41) (rvs := [.t 4, .t 5]) rfl (by decide) Trydp41 rfl rfl rfl ?_
   refine goA 60 ?_
   refine oPA pc ?_
   refine goB hX 0 (by conv => lhs; cbv; try simp only [k]; cbv; try simp only [k]; cbv; try simp only [k]; cbv; try simp only [k]; cbv) ?_
   refine goB hX 1 (by conv => lhs; cbv; try simp only [k]; cbv; try simp only [k]; cbv; try simp only [k]; cbv; try simp only [k]; cbv) ?_
   refine goA 60 ?_
   refine fn_ret rfl rfl ?_
   exact ⟨[], trivial, .refl _⟩
 have k : iEq (lenA es) 16 = false := by simp only [ee]; simp; omega
 rw [if_neg h16] at he ⊢
 cases b2 with
 | false =>
  rw [if_pos (by simp)]
  refine fn_body (fn := Tryd.f41) (n := 26) (ac := Trydc41) (rvs := [.t 4, .t 5]) rfl (by decide) Trydp41 rfl rfl rfl ?_
  refine goA 60 ?_
  refine oPA pc ?_
  refine goB hX 0 (by conv => lhs; cbv; try simp only [k, n0]; cbv; try simp only [k, n0]; cbv; try simp only [k, n0]; cbv; try simp only [k, n0]; cbv) ?_
  refine goB hX 1 (by conv => lhs; cbv; try simp only [k, n0]; cbv; try simp only [k, n0]; cbv; try simp only [k, n0]; cbv; try simp only [k, n0]; cbv) ?_
  refine goA 60 ?_
  refine oPA pn ?_
  refine goB hX 0 (by conv => lhs; cbv; try simp only [k, n0]; cbv; try simp only [k, n0]; cbv; try simp only [k, n0]; cbv; try simp only [k, n0]; cbv) ?_
  refine goA 60 ?_
  refine fn_ret rfl rfl ?_
  exact ⟨[], trivial, .refl _⟩
 | true =>
 rw [if_neg (by simp)] at he ⊢
 cases b3 with
 | true =>
  rw [if_pos (of_decide_eq_true hb3)]
  refine fn_body (fn := Tryd.f41) (n := 26) (ac := Trydc41) (rvs := [.t 4, .t 5]) rfl (by decide) Trydp41 rfl rfl rfl ?_
  refine goA 60 ?_
  refine oPA pc ?_
  refine goB hX 0 (by conv => lhs; cbv; try simp only [k, n1]; cbv; try simp only [k, n1]; cbv; try simp only [k, n1]; cbv; try simp only [k, n1]; cbv) ?_
  refine goB hX 1 (by conv => lhs; cbv; try simp only [k, n1]; cbv; try simp only [k, n1]; cbv; try simp only [k, n1]; cbv; try simp only [k, n1]; cbv) ?_
  refine goA 60 ?_
  refine oPA pn ?_
  refine goB hX 0 (by conv => lhs; cbv; try simp only [k, n1]; cbv; try simp only [k, n1]; cbv; try simp only [k, n1]; cbv; try simp only [k, n1]; cbv) ?_
  refine goA 60 ?_
  refine oPA pt ?_
  refine goA 60 ?_
  refine fn_ret rfl rfl ?_
  exact ⟨[], trivial, .refl _⟩
 | false =>
  rw [if_neg (of_decide_eq_false hb3)] at he
  exact absurd rfl he
theorem begE_ok {l : List Sch} {w : Bs} (he : begE l w = 0) : (58 : UInt8) ∉ w ∧ l.length ≠ 16 ∧ nameB w = true ∧ ¬ 0 ≤ Sch.wh l w := by
 rw [begE] at he
 by_cases g1 : (58 : UInt8) ∈ w
 · rw [if_pos g1] at he; cases he
 rw [if_neg g1] at he
 by_cases g2 : l.length = 16
 · rw [if_pos g2] at he; cases he
 rw [if_neg g2] at he
 by_cases g3 : nameB w = false
 · rw [if_pos g3] at he; cases he
 rw [if_neg g3] at he
 by_cases g4 : 0 ≤ Sch.wh l w
 · rw [if_pos g4] at he; cases he
 exact ⟨g1, g2, by simpa using g3, g4⟩
theorem enters_schema_begin : Enters EE.P 41 := enters_of (fn := Tryd.f41) (n := 26) (ac := Trydc41) rfl (by decide) Trydp41
theorem C_begin0 (w : Bs) (hw : w.length < 1152921504606846976) (he : begE [] w = 0) :
 ACall EE 41 [.val (.slice none 0 0), str (ba w)] [] fun v H' => v = .tup [.sl 0 2 0 1, int 0] ∧ H' = [.arr 2 [.agg [str (ba w), .val (.slice none 0 0)]]] := by
 obtain ⟨h1, h2, h3, h4⟩ := begE_ok he
 have pc := P_Contains 58 w
 rw [← one_ba, decide_eq_false h1] at pc
 have pn := P_name w hw
 rw [h3] at pn
 have pt := P_taken [] w (by decide)
 rw [decide_eq_false h4, mapE_eq, List.map_nil] at pt
 clear h1 h2 h3 h4 he
 generalize ba w = s at *
 refine wordsN ?_; unhygienic intros
 have n1 : bNot true = false := by simp only [ee]; rfl
 have k : iEq 0 16 = false := by simp only [ee]; rfl
 have ke1 : lenN (partA [AV.agg [str s, .val (.slice none 0 0)]] 0 1) = 1 := by simp only [ee]; rfl
 have ke2 : partA [AV.agg [str s, .val (.slice none 0 0)]] 0 1 = [.agg [str s, .val (.slice none 0 0)]] := by simp only [ee]; rfl
 refine rcall_body (fn := Tryd.f41) (n := 26) (ac := Trydc41) (rvs := [.t 4, .t 5]) rfl Trydp41 rfl rfl rfl ?_
 refine goA 60 ?_
 refine oPA pc ?_
 refine goB hX 0 (by conv => lhs; cbv; try simp only [k, n1]; cbv; try simp only [k, n1]; cbv; try simp only [k, n1]; cbv; try simp only [k, n1]; cbv) ?_
 refine goB hX 1 (by conv => lhs; cbv; try simp only [k, n1]; cbv; try simp only [k, n1]; cbv; try simp only [k, n1]; cbv; try simp only [k, n1]; cbv) ?_
 refine on_cond rfl (fun c1 => ?_) (fun c1 => ?_)
 ·
  simp [ee] at c1
 ·
  simp [ee] at c1
  refine goA 60 ?_
  refine oPA pn ?_
  refine goB hX 0 (by conv => lhs; cbv; try simp only [k, n1]; cbv; try simp only [k, n1]; cbv; try simp only [k, n1]; cbv; try simp only [k, n1]; cbv) ?_
  refine goA 60 ?_
  refine on_lend rfl rfl pt rfl ⟨[], trivial, ⟨.nilI _, .refl _, trivial⟩⟩ ?_
  refine goA 60 ?_
  (rw [ke1, ke2]; exact o_ret (F2 := [(5, int 0), (4, .sl 0 2 0 1)]) (H2 := [.arr 2 [.agg [str s, .val (.slice none 0 0)]]]) (ent_subN [.gone, .to 0] [some 1] trivial (by simp) (by simp) ⟨trivial, ⟨by simp, rfl⟩, trivial⟩ ⟨osrc_arr (b := 1) rfl rfl rfl rfl rfl, trivial⟩ ⟨.refl _, .refl _, trivial⟩) rfl ⟨rfl, rfl⟩)
theorem C_begin1 (l : List Sch) (w : Bs) (hl : l.length < 1152921504606846976) (hw : w.length < 1152921504606846976) (he : begE l w = 0) (n : Nat) (hn : n = l.length) (hb : l.length ≤ 16) :
 ACall EE 41 [.sl 0 2 0 n, str (ba w)] [.arr 2 (mapE Sch.enc l)] fun v H' => v = .tup [.sl 1 2 0 (n + 1), int 0] ∧ H' = [.dead, .arr 2 (mapE Sch.enc l ++ [.agg [str (ba w), .val (.slice none 0 0)]])] := by
 have kcl := Sch.closedI l
 have kcL := Sch.closedL l
 obtain ⟨h1, h2, h3, h4⟩ := begE_ok he
 have pc := P_Contains 58 w
 rw [← one_ba, decide_eq_false h1] at pc
 have pn := P_name w hw
 rw [h3] at pn
 have pt := P_taken l w hl
 rw [decide_eq_false h4] at pt
 clear h1 h3 h4 he
 generalize ba w = s at *
 refine wordsN ?_; unhygienic intros
 generalize hes : mapE Sch.enc l = es at *
 have hel : es.length = l.length := by rw [← hes, mapE_len]
 have n1 : bNot true = false := by simp only [ee]; rfl
 have k : iEq (iOf n) 16 = false := by simp only [ee]; simp; omega
 have kz : AV.closedL (es ++ [.agg [str s, .val (.slice none 0 0)]]) = true := closedL_append kcL rfl
 have ke1 : addN n (lenN (partA [AV.agg [str s, .val (.slice none 0 0)]] 0 1)) = n + 1 := by simp only [ee]; rfl
 have ke2 : catA (dropA es 0) (partA [AV.agg [str s, .val (.slice none 0 0)]] 0 1) = es ++ [.agg [str s, .val (.slice none 0 0)]] := by simp only [ee]; rfl
 refine rcall_body (fn := Tryd.f41) (n := 26) (ac := Trydc41) (rvs := [.t 4, .t 5]) rfl Trydp41 rfl rfl rfl ?_
 refine goA 60 ?_
 refine oPA pc ?_
 refine goB hX 0 (by conv => lhs; cbv; try simp only [k, n1]; cbv; try simp only [k, n1]; cbv; try simp only [k, n1]; cbv; try simp only [k, n1]; cbv) ?_
 refine goB hX 1 (by conv => lhs; cbv; try simp only [k, n1]; cbv; try simp only [k, n1]; cbv; try simp only [k, n1]; cbv; try simp only [k, n1]; cbv) ?_
 refine goA 60 ?_
 refine oPA pn ?_
 refine goB hX 0 (by conv => lhs; cbv; try simp only [k, n1]; cbv; try simp only [k, n1]; cbv; try simp only [k, n1]; cbv; try simp only [k, n1]; cbv) ?_
 refine goA 60 ?_
 refine on_lend rfl rfl pt rfl ⟨[.isl 2 (es)], ⟨⟨_, rfl, (subL_closed _ kcL).symm⟩, trivial⟩, ⟨.of (sub_whole rfl (by omega)), .refl _, trivial⟩⟩ ?_
 refine goA 60 ?_
 (rw [ke1, ke2]; exact o_ret (F2 := [(5, int 0), (4, .sl 1 2 0 (n + 1))]) (H2 := [.dead, .arr 2 (es ++ [.agg [str s, .val (.slice none 0 0)]])]) (ent_subN [.gone, .gone, .to 1] [some 0, some 2] ⟨rfl, trivial⟩ (by simp) (by simp) ⟨trivial, trivial, ⟨by simp, rfl⟩, trivial⟩ ⟨.dead, osrc_arr (b := 2) rfl rfl rfl rfl kz, trivial⟩ ⟨.refl _, .refl _, trivial⟩) rfl ⟨rfl, rfl⟩)
theorem kw_eq (r : Bs) : ((Classical.choice kwBox_ne).i.toList == (ba r).toList) = decide (r = bInt) ∧ ((Classical.choice kwBox_ne).b.toList == (ba r).toList) = decide (r = bBool) ∧ ((Classical.choice kwBox_ne).s.toList == (ba r).toList) = decide (r = bStr) := by
 rw [(Classical.choice kwBox_ne).hi, (Classical.choice kwBox_ne).hb, (Classical.choice kwBox_ne).hs, ba_eqB, ba_eqB, ba_eqB]
 refine ⟨?_, ?_, ?_⟩ <;> simp only [eq_comm]
def lastK (b0 b1 b2 : Bool) : Int := cond b2 2 (cond b1 1 (cond b0 0 (-1)))
theorem lastK_eq (r : Bs) : lastK (decide (r = bInt)) (decide (r = bBool)) (decide (r = bStr)) = kdOf r := by
 rw [kdOf]
 by_cases h0 : r = bInt
 · subst h0; decide
 by_cases h1 : r = bBool
 · subst h1; decide
 by_cases h2 : r = bStr
 · subst h2; decide
 rw [decide_eq_false h0, decide_eq_false h1, decide_eq_false h2, if_neg h0, if_neg h1, if_neg h2]; rfl
theorem cut_len (c : UInt8) (w : Bs) : (cutL c w).length ≤ w.length := by
 rw [cutL]; exact List.Sublist.length_le (List.takeWhile_sublist _)
theorem enters_schema_field : Enters EE.P 42 := enters_of (fn := Tryd.f42) (n := 61) (ac := Trydc42) rfl (by decide) Trydp42
theorem newF_enc (w : Bs) : Fld.enc (newF w) = .agg [str (ba (cutL 58 w)), int (kdOf (cutR 58 w))] := by rw [Fld.enc_eq]; rfl
theorem C_field0 (qn : ByteArray) (es : List AV) (hes : AV.closedL es = true) (n : Nat) (hn : n = es.length) (w : Bs) (hw : w.length < 4294967281) :
 ACall EE 42 [.eptr 0 2 n 0, str (ba w)] [.arr 2 (es ++ [.agg [str qn, .val (.slice none 0 0)]])] fun v H' => (fldE [] w ≠ 0 ∧ v = int (fldE [] w) ∧ H' = [.arr 2 (es ++ [.agg [str qn, .val (.slice none 0 0)]])]) ∨ (fldE [] w = 0 ∧ v = int 0 ∧ H' = [.arr 2 (es ++ [.agg [str qn, .sl 1 2 0 1]]), .arr 2 [Fld.enc (newF w)]]) := by
 obtain ⟨E, hE⟩ : ∃ E, E = fldE [] w := ⟨_, rfl⟩
 rw [← hE, newF_enc]
 rw [fldE] at hE
 have pc := P_Cut 58 w hw
 rw [← one_ba] at pc
 have hcl := cut_len 58 w
 have pn := P_fieldName (cutL 58 w) (by omega)
 have pp := P_position [] (cutL 58 w) (by decide)
 rw [mapE_eq, List.map_nil] at pp
 obtain ⟨q0, q1, q2⟩ := kw_eq (cutR 58 w)
 have hk := lastK_eq (cutR 58 w)
 rw [← hk] at hE ⊢
 clear hk hcl
 generalize hb3 : fnameB (cutL 58 w) = b3 at *
 generalize decide (cutR 58 w = bInt) = b0 at *
 generalize decide (cutR 58 w = bBool) = b1 at *
 generalize decide (cutR 58 w = bStr) = b2 at *
 generalize Fld.pos [] (cutL 58 w) = P at *
 generalize ba (cutL 58 w) = sl at *
 generalize ba (cutR 58 w) = sr at *
 generalize decide ((58 : UInt8) ∈ w) = b4 at *
 generalize ba w = s at *
 obtain ⟨K, hK⟩ : ∃ K, K = lastK b0 b1 b2 := ⟨_, rfl⟩
 rw [← hK] at hE ⊢
 refine wordsN ?_; unhygienic intros
 have n1 : bNot true = false := by simp only [ee]; rfl
 have w0 : sEq (Classical.choice kwBox_ne).i sr = b0 := by simp only [ee]; exact q0
 have w1 : sEq (Classical.choice kwBox_ne).b sr = b1 := by simp only [ee]; exact q1
 have w2 : sEq (Classical.choice kwBox_ne).s sr = b2 := by simp only [ee]; exact q2
 have n0 : bNot false = true := by simp only [ee]; rfl
 clear q0 q1 q2
 obtain ⟨L, hL⟩ : ∃ L, L = es ++ [.agg [str qn, .val (.slice none 0 0)]] := ⟨_, rfl⟩
 rw [← hL]
 have hat : atN L n = .agg [str qn, .val (.slice none 0 0)] := by simp only [ee]; rw [hL, hn]; simp
 have hset : ∀ x, setA L n x = es ++ [x] := fun x => by simp only [ee]; rw [hL, hn]; simp
 have hlen : n < L.length := by rw [hL, hn]; simp
 have kcS : AV.closedL [AV.agg [str sl, int K]] = true := by simp [AV.closedL, closed_agg, closed_v]
 have ke1 : lenN (partA [AV.agg [str sl, int K]] 0 1) = 1 := by simp only [ee]; rfl
 have ke2 : partA [AV.agg [str sl, int K]] 0 1 = [.agg [str sl, int K]] := by simp only [ee]; rfl
 have hsubL : ∀ σ : Nat → Sub, AV.subL σ L = L := fun σ => by rw [hL, subL_append, subL_closed _ hes]; rfl
 have hsub1 : ∀ (σ : Nat → Sub) (b b' : Nat), σ b = .to b' → AV.subL σ (es ++ [.agg [str qn, .sl b 2 0 1]]) = es ++ [.agg [str qn, .sl b' 2 0 1]] := fun σ b b' h => by rw [subL_append, subL_closed _ hes]; simp [AV.subL, AV.sub, h]
 refine rcall_body (fn := Tryd.f42) (n := 61) (ac := Trydc42) (rvs := [.t 4]) rfl Trydp42 rfl rfl rfl ?_
 refine goA 60 ?_
 refine oPA pc ?_
 refine goA 60 ?_
 refine on_loopP (ι := Int × Int) (fun p => ([(18, int p.1), (17, .agg [str (Classical.choice kwBox_ne).i, str (Classical.choice kwBox_ne).b, str (Classical.choice kwBox_ne).s]), (8, int p.2), (6, str sr), (5, str sl), (0, .eptr 0 2 n 0)], [.arr 2 L])) (fun p => (p.1 = 0 ∧ p.2 = -1) ∨ (p.1 = 1 ∧ p.2 = cond b0 0 (-1)) ∨ (p.1 = 2 ∧ p.2 = cond b1 1 (cond b0 0 (-1))) ∨ (p.1 = 3 ∧ p.2 = K)) (fun p => (3 - p.1).toNat) (0, -1) (.inl ⟨rfl, rfl⟩) ?_ ?_
 · exact (ent_fw ⟨.refl _, .refl _, .refl _, .refl _, .refl _, .refl _, trivial⟩)
 rintro ⟨i, k⟩ g
 dsimp only at g ⊢
 rcases g with ⟨rfl, hk⟩ | ⟨rfl, hk⟩ | ⟨rfl, hk⟩ | ⟨rfl, hk⟩
 · have hc : iLt 0 3 = true := by simp only [ee]; rfl
   have ha : iAdd .i64 0 1 = 1 := by simp only [ee]; rfl
   cases b0 with
   | true =>
    refine goB hX 0 (by conv => lhs; cbv; try simp only [hc, w0, ha]; cbv; try simp only [hc, w0, ha]; cbv; try simp only [hc, w0, ha]; cbv; try simp only [hc, w0, ha]; cbv) ?_
    refine goB hX 1 (by conv => lhs; cbv; try simp only [hc, w0, ha]; cbv; try simp only [hc, w0, ha]; cbv; try simp only [hc, w0, ha]; cbv; try simp only [hc, w0, ha]; cbv) ?_
    refine goA 60 ?_
    refine loopP_next (iAdd .i64 0 1, 0) (.inr (.inl ⟨ha, rfl⟩)) (by dsimp only; rw [ha]; decide) (ent_fw ⟨.refl _, .refl _, .refl _, .refl _, .refl _, .refl _, trivial⟩)
   | false =>
    refine goB hX 0 (by conv => lhs; cbv; try simp only [hc, w0, ha]; cbv; try simp only [hc, w0, ha]; cbv; try simp only [hc, w0, ha]; cbv; try simp only [hc, w0, ha]; cbv) ?_
    refine goB hX 1 (by conv => lhs; cbv; try simp only [hc, w0, ha]; cbv; try simp only [hc, w0, ha]; cbv; try simp only [hc, w0, ha]; cbv; try simp only [hc, w0, ha]; cbv) ?_
    refine goA 60 ?_
    refine loopP_next (iAdd .i64 0 1, k) (.inr (.inl ⟨ha, hk⟩)) (by dsimp only; rw [ha]; decide) (ent_fw ⟨.refl _, .refl _, .refl _, .refl _, .refl _, .refl _, trivial⟩)
 · have hc : iLt 1 3 = true := by simp only [ee]; rfl
   have ha : iAdd .i64 1 1 = 2 := by simp only [ee]; rfl
   cases b1 with
   | true =>
    refine goB hX 0 (by conv => lhs; cbv; try simp only [hc, w1, ha]; cbv; try simp only [hc, w1, ha]; cbv; try simp only [hc, w1, ha]; cbv; try simp only [hc, w1, ha]; cbv) ?_
    refine goB hX 1 (by conv => lhs; cbv; try simp only [hc, w1, ha]; cbv; try simp only [hc, w1, ha]; cbv; try simp only [hc, w1, ha]; cbv; try simp only [hc, w1, ha]; cbv) ?_
    refine goA 60 ?_
    refine loopP_next (iAdd .i64 1 1, 1) (.inr (.inr (.inl ⟨ha, rfl⟩))) (by dsimp only; rw [ha]; decide) (ent_fw ⟨.refl _, .refl _, .refl _, .refl _, .refl _, .refl _, trivial⟩)
   | false =>
    refine goB hX 0 (by conv => lhs; cbv; try simp only [hc, w1, ha]; cbv; try simp only [hc, w1, ha]; cbv; try simp only [hc, w1, ha]; cbv; try simp only [hc, w1, ha]; cbv) ?_
    refine goB hX 1 (by conv => lhs; cbv; try simp only [hc, w1, ha]; cbv; try simp only [hc, w1, ha]; cbv; try simp only [hc, w1, ha]; cbv; try simp only [hc, w1, ha]; cbv) ?_
    refine goA 60 ?_
    refine loopP_next (iAdd .i64 1 1, k) (.inr (.inr (.inl ⟨ha, hk⟩))) (by dsimp only; rw [ha]; decide) (ent_fw ⟨.refl _, .refl _, .refl _, .refl _, .refl _, .refl _, trivial⟩)
 · have hc : iLt 2 3 = true := by simp only [ee]; rfl
   have ha : iAdd .i64 2 1 = 3 := by simp only [ee]; rfl
   cases b2 with
   | true =>
    refine goB hX 0 (by conv => lhs; cbv; try simp only [hc, w2, ha]; cbv; try simp only [hc, w2, ha]; cbv; try simp only [hc, w2, ha]; cbv; try simp only [hc, w2, ha]; cbv) ?_
    refine goB hX 1 (by conv => lhs; cbv; try simp only [hc, w2, ha]; cbv; try simp only [hc, w2, ha]; cbv; try simp only [hc, w2, ha]; cbv; try simp only [hc, w2, ha]; cbv) ?_
    refine goA 60 ?_
    refine loopP_next (iAdd .i64 2 1, 2) (.inr (.inr (.inr ⟨ha, hK.symm⟩))) (by dsimp only; rw [ha]; decide) (ent_fw ⟨.refl _, .refl _, .refl _, .refl _, .refl _, .refl _, trivial⟩)
   | false =>
    refine goB hX 0 (by conv => lhs; cbv; try simp only [hc, w2, ha]; cbv; try simp only [hc, w2, ha]; cbv; try simp only [hc, w2, ha]; cbv; try simp only [hc, w2, ha]; cbv) ?_
    refine goB hX 1 (by conv => lhs; cbv; try simp only [hc, w2, ha]; cbv; try simp only [hc, w2, ha]; cbv; try simp only [hc, w2, ha]; cbv; try simp only [hc, w2, ha]; cbv) ?_
    refine goA 60 ?_
    refine loopP_next (iAdd .i64 2 1, k) (.inr (.inr (.inr ⟨ha, hk.trans hK.symm⟩))) (by dsimp only; rw [ha]; decide) (ent_fw ⟨.refl _, .refl _, .refl _, .refl _, .refl _, .refl _, trivial⟩)
 subst hk
 clear hK w0 w1 w2
 have hc : iLt 3 3 = false := by simp only [ee]; rfl
 by_cases h1 : k < 0
 · have k1 : iLt k 0 = true := by simp only [ee]; simpa using h1
   rw [if_pos h1] at hE
   subst hE
   refine goB hX 0 (by conv => lhs; cbv; try simp only [hc, k1]; cbv; try simp only [hc, k1]; cbv; try simp only [hc, k1]; cbv; try simp only [hc, k1]; cbv) ?_
   refine goA 60 ?_
   refine loopP_exit ?_
   refine goB hX 0 (by conv => lhs; cbv; try simp only [hc, k1]; cbv; try simp only [hc, k1]; cbv; try simp only [hc, k1]; cbv; try simp only [hc, k1]; cbv) ?_
   refine goA 60 ?_
   (exact o_ret (.refl _ _ _ _ _) rfl (.inl ⟨by decide, rfl, rfl⟩))
 have k1 : iLt k 0 = false := by simp only [ee]; simpa using h1
 rw [if_neg h1] at hE
 rw [if_neg (by decide)] at hE
 have k2 : iEq 0 8 = false := by simp only [ee]; rfl
 cases b3 with
 | false =>
  rw [if_pos (by simp)] at hE
  subst hE
  refine goB hX 0 (by conv => lhs; cbv; try simp only [hc, k1, k2, n0, hat]; cbv; try simp only [hc, k1, k2, n0, hat]; cbv; try simp only [hc, k1, k2, n0, hat]; cbv; try simp only [hc, k1, k2, n0, hat]; cbv) ?_
  refine goA 60 ?_
  refine loopP_exit ?_
  refine goB hX 0 (by conv => lhs; cbv; try simp only [hc, k1, k2, n0, hat]; cbv; try simp only [hc, k1, k2, n0, hat]; cbv; try simp only [hc, k1, k2, n0, hat]; cbv; try simp only [hc, k1, k2, n0, hat]; cbv) ?_
  refine goB hX 1 (by conv => lhs; cbv; try simp only [hc, k1, k2, n0, hat]; cbv; try simp only [hc, k1, k2, n0, hat]; cbv; try simp only [hc, k1, k2, n0, hat]; cbv; try simp only [hc, k1, k2, n0, hat]; cbv) ?_
  refine on_cond rfl (fun c1 => ?_) (fun c1 => ?_)
  ·
   simp [ee] at c1
  ·
   simp [ee] at c1
   refine goA 60 ?_
   refine oPA pn ?_
   refine goB hX 0 (by conv => lhs; cbv; try simp only [hc, k1, k2, n0, hat]; cbv; try simp only [hc, k1, k2, n0, hat]; cbv; try simp only [hc, k1, k2, n0, hat]; cbv; try simp only [hc, k1, k2, n0, hat]; cbv) ?_
   refine goA 60 ?_
   (exact o_ret (.refl _ _ _ _ _) rfl (.inl ⟨by decide, rfl, rfl⟩))
 | true =>
 rw [if_neg (by simp)] at hE
 by_cases h3 : 0 ≤ P
 · have k3 : iLe 0 P = true := by simp only [ee]; simpa using h3
   rw [if_pos h3] at hE
   subst hE
   refine goB hX 0 (by conv => lhs; cbv; try simp only [hc, k1, k2, k3, n1, hat]; cbv; try simp only [hc, k1, k2, k3, n1, hat]; cbv; try simp only [hc, k1, k2, k3, n1, hat]; cbv; try simp only [hc, k1, k2, k3, n1, hat]; cbv) ?_
   refine goA 60 ?_
   refine loopP_exit ?_
   refine goB hX 0 (by conv => lhs; cbv; try simp only [hc, k1, k2, k3, n1, hat]; cbv; try simp only [hc, k1, k2, k3, n1, hat]; cbv; try simp only [hc, k1, k2, k3, n1, hat]; cbv; try simp only [hc, k1, k2, k3, n1, hat]; cbv) ?_
   refine goB hX 1 (by conv => lhs; cbv; try simp only [hc, k1, k2, k3, n1, hat]; cbv; try simp only [hc, k1, k2, k3, n1, hat]; cbv; try simp only [hc, k1, k2, k3, n1, hat]; cbv; try simp only [hc, k1, k2, k3, n1, hat]; cbv) ?_
   refine on_cond rfl (fun c1 => ?_) (fun c1 => ?_)
   ·
    simp [ee] at c1
   ·
    simp [ee] at c1
    refine goA 60 ?_
    refine oPA pn ?_
    refine goB hX 0 (by conv => lhs; cbv; try simp only [hc, k1, k2, k3, n1, hat]; cbv; try simp only [hc, k1, k2, k3, n1, hat]; cbv; try simp only [hc, k1, k2, k3, n1, hat]; cbv; try simp only [hc, k1, k2, k3, n1, hat]; cbv) ?_
    refine goB hX 1 (by conv => lhs; cbv; try simp only [hc, k1, k2, k3, n1, hat]; cbv; try simp only [hc, k1, k2, k3, n1, hat]; cbv; try simp only [hc, k1, k2, k3, n1, hat]; cbv; try simp only [hc, k1, k2, k3, n1, hat]; cbv) ?_
    refine on_lend rfl rfl pp rfl ⟨[.gone], ⟨trivial, trivial⟩, ⟨.nilI _, .refl _, trivial⟩⟩ ?_
    refine goB hX 0 (by conv => lhs; cbv; try simp only [hc, k1, k2, k3, n1, hat]; cbv; try simp only [hc, k1, k2, k3, n1, hat]; cbv; try simp only [hc, k1, k2, k3, n1, hat]; cbv; try simp only [hc, k1, k2, k3, n1, hat]; cbv) ?_
    refine goA 60 ?_
    (exact o_ret (.refl _ _ _ _ _) rfl (.inl ⟨by decide, rfl, rfl⟩))
 have k3 : iLe 0 P = false := by simp only [ee]; simpa using h3
 rw [if_neg h3] at hE
 subst hE
 refine goB hX 0 (by conv => lhs; cbv; try simp only [hc, k1, k2, k3, n1, hat]; cbv; try simp only [hc, k1, k2, k3, n1, hat]; cbv; try simp only [hc, k1, k2, k3, n1, hat]; cbv; try simp only [hc, k1, k2, k3, n1, hat]; cbv) ?_
 refine goA 60 ?_
 refine loopP_exit ?_
 refine goB hX 0 (by conv => lhs; cbv; try simp only [hc, k1, k2, k3, n1, hat]; cbv; try simp only [hc, k1, k2, k3, n1, hat]; cbv; try simp only [hc, k1, k2, k3, n1, hat]; cbv; try simp only [hc, k1, k2, k3, n1, hat]; cbv) ?_
 refine goB hX 1 (by conv => lhs; cbv; try simp only [hc, k1, k2, k3, n1, hat]; cbv; try simp only [hc, k1, k2, k3, n1, hat]; cbv; try simp only [hc, k1, k2, k3, n1, hat]; cbv; try simp only [hc, k1, k2, k3, n1, hat]; cbv) ?_
 refine on_cond rfl (fun c1 => ?_) (fun c1 => ?_)
 ·
  simp [ee] at c1
 ·
  simp [ee] at c1
  refine goA 60 ?_
  refine oPA pn ?_
  refine goB hX 0 (by conv => lhs; cbv; try simp only [hc, k1, k2, k3, n1, hat]; cbv; try simp only [hc, k1, k2, k3, n1, hat]; cbv; try simp only [hc, k1, k2, k3, n1, hat]; cbv; try simp only [hc, k1, k2, k3, n1, hat]; cbv) ?_
  refine goB hX 1 (by conv => lhs; cbv; try simp only [hc, k1, k2, k3, n1, hat]; cbv; try simp only [hc, k1, k2, k3, n1, hat]; cbv; try simp only [hc, k1, k2, k3, n1, hat]; cbv; try simp only [hc, k1, k2, k3, n1, hat]; cbv) ?_
  refine on_lend rfl rfl pp rfl ⟨[.gone], ⟨trivial, trivial⟩, ⟨.nilI _, .refl _, trivial⟩⟩ ?_
  refine goB hX 0 (by conv => lhs; cbv; try simp only [hc, k1, k2, k3, n1, hat]; cbv; try simp only [hc, k1, k2, k3, n1, hat]; cbv; try simp only [hc, k1, k2, k3, n1, hat]; cbv; try simp only [hc, k1, k2, k3, n1, hat]; cbv) ?_
  refine goB hX 1 (by conv => lhs; cbv; try simp only [hc, k1, k2, k3, n1, hat]; cbv; try simp only [hc, k1, k2, k3, n1, hat]; cbv; try simp only [hc, k1, k2, k3, n1, hat]; cbv; try simp only [hc, k1, k2, k3, n1, hat]; cbv) ?_
  (rw [ke1, ke2, hset]; exact o_ret (F2 := [(4, int 0)]) (H2 := [.arr 2 (es ++ [.agg [str qn, .sl 1 2 0 1]]), .arr 2 [.agg [str sl, int k]]]) (ent_subN [.to 0, .gone, .to 1] [some 0, some 2] ⟨rfl, trivial⟩ (by simp) (by simp) ⟨⟨by simp, rfl⟩, trivial, ⟨by simp, rfl⟩, trivial⟩ ⟨osrc_arrS (b := 0) rfl rfl rfl (by exact hsub1 (ofL [.to 0, .gone, .to 1]) 2 1 rfl), osrc_arr (b := 2) rfl rfl rfl rfl kcS, trivial⟩ ⟨.refl _, trivial⟩) rfl (.inr ⟨rfl, rfl, rfl⟩))
theorem C_field1 (qn : ByteArray) (es : List AV) (hes : AV.closedL es = true) (n : Nat) (hn : n = es.length) (fs : List Fld) (hl : fs.length < 1152921504606846976) (m : Nat) (hm : m = fs.length) (hb : fs.length ≤ 8) (w : Bs) (hw : w.length < 4294967281) :
 ACall EE 42 [.eptr 0 2 n 0, str (ba w)] [.arr 2 (es ++ [.agg [str qn, .sl 1 2 0 m]]), .arr 2 (mapE Fld.enc fs)] fun v H' => (fldE fs w ≠ 0 ∧ v = int (fldE fs w) ∧ H' = [.arr 2 (es ++ [.agg [str qn, .sl 1 2 0 m]]), .arr 2 (mapE Fld.enc fs)]) ∨ (fldE fs w = 0 ∧ v = int 0 ∧ H' = [.arr 2 (es ++ [.agg [str qn, .sl 2 2 0 (m + 1)]]), .dead, .arr 2 (mapE Fld.enc fs ++ [Fld.enc (newF w)])]) := by
 obtain ⟨E, hE⟩ : ∃ E, E = fldE fs w := ⟨_, rfl⟩
 rw [← hE, newF_enc]
 rw [fldE] at hE
 have pc := P_Cut 58 w hw
 rw [← one_ba] at pc
 have hcl := cut_len 58 w
 have pn := P_fieldName (cutL 58 w) (by omega)
 have pp := P_position fs (cutL 58 w) hl
 have kcl := Fld.closedI fs
 have kcL := Fld.closedL fs
 obtain ⟨q0, q1, q2⟩ := kw_eq (cutR 58 w)
 have hk := lastK_eq (cutR 58 w)
 rw [← hk] at hE ⊢
 clear hk hcl
 generalize hb3 : fnameB (cutL 58 w) = b3 at *
 generalize decide (cutR 58 w = bInt) = b0 at *
 generalize decide (cutR 58 w = bBool) = b1 at *
 generalize decide (cutR 58 w = bStr) = b2 at *
 generalize Fld.pos fs (cutL 58 w) = P at *
 generalize ba (cutL 58 w) = sl at *
 generalize ba (cutR 58 w) = sr at *
 generalize decide ((58 : UInt8) ∈ w) = b4 at *
 generalize ba w = s at *
 obtain ⟨K, hK⟩ : ∃ K, K = lastK b0 b1 b2 := ⟨_, rfl⟩
 rw [← hK] at hE ⊢
 refine wordsN ?_; unhygienic intros
 generalize hfe : mapE Fld.enc fs = fe at *
 have hel : fe.length = fs.length := by rw [← hfe, mapE_len]
 have n1 : bNot true = false := by simp only [ee]; rfl
 have w0 : sEq (Classical.choice kwBox_ne).i sr = b0 := by simp only [ee]; exact q0
 have w1 : sEq (Classical.choice kwBox_ne).b sr = b1 := by simp only [ee]; exact q1
 have w2 : sEq (Classical.choice kwBox_ne).s sr = b2 := by simp only [ee]; exact q2
 have n0 : bNot false = true := by simp only [ee]; rfl
 clear q0 q1 q2
 obtain ⟨L, hL⟩ : ∃ L, L = es ++ [.agg [str qn, .sl 1 2 0 m]] := ⟨_, rfl⟩
 rw [← hL]
 have hat : atN L n = .agg [str qn, .sl 1 2 0 m] := by simp only [ee]; rw [hL, hn]; simp
 have hset : ∀ x, setA L n x = es ++ [x] := fun x => by simp only [ee]; rw [hL, hn]; simp
 have hlen : n < L.length := by rw [hL, hn]; simp
 have kcS : AV.closedL [AV.agg [str sl, int K]] = true := by simp [AV.closedL, closed_agg, closed_v]
 have ke1 : addN m (lenN (partA [AV.agg [str sl, int K]] 0 1)) = m + 1 := by simp only [ee]; rfl
 have ke2 : catA (dropA fe 0) (partA [AV.agg [str sl, int K]] 0 1) = fe ++ [.agg [str sl, int K]] := by simp only [ee]; rfl
 have kz : AV.closedL (fe ++ [AV.agg [str sl, int K]]) = true := closedL_append kcL kcS
 have hsub1 : ∀ (σ : Nat → Sub) (b b' : Nat), σ b = .to b' → AV.subL σ (es ++ [.agg [str qn, .sl b 2 0 (m + 1)]]) = es ++ [.agg [str qn, .sl b' 2 0 (m + 1)]] := fun σ b b' h => by rw [subL_append, subL_closed _ hes]; simp [AV.subL, AV.sub, h]
 refine rcall_body (fn := Tryd.f42) (n := 61) (ac := Trydc42) (rvs := [.t 4]) rfl Trydp42 rfl rfl rfl ?_
 refine goA 60 ?_
 refine oPA pc ?_
 refine goA 60 ?_
 refine on_loopP (ι := Int × Int) (fun p => ([(18, int p.1), (17, .agg [str (Classical.choice kwBox_ne).i, str (Classical.choice kwBox_ne).b, str (Classical.choice kwBox_ne).s]), (8, int p.2), (6, str sr), (5, str sl), (0, .eptr 0 2 n 0)], [.arr 2 L, .arr 2 fe])) (fun p => (p.1 = 0 ∧ p.2 = -1) ∨ (p.1 = 1 ∧ p.2 = cond b0 0 (-1)) ∨ (p.1 = 2 ∧ p.2 = cond b1 1 (cond b0 0 (-1))) ∨ (p.1 = 3 ∧ p.2 = K)) (fun p => (3 - p.1).toNat) (0, -1) (.inl ⟨rfl, rfl⟩) ?_ ?_
 · exact (ent_fw ⟨.refl _, .refl _, .refl _, .refl _, .refl _, .refl _, trivial⟩)
 rintro ⟨i, k⟩ g
 dsimp only at g ⊢
 rcases g with ⟨rfl, hk⟩ | ⟨rfl, hk⟩ | ⟨rfl, hk⟩ | ⟨rfl, hk⟩
 · have hc : iLt 0 3 = true := by simp only [ee]; rfl
   have ha : iAdd .i64 0 1 = 1 := by simp only [ee]; rfl
   cases b0 with
   | true =>
    refine goB hX 0 (by conv => lhs; cbv; try simp only [hc, w0, ha]; cbv; try simp only [hc, w0, ha]; cbv; try simp only [hc, w0, ha]; cbv; try simp only [hc, w0, ha]; cbv) ?_
    refine goB hX 1 (by conv => lhs; cbv; try simp only [hc, w0, ha]; cbv; try simp only [hc, w0, ha]; cbv; try simp only [hc, w0, ha]; cbv; try simp only [hc, w0, ha]; cbv) ?_
    refine goA 60 ?_
    refine loopP_next (iAdd .i64 0 1, 0) (.inr (.inl ⟨ha, rfl⟩)) (by dsimp only; rw [ha]; decide) (ent_fw ⟨.refl _, .refl _, .refl _, .refl _, .refl _, .refl _, trivial⟩)
   | false =>
    refine goB hX 0 (by conv => lhs; cbv; try simp only [hc, w0, ha]; cbv; try simp only [hc, w0, ha]; cbv; try simp only [hc, w0, ha]; cbv; try simp only [hc, w0, ha]; cbv) ?_
    refine goB hX 1 (by conv => lhs; cbv; try simp only [hc, w0, ha]; cbv; try simp only [hc, w0, ha]; cbv; try simp only [hc, w0, ha]; cbv; try simp only [hc, w0, ha]; cbv) ?_
    refine goA 60 ?_
    refine loopP_next (iAdd .i64 0 1, k) (.inr (.inl ⟨ha, hk⟩)) (by dsimp only; rw [ha]; decide) (ent_fw ⟨.refl _, .refl _, .refl _, .refl _, .refl _, .refl _, trivial⟩)
 · have hc : iLt 1 3 = true := by simp only [ee]; rfl
   have ha : iAdd .i64 1 1 = 2 := by simp only [ee]; rfl
   cases b1 with
   | true =>
    refine goB hX 0 (by conv => lhs; cbv; try simp only [hc, w1, ha]; cbv; try simp only [hc, w1, ha]; cbv; try simp only [hc, w1, ha]; cbv; try simp only [hc, w1, ha]; cbv) ?_
    refine goB hX 1 (by conv => lhs; cbv; try simp only [hc, w1, ha]; cbv; try simp only [hc, w1, ha]; cbv; try simp only [hc, w1, ha]; cbv; try simp only [hc, w1, ha]; cbv) ?_
    refine goA 60 ?_
    refine loopP_next (iAdd .i64 1 1, 1) (.inr (.inr (.inl ⟨ha, rfl⟩))) (by dsimp only; rw [ha]; decide) (ent_fw ⟨.refl _, .refl _, .refl _, .refl _, .refl _, .refl _, trivial⟩)
   | false =>
    refine goB hX 0 (by conv => lhs; cbv; try simp only [hc, w1, ha]; cbv; try simp only [hc, w1, ha]; cbv; try simp only [hc, w1, ha]; cbv; try simp only [hc, w1, ha]; cbv) ?_
    refine goB hX 1 (by conv => lhs; cbv; try simp only [hc, w1, ha]; cbv; try simp only [hc, w1, ha]; cbv; try simp only [hc, w1, ha]; cbv; try simp only [hc, w1, ha]; cbv) ?_
    refine goA 60 ?_
    refine loopP_next (iAdd .i64 1 1, k) (.inr (.inr (.inl ⟨ha, hk⟩))) (by dsimp only; rw [ha]; decide) (ent_fw ⟨.refl _, .refl _, .refl _, .refl _, .refl _, .refl _, trivial⟩)
 · have hc : iLt 2 3 = true := by simp only [ee]; rfl
   have ha : iAdd .i64 2 1 = 3 := by simp only [ee]; rfl
   cases b2 with
   | true =>
    refine goB hX 0 (by conv => lhs; cbv; try simp only [hc, w2, ha]; cbv; try simp only [hc, w2, ha]; cbv; try simp only [hc, w2, ha]; cbv; try simp only [hc, w2, ha]; cbv) ?_
    refine goB hX 1 (by conv => lhs; cbv; try simp only [hc, w2, ha]; cbv; try simp only [hc, w2, ha]; cbv; try simp only [hc, w2, ha]; cbv; try simp only [hc, w2, ha]; cbv) ?_
    refine goA 60 ?_
    refine loopP_next (iAdd .i64 2 1, 2) (.inr (.inr (.inr ⟨ha, hK.symm⟩))) (by dsimp only; rw [ha]; decide) (ent_fw ⟨.refl _, .refl _, .refl _, .refl _, .refl _, .refl _, trivial⟩)
   | false =>
    refine goB hX 0 (by conv => lhs; cbv; try simp only [hc, w2, ha]; cbv; try simp only [hc, w2, ha]; cbv; try simp only [hc, w2, ha]; cbv; try simp only [hc, w2, ha]; cbv) ?_
    refine goB hX 1 (by conv => lhs; cbv; try simp only [hc, w2, ha]; cbv; try simp only [hc, w2, ha]; cbv; try simp only [hc, w2, ha]; cbv; try simp only [hc, w2, ha]; cbv) ?_
    refine goA 60 ?_
    refine loopP_next (iAdd .i64 2 1, k) (.inr (.inr (.inr ⟨ha, hk.trans hK.symm⟩))) (by dsimp only; rw [ha]; decide) (ent_fw ⟨.refl _, .refl _, .refl _, .refl _, .refl _, .refl _, trivial⟩)
 subst hk
 clear hK w0 w1 w2
 have hc : iLt 3 3 = false := by simp only [ee]; rfl
 by_cases h1 : k < 0
 · have k1 : iLt k 0 = true := by simp only [ee]; simpa using h1
   rw [if_pos h1] at hE
   subst hE
   refine goB hX 0 (by conv => lhs; cbv; try simp only [hc, k1]; cbv; try simp only [hc, k1]; cbv; try simp only [hc, k1]; cbv; try simp only [hc, k1]; cbv) ?_
   refine goA 60 ?_
   refine loopP_exit ?_
   refine goB hX 0 (by conv => lhs; cbv; try simp only [hc, k1]; cbv; try simp only [hc, k1]; cbv; try simp only [hc, k1]; cbv; try simp only [hc, k1]; cbv) ?_
   refine goA 60 ?_
   (exact o_ret (.refl _ _ _ _ _) rfl (.inl ⟨by decide, rfl, rfl⟩))
 have k1 : iLt k 0 = false := by simp only [ee]; simpa using h1
 rw [if_neg h1] at hE
 by_cases h2 : fs.length = 8
 · have k2 : iEq (iOf m) 8 = true := by simp only [ee]; simp; omega
   rw [if_pos h2] at hE
   subst hE
   refine goB hX 0 (by conv => lhs; cbv; try simp only [hc, k1, k2, hat]; cbv; try simp only [hc, k1, k2, hat]; cbv; try simp only [hc, k1, k2, hat]; cbv; try simp only [hc, k1, k2, hat]; cbv) ?_
   refine goA 60 ?_
   refine loopP_exit ?_
   refine goB hX 0 (by conv => lhs; cbv; try simp only [hc, k1, k2, hat]; cbv; try simp only [hc, k1, k2, hat]; cbv; try simp only [hc, k1, k2, hat]; cbv; try simp only [hc, k1, k2, hat]; cbv) ?_
   refine goB hX 1 (by conv => lhs; cbv; try simp only [hc, k1, k2, hat]; cbv; try simp only [hc, k1, k2, hat]; cbv; try simp only [hc, k1, k2, hat]; cbv; try simp only [hc, k1, k2, hat]; cbv) ?_
   refine goA 60 ?_
   (exact o_ret (.refl _ _ _ _ _) rfl (.inl ⟨by decide, rfl, rfl⟩))
 have k2 : iEq (iOf m) 8 = false := by simp only [ee]; simp; omega
 rw [if_neg h2] at hE
 cases b3 with
 | false =>
  rw [if_pos (by simp)] at hE
  subst hE
  refine goB hX 0 (by conv => lhs; cbv; try simp only [hc, k1, k2, n0, hat]; cbv; try simp only [hc, k1, k2, n0, hat]; cbv; try simp only [hc, k1, k2, n0, hat]; cbv; try simp only [hc, k1, k2, n0, hat]; cbv) ?_
  refine goA 60 ?_
  refine loopP_exit ?_
  refine goB hX 0 (by conv => lhs; cbv; try simp only [hc, k1, k2, n0, hat]; cbv; try simp only [hc, k1, k2, n0, hat]; cbv; try simp only [hc, k1, k2, n0, hat]; cbv; try simp only [hc, k1, k2, n0, hat]; cbv) ?_
  refine goB hX 1 (by conv => lhs; cbv; try simp only [hc, k1, k2, n0, hat]; cbv; try simp only [hc, k1, k2, n0, hat]; cbv; try simp only [hc, k1, k2, n0, hat]; cbv; try simp only [hc, k1, k2, n0, hat]; cbv) ?_
  refine goA 60 ?_
  refine oPA pn ?_
  refine goB hX 0 (by conv => lhs; cbv; try simp only [hc, k1, k2, n0, hat]; cbv; try simp only [hc, k1, k2, n0, hat]; cbv; try simp only [hc, k1, k2, n0, hat]; cbv; try simp only [hc, k1, k2, n0, hat]; cbv) ?_
  refine goA 60 ?_
  (exact o_ret (.refl _ _ _ _ _) rfl (.inl ⟨by decide, rfl, rfl⟩))
 | true =>
 rw [if_neg (by simp)] at hE
 by_cases h3 : 0 ≤ P
 · have k3 : iLe 0 P = true := by simp only [ee]; simpa using h3
   rw [if_pos h3] at hE
   subst hE
   refine goB hX 0 (by conv => lhs; cbv; try simp only [hc, k1, k2, k3, n1, hat]; cbv; try simp only [hc, k1, k2, k3, n1, hat]; cbv; try simp only [hc, k1, k2, k3, n1, hat]; cbv; try simp only [hc, k1, k2, k3, n1, hat]; cbv) ?_
   refine goA 60 ?_
   refine loopP_exit ?_
   refine goB hX 0 (by conv => lhs; cbv; try simp only [hc, k1, k2, k3, n1, hat]; cbv; try simp only [hc, k1, k2, k3, n1, hat]; cbv; try simp only [hc, k1, k2, k3, n1, hat]; cbv; try simp only [hc, k1, k2, k3, n1, hat]; cbv) ?_
   refine goB hX 1 (by conv => lhs; cbv; try simp only [hc, k1, k2, k3, n1, hat]; cbv; try simp only [hc, k1, k2, k3, n1, hat]; cbv; try simp only [hc, k1, k2, k3, n1, hat]; cbv; try simp only [hc, k1, k2, k3, n1, hat]; cbv) ?_
   refine goA 60 ?_
   refine oPA pn ?_
   refine goB hX 0 (by conv => lhs; cbv; try simp only [hc, k1, k2, k3, n1, hat]; cbv; try simp only [hc, k1, k2, k3, n1, hat]; cbv; try simp only [hc, k1, k2, k3, n1, hat]; cbv; try simp only [hc, k1, k2, k3, n1, hat]; cbv) ?_
   refine goB hX 1 (by conv => lhs; cbv; try simp only [hc, k1, k2, k3, n1, hat]; cbv; try simp only [hc, k1, k2, k3, n1, hat]; cbv; try simp only [hc, k1, k2, k3, n1, hat]; cbv; try simp only [hc, k1, k2, k3, n1, hat]; cbv) ?_
   refine on_lend rfl rfl pp rfl ⟨[.gone, .isl 2 (fe)], ⟨trivial, ⟨_, rfl, (subL_closed _ kcL).symm⟩, trivial⟩, ⟨.of (sub_whole rfl (by omega)), .refl _, trivial⟩⟩ ?_
   refine goB hX 0 (by conv => lhs; cbv; try simp only [hc, k1, k2, k3, n1, hat]; cbv; try simp only [hc, k1, k2, k3, n1, hat]; cbv; try simp only [hc, k1, k2, k3, n1, hat]; cbv; try simp only [hc, k1, k2, k3, n1, hat]; cbv) ?_
   refine goA 60 ?_
   (exact o_ret (.refl _ _ _ _ _) rfl (.inl ⟨by decide, rfl, rfl⟩))
 have k3 : iLe 0 P = false := by simp only [ee]; simpa using h3
 rw [if_neg h3] at hE
 subst hE
 refine goB hX 0 (by conv => lhs; cbv; try simp only [hc, k1, k2, k3, n1, hat]; cbv; try simp only [hc, k1, k2, k3, n1, hat]; cbv; try simp only [hc, k1, k2, k3, n1, hat]; cbv; try simp only [hc, k1, k2, k3, n1, hat]; cbv) ?_
 refine goA 60 ?_
 refine loopP_exit ?_
 refine goB hX 0 (by conv => lhs; cbv; try simp only [hc, k1, k2, k3, n1, hat]; cbv; try simp only [hc, k1, k2, k3, n1, hat]; cbv; try simp only [hc, k1, k2, k3, n1, hat]; cbv; try simp only [hc, k1, k2, k3, n1, hat]; cbv) ?_
 refine goB hX 1 (by conv => lhs; cbv; try simp only [hc, k1, k2, k3, n1, hat]; cbv; try simp only [hc, k1, k2, k3, n1, hat]; cbv; try simp only [hc, k1, k2, k3, n1, hat]; cbv; try simp only [hc, k1, k2, k3, n1, hat]; cbv) ?_
 refine goA 60 ?_
 refine oPA pn ?_
 refine goB hX 0 (by conv => lhs; cbv; try simp only [hc, k1, k2, k3, n1, hat]; cbv; try simp only [hc, k1, k2, k3, n1, hat]; cbv; try simp only [hc, k1, k2, k3, n1, hat]; cbv; try simp only [hc, k1, k2, k3, n1, hat]; cbv) ?_
 refine goB hX 1 (by conv => lhs; cbv; try simp only [hc, k1, k2, k3, n1, hat]; cbv; try simp only [hc, k1, k2, k3, n1, hat]; cbv; try simp only [hc, k1, k2, k3, n1, hat]; cbv; try simp only [hc, k1, k2, k3, n1, hat]; cbv) ?_
 refine on_lend rfl rfl pp rfl ⟨[.gone, .isl 2 (fe)], ⟨trivial, ⟨_, rfl, (subL_closed _ kcL).symm⟩, trivial⟩, ⟨.of (sub_whole rfl (by omega)), .refl _, trivial⟩⟩ ?_
 refine goB hX 0 (by conv => lhs; cbv; try simp only [hc, k1, k2, k3, n1, hat]; cbv; try simp only [hc, k1, k2, k3, n1, hat]; cbv; try simp only [hc, k1, k2, k3, n1, hat]; cbv; try simp only [hc, k1, k2, k3, n1, hat]; cbv) ?_
 refine goB hX 1 (by conv => lhs; cbv; try simp only [hc, k1, k2, k3, n1, hat]; cbv; try simp only [hc, k1, k2, k3, n1, hat]; cbv; try simp only [hc, k1, k2, k3, n1, hat]; cbv; try simp only [hc, k1, k2, k3, n1, hat]; cbv) ?_
 (rw [ke1, ke2, hset]; exact o_ret (F2 := [(4, int 0)]) (H2 := [.arr 2 (es ++ [.agg [str qn, .sl 2 2 0 (m + 1)]]), .dead, .arr 2 (fe ++ [.agg [str sl, int k]])]) (ent_subN [.to 0, .gone, .gone, .to 2] [some 0, some 1, some 3] ⟨rfl, rfl, trivial⟩ (by simp) (by simp) ⟨⟨by simp, rfl⟩, trivial, trivial, ⟨by simp, rfl⟩, trivial⟩ ⟨osrc_arrS (b := 0) rfl rfl rfl (by exact hsub1 (ofL [.to 0, .gone, .gone, .to 2]) 3 2 rfl), .dead, osrc_arr (b := 3) rfl rfl rfl rfl kz, trivial⟩ ⟨.refl _, trivial⟩) rfl (.inr ⟨rfl, rfl, rfl⟩))
theorem enters_schema_split_1 : Enters EE.P 56 := enters_of (fn := Tryd.f56) (n := 34) (ac := Trydc56) rfl (by decide) Trydp56
theorem cut_word {w r : Bs} (h1 : ∀ c ∈ w, nsp c = true) (h2 : stops r) (h10 : (10 : UInt8) ∉ w ++ r) : cutL 32 (w ++ r) = w := by
 have hw : (32 : UInt8) ∉ w := not_in (by decide) h1
 cases r with
 | nil => rw [List.append_nil]; exact cutL_free hw
 | cons c r =>
  have h2 : nsp c = false := h2
  rcases nsp_of h2 with k | k
  · have : c = 32 := ch_inj k
    subst this; exact cutL_app r hw
  · have : c = 10 := ch_inj k
    subst this; exact absurd (by simp) h10
theorem C_split1 (A0 A1 A2 A3 A4 A5 A6 : List Tok → AObj) (Lp : AObj) (C0 C1 : List Tok → AObj) (G : List Tok → Prop) (S : AHeap → Prop)
 (l : Bs) (hl : l.length < 4294967281) (h10 : (10 : UInt8) ∉ l) (H0 : AHeap) (hN : H0.length = 8) (h0 : HEnt EE 8 7 H0 [A0 [], A1 [], A2 [], A3 [], A4 [], A5 [], A6 [], Lp, C0 [], C1 []]) (hG : G [])
  (hy : ∀ d q r, toks l 0 true = d ++ q :: r → G d → AYield EE 7 [int (q.at' : Int), str (ba q.w)] [A0 d, A1 d, A2 d, A3 d, A4 d, A5 d, A6 d, Lp, C0 d, C1 d] (YdR EE (G (d ++ [q])) [A0 (d ++ [q]), A1 (d ++ [q]), A2 (d ++ [q]), A3 (d ++ [q]), A4 (d ++ [q]), A5 (d ++ [q]), A6 (d ++ [q]), Lp, C0 (d ++ [q]), C1 (d ++ [q])] S)) :
  ACall EE 56 [.yld 7, .iptr [str (ba l)]] H0 (fun _ H1 => (G (toks l 0 true) ∧ H1 = [A0 (toks l 0 true), A1 (toks l 0 true), A2 (toks l 0 true), A3 (toks l 0 true), A4 (toks l 0 true), A5 (toks l 0 true), A6 (toks l 0 true), Lp, C0 (toks l 0 true), C1 (toks l 0 true)]) ∨ S H1) := by
 have hsz := ba_size l
 have hget := fun d c r h => ba_get l d r c h
 have hcut := fun i j => ba_cut l i j
 generalize hT : toks l 0 true = T at *
 generalize ba l = s at *
 refine wordsN ?_; unhygienic intros
 have hn : sLen s = (l.length : Int) := by simp only [ee]; rw [hsz]
 have hat : ∀ d c r, l = d ++ c :: r → ∀ i : Int, i = d.length → sAt s i = ch c := fun d c r h i hi => by
  subst hi; simp only [ee, ch]; rw [Int.toNat_natCast, hget d c r h]
 have hct : ∀ x y, l = x ++ y → ∀ i : Int, i = x.length → sCut s i (sLen s) = ba y := fun x y h i hi => by
  rw [hn]; subst hi; simp only [ee]; rw [Int.toNat_natCast, Int.toNat_natCast, hcut, h]
  congr 1
  rw [List.take_of_length_le (Nat.le_refl _), List.drop_left]
 have hnt : bNot true = false := by simp [ee]
 have hnf : bNot false = true := by simp [ee]
 clear hget hcut
 refine rcall_body (fn := Tryd.f56) (n := 34) (ac := Trydc56) (rvs := []) rfl Trydp56 rfl rfl rfl ?_
 rw [hN]
 refine on_ent (h0.ent (F' := [(0, .yld 7), (1, .iptr [str s])]) ⟨.refl _, .refl _, trivial⟩) ?_
 refine goA 60 ?_
 refine on_loopP (ι := Bs × Bs × List Tok × Bool × Int) (fun p => ([(3, int p.2.2.2.2), (1, .iptr [str s]), (0, .yld 7)], [A0 p.2.2.1, A1 p.2.2.1, A2 p.2.2.1, A3 p.2.2.1, A4 p.2.2.1, A5 p.2.2.1, A6 p.2.2.1, Lp, C0 p.2.2.1, C1 p.2.2.1])) (fun p => l = p.1 ++ p.2.1 ∧ p.2.2.2.2 = p.1.length ∧ T = p.2.2.1 ++ toks p.2.1 p.1.length p.2.2.2.1 ∧ G p.2.2.1) (fun p => p.2.1.length) ([], l, [], true, 0) ⟨rfl, rfl, by rw [← hT]; rfl, hG⟩ ?_ ?_
 · exact ent_fw ⟨.refl _, .refl _, .refl _, trivial⟩
 rintro ⟨x, y, d, f, i⟩ ⟨g1, gi, gt, gG⟩
 dsimp only at g1 gi gt gG ⊢
 have L1 := congrArg List.length g1
 rw [List.length_append] at L1
 rcases toks_cases y with rfl | ⟨y, rfl⟩ | ⟨y, rfl⟩ | ⟨w, y, rfl, q0, q1, q2⟩
 · have hc : iLt i (sLen s) = false := by rw [hn]; simp only [ee]; simp at L1 ⊢; omega
   rw [toks_nil, List.append_nil] at gt
   refine goB hX 0 (by conv => lhs; cbv; try simp only [hc]; cbv; try simp only [hc]; cbv; try simp only [hc]; cbv; try simp only [hc]; cbv) ?_
   refine goA 60 ?_
   refine loopP_exit ?_
   refine goA 60 ?_
   exact o_norm (.refl _ _ _ _ _) rfl (.inl ⟨by rw [gt]; exact gG, by rw [gt]⟩)
 · exact absurd (by rw [g1]; simp) h10
 · have hc : iLt i (sLen s) = true := by rw [hn]; simp only [ee]; simp at L1 ⊢; omega
   have hb : i < sLen s := by rw [hn]; simp at L1; omega
   have ht := hat x 32 y g1 i gi
   have k : iEq (ch 32) 32 = true := by simp only [ee]; rfl
   have hi2 : iAdd .i64 i 1 = ((x ++ [32]).length : Int) := by rw [List.length_append]; exact inc_w e_iAdd gi (by omega)
   rw [toks_sp] at gt
   refine goB hX 0 (by conv => lhs; cbv; try simp only [hc, ht, k]; cbv; try simp only [hc, ht, k]; cbv; try simp only [hc, ht, k]; cbv; try simp only [hc, ht, k]; cbv) ?_
   refine goB hX 1 (by conv => lhs; cbv; try simp only [hc, ht, k]; cbv; try simp only [hc, ht, k]; cbv; try simp only [hc, ht, k]; cbv; try simp only [hc, ht, k]; cbv) ?_
   refine goB hX 1 (by conv => lhs; cbv; try simp only [hc, ht, k]; cbv; try simp only [hc, ht, k]; cbv; try simp only [hc, ht, k]; cbv; try simp only [hc, ht, k]; cbv) ?_
   refine goA 60 ?_
   exact loopP_next (x ++ [32], y, d, f, iAdd .i64 i 1) ⟨by simp [g1], hi2, by rw [gt]; simp, gG⟩ (by simp) (ent_fw ⟨.refl _, .refl _, .refl _, trivial⟩)
 · have hwp := List.length_pos_iff.2 q0
   have hc : iLt i (sLen s) = true := by rw [hn]; simp only [ee]; simp at L1 ⊢; omega
   have hb : i < sLen s := by rw [hn]; simp at L1; omega
   have hb0 : 0 ≤ i := by omega
   have hcu := hct x (w ++ y) g1 i gi
   have hwl : (cutL 32 (w ++ y)) = w := cut_word q1 q2 (fun h => h10 (by rw [g1]; simp only [List.mem_append] at h ⊢; exact .inr h))
   have pc := P_Cut 32 (w ++ y) (by omega)
   rw [← one_ba, hwl] at pc
   rw [toks_word x.length f q0 q1 q2] at gt
   have hyy := hy d _ _ gt gG
   dsimp only at hyy
   rw [← gi] at hyy
   have hws : sLen (ba w) = (w.length : Int) := by simp only [ee]; rw [ba_size]
   have hi2 : iAdd .i64 i (sLen (ba w)) = ((x ++ w).length : Int) := by
    rw [List.length_append] at L1
    rw [hws, List.length_append, gi, add_w e_iAdd (by omega) (by omega)]; omega
   have gt2 : T = (d ++ [⟨x.length, f, w⟩]) ++ toks y (x ++ w).length false := by rw [gt]; simp
   obtain ⟨c0, w0, rfl⟩ : ∃ c0 w0, w = c0 :: w0 := by
    cases w with
    | nil => exact absurd rfl q0
    | cons c w => exact ⟨c, w, rfl⟩
   have ht := hat x c0 (w0 ++ y) (by rw [g1]; simp) i gi
   have k : iEq (ch c0) 32 = false := by simp only [ee]; exact beq_eq_false_iff_ne.2 (nsp_ne (q1 c0 (by simp))).1
   generalize c0 :: w0 = w at *
   generalize ba w = ws at *
   generalize ba (cutR 32 (w ++ y)) = cr at *
   generalize decide ((32 : UInt8) ∈ w ++ y) = cb at *
   generalize ba (w ++ y) = wy at *
   clear hat hct hy
   refine goB hX 0 (by conv => lhs; cbv; try simp only [hc, ht, k, hcu]; cbv; try simp only [hc, ht, k, hcu]; cbv; try simp only [hc, ht, k, hcu]; cbv; try simp only [hc, ht, k, hcu]; cbv) ?_
   refine goB hX 1 (by conv => lhs; cbv; try simp only [hc, ht, k, hcu]; cbv; try simp only [hc, ht, k, hcu]; cbv; try simp only [hc, ht, k, hcu]; cbv; try simp only [hc, ht, k, hcu]; cbv) ?_
   refine goB hX 1 (by conv => lhs; cbv; try simp only [hc, ht, k, hcu]; cbv; try simp only [hc, ht, k, hcu]; cbv; try simp only [hc, ht, k, hcu]; cbv; try simp only [hc, ht, k, hcu]; cbv) ?_
   refine oPA pc ?_
   refine goA 60 ?_
   refine on_callv rfl rfl rfl rfl hyy ?_
   rintro v1 H1 (⟨rfl, hG1, he⟩ | ⟨rfl, hS⟩)
   rotate_left
   · refine goB hX 1 (by conv => lhs; cbv; try simp only [hnf]; cbv; try simp only [hnf]; cbv; try simp only [hnf]; cbv; try simp only [hnf]; cbv) ?_
     refine loopP_ret ?_
     refine goA 60 ?_
     exact o_ret (.refl _ _ _ _ _) rfl (.inr hS)
   refine on_entO (he.ent (F' := [(28, .val (.bool true)), (4, str ws), (3, int i), (1, .iptr [str s]), (0, .yld 7)]) ⟨.refl _, .refl _, .refl _, .refl _, .refl _, trivial⟩) ?_
   refine goB hX 1 (by conv => lhs; cbv; try simp only [hnt]; cbv; try simp only [hnt]; cbv; try simp only [hnt]; cbv; try simp only [hnt]; cbv) ?_
   refine goA 60 ?_
   exact loopP_next (x ++ w, y, d ++ [Tok.mk x.length f w], false, iAdd .i64 i (sLen ws)) ⟨by rw [g1]; simp, hi2, gt2, hG1⟩ (by simp; omega) (ent_fw ⟨.refl _, .refl _, .refl _, trivial⟩)
theorem P_split (l : Bs) : PCall EE 40 [str (ba l)] (.fn 56 [.iptr [str (ba l)]]) := by
 generalize ba l = s at *
 refine wordsN ?_; unhygienic intros
 refine fn_body (fn := Tryd.f40) (n := 4) (ac := Trydc40) (rvs := [.t 2]) rfl (by decide) Trydp40 rfl rfl rfl ?_
 refine goA 60 ?_
 refine fn_ret rfl rfl ⟨[.icells [str s]], ⟨⟨_, rfl, rfl⟩, trivial⟩, .of rfl⟩
theorem on_split {n N : Nat} {Q : AExit → AFr → AHeap → Prop} {k : List KI} {F : AFr} {f : Opd} {ps : List Nat} {a b : ACode} {o0 o1 o2 o3 o4 o5 o6 : AObj} (A0 A1 A2 A3 A4 A5 A6 C0 C1 : List Tok → AObj) (G : List Tok → Prop) (l : Bs) (hl : l.length < 4294967281) (h10 : (10 : UInt8) ∉ l)
 (hf : f.ev EE.G F = .fn 56 [.iptr [str (ba l)]]) (hps : ps.length = 2) (hG : G [])
 (h0 : HEnt EE 8 7 [o0, o1, o2, o3, o4, o5, o6, .loop F n ps a b .ready none] [A0 [], A1 [], A2 [], A3 [], A4 [], A5 [], A6 [], .loop F n ps a b .ready none, C0 [], C1 []])
 (hend : G (toks l 0 true) → Holds EE n N Q (.out .normal) k F [A0 (toks l 0 true), A1 (toks l 0 true), A2 (toks l 0 true), A3 (toks l 0 true), A4 (toks l 0 true), A5 (toks l 0 true), A6 (toks l 0 true), .dead, C0 (toks l 0 true), C1 (toks l 0 true)])
 (hy : ∀ d q r, toks l 0 true = d ++ q :: r → G d → Holds EE n 10 (AssignQ EE 7 10 F n ps a b (YdR EE (G (d ++ [q])) [A0 (d ++ [q]), A1 (d ++ [q]), A2 (d ++ [q]), A3 (d ++ [q]), A4 (d ++ [q]), A5 (d ++ [q]), A6 (d ++ [q]), .loop F n ps a b .ready none, C0 (d ++ [q]), C1 (d ++ [q])] (StopS EE n N Q k F ps a b))) (.code a) [] (bindF F ps [int (q.at' : Int), str (ba q.w)])
  [A0 d, A1 d, A2 d, A3 d, A4 d, A5 d, A6 d, .loop F n ps a b .ready none, C0 d, C1 d]) :
 Holds EE n N Q (.code (.rfun f ps a b)) k F [o0, o1, o2, o3, o4, o5, o6] := by
 refine on_rfun hf enters_schema_split_1 ?_
 refine ACall.mono (C_split1 A0 A1 A2 A3 A4 A5 A6 (.loop F n ps a b .ready none) C0 C1 G (StopS EE n N Q k F ps a b) l hl h10 _ rfl h0 hG (fun d q r h hg => yield_round (l := 7) rfl hps (hy d q r h hg))) ?_
 rintro v H1 (⟨hg, rfl⟩ | ⟨e, h1, h2⟩)
 · exact ⟨.ready, none, rfl, by simp, hend hg⟩
 · exact ⟨.done, some e, h1, by simp, h2⟩
theorem first_of {c : UInt8} : ∀ {l : Bs}, c ∈ l → ∃ d r, l = d ++ c :: r ∧ c ∉ d
 | x :: l, h => by
  by_cases e : x = c
  · exact ⟨[], l, by rw [e]; rfl, by simp⟩
  · obtain ⟨d, r, e1, e2⟩ := first_of (l := l) (by
     rcases List.mem_cons.1 h with h | h
     · exact absurd h.symm e
     · exact h)
    exact ⟨x :: d, r, by rw [e1]; rfl, by simp [e2, Ne.symm e]⟩
def tkl : List Bs → Nat → List Tok
 | [], _ => []
 | x :: r, a => toks x a true ++ tkl r (a + x.length + 1)
def tot : List Bs → Nat
 | [] => 0
 | x :: r => x.length + 1 + tot r
theorem split_facts : ∀ (n : Nat) (s : Bs) (a : Nat), s.length ≤ n → toks s a true = tkl (splitC 10 s) a ∧ tot (splitC 10 s) = s.length + 1 ∧ ∀ x ∈ splitC 10 s, (10 : UInt8) ∉ x
 | n, s, a, hn => by
  by_cases h : (10 : UInt8) ∈ s
  · obtain ⟨d, r, rfl, hd⟩ := first_of h
    rw [List.length_append, List.length_cons] at hn
    cases n with
    | zero => omega
    | succ n =>
     obtain ⟨i1, i2, i3⟩ := split_facts n r (a + d.length + 1) (by omega)
     rw [splitC_app r hd, toks_line d.length d r a true (Nat.le_refl _) hd, tkl, tot, i1, i2, List.length_append, List.length_cons]
     refine ⟨rfl, by omega, fun x hx => ?_⟩
     rcases List.mem_cons.1 hx with rfl | hx
     · exact hd
     · exact i3 x hx
  · rw [splitC_free h]
    refine ⟨by simp [tkl], by simp [tot], fun x hx => ?_⟩
    simp at hx; rw [hx]; exact h
def sh2 (a : Nat) (d : List Tok) : List Tok := d.map fun t => ⟨a + t.at', t.fst, t.w⟩
theorem toks_sh (l : Bs) (a : Nat) (f : Bool) : toks l a f = sh2 a (toks l 0 f) := by
 have := toks_shift l.length l a 0 f (Nat.le_refl _)
 rwa [Nat.add_zero] at this
def fld (l0 : List Sch) (d : List Tok) : List Sch := d.foldl (fun l t => stepL l t.fst t.w) l0
theorem fld_snoc (l0 : List Sch) (d : List Tok) (q : Tok) : fld l0 (d ++ [q]) = stepL (fld l0 d) q.fst q.w := by simp [fld]
theorem toks_rest : ∀ (n : Nat) (l : Bs) (a : Nat), l.length ≤ n → (10 : UInt8) ∉ l → ∀ t ∈ toks l a false, t.fst = false
 | 0, l, a, hn, h, t, ht => by
  cases l with
  | nil => rw [toks_nil] at ht; cases ht
  | cons c d => simp at hn
 | n + 1, l, a, hn, h, t, ht => by
  rcases toks_cases l with rfl | ⟨d, rfl⟩ | ⟨d, rfl⟩ | ⟨w, d, rfl, h0, h1, h2⟩
  · rw [toks_nil] at ht; cases ht
  · simp at h
  · rw [toks_sp] at ht
    exact toks_rest n d (a + 1) (by simp at hn; omega) (by simp at h; exact h) t ht
  · have hl : d.length ≤ n := by
     have := List.length_pos_iff.2 h0
     simp at hn; omega
    rw [toks_word a false h0 h1 h2] at ht
    rcases List.mem_cons.1 ht with rfl | ht
    · rfl
    · exact toks_rest n d _ hl (fun hh => h (by simp [hh])) t ht
theorem toks_first : ∀ (n : Nat) (l : Bs) (a : Nat), l.length ≤ n → (10 : UInt8) ∉ l → toks l a true = [] ∨ ∃ t r, toks l a true = t :: r ∧ t.fst = true ∧ ∀ u ∈ r, u.fst = false
 | 0, l, a, hn, h => by
  cases l with
  | nil => exact .inl (toks_nil _ _)
  | cons c d => simp at hn
 | n + 1, l, a, hn, h => by
  rcases toks_cases l with rfl | ⟨d, rfl⟩ | ⟨d, rfl⟩ | ⟨w, d, rfl, h0, h1, h2⟩
  · exact .inl (toks_nil _ _)
  · simp at h
  · rw [toks_sp]
    exact toks_first n d (a + 1) (by simp at hn; omega) (by simp at h; exact h)
  · rw [toks_word a true h0 h1 h2]
    exact .inr ⟨_, _, rfl, rfl, fun u hu => toks_rest d.length d _ (Nat.le_refl _) (fun hh => h (by simp [hh])) u hu⟩
theorem fst_of {l : Bs} {d r : List Tok} {q : Tok} (h10 : (10 : UInt8) ∉ l) (h : toks l 0 true = d ++ q :: r) : q.fst = d.isEmpty := by
 rcases toks_first l.length l 0 (Nat.le_refl _) h10 with e | ⟨t, r', e, e1, e2⟩
 · rw [e] at h; simp at h
 · rw [e] at h
   cases d with
   | nil =>
    simp only [List.nil_append, List.cons.injEq] at h
    rw [← h.1, e1]; rfl
   | cons x d =>
    simp only [List.cons_append, List.cons.injEq] at h
    exact e2 q (by rw [h.2]; simp)
def Gp (a : Nat) (l0 : List Sch) (d : List Tok) : Prop := (∀ x, rdT (sh2 a d ++ x) l0 = rdT x (fld l0 d)) ∧ chkAll (fld l0 d) = 0 ∧ (d ≠ [] → fld l0 d ≠ [])
theorem Gp_nil {a : Nat} {l0 : List Sch} (h : chkAll l0 = 0) : Gp a l0 [] := ⟨fun _ => rfl, h, fun h => absurd rfl h⟩
theorem Gp_step {a : Nat} {l0 : List Sch} {d : List Tok} {q : Tok} (h : Gp a l0 d) (hq : q.fst = d.isEmpty) (he : stepE (fld l0 d) q.fst q.w = 0) : Gp a l0 (d ++ [q]) := by
 obtain ⟨h1, h2, h3⟩ := h
 have hs := step_ok (w := q.w) (b := q.fst) h2 (by
  cases d with
  | nil => exact .inl hq
  | cons x d => exact .inr (h3 (by simp))) he
 refine ⟨fun x => ?_, by rw [fld_snoc]; exact hs.1, fun _ => by rw [fld_snoc]; exact hs.2⟩
 have : sh2 a (d ++ [q]) ++ x = sh2 a d ++ (⟨a + q.at', q.fst, q.w⟩ :: x) := by simp [sh2]
 rw [this, h1, rdT, if_neg (by simp only; rw [he]; simp), fld_snoc]
theorem Gp_err {a : Nat} {l0 : List Sch} {d r : List Tok} {q : Tok} {x : List Tok} (h : Gp a l0 d) (he : stepE (fld l0 d) q.fst q.w ≠ 0) : rdT (sh2 a (d ++ q :: r) ++ x) l0 = ([], ((a + q.at' : Nat) : Int), stepE (fld l0 d) q.fst q.w) := by
 have : sh2 a (d ++ q :: r) ++ x = sh2 a d ++ (⟨a + q.at', q.fst, q.w⟩ :: (sh2 a r ++ x)) := by simp [sh2]
 rw [this, h.1, rdT, if_pos he]
theorem chk_len {l : List Sch} (h : chkAll l = 0) : l.length ≤ 16 ∧ ∀ q ∈ l, q.fs.length ≤ 8 := by
 obtain ⟨h1, h2, _⟩ := (chkAll_zero l).1 h
 exact ⟨h1, fun q hq => ((Sch.chk_zero q).1 (h2 q hq)).2.1⟩
end Go.Am
end
