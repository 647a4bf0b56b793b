/- Contracts of the program's functions, for every argument that meets the conditions that each theorem names. -/
import Derived.Test.YteahddjeanhnlaaDoorAm6
import Derived.Test.YteahddjeanhnlaaDoorCt1
import Derived.Test.YteahddjeanhnlaaDoorAm5
import Derived.Test.YteahddjeanhnlaaDoorRows
import Derived.Test.YteahddjeanhnlaaDoorCards
import Derived.Test.YteahddjeanhnlaaDoorTie
import Derived.Shelf.Strings.Builder1
import Derived.Shelf.Strings.Builder2
import Derived.Shelf.Strings.BuilderF
import Derived.Shelf.Strings.BuilderK
import Derived.Shelf.Utf8.RuneCount
import Derived.Shelf.Strings.Builder2Cap
import Derived.Shelf.Strings.Search1
import Derived.Shelf.Strings.Search2
import Derived.Shelf.Strings.Search3
import Derived.Shelf.Strings.Cut
import Derived.Shelf.Strings.Count
import Derived.Shelf.LaysM
import Derived.Shelf.Strings.Shaped
import Derived.Shelf.Strings.Prefix
import Derived.Shelf.Strings.Split
import Derived.Shelf.Strings.Replace
import Derived.Shelf.Strings.SplitShaped
import Derived.Shelf.Unicode.Decode
import Derived.Shelf.Strings.RuneCount
import Derived.Shelf.Strings.Explode
import Derived.Shelf.Unicode.DecodeSlow
import Derived.Shelf.Unicode.DecodeAny
import Derived.Shelf.Strings.BuilderCap
import Derived.Shelf.Slices.Equal
import Derived.Shelf.Slices.Empties2
import Derived.ProofKit
import Derived.OpenShut
import Derived.Deep.DeepHandedRow
import Derived.Deep.CondSized
import Derived.Lib.LaidTab
import Derived.LaidMore
section
set_option maxHeartbeats 16000000
set_option maxRecDepth 100000
namespace Go.Proofs
open Go.Shelf
def Tryd.lays169_ren : Go.Shelf.Ren := ⟨fun | 169 => 48 | n => n, fun | 70 => 84 | 9 => 9 | 0 => 0 | 72 => 87 | 37 => 85 | 127 => 103 | 3 => 3 | 5 => 5 | n => n, fun | n => n⟩
theorem Tryd.lays169 : Go.Proofs.Lays.n169 Tryd.prog Tryd.lays169_ren := {
 mixed := by kernel_rfl
 f169 := Tryd.func48.trans (congrArg some (by kernel_rfl))
 t0 := Tryd.underlying0
 a0 := Tryd.isAgg0
 z0 := Tryd.sizeOf0
 v0 := Tryd.zeroValue0
 t3 := Tryd.underlying3
 a3 := Tryd.isAgg3
 z3 := Tryd.sizeOf3
 v3 := Tryd.zeroValue3
 t9 := Tryd.underlying9
 a9 := Tryd.isAgg9
 z9 := Tryd.sizeOf9
 v9 := Tryd.zeroValue9
 t37 := Tryd.underlying85
 a37 := Tryd.isAgg85
 z37 := Tryd.sizeOf85
 v37 := Tryd.zeroValue85
 t70 := Tryd.underlying84
 a70 := Tryd.isAgg84
 z70 := Tryd.sizeOf84
 v70 := Tryd.zeroValue84
 t72 := Tryd.underlying87
 a72 := Tryd.isAgg87
 z72 := Tryd.sizeOf87
 v72 := Tryd.zeroValue87
 t127 := Tryd.underlying103
 a127 := Tryd.isAgg103
 z127 := Tryd.sizeOf103
 v127 := Tryd.zeroValue103 }
theorem Tryd.Builder_Extra_169 : Builder.Extra Tryd.prog Tryd.lays169_ren := {
 sizeBuilder := by kernel_rfl
 liesBuilder := by kernel_rfl
 t5 := Tryd.underlying5
 a5 := Tryd.isAgg5
 z5 := Tryd.sizeOf5
 v5 := Tryd.zeroValue5
 infoByte := by kernel_rfl
 cellsByte := by kernel_rfl
 sizeByte := by kernel_rfl
 neB5 := by decide }
def Tryd.lays144_ren : Go.Shelf.Ren := ⟨fun | 144 => 58 | 143 => 65 | 219 => 74 | 217 => 77 | 225 => 78 | 224 => 79 | 267 => 80 | 266 => 81 | 314 => 82 | n => n, fun | 9 => 9 | 4 => 4 | 3 => 3 | 5 => 5 | 46 => 114 | 146 => 120 | 51 => 119 | n => n, fun | 1 => 2 | n => n⟩
theorem Tryd.lays144 : Go.Proofs.Lays.n144 Tryd.prog Tryd.lays144_ren := {
 mixed := by kernel_rfl
 f143 := Tryd.func65.trans (congrArg some (by kernel_rfl))
 f144 := Tryd.func58.trans (congrArg some (by kernel_rfl))
 f217 := Tryd.func77.trans (congrArg some (by kernel_rfl))
 f219 := Tryd.func74.trans (congrArg some (by kernel_rfl))
 f224 := Tryd.func79.trans (congrArg some (by kernel_rfl))
 f225 := Tryd.func78.trans (congrArg some (by kernel_rfl))
 f266 := Tryd.func81.trans (congrArg some (by kernel_rfl))
 f267 := Tryd.func80.trans (congrArg some (by kernel_rfl))
 f314 := Tryd.func82.trans (congrArg some (by kernel_rfl))
 t3 := Tryd.underlying3
 a3 := Tryd.isAgg3
 z3 := Tryd.sizeOf3
 v3 := Tryd.zeroValue3
 t4 := Tryd.underlying4
 a4 := Tryd.isAgg4
 z4 := Tryd.sizeOf4
 v4 := Tryd.zeroValue4
 t5 := Tryd.underlying5
 a5 := Tryd.isAgg5
 z5 := Tryd.sizeOf5
 v5 := Tryd.zeroValue5
 t9 := Tryd.underlying9
 a9 := Tryd.isAgg9
 z9 := Tryd.sizeOf9
 v9 := Tryd.zeroValue9
 t46 := Tryd.underlying114
 a46 := Tryd.isAgg114
 z46 := Tryd.sizeOf114
 v46 := Tryd.zeroValue114
 t51 := Tryd.underlying119
 a51 := Tryd.isAgg119
 z51 := Tryd.sizeOf119
 v51 := Tryd.zeroValue119
 t146 := Tryd.underlying120
 a146 := Tryd.isAgg120
 z146 := Tryd.sizeOf120
 v146 := Tryd.zeroValue120
 g1 := by kernel_rfl }
def Tryd.lays145_ren : Go.Shelf.Ren := ⟨fun | 145 => 57 | 220 => 69 | 219 => 74 | 217 => 77 | 225 => 78 | 224 => 79 | 267 => 80 | 266 => 81 | 314 => 82 | n => n, fun | 9 => 9 | 4 => 4 | 59 => 99 | 3 => 3 | 5 => 5 | 46 => 114 | 146 => 120 | 51 => 119 | n => n, fun | 1 => 2 | n => n⟩
theorem Tryd.lays145 : Go.Proofs.Lays.n145 Tryd.prog Tryd.lays145_ren := {
 mixed := by kernel_rfl
 f145 := Tryd.func57.trans (congrArg some (by kernel_rfl))
 f217 := Tryd.func77.trans (congrArg some (by kernel_rfl))
 f219 := Tryd.func74.trans (congrArg some (by kernel_rfl))
 f220 := Tryd.func69.trans (congrArg some (by kernel_rfl))
 f224 := Tryd.func79.trans (congrArg some (by kernel_rfl))
 f225 := Tryd.func78.trans (congrArg some (by kernel_rfl))
 f266 := Tryd.func81.trans (congrArg some (by kernel_rfl))
 f267 := Tryd.func80.trans (congrArg some (by kernel_rfl))
 f314 := Tryd.func82.trans (congrArg some (by kernel_rfl))
 t3 := Tryd.underlying3
 a3 := Tryd.isAgg3
 z3 := Tryd.sizeOf3
 v3 := Tryd.zeroValue3
 t4 := Tryd.underlying4
 a4 := Tryd.isAgg4
 z4 := Tryd.sizeOf4
 v4 := Tryd.zeroValue4
 t5 := Tryd.underlying5
 a5 := Tryd.isAgg5
 z5 := Tryd.sizeOf5
 v5 := Tryd.zeroValue5
 t9 := Tryd.underlying9
 a9 := Tryd.isAgg9
 z9 := Tryd.sizeOf9
 v9 := Tryd.zeroValue9
 t46 := Tryd.underlying114
 a46 := Tryd.isAgg114
 z46 := Tryd.sizeOf114
 v46 := Tryd.zeroValue114
 t51 := Tryd.underlying119
 a51 := Tryd.isAgg119
 z51 := Tryd.sizeOf119
 v51 := Tryd.zeroValue119
 t59 := Tryd.underlying99
 a59 := Tryd.isAgg99
 z59 := Tryd.sizeOf99
 v59 := Tryd.zeroValue99
 t146 := Tryd.underlying120
 a146 := Tryd.isAgg120
 z146 := Tryd.sizeOf120
 v146 := Tryd.zeroValue120
 g1 := by kernel_rfl }
def Tryd.lays146_ren : Go.Shelf.Ren := ⟨fun | 146 => 39 | 221 => 55 | 268 => 68 | 138 => 63 | 143 => 65 | 195 => 71 | 197 => 66 | 218 => 72 | 219 => 74 | 260 => 75 | 217 => 77 | 225 => 78 | 224 => 79 | 267 => 80 | 266 => 81 | 314 => 82 | n => n, fun | 9 => 9 | 31 => 69 | 3 => 3 | 4 => 4 | 0 => 0 | 105 => 106 | 21 => 21 | 5 => 5 | 46 => 114 | 119 => 115 | 139 => 118 | 138 => 117 | 146 => 120 | 51 => 119 | n => n, fun | 1 => 2 | 3 => 3 | 4 => 4 | n => n⟩
theorem Tryd.lays146 : Go.Proofs.Lays.n146 Tryd.prog Tryd.lays146_ren := {
 mixed := by kernel_rfl
 f138 := Tryd.func63.trans (congrArg some (by kernel_rfl))
 f143 := Tryd.func65.trans (congrArg some (by kernel_rfl))
 f146 := Tryd.func39.trans (congrArg some (by kernel_rfl))
 f195 := Tryd.func71.trans (congrArg some (by kernel_rfl))
 f197 := Tryd.func66.trans (congrArg some (by kernel_rfl))
 f217 := Tryd.func77.trans (congrArg some (by kernel_rfl))
 f218 := Tryd.func72.trans (congrArg some (by kernel_rfl))
 f219 := Tryd.func74.trans (congrArg some (by kernel_rfl))
 f221 := Tryd.func55.trans (congrArg some (by kernel_rfl))
 f224 := Tryd.func79.trans (congrArg some (by kernel_rfl))
 f225 := Tryd.func78.trans (congrArg some (by kernel_rfl))
 f260 := Tryd.func75.trans (congrArg some (by kernel_rfl))
 f266 := Tryd.func81.trans (congrArg some (by kernel_rfl))
 f267 := Tryd.func80.trans (congrArg some (by kernel_rfl))
 f268 := Tryd.func68.trans (congrArg some (by kernel_rfl))
 f314 := Tryd.func82.trans (congrArg some (by kernel_rfl))
 t0 := Tryd.underlying0
 a0 := Tryd.isAgg0
 z0 := Tryd.sizeOf0
 v0 := Tryd.zeroValue0
 t3 := Tryd.underlying3
 a3 := Tryd.isAgg3
 z3 := Tryd.sizeOf3
 v3 := Tryd.zeroValue3
 t4 := Tryd.underlying4
 a4 := Tryd.isAgg4
 z4 := Tryd.sizeOf4
 v4 := Tryd.zeroValue4
 t5 := Tryd.underlying5
 a5 := Tryd.isAgg5
 z5 := Tryd.sizeOf5
 v5 := Tryd.zeroValue5
 t9 := Tryd.underlying9
 a9 := Tryd.isAgg9
 z9 := Tryd.sizeOf9
 v9 := Tryd.zeroValue9
 t21 := Tryd.underlying21
 a21 := Tryd.isAgg21
 z21 := Tryd.sizeOf21
 v21 := Tryd.zeroValue21
 t31 := Tryd.underlying69
 a31 := Tryd.isAgg69
 z31 := Tryd.sizeOf69
 v31 := Tryd.zeroValue69
 t46 := Tryd.underlying114
 a46 := Tryd.isAgg114
 z46 := Tryd.sizeOf114
 v46 := Tryd.zeroValue114
 t51 := Tryd.underlying119
 a51 := Tryd.isAgg119
 z51 := Tryd.sizeOf119
 v51 := Tryd.zeroValue119
 t105 := Tryd.underlying106
 a105 := Tryd.isAgg106
 z105 := Tryd.sizeOf106
 v105 := Tryd.zeroValue106
 t119 := Tryd.underlying115
 a119 := Tryd.isAgg115
 z119 := Tryd.sizeOf115
 t138 := Tryd.underlying117
 a138 := Tryd.isAgg117
 z138 := Tryd.sizeOf117
 v138 := Tryd.zeroValue117
 t139 := Tryd.underlying118
 a139 := Tryd.isAgg118
 z139 := Tryd.sizeOf118
 v139 := Tryd.zeroValue118
 t146 := Tryd.underlying120
 a146 := Tryd.isAgg120
 z146 := Tryd.sizeOf120
 v146 := Tryd.zeroValue120
 g1 := by kernel_rfl
 g3 := by kernel_rfl
 g4 := by kernel_rfl }
end Go.Proofs
namespace Go.Am
open Go.Proofs
def cutL (c : UInt8) (l : Bs) : Bs := l.takeWhile (· != c)
def cutR (c : UInt8) (l : Bs) : Bs := (l.dropWhile (· != c)).drop 1
def splitC (c : UInt8) : Bs → List Bs
 | [] => [[]]
 | x :: l => if x = c then [] :: splitC c l else match splitC c l with
  | [] => [[x]]
  | p :: r => (x :: p) :: r
theorem splitC_free {c : UInt8} : ∀ {l : Bs}, c ∉ l → splitC c l = [l]
 | [], _ => rfl
 | x :: l, h => by
  simp only [List.mem_cons, not_or] at h
  rw [splitC, if_neg (Ne.symm h.1), splitC_free h.2]
theorem splitC_app {c : UInt8} : ∀ {d : Bs} (r : Bs), c ∉ d → splitC c (d ++ c :: r) = d :: splitC c r
 | [], r, _ => by rw [List.nil_append, splitC, if_pos rfl]
 | x :: d, r, h => by
  simp only [List.mem_cons, not_or] at h
  rw [List.cons_append, splitC, if_neg (Ne.symm h.1), splitC_app r h.2]
theorem index_one (c : UInt8) : ∀ l : Bs, (Lib.index l [c] = -1 ∧ c ∉ l) ∨ ∃ d r, l = d ++ c :: r ∧ c ∉ d ∧ Lib.index l [c] = (d.length : Int)
 | [] => Or.inl ⟨by simp [Lib.index], by simp⟩
 | b :: l => by
  by_cases h : b = c
  · subst h
    exact Or.inr ⟨[], l, rfl, by simp, by rw [Lib.index]; simp [List.isPrefixOf]⟩
  have hp : ([c] : Bs).isPrefixOf (b :: l) = false := by simp [List.isPrefixOf, Ne.symm h]
  have hix : Lib.index (b :: l) [c] = if Lib.index l [c] == -1 then -1 else Lib.index l [c] + 1 := by rw [Lib.index, hp]; simp
  rcases index_one c l with ⟨h1, h2⟩ | ⟨d, r, h1, h2, h3⟩
  · refine Or.inl ⟨by rw [hix, h1]; rfl, ?_⟩
    simp only [List.mem_cons, not_or]
    exact ⟨Ne.symm h, h2⟩
  · refine Or.inr ⟨b :: d, r, by rw [h1]; rfl, ?_, ?_⟩
    · simp only [List.mem_cons, not_or]
      exact ⟨Ne.symm h, h2⟩
    · rw [hix, h3, if_neg (by simp)]
      simp
theorem cut_cons {c x : UInt8} {l : Bs} (h : x ≠ c) : cutL c (x :: l) = x :: cutL c l ∧ cutR c (x :: l) = cutR c l := by
 have : (x != c) = true := by simp [h]
 exact ⟨by rw [cutL, List.takeWhile_cons, if_pos this]; rfl, by rw [cutR, List.dropWhile_cons, if_pos this]; rfl⟩
theorem cutL_free {c : UInt8} : ∀ {l : Bs}, c ∉ l → cutL c l = l
 | [], _ => rfl
 | x :: l, h => by
  simp only [List.mem_cons, not_or] at h
  rw [(cut_cons (Ne.symm h.1)).1, cutL_free h.2]
theorem cutR_free {c : UInt8} : ∀ {l : Bs}, c ∉ l → cutR c l = []
 | [], _ => rfl
 | x :: l, h => by
  simp only [List.mem_cons, not_or] at h
  rw [(cut_cons (Ne.symm h.1)).2, cutR_free h.2]
theorem cutL_app {c : UInt8} {d : Bs} (r : Bs) (h : c ∉ d) : cutL c (d ++ c :: r) = d := by
 rw [cutL, List.takeWhile_append_of_pos fun x hx => by simp; rintro rfl; exact h hx]
 simp
theorem cutR_app {c : UInt8} {d : Bs} (r : Bs) (h : c ∉ d) : cutR c (d ++ c :: r) = r := by
 rw [cutR, List.dropWhile_append_of_pos fun x hx => by simp; rintro rfl; exact h hx]
 simp
theorem cut_one (c : UInt8) (l : Bs) : Lib.cut l [c] = (cutL c l, cutR c l, decide (c ∈ l)) := by
 rcases index_one c l with ⟨h1, h2⟩ | ⟨d, r, h1, h2, h3⟩
 · rw [Lib.cut, h1, if_neg (by decide), cutL_free h2, cutR_free h2, decide_eq_false h2]
 · rw [Lib.cut, h3, if_pos (by omega), h1, cutL_app r h2, cutR_app r h2, decide_eq_true (by simp)]
   simp
theorem countK_one (c : UInt8) (l : Bs) : Lib.splitK [c] 0 (l.count c) l = splitC c l := by
 generalize hk : l.count c = k
 induction k generalizing l with
 | zero => rw [Lib.splitK, splitC_free (List.count_eq_zero.1 hk)]
 | succ k ih =>
  rcases index_one c l with ⟨h1, h2⟩ | ⟨d, r, h1, h2, h3⟩
  · rw [List.count_eq_zero.2 h2] at hk; omega
  · rw [Lib.splitK, h3, if_neg (by simp)]
    have hr : r.count c = k := by
     rw [h1, List.count_append, List.count_eq_zero.2 h2, List.count_cons_self] at hk; omega
    rw [h1, splitC_app r h2, ← ih r hr]
    simp
theorem splitB_one (c : UInt8) (l : Bs) : (Lib.splitB ⟨#[c]⟩ 0 (Lib.countB (ba l) ⟨#[c]⟩) (ba l)) = (splitC c l).map ba := by
 have h1 : Lib.countB (ba l) ⟨#[c]⟩ = l.count c := by rw [Lib.countB, ba_data]; exact Lib.count_one c l
 have h2 := Lib.splitB_data ⟨#[c]⟩ 0 (l.count c) (ba l)
 rw [ba_data] at h2
 have h3 : Lib.splitK [c] 0 (l.count c) l = splitC c l := countK_one c l
 rw [h1]
 have h4 : ∀ L : List ByteArray, L = (L.map (·.data.toList)).map ba := fun L => by
  rw [List.map_map]
  conv => lhs; rw [← List.map_id L]
  exact List.map_congr_left fun x _ => ba_of x
 rw [h4 (Lib.splitB _ _ _ _), h2]
 exact congrArg _ h3
theorem one_ba (c : UInt8) : (⟨#[c]⟩ : ByteArray) = ba [c] := by rw [ba_eq]
theorem ba_mk (l : Bs) : (⟨l.toArray⟩ : ByteArray) = ba l := (ba_eq l).symm
theorem enters_strings_Cut : Enters EE.P 57 := enters_of (fn := Tryd.f57) (n := 13) (ac := Trydc57) rfl (by decide) Trydp57
theorem P_Cut (c : UInt8) (l : Bs) (hl : l.length < 4294967281) :
 PCall EE 57 [str (ba l), str (ba [c])] (.tup [str (ba (cutL c l)), str (ba (cutR c l)), bool (decide (c ∈ l))]) := by
 have := cut1_pcall (E := EE) Tryd.lays145 enters_strings_Cut (ba l) c (by rw [ba_size]; exact hl)
 rw [ba_data, cut_one, one_ba, ba_mk, ba_mk] at this
 exact this
theorem enters_strings_Contains : Enters EE.P 58 := enters_of (fn := Tryd.f58) (n := 9) (ac := Trydc58) rfl (by decide) Trydp58
theorem P_Contains (c : UInt8) (l : Bs) :
 PCall EE 58 [str (ba l), str (ba [c])] (bool (decide (c ∈ l))) := by
 have := contains1_pcall (E := EE) Tryd.lays144 enters_strings_Contains (ba l) c
 have hb : decide (0 ≤ Lib.indexByte l c) = decide (c ∈ l) := by
  apply decide_eq_decide.2
  have : ∀ l : Bs, (0 ≤ Lib.indexByte l c ↔ c ∈ l) := by
   intro l
   induction l with
   | nil => simp [Lib.indexByte]
   | cons b l ih =>
    rw [Lib.indexByte]
    by_cases h : b = c
    · subst h; simp
    · have := Lib.indexByte_ge l c
      rw [if_neg (by simpa using h), List.mem_cons, ← ih]
      split
      · rename_i e; have := beq_iff_eq.1 e; constructor
        · intro h; omega
        · rintro (h2 | h2)
          · exact absurd h2.symm h
          · omega
      · rename_i e; have e2 : ¬ Lib.indexByte l c = -1 := fun q => e (beq_iff_eq.2 q)
        constructor
        · intro _; right; omega
        · intro _; omega
  exact this l
 rw [ba_data, hb, one_ba] at this
 exact this
theorem enters_strings_Split : Enters EE.P 39 := enters_of (fn := Tryd.f39) (n := 8) (ac := Trydc39) rfl (by decide) Trydp39
theorem P_Split (c : UInt8) (l : Bs) (hl : l.length < 4294967281) :
 PCall EE 39 [str (ba l), str (ba [c])] (.isl 1 (mapE (fun p => str (ba p)) (splitC c l))) := by
 have := split1_pcall (E := EE) Tryd.lays146 (by kernel_rfl) enters_strings_Split (ba l) c (by rw [ba_size]; exact hl)
 rw [splitB_one, one_ba, List.map_map] at this
 rw [mapE_eq]
 exact this
end Go.Am
end
section
set_option maxHeartbeats 16000000
set_option maxRecDepth 20000
namespace Go.Am
open Go.Proofs Go.Shelf
theorem enters___strings_Builder__copyCheck : Enters EE.P 62 := enters_of (fn := Tryd.f62) (n := 20) (ac := Trydc62) rfl (by decide) Trydp62
theorem C_copyCheck (u : Bool) (x1 : AV) (H : AHeap) (h0 : H[0]? = some (.cells [.bsh 87 0 u, x1])) :
 ACall EE 62 [.ptr 0 0] H fun v H' => v = .tup [] ∧ H' = H.set 0 (.cells [.bsh 87 0 true, x1]) := by
 intro K w ys hh hv
 obtain ⟨y, rfl⟩ : ∃ y, ys = [y] := by
  match ys, hv.1 with
  | [y], _ => exact ⟨y, rfl⟩
 have v0 := hv.2 0 _ y rfl rfl
 have tupr : ∀ (K : Ctx) (M : Nat) (w : World), VRep K M w (.tup []) (.tuple #[]) := fun K M w => .tup [] [] rfl fun i c y h => by simp at h
 cases v0 with
 | ptr _ _ blk base hM hγ =>
  obtain ⟨c, ty, hheap, hl⟩ := hh.cells h0 hγ
  obtain ⟨y0, e0, r0⟩ := hl 0 _ rfl
  rw [Nat.add_zero] at e0
  cases u with
  | false =>
   cases r0 with
   | bsh _ _ blk' c' fz hM' hγ' hc hn =>
    rw [hγ] at hγ'
    simp only [Option.some.injEq, Prod.mk.injEq] at hγ'
    obtain ⟨q1, q2⟩ := hγ'
    subst q1 q2
    rw [hheap] at hc
    simp only [Option.some.injEq, Obj.cells.injEq] at hc
    obtain ⟨q1, q2, q3⟩ := hc
    subst q1 q3
    have hcell : w.cell? ⟨blk, 0, none⟩ = some (.pointer none) := by simp [World.cell?, hheap, e0]
    have hsh : w.shape? blk = some (87, 2) := by simp [World.shape?, hheap, hn, q2]
    have hfz : w.frozen? ⟨blk, 0, none⟩ = false := by simp [World.frozen?, hheap]
    refine (copyCheck_fresh blk w hcell hsh hfz).mono ?_
    rintro e w' ⟨rfl, rfl⟩
    rw [setCell_row hheap]
    have ht := touch_setRow w blk c (c.setIfInBounds 0 (.pointer (some ⟨blk, 0, none⟩))) ty (0, 0) hheap (by simp)
    obtain ⟨h2, ev⟩ := hh.touch h0 trivial hγ ht (o' := .cells [.bsh 87 0 true, x1]) trivial (fun m => by
     refine .cells _ _ _ _ _ (setRow_heap w blk c _ ty (0, 0) hheap) (fun j q hj => ?_)
     match j, hj with
     | 0, hj =>
      cases hj
      refine ⟨.pointer (some ⟨blk, 0, none⟩), by simp [hn], ?_⟩
      exact .bsh1 87 0 blk _ (0, 0) hM hγ (by rw [← q2]; exact setRow_heap w blk c _ ty (0, 0) hheap) (by simp [hn])
     | 1, hj =>
      cases hj
      obtain ⟨z, e1, e2⟩ := hl 1 x1 rfl
      exact ⟨z, by rw [Array.getElem?_setIfInBounds]; simpa using e1, m.rep e2⟩
     | j + 2, hj => simp at hj)
    exact ⟨_, _, _, K, rfl, ⟨rfl, rfl⟩, h2, tupr _ _ _, ev⟩
  | true =>
   cases r0 with
   | bsh1 _ _ blk' c' fz hM' hγ' hc hn =>
    rw [hγ] at hγ'
    simp only [Option.some.injEq, Prod.mk.injEq] at hγ'
    obtain ⟨q1, q2⟩ := hγ'
    subst q1 q2
    have hcell : w.cell? ⟨blk, 0, none⟩ = some (.pointer (some ⟨blk, 0, none⟩)) := by simp [World.cell?, hheap, e0]
    refine (copyCheck_used blk w hcell).mono ?_
    rintro e w' ⟨rfl, rfl⟩
    have hset : H.set 0 (.cells [.bsh 87 0 true, x1]) = H := by
     apply List.ext_getElem?
     intro i
     rw [List.getElem?_set]
     by_cases hi : 0 = i
     · subst hi; rw [if_pos rfl, if_pos (List.getElem?_eq_some_iff.1 h0).1, h0]
     · rw [if_neg hi]
    rw [hset]
    exact ⟨_, _, _, K, rfl, ⟨rfl, rfl⟩, hh, tupr _ _ _, Ev.refl _ _ _ _ (Nat.le_refl _)⟩
theorem enters___strings_Builder__String : Enters EE.P 48 := enters_of (fn := Tryd.f48) (n := 14) (ac := Trydc48) rfl (by decide) Trydp48
theorem C_String (u : Bool) (s : Bs) (h0 : s ≠ []) (hm : s.length ≤ 9223372036854775807) :
 ACall EE 48 [.ptr 0 0] [.cells [.bsh 87 0 u, .bsl 5 1 (byteA (ba s)).length], .arr 1 (byteA (ba s))] fun v H' => v = str (ba s) ∧ H' = [.cells [.bsh 87 0 u, .bsl 5 1 (byteA (ba s)).length], .dead] :=
 bstring_acall (E := EE) Tryd.lays169 Tryd.Builder_Extra_169 u (ba s) (by rw [ba_size]; exact List.length_pos_iff.2 h0) (by rw [ba_size]; exact hm)
theorem byteA_len (s : Bs) : (byteA (ba s)).length = s.length := by rw [byteA, List.length_map, ba_data]
theorem byteA_app (s x : Bs) : byteA (ba s) ++ byteA (ba x) = byteA (ba (s ++ x)) := by simp [byteA, ba_data]
theorem byteA_closed (s : Bs) : AV.closedL (byteA (ba s)) = true := by rw [byteA]; exact AV.closedL_map _ (fun _ => rfl) _
theorem enters___strings_Builder__WriteString : Enters EE.P 47 := enters_of (fn := Tryd.f47) (n := 19) (ac := Trydc47) rfl (by decide) Trydp47
theorem C_Write0 (x : Bs) (h0 : x ≠ []) (hl : x.length ≤ 1048576) :
 ACall EE 47 [.ptr 0 0, str (ba x)] [.cells [.bsh 87 0 false, .val (.slice none 0 0)]] fun v H' => v = .tup [int x.length, .val .nilIface] ∧ H' = [.cells [.bsh 87 0 true, .bsl 5 1 (byteA (ba x)).length], .arr 1 (byteA (ba x))] := by
 have hp := List.length_pos_iff.2 h0
 have hbl := byteA_len x
 have hsz := ba_size x
 have hbc := byteA_closed x
 generalize hs : ba x = s at *
 refine wordsN ?_; unhygienic intros
 have k1 : sLen s = (x.length : Int) := by simp only [ee]; omega
 have k2 : bytA s = byteA s := by simp only [ee]
 have k3 : lenN (byteA s) = (byteA s).length := by simp only [ee]
 refine rcall_body (fn := Tryd.f47) (n := 19) (ac := Trydc47) (rvs := [.t 4, .t 5]) rfl Trydp47 rfl rfl rfl ?_
 refine goA 0 ?_
 refine on_call rfl rfl rfl enters___strings_Builder__copyCheck (C_copyCheck false _ _ rfl) ?_
 rintro v H1 ⟨rfl, rfl⟩
 refine goA 60 ?_
 rw [k1, k2, k3]
 exact o_ret (.refl _ _ _ _ _) rfl ⟨rfl, rfl⟩
theorem C_Write (u : Bool) (d x : Bs) (hl : x.length ≤ 1048576) (hd : d.length ≤ 1048576) :
 ACall EE 47 [.ptr 0 0, str (ba x)] [.cells [.bsh 87 0 u, .bsl 5 1 (byteA (ba d)).length], .arr 1 (byteA (ba d))] fun v H' => v = .tup [int x.length, .val .nilIface] ∧ H' = [.cells [.bsh 87 0 true, .bsl 5 2 (byteA (ba (d ++ x))).length], .dead, .arr 1 (byteA (ba (d ++ x)))] := by
 have hbl := byteA_len x
 have hsz := ba_size x
 have hbd := byteA_len d
 rw [← byteA_app]
 generalize hs : ba x = s at *
 generalize hds : byteA (ba d) = ds at *
 refine wordsN ?_; unhygienic intros
 have k1 : sLen s = (x.length : Int) := by simp only [ee]; omega
 have k2 : bytA s = byteA s := by simp only [ee]
 have k4 : ds.length = lenN ds := by simp only [ee]
 have k5 : (ds ++ byteA s).length = addN (lenN ds) (lenN (byteA s)) := by simp only [ee]; simp
 have k6 : ds ++ byteA s = catA ds (byteA s) := by simp only [ee]
 rw [k5, k6, k4]
 refine rcall_body (fn := Tryd.f47) (n := 19) (ac := Trydc47) (rvs := [.t 4, .t 5]) rfl Trydp47 rfl rfl rfl ?_
 refine goA 0 ?_
 refine on_call rfl rfl rfl enters___strings_Builder__copyCheck (C_copyCheck u _ _ rfl) ?_
 rintro v H1 ⟨rfl, rfl⟩
 refine goA 60 ?_
 rw [k1, k2]
 exact o_ret (.refl _ _ _ _ _) rfl ⟨rfl, rfl⟩
end Go.Am
end
section
set_option maxHeartbeats 16000000
set_option maxRecDepth 100000
namespace Go.Am
open Go.Proofs
noncomputable def ents (l : List Bs) : List (AV × AV) := l.map fun n => (str (ba n), bool true)
theorem ents_ok (l : List Bs) (s : ByteArray) : mOkL true (ents l) (str s) = true := by
 unfold mOkL ents
 rw [List.all_eq_true]
 intro p hp
 obtain ⟨n, _, rfl⟩ := List.mem_map.1 hp
 rfl
theorem babeq (a b : ByteArray) : (a == b) = decide (a = b) := by
 cases a; cases b
 rename_i x y
 show (x == y) = _
 by_cases h : x = y
 · subst h; simp
 · rw [decide_eq_false (fun e => h (ByteArray.mk.inj e))]; simpa using h
theorem mIs_ba (n s : Bs) (v : AV) : mIs true (str (ba s)) (str (ba n), v) = decide (n = s) := by
 show ((if true = true then some (ba s == ba n) else none) == some true) = _
 rw [if_pos rfl, babeq]
 by_cases h : n = s
 · subst h; simp
 · rw [decide_eq_false (fun e => h (ba_inj e).symm), decide_eq_false h]; rfl
theorem ents_cl : ∀ l : List Bs, closedM (ents l) = true
 | [] => rfl
 | n :: l => by
  have ih := ents_cl l
  rw [ents] at ih
  rw [ents, List.map_cons, closedM, List.all_cons]
  exact ih
theorem ents_get (s : Bs) : ∀ l : List Bs, mGetL true (ents l) (str (ba s)) (bool false) = bool (decide (s ∈ l))
 | [] => rfl
 | n :: l => by
  have ih := ents_get s l
  rw [ents] at ih
  rw [ents, List.map_cons, mGetL, mIs_ba]
  by_cases h : n = s
  · subst h; simp
  · rw [decide_eq_false h, if_neg (by decide), ih]
    simp [Ne.symm h]
theorem ents_put (s : Bs) : ∀ l : List Bs, s ∉ l → mPutL true (ents l) (str (ba s)) (bool true) = ents (l ++ [s])
 | [], _ => rfl
 | n :: l, h => by
  simp only [List.mem_cons, not_or] at h
  have ih := ents_put s l h.2
  rw [ents, ents] at ih
  rw [ents, ents, List.map_cons, mPutL, mIs_ba, decide_eq_false (Ne.symm h.1), if_neg (by decide), ih]
  simp
def chkF : List Bs → List Fld → Int
 | _, [] => 0
 | seen, f :: r => if fnameB f.nm = false then 8 else if f.nm ∈ seen then 7 else if f.kd < 0 ∨ 3 ≤ f.kd then 1 else chkF (seen ++ [f.nm]) r
def Sch.chk (q : Sch) : Int := if nameB q.nm = false then 8 else if 8 < q.fs.length then 5 else chkF [] q.fs
def Sch.Short (q : Sch) : Prop := q.nm.length < 1152921504606846976 ∧ q.fs.length < 1152921504606846976 ∧ ∀ f ∈ q.fs, f.nm.length < 1152921504606846976
theorem P_Check (q : Sch) (hq : q.Short) : PCall EE 15 [q.enc] (int q.chk) := by
 obtain ⟨hqn, hl, hf⟩ := hq
 have kcl := Fld.closedI q.fs
 rw [Sch.enc_eq, Sch.chk]
 generalize q.fs = l at *
 have pn := P_name q.nm hqn
 clear hqn
 generalize hn : nameB q.nm = bn at *
 generalize ba q.nm = qn at *
 refine wordsN ?_; unhygienic intros
 generalize hes : mapE Fld.enc l = es at *
 have hel : es.length = l.length := by rw [← hes, mapE_len]
 have kcA : AV.closedL [str qn, .isl 2 es] = true := by simp [AV.closedL, closed_v, kcl]
 cases bn with
 | false =>
  rw [if_pos rfl]
  refine fn_body (fn := Tryd.f15) (n := 45) (ac := Trydc15) (rvs := [.t 2]) rfl (by decide) Trydp15 rfl rfl rfl ?_
  refine goA 60 ?_
  refine oPA pn ?_
  refine goB hX 0 (by conv => lhs; cbv; try simp only [hel]; cbv; try simp only [hel]; cbv; try simp only [hel]; cbv; try simp only [hel]; cbv) ?_
  refine on_cond rfl (fun c1 => ?_) (fun c1 => ?_)
  ·
   simp [ee] at c1
   refine goA 60 ?_
   refine fn_ret rfl rfl (.val ?_)
   rfl
  ·
   simp [ee] at c1
 | true =>
 rw [if_neg (by decide)]
 by_cases h8 : 8 < l.length
 · have k8 : iLt 8 (lenA es) = true := by simp only [ee]; simp; omega
   rw [if_pos h8]
   refine fn_body (fn := Tryd.f15) (n := 45) (ac := Trydc15) (rvs := [.t 2]) rfl (by decide) Trydp15 rfl rfl rfl ?_
   refine goA 60 ?_
   refine oPA pn ?_
   refine goB hX 0 (by conv => lhs; cbv; try simp only [k8]; cbv; try simp only [k8]; cbv; try simp only [k8]; cbv; try simp only [k8]; cbv) ?_
   refine on_cond rfl (fun c1 => ?_) (fun c1 => ?_)
   ·
    simp [ee] at c1
   ·
    simp [ee] at c1
    refine goB hX 0 (by conv => lhs; cbv; try simp only [k8]; cbv; try simp only [k8]; cbv; try simp only [k8]; cbv; try simp only [k8]; cbv) ?_
    refine goA 60 ?_
    refine fn_ret rfl rfl (.val ?_)
    rfl
 have k8 : iLt 8 (lenA es) = false := by simp only [ee]; simp; omega
 rw [if_neg h8]
 refine fn_body (fn := Tryd.f15) (n := 45) (ac := Trydc15) (rvs := [.t 2]) rfl (by decide) Trydp15 rfl rfl rfl ?_
 refine goA 60 ?_
 refine oPA pn ?_
 refine goB hX 0 (by conv => lhs; cbv; try simp only [k8]; cbv; try simp only [k8]; cbv; try simp only [k8]; cbv; try simp only [k8]; cbv) ?_
 refine on_cond rfl (fun c1 => ?_) (fun c1 => ?_)
 ·
  simp [ee] at c1
 simp [ee] at c1
 clear c1
 refine goB hX 0 (by conv => lhs; cbv; try simp only [k8]; cbv; try simp only [k8]; cbv; try simp only [k8]; cbv; try simp only [k8]; cbv) ?_
 refine goA 60 ?_
 refine on_loopP (ι := List Fld × List Fld × Int × List (AV × AV)) (fun p => ([(18, int p.2.2.1), (17, int (lenA es)), (16, .isl 2 es), (3, .amap 0)], [.amap p.2.2.2])) (fun p => l = p.1 ++ p.2.1 ∧ p.2.2.1 = p.1.length ∧ p.2.2.2 = ents (p.1.map Fld.nm) ∧ chkF [] l = chkF (p.1.map Fld.nm) p.2.1) (fun p => p.2.1.length) ([], l, 0, []) ⟨rfl, rfl, rfl, rfl⟩ ?_ ?_
 · have kcM : closedM [] = true := rfl
   exact (ent_sub [.gone, .to 0] [some 1] ⟨trivial, ⟨by simp, rfl⟩, trivial⟩ ⟨osrc_amap (b := 1) rfl rfl rfl rfl (by rfl), trivial⟩ ⟨.refl _, .refl _, .cl kcl, .refl _, trivial⟩)
 rintro ⟨d, r, i, m⟩ ⟨g1, gi, gm, gc⟩
 dsimp only at g1 gi gm gc ⊢
 cases r with
 | nil =>
  have L1 := len_split g1
  try simp only [List.length] at L1
  have hc : iLt i (lenA es) = false := lt_f e_iLt e_lenA (by omega)
  rw [gc, chkF]
  refine goB hX 0 (by conv => lhs; cbv; try simp only [hc]; cbv; try simp only [hc]; cbv; try simp only [hc]; cbv; try simp only [hc]; cbv) ?_
  refine goA 60 ?_
  refine loopP_exit ?_
  refine goA 60 ?_
  refine fn_ret rfl rfl (.val ?_)
  rfl
 | cons f r =>
  have L1 := len_split g1
  try simp only [List.length] at L1
  have hc : iLt i (lenA es) = true := lt_t e_iLt e_lenA (by omega)
  have hat := el_at e_atA hes g1 gi
  rw [Fld.enc_eq] at hat
  have hi2 : iAdd .i64 i 1 = ((d ++ [f]).length : Int) := by rw [List.length_append]; exact inc_w e_iAdd gi (by omega)
  have pf := P_fieldName f.nm (hf f (by rw [g1]; simp))
  have gc2 : chkF (d.map Fld.nm ++ [f.nm]) r = chkF ((d ++ [f]).map Fld.nm) r := by simp
  rw [chkF, gc2] at gc
  rw [gc]
  clear hf
  have kokL : mOkL true m (str (ba f.nm)) = true := by rw [gm]; exact ents_ok _ _
  have kok : mOk true m (str (ba f.nm)) = true := by simp only [ee]; rw [gm]; exact ents_ok _ _
  have kget : mGet true m (str (ba f.nm)) (bool false) = bool (decide (f.nm ∈ d.map Fld.nm)) := by simp only [ee]; rw [gm]; exact ents_get _ _
  have kput : f.nm ∉ d.map Fld.nm → mPut true m (str (ba f.nm)) (bool true) = ents ((d ++ [f]).map Fld.nm) := fun h => by simp only [ee]; rw [gm, ents_put _ _ h]; simp
  have kk1 : f.kd < 0 → iLt f.kd 0 = true := fun h => by simp only [ee]; simpa using h
  have kk2 : ¬ f.kd < 0 → iLt f.kd 0 = false := fun h => by simp only [ee]; simpa using h
  have kk3 : 3 ≤ f.kd → iLe 3 f.kd = true := fun h => by simp only [ee]; simpa using h
  have kk4 : ¬ 3 ≤ f.kd → iLe 3 f.kd = false := fun h => by simp only [ee]; simpa using h
  clear gc2
  generalize fnameB f.nm = bf at *
  generalize hin : decide (f.nm ∈ d.map Fld.nm) = bi at *
  generalize ba f.nm = fs at *
  generalize f.kd = fk at *
  cases bf with
  | false =>
   rw [if_pos rfl]
   refine goB hX 0 (by conv => lhs; cbv; try simp only [hc, hat]; cbv; try simp only [hc, hat]; cbv; try simp only [hc, hat]; cbv; try simp only [hc, hat]; cbv) ?_
   refine goB hX 1 (by conv => lhs; cbv; try simp only [hc, hat]; cbv; try simp only [hc, hat]; cbv; try simp only [hc, hat]; cbv; try simp only [hc, hat]; cbv) ?_
   refine oPA pf ?_
   refine goB hX 0 (by conv => lhs; cbv; try simp only [hc, hat]; cbv; try simp only [hc, hat]; cbv; try simp only [hc, hat]; cbv; try simp only [hc, hat]; cbv) ?_
   refine on_cond rfl (fun c1 => ?_) (fun c1 => ?_)
   ·
    simp [ee] at c1
    refine goA 60 ?_
    refine loopP_ret ?_
    refine goA 60 ?_
    refine fn_ret rfl rfl (.val ?_)
    rfl
   ·
    simp [ee] at c1
  | true =>
  rw [if_neg (by decide)]
  cases bi with
  | true =>
   rw [if_pos (of_decide_eq_true hin)]
   refine goB hX 0 (by conv => lhs; cbv; try simp only [hc, hat, kget, kok]; cbv; try simp only [hc, hat, kget, kok]; cbv; try simp only [hc, hat, kget, kok]; cbv; try simp only [hc, hat, kget, kok]; cbv) ?_
   refine goB hX 1 (by conv => lhs; cbv; try simp only [hc, hat, kget, kok]; cbv; try simp only [hc, hat, kget, kok]; cbv; try simp only [hc, hat, kget, kok]; cbv; try simp only [hc, hat, kget, kok]; cbv) ?_
   refine oPA pf ?_
   refine goB hX 0 (by conv => lhs; cbv; try simp only [hc, hat, kget, kok]; cbv; try simp only [hc, hat, kget, kok]; cbv; try simp only [hc, hat, kget, kok]; cbv; try simp only [hc, hat, kget, kok]; cbv) ?_
   refine on_cond rfl (fun c1 => ?_) (fun c1 => ?_)
   ·
    simp [ee] at c1
   ·
    simp [ee] at c1
    refine goB hX 0 (by conv => lhs; cbv; try simp only [hc, hat, kget, kok]; cbv; try simp only [hc, hat, kget, kok]; cbv; try simp only [hc, hat, kget, kok]; cbv; try simp only [hc, hat, kget, kok]; cbv) ?_
    refine goA 60 ?_
    refine loopP_ret ?_
    refine goA 60 ?_
    refine fn_ret rfl rfl (.val ?_)
    rfl
  | false =>
  rw [if_neg (of_decide_eq_false hin)]
  have kp := kput (of_decide_eq_false hin)
  clear kput
  by_cases n0 : fk < 0
  · have kk := kk1 n0
    rw [if_pos (Or.inl n0)]
    refine goB hX 0 (by conv => lhs; cbv; try simp only [hc, hat, kget, kok, kk]; cbv; try simp only [hc, hat, kget, kok, kk]; cbv; try simp only [hc, hat, kget, kok, kk]; cbv; try simp only [hc, hat, kget, kok, kk]; cbv) ?_
    refine goB hX 1 (by conv => lhs; cbv; try simp only [hc, hat, kget, kok, kk]; cbv; try simp only [hc, hat, kget, kok, kk]; cbv; try simp only [hc, hat, kget, kok, kk]; cbv; try simp only [hc, hat, kget, kok, kk]; cbv) ?_
    refine oPA pf ?_
    refine goB hX 0 (by conv => lhs; cbv; try simp only [hc, hat, kget, kok, kk]; cbv; try simp only [hc, hat, kget, kok, kk]; cbv; try simp only [hc, hat, kget, kok, kk]; cbv; try simp only [hc, hat, kget, kok, kk]; cbv) ?_
    refine on_cond rfl (fun c1 => ?_) (fun c1 => ?_)
    ·
     simp [ee] at c1
    ·
     simp [ee] at c1
     refine goB hX 0 (by conv => lhs; cbv; try simp only [hc, hat, kget, kok, kk]; cbv; try simp only [hc, hat, kget, kok, kk]; cbv; try simp only [hc, hat, kget, kok, kk]; cbv; try simp only [hc, hat, kget, kok, kk]; cbv) ?_
     refine goB hX 0 (by conv => lhs; cbv; try simp only [hc, hat, kget, kok, kk]; cbv; try simp only [hc, hat, kget, kok, kk]; cbv; try simp only [hc, hat, kget, kok, kk]; cbv; try simp only [hc, hat, kget, kok, kk]; cbv) ?_
     refine goB hX 1 (by conv => lhs; cbv; try simp only [hc, hat, kget, kok, kk]; cbv; try simp only [hc, hat, kget, kok, kk]; cbv; try simp only [hc, hat, kget, kok, kk]; cbv; try simp only [hc, hat, kget, kok, kk]; cbv) ?_
     refine on_cond rfl (fun c2 => ?_) (fun c2 => ?_)
     ·
      simp [ee] at c2
      refine goA 60 ?_
      refine loopP_ret ?_
      refine goA 60 ?_
      refine fn_ret rfl rfl (.val ?_)
      rfl
     ·
      simp [ee] at c2
  have kk := kk2 n0
  by_cases n3 : 3 ≤ fk
  · have kkb := kk3 n3
    rw [if_pos (Or.inr n3)]
    refine goB hX 0 (by conv => lhs; cbv; try simp only [hc, hat, kget, kok, kk, kkb]; cbv; try simp only [hc, hat, kget, kok, kk, kkb]; cbv; try simp only [hc, hat, kget, kok, kk, kkb]; cbv; try simp only [hc, hat, kget, kok, kk, kkb]; cbv) ?_
    refine goB hX 1 (by conv => lhs; cbv; try simp only [hc, hat, kget, kok, kk, kkb]; cbv; try simp only [hc, hat, kget, kok, kk, kkb]; cbv; try simp only [hc, hat, kget, kok, kk, kkb]; cbv; try simp only [hc, hat, kget, kok, kk, kkb]; cbv) ?_
    refine oPA pf ?_
    refine goB hX 0 (by conv => lhs; cbv; try simp only [hc, hat, kget, kok, kk, kkb]; cbv; try simp only [hc, hat, kget, kok, kk, kkb]; cbv; try simp only [hc, hat, kget, kok, kk, kkb]; cbv; try simp only [hc, hat, kget, kok, kk, kkb]; cbv) ?_
    refine on_cond rfl (fun c1 => ?_) (fun c1 => ?_)
    ·
     simp [ee] at c1
    ·
     simp [ee] at c1
     refine goB hX 0 (by conv => lhs; cbv; try simp only [hc, hat, kget, kok, kk, kkb]; cbv; try simp only [hc, hat, kget, kok, kk, kkb]; cbv; try simp only [hc, hat, kget, kok, kk, kkb]; cbv; try simp only [hc, hat, kget, kok, kk, kkb]; cbv) ?_
     refine goB hX 0 (by conv => lhs; cbv; try simp only [hc, hat, kget, kok, kk, kkb]; cbv; try simp only [hc, hat, kget, kok, kk, kkb]; cbv; try simp only [hc, hat, kget, kok, kk, kkb]; cbv; try simp only [hc, hat, kget, kok, kk, kkb]; cbv) ?_
     refine goB hX 1 (by conv => lhs; cbv; try simp only [hc, hat, kget, kok, kk, kkb]; cbv; try simp only [hc, hat, kget, kok, kk, kkb]; cbv; try simp only [hc, hat, kget, kok, kk, kkb]; cbv; try simp only [hc, hat, kget, kok, kk, kkb]; cbv) ?_
     refine on_cond rfl (fun c2 => ?_) (fun c2 => ?_)
     ·
      simp [ee] at c2
      refine goA 60 ?_
      refine loopP_ret ?_
      refine goA 60 ?_
      refine fn_ret rfl rfl (.val ?_)
      rfl
     ·
      simp [ee] at c2
  have kkb := kk4 n3
  rw [if_neg (by omega)]
  rw [if_neg (by decide), if_neg (of_decide_eq_false hin), if_neg (by omega)] at gc
  have kcM : closedM (mPut true m (str fs) (bool true)) = true := by rw [kp]; exact ents_cl _
  refine goB hX 0 (by conv => lhs; cbv; try simp only [hc, hat, kget, kok, kk, kkb]; cbv; try simp only [hc, hat, kget, kok, kk, kkb]; cbv; try simp only [hc, hat, kget, kok, kk, kkb]; cbv; try simp only [hc, hat, kget, kok, kk, kkb]; cbv) ?_
  refine goB hX 1 (by conv => lhs; cbv; try simp only [hc, hat, kget, kok, kk, kkb]; cbv; try simp only [hc, hat, kget, kok, kk, kkb]; cbv; try simp only [hc, hat, kget, kok, kk, kkb]; cbv; try simp only [hc, hat, kget, kok, kk, kkb]; cbv) ?_
  refine oPA pf ?_
  refine goB hX 0 (by conv => lhs; cbv; try simp only [hc, hat, kget, kok, kk, kkb]; cbv; try simp only [hc, hat, kget, kok, kk, kkb]; cbv; try simp only [hc, hat, kget, kok, kk, kkb]; cbv; try simp only [hc, hat, kget, kok, kk, kkb]; cbv) ?_
  refine on_cond rfl (fun c1 => ?_) (fun c1 => ?_)
  ·
   simp [ee] at c1
  ·
   simp [ee] at c1
   refine goB hX 0 (by conv => lhs; cbv; try simp only [hc, hat, kget, kok, kk, kkb]; cbv; try simp only [hc, hat, kget, kok, kk, kkb]; cbv; try simp only [hc, hat, kget, kok, kk, kkb]; cbv; try simp only [hc, hat, kget, kok, kk, kkb]; cbv) ?_
   refine goB hX 0 (by conv => lhs; cbv; try simp only [hc, hat, kget, kok, kk, kkb]; cbv; try simp only [hc, hat, kget, kok, kk, kkb]; cbv; try simp only [hc, hat, kget, kok, kk, kkb]; cbv; try simp only [hc, hat, kget, kok, kk, kkb]; cbv) ?_
   refine goB hX 1 (by conv => lhs; cbv; try simp only [hc, hat, kget, kok, kk, kkb]; cbv; try simp only [hc, hat, kget, kok, kk, kkb]; cbv; try simp only [hc, hat, kget, kok, kk, kkb]; cbv; try simp only [hc, hat, kget, kok, kk, kkb]; cbv) ?_
   refine on_cond rfl (fun c2 => ?_) (fun c2 => ?_)
   ·
    simp [ee] at c2
   ·
    simp [ee] at c2
    refine go rfl hX 60 (by conv => lhs; cbv) ?_ ?_
    · simp only [ee]; simp only [kokL]; trivial
    refine loopP_next (d ++ [f], r, iAdd .i64 i 1, mPut true m (str fs) (bool true)) ⟨by simp [g1], hi2, kp, gc ▸ rfl⟩ (by simp) (ent_sub [.to 0, .gone] [some 0] ⟨⟨by simp, rfl⟩, trivial, trivial⟩ ⟨osrc_amap (b := 0) rfl rfl rfl rfl (by assumption), trivial⟩ ⟨.refl _, .refl _, .cl kcl, .refl _, trivial⟩)
end Go.Am
end
section
set_option maxHeartbeats 16000000
set_option maxRecDepth 100000
namespace Go.Am
open Go.Proofs Go.ChangeShapes Go.WideShapes Go.ChangeAt Go.RowKit
theorem cellsF : Tryd.prog.cellsOf 59 = 2 := by kernel_rfl
theorem cellsS : Tryd.prog.cellsOf 24 = 2 := by kernel_rfl
theorem aggF : aggT EE.P 59 = true := by kernel_rfl
theorem aggS : aggT EE.P 24 = true := by kernel_rfl
theorem rdStr {n : Nat} {x : AV} (h : El EE.P (Cl EE.P n) 9 x) : ∃ s : Bs, x = str (ba s) := by
 obtain ⟨s, h, _⟩ := (h.one (by kernel_rfl)).str Tryd.underlying9
 exact ⟨s.data.toList, by rw [← ba_of]; simpa using h⟩
theorem rdFld {n : Nat} {x : AV} (h : El EE.P (Cl EE.P n) 59 x) : ∃ f : Fld, x = f.enc := by
 obtain ⟨cs, rfl, g⟩ := h.agg aggF
 obtain ⟨m, a, r, rfl, ha, b, r, rfl, hb, rfl⟩ := g.struct Tryd.underlying59
 obtain ⟨s, rfl, _⟩ := ha.str Tryd.underlying9
 obtain ⟨i2, rfl, _⟩ := hb.int Tryd.underlying3
 exact ⟨⟨s.data.toList, i2⟩, by rw [Fld.enc_eq]; show _ = AV.agg [str (ba s.data.toList), _]; rw [← ba_of]; rfl⟩
theorem rdSch {n : Nat} {x : AV} (h : El EE.P (Cl EE.P n) 24 x) : ∃ q : Sch, x = q.enc := by
 obtain ⟨cs, rfl, g⟩ := h.agg aggS
 obtain ⟨m, a, r, rfl, ha, b, r, rfl, hb, rfl⟩ := g.struct Tryd.underlying24
 obtain ⟨s, rfl, _⟩ := ha.str Tryd.underlying9
 obtain ⟨m2, es, rfl, hl, hes⟩ := hb.slice Tryd.underlying22
 obtain ⟨l, rfl, _⟩ := list_enc (enc := Fld.enc) (ok := fun _ => True) fun x hx => by
  obtain ⟨q, hq⟩ := rdFld (hes x hx)
  exact ⟨q, hq, trivial⟩
 exact ⟨⟨s.data.toList, l⟩, by rw [Sch.enc_eq]; show _ = AV.agg [str (ba s.data.toList), _]; rw [← ba_of, cellsF]; rfl⟩
theorem rdSchs {n : Nat} {x : AV} (h : El EE.P (Cl EE.P n) 26 x) : ∃ l : List Sch, x = .isl 2 (mapE Sch.enc l) := by
 obtain ⟨m, es, h, hl, he⟩ := (h.one (by kernel_rfl)).slice Tryd.underlying26
 obtain ⟨l, rfl, _⟩ := list_enc (enc := Sch.enc) (ok := fun _ => True) fun x hx => by
  obtain ⟨e, hq⟩ := rdSch (he x hx)
  exact ⟨e, hq, trivial⟩
 exact ⟨l, by rw [cellsS] at h; simpa using h⟩
theorem str_bulk (s : Bs) : s.length ≤ (str (ba s)).bulk := by
 have := ba_size s
 simp only [AV.bulk]; omega
theorem bulk_mem {x : AV} : ∀ {l : List AV}, x ∈ l → x.bulk ≤ AV.bulkL l
 | y :: l, h => by
  rw [AV.bulkL]
  rcases List.mem_cons.1 h with rfl | h
  · omega
  · have := bulk_mem h; omega
theorem bulk_len : ∀ l : List AV, l.length ≤ AV.bulkL l
 | [] => by simp
 | x :: l => by
  have := bulk_len l
  have : 1 ≤ x.bulk := by
   cases x with
   | val v => cases v <;> simp [AV.bulk]
   | _ => simp [AV.bulk]
  rw [AV.bulkL, List.length_cons]; omega
theorem Sch.short_bulk {q : Sch} (h : q.enc.bulk ≤ 1048576) : q.Short := by
 rw [Sch.enc_eq] at h
 have h1 := str_bulk q.nm
 have h2 := bulk_len (mapE Fld.enc q.fs)
 rw [mapE_len] at h2
 simp only [AV.bulk, AV.bulkL] at h h1
 refine ⟨by omega, by omega, fun f hf => ?_⟩
 have h3 := bulk_mem (x := f.enc) (l := mapE Fld.enc q.fs) (by rw [mapE_eq]; exact List.mem_map.2 ⟨f, hf, rfl⟩)
 have h4 := str_bulk f.nm
 rw [Fld.enc_eq] at h3
 simp only [AV.bulk, AV.bulkL] at h3 h4
 omega
theorem Sch.list_bulk {l : List Sch} (h : (AV.isl 2 (mapE Sch.enc l)).bulk ≤ 1048576) : l.length < 1048577 ∧ ∀ q ∈ l, q.Short := by
 have h2 := bulk_len (mapE Sch.enc l)
 rw [mapE_len] at h2
 simp only [AV.bulk] at h
 refine ⟨by omega, fun q hq => Sch.short_bulk ?_⟩
 have h3 := bulk_mem (x := q.enc) (l := mapE Sch.enc l) (by rw [mapE_eq]; exact List.mem_map.2 ⟨q, hq, rfl⟩)
 omega
theorem own_none : ownKnob Tryd.prog.godebug = none := by kernel_rfl
theorem kidsP : Kids EE.P (· < EE.P.types.size) := kids_rows (by kernel_rfl) (by kernel_rfl)
theorem fullP : ∀ t e, t < EE.P.types.size → EE.P.underlying t = some (.slice e) → 0 < EE.P.cellsOf e := slices_full_of EE.P (by kernel_rfl)
theorem gWords : Tryd.prog.globalNamed "tidegate/schema.words" = some 0 := by kernel_rfl
theorem gWordsT : ∃ t, (Tryd.prog.globals[0]?).map (·.type) = some t ∧ flatTy Tryd.prog 8 t = true := ⟨_, rfl, by kernel_rfl⟩
theorem gKinds : Tryd.prog.globalNamed "tidegate/tidegateref03.kinds" = some 1 := by kernel_rfl
theorem gKindsT : ∃ t e, (Tryd.prog.globals[1]?).map (·.type) = some t ∧ Tryd.prog.underlying t = some (.slice e) ∧ Tryd.prog.underlying e = some .string ∧ Tryd.prog.cellsOf e = 1 := ⟨69, 9, by kernel_rfl, by kernel_rfl, by kernel_rfl, by kernel_rfl⟩
theorem kw_lit : str (Classical.choice kwBox_ne).i = .val (.string ⟨#[105, 110, 116]⟩) ∧ str (Classical.choice kwBox_ne).b = .val (.string ⟨#[98, 111, 111, 108]⟩) ∧ str (Classical.choice kwBox_ne).s = .val (.string ⟨#[115, 116, 114, 105, 110, 103]⟩) := by
 rw [(Classical.choice kwBox_ne).hi, (Classical.choice kwBox_ne).hb, (Classical.choice kwBox_ne).hs, ba_eq, ba_eq, ba_eq]
 exact ⟨rfl, rfl, rfl⟩
theorem globE {laid : List (String × DataW Unit)} (hm : ("tidegate/schema.words", Proofs.YteahddjeanhnlaaDoor.Rows.laid_tidegate_schema_words) ∈ laid) {W : World} (h : laidMet Tryd.prog laid W) :
 ∀ g, VRep ⟨fun _ => none, fun b => b < W.heap.size⟩ 0 W (EE.G g) (.pointer (some ⟨g, 0, none⟩)) := by
 intro g
 obtain ⟨ps, hv, _⟩ := h
 obtain ⟨t, ht, hf⟩ := gWordsT
 have hc := laid_cells hv hm gWords ht hf
 obtain ⟨k1, k2, k3⟩ := kw_lit
 show VRep _ 0 W (cond (Nat.beq g 0) (.iptr [str (Classical.choice kwBox_ne).i, str (Classical.choice kwBox_ne).b, str (Classical.choice kwBox_ne).s]) .undef) _
 rw [k1, k2, k3]
 cases hb : Nat.beq g 0 with
 | false => exact .undef _
 | true =>
  obtain rfl := Nat.eq_of_beq_eq_true hb
  have e : flatD (H := Unit) Proofs.YteahddjeanhnlaaDoor.Rows.laid_tidegate_schema_words = [.string ⟨#[105, 110, 116]⟩, .string ⟨#[98, 111, 111, 108]⟩, .string ⟨#[115, 116, 114, 105, 110, 103]⟩] := by rfl
  rw [e] at hc
  exact glob_rep hc gWords rfl (by
   intro v hv c h
   subst h
   simp at hv)
theorem globK {laid : List (String × DataW Unit)} (hm : ("tidegate/schema.words", Proofs.YteahddjeanhnlaaDoor.Rows.laid_tidegate_schema_words) ∈ laid) (hm2 : ("tidegate/tidegateref03.kinds", Proofs.YteahddjeanhnlaaDoor.Rows.laid_tidegate_tidegateref03_kinds) ∈ laid) {W : World} (h : laidMet Tryd.prog laid W) :
 ∀ g, VRep ⟨fun _ => none, fun b => b < W.heap.size⟩ 0 W (EK.G g) (.pointer (some ⟨g, 0, none⟩)) := by
 intro g
 have hE := globE hm h g
 obtain ⟨ps, hv, _⟩ := h
 obtain ⟨t2, e2, ht2, hu2, hue2, hce2⟩ := gKindsT
 have hc2 := glob_strs (l := [[105, 110, 116], [98, 111, 111, 108], [115, 116, 114, 105, 110, 103]]) hv hm2 gKinds ht2 hu2 hue2 hce2
 obtain ⟨k1, k2, k3⟩ := kw_lit
 revert hE
 show VRep _ 0 W (cond (Nat.beq g 0) _ .undef) _ → VRep _ 0 W (cond (Nat.beq g 0) (.iptr [str (Classical.choice kwBox_ne).i, str (Classical.choice kwBox_ne).b, str (Classical.choice kwBox_ne).s]) (cond (Nat.beq g 1) (.iptr [.isl 1 [str (Classical.choice kwBox_ne).i, str (Classical.choice kwBox_ne).b, str (Classical.choice kwBox_ne).s]]) .undef)) _
 cases hb : Nat.beq g 0 with
 | true => exact fun h => h
 | false =>
  intro _
  show VRep _ 0 W (cond (Nat.beq g 1) _ .undef) _
  cases hb2 : Nat.beq g 1 with
  | false => exact .undef _
  | true =>
   obtain rfl := Nat.eq_of_beq_eq_true hb2
   rw [k1, k2, k3]
   exact hc2
theorem bulk_upto {H : Type} : (∀ d : DataW H, Proofs.YteahddjeanhnlaaDoor.Rows.uptoBulk d = dBulk d) ∧ (∀ d : List (DataW H), Proofs.YteahddjeanhnlaaDoor.Rows.uptoBulkAll d = dBulkAll d) := by
 have : ∀ k : Nat, (∀ d : DataW H, SizeOf.sizeOf d ≤ k → Proofs.YteahddjeanhnlaaDoor.Rows.uptoBulk d = dBulk d) ∧ (∀ d : List (DataW H), SizeOf.sizeOf d ≤ k → Proofs.YteahddjeanhnlaaDoor.Rows.uptoBulkAll d = dBulkAll d) ∧ (∀ d : List (Lit × DataW H), SizeOf.sizeOf d ≤ k → Proofs.YteahddjeanhnlaaDoor.Rows.uptoBulkEntries d = dBulkEntries d) ∧ (∀ d : Lit × DataW H, SizeOf.sizeOf d ≤ k → Proofs.YteahddjeanhnlaaDoor.Rows.uptoBulkEntry d = dBulkEntry d) := by
  intro k
  induction k with
  | zero =>
   refine ⟨fun d h => ?_, fun d h => ?_, fun d h => ?_, fun d h => ?_⟩
   · cases d <;> simp at h <;> omega
   · cases d <;> simp at h <;> omega
   · cases d <;> simp at h <;> omega
   · obtain ⟨a, b⟩ := d; simp at h <;> omega
  | succ k ih =>
   obtain ⟨i1, i2, i3, i4⟩ := ih
   refine ⟨fun d h => ?_, fun d h => ?_, fun d h => ?_, fun d h => ?_⟩
   · cases d with
     | lit l => cases l <;> simp [Proofs.YteahddjeanhnlaaDoor.Rows.uptoBulk, dBulk]
     | nil => simp [Proofs.YteahddjeanhnlaaDoor.Rows.uptoBulk, dBulk]
     | ptr d => simp only [Proofs.YteahddjeanhnlaaDoor.Rows.uptoBulk, dBulk]; rw [i1 d (by simp at h; omega)]
     | slice a b => simp only [Proofs.YteahddjeanhnlaaDoor.Rows.uptoBulk, dBulk]; rw [i2 a (by simp at h; omega), i2 b (by simp at h; omega)]
     | agg a => simp only [Proofs.YteahddjeanhnlaaDoor.Rows.uptoBulk, dBulk]; rw [i2 a (by simp at h; omega)]
     | iface t d => simp only [Proofs.YteahddjeanhnlaaDoor.Rows.uptoBulk, dBulk]; rw [i1 d (by simp at h; omega)]
     | map a => simp only [Proofs.YteahddjeanhnlaaDoor.Rows.uptoBulk, dBulk]; rw [i3 a (by simp at h; omega)]
     | held a => simp only [Proofs.YteahddjeanhnlaaDoor.Rows.uptoBulk, dBulk]
   · cases d with
     | nil => simp only [Proofs.YteahddjeanhnlaaDoor.Rows.uptoBulkAll, dBulkAll]
     | cons x r => simp only [Proofs.YteahddjeanhnlaaDoor.Rows.uptoBulkAll, dBulkAll]; rw [i1 x (by simp at h; omega), i2 r (by simp at h; omega)]
   · cases d with
     | nil => simp only [Proofs.YteahddjeanhnlaaDoor.Rows.uptoBulkEntries, dBulkEntries]
     | cons x r => simp only [Proofs.YteahddjeanhnlaaDoor.Rows.uptoBulkEntries, dBulkEntries]; rw [i4 x (by simp at h; omega), i3 r (by simp at h; omega)]
   · obtain ⟨l, b⟩ := d
     cases l <;> (simp only [Proofs.YteahddjeanhnlaaDoor.Rows.uptoBulkEntry, dBulkEntry]; rw [i1 b (by simp at h; omega)])
 exact ⟨fun d => (this _).1 d (Nat.le_refl _), fun d => (this _).2.1 d (Nat.le_refl _)⟩
noncomputable def laidH (os : Os) : Array Obj := (World.holding Tryd.prog os ⟨#[], #[], []⟩).heap
noncomputable def putRow (h : Array Obj) (g : Nat) (vs : Array Value) : Array Obj := h.modify g fun
      | .cells _ t frozen => .cells vs t frozen
      | o => o
noncomputable def laidW (os : Os) : World :=
 { World.holding Tryd.prog os ⟨#[], #[], []⟩ with heap := (putRow (putRow (putRow (putRow (laidH os) 0 (flatD (H := Unit) Proofs.YteahddjeanhnlaaDoor.Rows.laid_tidegate_schema_words).toArray) 3 (flatD Proofs.YteahddjeanhnlaaDoor.Rows.laid_unicode_utf8_first).toArray) 4 (flatD (H := Unit) Proofs.YteahddjeanhnlaaDoor.Rows.laid_unicode_utf8_acceptRanges).toArray) 1 #[.slice (some ⟨(laidH os).size, 0, none⟩) 3 3]).push (.cells #[.string ⟨#[105, 110, 116]⟩, .string ⟨#[98, 111, 111, 108]⟩, .string ⟨#[115, 116, 114, 105, 110, 103]⟩] 9 (0, 0)) }
end Go.Am
end
section
set_option maxHeartbeats 16000000
set_option maxRecDepth 100000
namespace Go.Am
open Go.Proofs
theorem posF_in {nm : Bs} : ∀ (d r : List Fld) (i : Int), nm ∈ d.map Fld.nm → posF nm (d ++ r) i < i + d.length
 | [], _, _, h => by simp at h
 | f :: d, r, i, h => by
  rw [List.cons_append, posF]
  by_cases e : f.nm = nm
  · rw [if_pos e]; simp; omega
  · rw [if_neg e]
    have := posF_in d r (i + 1) (by simpa [Ne.symm e] using h)
    simp only [List.length_cons]; omega
theorem pos_lt {l d r : List Fld} {f : Fld} (h : l = d ++ f :: r) : decide (Fld.pos l f.nm < (d.length : Int)) = decide (f.nm ∈ d.map Fld.nm) := by
 apply decide_eq_decide.2
 constructor
 · intro h1
   refine Classical.byContradiction fun h2 => ?_
   have := pos_hit h (fun g hg e => h2 (List.mem_map.2 ⟨g, hg, e⟩)) rfl
   omega
 · intro h1
   have := posF_in d (f :: r) 0 h1
   rw [Fld.pos, h]; omega
theorem P_refCheck (q : Sch) (hq : q.Short) : PCall EE 16 [q.enc] (int q.chk) := by
 obtain ⟨hqn, hl, hf⟩ := hq
 have kcl := Fld.closedI q.fs
 have pp := fun nm => P_refPosition q nm hl
 rw [Sch.chk]
 simp only [Sch.enc_eq] at pp ⊢
 generalize q.fs = l at *
 have pn := P_refName q.nm hqn
 clear hqn
 generalize hn : nameB q.nm = bn at *
 generalize ba q.nm = qn at *
 refine wordsN ?_; unhygienic intros
 generalize hes : mapE Fld.enc l = es at *
 have hel : es.length = l.length := by rw [← hes, mapE_len]
 have kcA : AV.closedL [str qn, .isl 2 es] = true := by simp [AV.closedL, closed_v, kcl]
 have n0 : bNot false = true := by simp only [ee]; rfl
 have n1 : bNot true = false := by simp only [ee]; rfl
 cases bn with
 | false =>
  rw [if_pos rfl]
  refine fn_body (fn := Tryd.f16) (n := 53) (ac := Trydc16) (rvs := [.t 2]) rfl (by decide) Trydp16 rfl rfl rfl ?_
  refine goA 60 ?_
  refine oPA pn ?_
  refine goB hX 0 (by conv => lhs; cbv; try simp only [n0]; cbv; try simp only [n0]; cbv; try simp only [n0]; cbv; try simp only [n0]; cbv) ?_
  refine goA 60 ?_
  refine fn_ret rfl rfl (.val ?_)
  rfl
 | true =>
 rw [if_neg (by decide)]
 by_cases h8 : 8 < l.length
 · have k8 : iLt 8 (lenA es) = true := by simp only [ee]; simp; omega
   rw [if_pos h8]
   refine fn_body (fn := Tryd.f16) (n := 53) (ac := Trydc16) (rvs := [.t 2]) rfl (by decide) Trydp16 rfl rfl rfl ?_
   refine goA 60 ?_
   refine oPA pn ?_
   refine goB hX 0 (by conv => lhs; cbv; try simp only [n1, k8]; cbv; try simp only [n1, k8]; cbv; try simp only [n1, k8]; cbv; try simp only [n1, k8]; cbv) ?_
   refine goB hX 1 (by conv => lhs; cbv; try simp only [n1, k8]; cbv; try simp only [n1, k8]; cbv; try simp only [n1, k8]; cbv; try simp only [n1, k8]; cbv) ?_
   refine goA 60 ?_
   refine fn_ret rfl rfl (.val ?_)
   rfl
 have k8 : iLt 8 (lenA es) = false := by simp only [ee]; simp; omega
 rw [if_neg h8]
 refine fn_body (fn := Tryd.f16) (n := 53) (ac := Trydc16) (rvs := [.t 2]) rfl (by decide) Trydp16 rfl rfl rfl ?_
 refine goA 60 ?_
 refine oPA pn ?_
 refine goB hX 0 (by conv => lhs; cbv; try simp only [n1, k8]; cbv; try simp only [n1, k8]; cbv; try simp only [n1, k8]; cbv; try simp only [n1, k8]; cbv) ?_
 refine goB hX 1 (by conv => lhs; cbv; try simp only [n1, k8]; cbv; try simp only [n1, k8]; cbv; try simp only [n1, k8]; cbv; try simp only [n1, k8]; cbv) ?_
 refine goA 60 ?_
 refine on_loopP (ι := List Fld × List Fld × Int) (fun p => ([(3, int p.2.2), (1, .iptr [str qn, .isl 2 es])], [])) (fun p => l = p.1 ++ p.2.1 ∧ p.2.2 = p.1.length ∧ chkF [] l = chkF (p.1.map Fld.nm) p.2.1) (fun p => p.2.1.length) ([], l, 0) ⟨rfl, rfl, rfl⟩ ?_ ?_
 · exact (ent_sub [.icells ([str qn, AV.isl 2 es])] [] ⟨⟨_, rfl, (subL_closed _ kcA).symm⟩, trivial⟩ trivial ⟨.refl _, .refl _, trivial⟩)
 rintro ⟨d, r, i⟩ ⟨g1, gi, gc⟩
 dsimp only at g1 gi gc ⊢
 cases r with
 | nil =>
  have L1 := len_split g1
  try simp only [List.length] at L1
  have hc : iLt i (lenA es) = false := lt_f e_iLt e_lenA (by omega)
  rw [gc, chkF]
  refine goB hX 0 (by conv => lhs; cbv; try simp only [hc]; cbv; try simp only [hc]; cbv; try simp only [hc]; cbv; try simp only [hc]; cbv) ?_
  refine goA 60 ?_
  refine loopP_exit ?_
  refine goA 60 ?_
  refine fn_ret rfl rfl (.val ?_)
  rfl
 | cons f r =>
  have L1 := len_split g1
  try simp only [List.length] at L1
  have hc : iLt i (lenA es) = true := lt_t e_iLt e_lenA (by omega)
  have hat := el_at e_atA hes g1 gi
  rw [Fld.enc_eq] at hat
  have hi2 : iAdd .i64 i 1 = ((d ++ [f]).length : Int) := by rw [List.length_append]; exact inc_w e_iAdd gi (by omega)
  have pf := P_refName f.nm (hf f (by rw [g1]; simp))
  have pq := pp f.nm
  have gc2 : chkF (d.map Fld.nm ++ [f.nm]) r = chkF ((d ++ [f]).map Fld.nm) r := by simp
  rw [chkF, gc2] at gc
  rw [gc]
  clear hf pp
  have kpos : iLt (Fld.pos l f.nm) i = decide (f.nm ∈ d.map Fld.nm) := by simp only [ee]; rw [gi]; exact pos_lt g1
  have e1 : ((ba f.nm).toList == (ByteArray.mk #[116, 105, 109, 101]).toList) = decide (f.nm = bTime) := by
   rw [show (ByteArray.mk #[116, 105, 109, 101]) = ba bTime from ba_lit bTime, ba_eqB]
  have kt : sEq (ba f.nm) ⟨#[116, 105, 109, 101]⟩ = decide (f.nm = bTime) := by simp only [ee]; exact e1
  have hff : fnameB f.nm = (nameB f.nm && !decide (f.nm = bTime)) := by rw [fnameB]; simp
  rw [hff] at gc ⊢
  clear e1 hff gc2
  generalize nameB f.nm = bf at *
  generalize hin : decide (f.nm ∈ d.map Fld.nm) = bi at *
  generalize decide (f.nm = bTime) = bt at *
  generalize Fld.pos l f.nm = P at *
  generalize ba f.nm = fs at *
  have kn0 : f.kd = 0 → iNe f.kd 0 = false := fun h => by simp only [ee]; rw [h]; rfl
  have kn1 : f.kd = 1 → iNe f.kd 1 = false := fun h => by simp only [ee]; rw [h]; rfl
  have kn2 : f.kd = 2 → iNe f.kd 2 = false := fun h => by simp only [ee]; rw [h]; rfl
  have km0 : f.kd ≠ 0 → iNe f.kd 0 = true := fun h => by simp only [ee]; simpa using h
  have km1 : f.kd ≠ 1 → iNe f.kd 1 = true := fun h => by simp only [ee]; simpa using h
  have km2 : f.kd ≠ 2 → iNe f.kd 2 = true := fun h => by simp only [ee]; simpa using h
  generalize f.kd = fk at *
  cases bf with
  | false =>
   rw [if_pos (by simp)]
   refine goB hX 0 (by conv => lhs; cbv; try simp only [n0, hc, hat]; cbv; try simp only [n0, hc, hat]; cbv; try simp only [n0, hc, hat]; cbv; try simp only [n0, hc, hat]; cbv) ?_
   refine goB hX 1 (by conv => lhs; cbv; try simp only [n0, hc, hat]; cbv; try simp only [n0, hc, hat]; cbv; try simp only [n0, hc, hat]; cbv; try simp only [n0, hc, hat]; cbv) ?_
   refine oPA pf ?_
   refine goB hX 0 (by conv => lhs; cbv; try simp only [n0, hc, hat]; cbv; try simp only [n0, hc, hat]; cbv; try simp only [n0, hc, hat]; cbv; try simp only [n0, hc, hat]; cbv) ?_
   refine on_cond rfl (fun c1 => ?_) (fun c1 => ?_)
   ·
    simp [ee] at c1
    refine goA 60 ?_
    refine loopP_ret ?_
    refine goA 60 ?_
    refine fn_ret rfl rfl (.val ?_)
    rfl
   ·
    simp [ee] at c1
  | true =>
  cases bt with
  | true =>
   rw [if_pos (by decide)]
   refine goB hX 0 (by conv => lhs; cbv; try simp only [n1, hc, hat, kt]; cbv; try simp only [n1, hc, hat, kt]; cbv; try simp only [n1, hc, hat, kt]; cbv; try simp only [n1, hc, hat, kt]; cbv) ?_
   refine goB hX 1 (by conv => lhs; cbv; try simp only [n1, hc, hat, kt]; cbv; try simp only [n1, hc, hat, kt]; cbv; try simp only [n1, hc, hat, kt]; cbv; try simp only [n1, hc, hat, kt]; cbv) ?_
   refine oPA pf ?_
   refine goB hX 0 (by conv => lhs; cbv; try simp only [n1, hc, hat, kt]; cbv; try simp only [n1, hc, hat, kt]; cbv; try simp only [n1, hc, hat, kt]; cbv; try simp only [n1, hc, hat, kt]; cbv) ?_
   refine on_cond rfl (fun c1 => ?_) (fun c1 => ?_)
   ·
    simp [ee] at c1
    refine goA 60 ?_
    refine loopP_ret ?_
    refine goA 60 ?_
    refine fn_ret rfl rfl (.val ?_)
    rfl
   ·
    simp [ee] at c1
  | false =>
  rw [if_neg (by decide)] at gc ⊢
  cases bi with
  | true =>
   rw [if_pos (of_decide_eq_true hin)]
   refine goB hX 0 (by conv => lhs; cbv; try simp only [n1, hc, hat, kt, kpos]; cbv; try simp only [n1, hc, hat, kt, kpos]; cbv; try simp only [n1, hc, hat, kt, kpos]; cbv; try simp only [n1, hc, hat, kt, kpos]; cbv) ?_
   refine goB hX 1 (by conv => lhs; cbv; try simp only [n1, hc, hat, kt, kpos]; cbv; try simp only [n1, hc, hat, kt, kpos]; cbv; try simp only [n1, hc, hat, kt, kpos]; cbv; try simp only [n1, hc, hat, kt, kpos]; cbv) ?_
   refine oPA pf ?_
   refine goB hX 0 (by conv => lhs; cbv; try simp only [n1, hc, hat, kt, kpos]; cbv; try simp only [n1, hc, hat, kt, kpos]; cbv; try simp only [n1, hc, hat, kt, kpos]; cbv; try simp only [n1, hc, hat, kt, kpos]; cbv) ?_
   refine on_cond rfl (fun c1 => ?_) (fun c1 => ?_)
   ·
    simp [ee] at c1
   ·
    simp [ee] at c1
    refine goA 60 ?_
    refine oPA pq ?_
    refine goB hX 0 (by conv => lhs; cbv; try simp only [n1, hc, hat, kt, kpos]; cbv; try simp only [n1, hc, hat, kt, kpos]; cbv; try simp only [n1, hc, hat, kt, kpos]; cbv; try simp only [n1, hc, hat, kt, kpos]; cbv) ?_
    refine goA 60 ?_
    refine loopP_ret ?_
    refine goA 60 ?_
    refine fn_ret rfl rfl (.val ?_)
    rfl
  | false =>
  rw [if_neg (of_decide_eq_false hin)] at gc ⊢
  by_cases n : fk < 0 ∨ 3 ≤ fk
  · rw [if_pos n]
    have k0 := km0 (by omega)
    have k1 := km1 (by omega)
    have k2 := km2 (by omega)
    clear kn0 kn1 kn2 km0 km1 km2
    refine goB hX 0 (by conv => lhs; cbv; try simp only [n1, hc, hat, kt, kpos, k0, k1, k2]; cbv; try simp only [n1, hc, hat, kt, kpos, k0, k1, k2]; cbv; try simp only [n1, hc, hat, kt, kpos, k0, k1, k2]; cbv; try simp only [n1, hc, hat, kt, kpos, k0, k1, k2]; cbv) ?_
    refine goB hX 1 (by conv => lhs; cbv; try simp only [n1, hc, hat, kt, kpos, k0, k1, k2]; cbv; try simp only [n1, hc, hat, kt, kpos, k0, k1, k2]; cbv; try simp only [n1, hc, hat, kt, kpos, k0, k1, k2]; cbv; try simp only [n1, hc, hat, kt, kpos, k0, k1, k2]; cbv) ?_
    refine oPA pf ?_
    refine goB hX 0 (by conv => lhs; cbv; try simp only [n1, hc, hat, kt, kpos, k0, k1, k2]; cbv; try simp only [n1, hc, hat, kt, kpos, k0, k1, k2]; cbv; try simp only [n1, hc, hat, kt, kpos, k0, k1, k2]; cbv; try simp only [n1, hc, hat, kt, kpos, k0, k1, k2]; cbv) ?_
    refine on_cond rfl (fun c1 => ?_) (fun c1 => ?_)
    ·
     simp [ee] at c1
    ·
     simp [ee] at c1
     refine goA 60 ?_
     refine oPA pq ?_
     refine goB hX 0 (by conv => lhs; cbv; try simp only [n1, hc, hat, kt, kpos, k0, k1, k2]; cbv; try simp only [n1, hc, hat, kt, kpos, k0, k1, k2]; cbv; try simp only [n1, hc, hat, kt, kpos, k0, k1, k2]; cbv; try simp only [n1, hc, hat, kt, kpos, k0, k1, k2]; cbv) ?_
     refine goB hX 1 (by conv => lhs; cbv; try simp only [n1, hc, hat, kt, kpos, k0, k1, k2]; cbv; try simp only [n1, hc, hat, kt, kpos, k0, k1, k2]; cbv; try simp only [n1, hc, hat, kt, kpos, k0, k1, k2]; cbv; try simp only [n1, hc, hat, kt, kpos, k0, k1, k2]; cbv) ?_
     refine on_cond rfl (fun c2 => ?_) (fun c2 => ?_)
     ·
      simp [ee] at c2
      refine goA 60 ?_
      refine loopP_ret ?_
      refine goA 60 ?_
      refine fn_ret rfl rfl (.val ?_)
      rfl
     ·
      simp [ee] at c2
  rw [if_neg n] at gc ⊢
  by_cases n0' : fk = 0
  · have k0 := kn0 n0'
    clear kn0 kn1 kn2 km0 km1 km2
    refine goB hX 0 (by conv => lhs; cbv; try simp only [n1, hc, hat, kt, kpos, k0]; cbv; try simp only [n1, hc, hat, kt, kpos, k0]; cbv; try simp only [n1, hc, hat, kt, kpos, k0]; cbv; try simp only [n1, hc, hat, kt, kpos, k0]; cbv) ?_
    refine goB hX 1 (by conv => lhs; cbv; try simp only [n1, hc, hat, kt, kpos, k0]; cbv; try simp only [n1, hc, hat, kt, kpos, k0]; cbv; try simp only [n1, hc, hat, kt, kpos, k0]; cbv; try simp only [n1, hc, hat, kt, kpos, k0]; cbv) ?_
    refine oPA pf ?_
    refine goB hX 0 (by conv => lhs; cbv; try simp only [n1, hc, hat, kt, kpos, k0]; cbv; try simp only [n1, hc, hat, kt, kpos, k0]; cbv; try simp only [n1, hc, hat, kt, kpos, k0]; cbv; try simp only [n1, hc, hat, kt, kpos, k0]; cbv) ?_
    refine on_cond rfl (fun c1 => ?_) (fun c1 => ?_)
    ·
     simp [ee] at c1
    ·
     simp [ee] at c1
     refine goA 60 ?_
     refine oPA pq ?_
     refine goB hX 0 (by conv => lhs; cbv; try simp only [n1, hc, hat, kt, kpos, k0]; cbv; try simp only [n1, hc, hat, kt, kpos, k0]; cbv; try simp only [n1, hc, hat, kt, kpos, k0]; cbv; try simp only [n1, hc, hat, kt, kpos, k0]; cbv) ?_
     refine goB hX 1 (by conv => lhs; cbv; try simp only [n1, hc, hat, kt, kpos, k0]; cbv; try simp only [n1, hc, hat, kt, kpos, k0]; cbv; try simp only [n1, hc, hat, kt, kpos, k0]; cbv; try simp only [n1, hc, hat, kt, kpos, k0]; cbv) ?_
     refine on_cond rfl (fun c2 => ?_) (fun c2 => ?_)
     ·
      simp [ee] at c2
     ·
      simp [ee] at c2
      refine goA 60 ?_
      refine loopP_next (d ++ [f], r, iAdd .i64 i 1) ⟨by simp [g1], hi2, gc ▸ rfl⟩ (by simp) (ent_sub [.gone] [] ⟨trivial, trivial⟩ trivial ⟨.refl _, .cl kcA, trivial⟩)
  have k0 := km0 n0'
  by_cases n1' : fk = 1
  · have k1 := kn1 n1'
    clear kn0 kn1 kn2 km0 km1 km2
    refine goB hX 0 (by conv => lhs; cbv; try simp only [n1, hc, hat, kt, kpos, k0, k1]; cbv; try simp only [n1, hc, hat, kt, kpos, k0, k1]; cbv; try simp only [n1, hc, hat, kt, kpos, k0, k1]; cbv; try simp only [n1, hc, hat, kt, kpos, k0, k1]; cbv) ?_
    refine goB hX 1 (by conv => lhs; cbv; try simp only [n1, hc, hat, kt, kpos, k0, k1]; cbv; try simp only [n1, hc, hat, kt, kpos, k0, k1]; cbv; try simp only [n1, hc, hat, kt, kpos, k0, k1]; cbv; try simp only [n1, hc, hat, kt, kpos, k0, k1]; cbv) ?_
    refine oPA pf ?_
    refine goB hX 0 (by conv => lhs; cbv; try simp only [n1, hc, hat, kt, kpos, k0, k1]; cbv; try simp only [n1, hc, hat, kt, kpos, k0, k1]; cbv; try simp only [n1, hc, hat, kt, kpos, k0, k1]; cbv; try simp only [n1, hc, hat, kt, kpos, k0, k1]; cbv) ?_
    refine on_cond rfl (fun c1 => ?_) (fun c1 => ?_)
    ·
     simp [ee] at c1
    ·
     simp [ee] at c1
     refine goA 60 ?_
     refine oPA pq ?_
     refine goB hX 0 (by conv => lhs; cbv; try simp only [n1, hc, hat, kt, kpos, k0, k1]; cbv; try simp only [n1, hc, hat, kt, kpos, k0, k1]; cbv; try simp only [n1, hc, hat, kt, kpos, k0, k1]; cbv; try simp only [n1, hc, hat, kt, kpos, k0, k1]; cbv) ?_
     refine goB hX 1 (by conv => lhs; cbv; try simp only [n1, hc, hat, kt, kpos, k0, k1]; cbv; try simp only [n1, hc, hat, kt, kpos, k0, k1]; cbv; try simp only [n1, hc, hat, kt, kpos, k0, k1]; cbv; try simp only [n1, hc, hat, kt, kpos, k0, k1]; cbv) ?_
     refine on_cond rfl (fun c2 => ?_) (fun c2 => ?_)
     ·
      simp [ee] at c2
     ·
      simp [ee] at c2
      refine goA 60 ?_
      refine loopP_next (d ++ [f], r, iAdd .i64 i 1) ⟨by simp [g1], hi2, gc ▸ rfl⟩ (by simp) (ent_sub [.gone] [] ⟨trivial, trivial⟩ trivial ⟨.refl _, .cl kcA, trivial⟩)
  have k1 := km1 n1'
  have k2 := kn2 (by omega)
  clear kn0 kn1 kn2 km0 km1 km2
  refine goB hX 0 (by conv => lhs; cbv; try simp only [n1, hc, hat, kt, kpos, k0, k1, k2]; cbv; try simp only [n1, hc, hat, kt, kpos, k0, k1, k2]; cbv; try simp only [n1, hc, hat, kt, kpos, k0, k1, k2]; cbv; try simp only [n1, hc, hat, kt, kpos, k0, k1, k2]; cbv) ?_
  refine goB hX 1 (by conv => lhs; cbv; try simp only [n1, hc, hat, kt, kpos, k0, k1, k2]; cbv; try simp only [n1, hc, hat, kt, kpos, k0, k1, k2]; cbv; try simp only [n1, hc, hat, kt, kpos, k0, k1, k2]; cbv; try simp only [n1, hc, hat, kt, kpos, k0, k1, k2]; cbv) ?_
  refine oPA pf ?_
  refine goB hX 0 (by conv => lhs; cbv; try simp only [n1, hc, hat, kt, kpos, k0, k1, k2]; cbv; try simp only [n1, hc, hat, kt, kpos, k0, k1, k2]; cbv; try simp only [n1, hc, hat, kt, kpos, k0, k1, k2]; cbv; try simp only [n1, hc, hat, kt, kpos, k0, k1, k2]; cbv) ?_
  refine on_cond rfl (fun c1 => ?_) (fun c1 => ?_)
  ·
   simp [ee] at c1
  ·
   simp [ee] at c1
   refine goA 60 ?_
   refine oPA pq ?_
   refine goB hX 0 (by conv => lhs; cbv; try simp only [n1, hc, hat, kt, kpos, k0, k1, k2]; cbv; try simp only [n1, hc, hat, kt, kpos, k0, k1, k2]; cbv; try simp only [n1, hc, hat, kt, kpos, k0, k1, k2]; cbv; try simp only [n1, hc, hat, kt, kpos, k0, k1, k2]; cbv) ?_
   refine goB hX 1 (by conv => lhs; cbv; try simp only [n1, hc, hat, kt, kpos, k0, k1, k2]; cbv; try simp only [n1, hc, hat, kt, kpos, k0, k1, k2]; cbv; try simp only [n1, hc, hat, kt, kpos, k0, k1, k2]; cbv; try simp only [n1, hc, hat, kt, kpos, k0, k1, k2]; cbv) ?_
   refine on_cond rfl (fun c2 => ?_) (fun c2 => ?_)
   ·
    simp [ee] at c2
   ·
    simp [ee] at c2
    refine goA 60 ?_
    refine loopP_next (d ++ [f], r, iAdd .i64 i 1) ⟨by simp [g1], hi2, gc ▸ rfl⟩ (by simp) (ent_sub [.gone] [] ⟨trivial, trivial⟩ trivial ⟨.refl _, .cl kcA, trivial⟩)
def chkL : List Bs → List Sch → Int
 | _, [] => 0
 | seen, q :: r => if q.chk ≠ 0 then q.chk else if q.nm ∈ seen then 7 else chkL (seen ++ [q.nm]) r
def chkAll (l : List Sch) : Int := if 16 < l.length then 5 else chkL [] l
def fndI (l : List Sch) (nm : Bs) : Int := if chkAll l ≠ 0 then 0 else if Sch.wh l nm < 0 then 0 else Sch.wh l nm
def fndE (l : List Sch) (nm : Bs) : Int := if chkAll l ≠ 0 then chkAll l else if Sch.wh l nm < 0 then 6 else 0
def idxI (q : Sch) (nm : Bs) : Int := if q.chk ≠ 0 then 0 else if Fld.pos q.fs nm < 0 then 0 else Fld.pos q.fs nm
def idxE (q : Sch) (nm : Bs) : Int := if q.chk ≠ 0 then q.chk else if Fld.pos q.fs nm < 0 then 6 else 0
theorem chkF_zero : ∀ (r : List Fld) (s : List Bs), chkF s r = 0 ↔ (∀ f ∈ r, fnameB f.nm = true ∧ 0 ≤ f.kd ∧ f.kd < 3) ∧ (r.map Fld.nm).Nodup ∧ ∀ f ∈ r, f.nm ∉ s
 | [], s => by simp [chkF]
 | f :: r, s => by
  rw [chkF]
  have ih := chkF_zero r (s ++ [f.nm])
  by_cases h1 : fnameB f.nm = false
  · rw [if_pos h1]; simp [h1]
  rw [if_neg h1]
  by_cases h2 : f.nm ∈ s
  · rw [if_pos h2]; simp [h2]
  rw [if_neg h2]
  by_cases h3 : f.kd < 0 ∨ 3 ≤ f.kd
  · rw [if_pos h3]
    constructor
    · intro h; cases h
    · rintro ⟨h, _⟩
      have := h f (by simp)
      omega
  rw [if_neg h3, ih]
  constructor
  · rintro ⟨a, b, c⟩
    refine ⟨fun g hg => ?_, ?_, fun g hg => ?_⟩
    · rcases List.mem_cons.1 hg with rfl | hg
      · exact ⟨by simpa using h1, by omega, by omega⟩
      · exact a g hg
    · rw [List.map_cons, List.nodup_cons]
      refine ⟨fun h => ?_, b⟩
      obtain ⟨g, hg, e⟩ := List.mem_map.1 h
      exact c g hg (by simp [e])
    · rcases List.mem_cons.1 hg with rfl | hg
      · exact h2
      · intro h; exact c g hg (by simp [h])
  · rintro ⟨a, b, c⟩
    rw [List.map_cons, List.nodup_cons] at b
    refine ⟨fun g hg => a g (by simp [hg]), b.2, fun g hg h => ?_⟩
    rcases List.mem_append.1 h with h | h
    · exact c g (by simp [hg]) h
    · simp at h
      exact b.1 (List.mem_map.2 ⟨g, hg, h⟩)
theorem Sch.chk_zero (q : Sch) : q.chk = 0 ↔ nameB q.nm = true ∧ q.fs.length ≤ 8 ∧ (∀ f ∈ q.fs, fnameB f.nm = true ∧ 0 ≤ f.kd ∧ f.kd < 3) ∧ (q.fs.map Fld.nm).Nodup := by
 rw [Sch.chk]
 by_cases h1 : nameB q.nm = false
 · rw [if_pos h1]; simp [h1]
 rw [if_neg h1]
 by_cases h2 : 8 < q.fs.length
 · rw [if_pos h2]
   constructor
   · intro h; cases h
   · rintro ⟨_, h, _⟩; omega
 rw [if_neg h2, chkF_zero]
 simp at h1
 constructor
 · rintro ⟨a, b, _⟩; exact ⟨h1, by omega, a, b⟩
 · rintro ⟨_, _, a, b⟩; exact ⟨a, b, by simp⟩
theorem chkL_zero : ∀ (r : List Sch) (s : List Bs), chkL s r = 0 ↔ (∀ q ∈ r, q.chk = 0) ∧ (r.map Sch.nm).Nodup ∧ ∀ q ∈ r, q.nm ∉ s
 | [], s => by simp [chkL]
 | f :: r, s => by
  rw [chkL]
  have ih := chkL_zero r (s ++ [f.nm])
  by_cases h1 : f.chk ≠ 0
  · rw [if_pos h1]
    constructor
    · intro h; exact absurd h h1
    · rintro ⟨h, _⟩; exact h f (by simp)
  rw [if_neg h1]
  by_cases h2 : f.nm ∈ s
  · rw [if_pos h2]; simp [h2]
  rw [if_neg h2, ih]
  constructor
  · rintro ⟨a, b, c⟩
    refine ⟨fun g hg => ?_, ?_, fun g hg => ?_⟩
    · rcases List.mem_cons.1 hg with rfl | hg
      · simpa using h1
      · exact a g hg
    · rw [List.map_cons, List.nodup_cons]
      refine ⟨fun h => ?_, b⟩
      obtain ⟨g, hg, e⟩ := List.mem_map.1 h
      exact c g hg (by simp [e])
    · rcases List.mem_cons.1 hg with rfl | hg
      · exact h2
      · intro h; exact c g hg (by simp [h])
  · rintro ⟨a, b, c⟩
    rw [List.map_cons, List.nodup_cons] at b
    refine ⟨fun g hg => a g (by simp [hg]), b.2, fun g hg h => ?_⟩
    rcases List.mem_append.1 h with h | h
    · exact c g (by simp [hg]) h
    · simp at h
      exact b.1 (List.mem_map.2 ⟨g, hg, h⟩)
theorem chkAll_zero (l : List Sch) : chkAll l = 0 ↔ l.length ≤ 16 ∧ (∀ q ∈ l, q.chk = 0) ∧ (l.map Sch.nm).Nodup := by
 rw [chkAll]
 by_cases h : 16 < l.length
 · rw [if_pos h]
   constructor
   · intro h; cases h
   · rintro ⟨h, _⟩; omega
 rw [if_neg h, chkL_zero]
 constructor
 · rintro ⟨a, b, _⟩; exact ⟨by omega, a, b⟩
 · rintro ⟨_, a, b⟩; exact ⟨a, b, by simp⟩
def kw (k : Int) : Bs := if k = 0 then bInt else if k = 1 then bBool else bStr
def fmtF (f : Fld) : Bs := 32 :: (f.nm ++ 58 :: kw f.kd)
def fmtS (q : Sch) : Bs := q.nm ++ (q.fs.flatMap fmtF ++ [10])
def fmt (l : List Sch) : Bs := l.flatMap fmtS
theorem kw_len (k : Int) : (kw k).length ≤ 6 := by
 unfold kw
 split
 · decide
 · split <;> decide
structure Tok where
 at' : Nat
 fst : Bool
 w : Bs
def nsp (c : UInt8) : Bool := c != 32 && c != 10
theorem dropWhile_le (p : UInt8 → Bool) : ∀ l : Bs, (l.dropWhile p).length ≤ l.length
 | [] => by simp
 | c :: l => by
  rw [List.dropWhile_cons]
  have := dropWhile_le p l
  split <;> simp only [List.length_cons] <;> omega
def toks : Bs → Nat → Bool → List Tok
 | [], _, _ => []
 | c :: r, a, f => if c = 10 then toks r (a + 1) true else if c = 32 then toks r (a + 1) f else ⟨a, f, c :: r.takeWhile nsp⟩ :: toks (r.dropWhile nsp) (a + 1 + (r.takeWhile nsp).length) false
 termination_by l => l.length
 decreasing_by
  all_goals simp only [List.length_cons]
  · omega
  · omega
  · have := dropWhile_le nsp r; omega
theorem toks_nil (a : Nat) (f : Bool) : toks [] a f = [] := by rw [toks]
theorem toks_nl (r : Bs) (a : Nat) (f : Bool) : toks (10 :: r) a f = toks r (a + 1) true := by rw [toks, if_pos rfl]
theorem toks_sp (r : Bs) (a : Nat) (f : Bool) : toks (32 :: r) a f = toks r (a + 1) f := by rw [toks, if_neg (by decide), if_pos rfl]
def stops (r : Bs) : Prop := match r with
 | [] => True
 | c :: _ => nsp c = false
theorem take_nsp : ∀ {w r : Bs}, (∀ c ∈ w, nsp c = true) → stops r → (w ++ r).takeWhile nsp = w ∧ (w ++ r).dropWhile nsp = r
 | [], [], _, _ => by simp
 | [], c :: r, _, h => by
  have h : nsp c = false := h
  simp [h]
 | c :: w, r, h1, h2 => by
  have ih := take_nsp (w := w) (r := r) (fun x hx => h1 x (by simp [hx])) h2
  simp [h1 c (by simp), ih.1, ih.2]
theorem toks_word {w r : Bs} (a : Nat) (f : Bool) (h0 : w ≠ []) (h1 : ∀ c ∈ w, nsp c = true) (h2 : stops r) : toks (w ++ r) a f = ⟨a, f, w⟩ :: toks r (a + w.length) false := by
 cases w with
 | nil => exact absurd rfl h0
 | cons c w =>
  have hc := h1 c (by simp)
  have ht := take_nsp (w := w) (r := r) (fun x hx => h1 x (by simp [hx])) h2
  rw [List.cons_append, toks, if_neg (by rintro rfl; revert hc; decide), if_neg (by rintro rfl; revert hc; decide), ht.1, ht.2]
  simp only [List.length_cons]
  rw [Nat.add_assoc, Nat.add_comm 1]
theorem split_nsp : ∀ l : Bs, ∃ w r, l = w ++ r ∧ (∀ c ∈ w, nsp c = true) ∧ stops r
 | [] => ⟨[], [], rfl, by simp, trivial⟩
 | c :: l => by
  cases h : nsp c with
  | false => exact ⟨[], c :: l, rfl, by simp, h⟩
  | true =>
   obtain ⟨w, r, e, a, b⟩ := split_nsp l
   refine ⟨c :: w, r, by rw [e]; rfl, fun x hx => ?_, b⟩
   rcases List.mem_cons.1 hx with rfl | hx
   · exact h
   · exact a x hx
theorem toks_cases (l : Bs) : l = [] ∨ (∃ r, l = 10 :: r) ∨ (∃ r, l = 32 :: r) ∨ ∃ w r, l = w ++ r ∧ w ≠ [] ∧ (∀ c ∈ w, nsp c = true) ∧ stops r := by
 cases l with
 | nil => exact .inl rfl
 | cons c r =>
  by_cases h1 : c = 10
  · exact .inr (.inl ⟨r, by rw [h1]⟩)
  by_cases h2 : c = 32
  · exact .inr (.inr (.inl ⟨r, by rw [h2]⟩))
  obtain ⟨w, r', e, a, b⟩ := split_nsp r
  refine .inr (.inr (.inr ⟨c :: w, r', by rw [e]; rfl, by simp, fun x hx => ?_, b⟩))
  rcases List.mem_cons.1 hx with rfl | hx
  · simp [nsp, h1, h2]
  · exact a x hx
theorem toks_line : ∀ (n : Nat) (d r : Bs) (a : Nat) (f : Bool), d.length ≤ n → (10 : UInt8) ∉ d → toks (d ++ 10 :: r) a f = toks d a f ++ toks r (a + d.length + 1) true
 | 0, d, r, a, f, hn, _ => by
  cases d with
  | nil => rw [List.nil_append, toks_nl, toks_nil]; simp
  | cons c d => simp at hn
 | n + 1, d, r, a, f, hn, h => by
  rcases toks_cases d with rfl | ⟨d, rfl⟩ | ⟨d, rfl⟩ | ⟨w, d, rfl, h0, h1, h2⟩
  · rw [List.nil_append, toks_nl, toks_nil]; simp
  · simp at h
  · rw [List.cons_append, toks_sp, toks_sp, toks_line n d r (a + 1) f (by simp at hn; omega) (by simp at h; exact h)]
    simp only [List.length_cons]; congr 2; omega
  · have hd : (10 : UInt8) ∉ d := fun hh => h (by simp [hh])
    have hl : d.length ≤ n := by
     have := List.length_pos_iff.2 h0
     simp at hn; omega
    have h3 : stops (d ++ 10 :: r) := by
     cases d with
     | nil => show nsp 10 = false; decide
     | cons c d => exact h2
    rw [List.append_assoc, toks_word a f h0 h1 h3, toks_word a f h0 h1 h2, toks_line n d r (a + w.length) false hl hd]
    simp only [List.cons_append, List.length_append]; congr 3; omega
theorem toks_shift : ∀ (n : Nat) (l : Bs) (k a : Nat) (f : Bool), l.length ≤ n → toks l (k + a) f = (toks l a f).map fun t => ⟨k + t.at', t.fst, t.w⟩
 | 0, l, k, a, f, hn => by
  cases l with
  | nil => rw [toks_nil, toks_nil]; rfl
  | cons c d => simp at hn
 | n + 1, l, k, a, f, hn => by
  rcases toks_cases l with rfl | ⟨d, rfl⟩ | ⟨d, rfl⟩ | ⟨w, d, rfl, h0, h1, h2⟩
  · rw [toks_nil, toks_nil]; rfl
  · rw [toks_nl, toks_nl, Nat.add_assoc, toks_shift n d k (a + 1) true (by simp at hn; omega)]
  · rw [toks_sp, toks_sp, Nat.add_assoc, toks_shift n d k (a + 1) f (by simp at hn; omega)]
  · have hl : d.length ≤ n := by
     have := List.length_pos_iff.2 h0
     simp at hn; omega
    rw [toks_word (k + a) f h0 h1 h2, toks_word a f h0 h1 h2, Nat.add_assoc, toks_shift n d k (a + w.length) false hl]
    rfl
def kdOf (w : Bs) : Int := if w = bInt then 0 else if w = bBool then 1 else if w = bStr then 2 else -1
def begE (l : List Sch) (w : Bs) : Int := if (58 : UInt8) ∈ w then 4 else if l.length = 16 then 5 else if nameB w = false then 8 else if 0 ≤ Sch.wh l w then 7 else 0
def fldE (fs : List Fld) (w : Bs) : Int := if kdOf (cutR 58 w) < 0 then 4 else if fs.length = 8 then 5 else if fnameB (cutL 58 w) = false then 8 else if 0 ≤ Fld.pos fs (cutL 58 w) then 7 else 0
def newF (w : Bs) : Fld := ⟨cutL 58 w, kdOf (cutR 58 w)⟩
def lastF (l : List Sch) : List Fld := match l.getLast? with
 | some q => q.fs
 | none => []
def stepE (l : List Sch) (b : Bool) (w : Bs) : Int := if b then begE l w else fldE (lastF l) w
def addF (l : List Sch) (f : Fld) : List Sch := match l.getLast? with
 | some q => l.dropLast ++ [⟨q.nm, q.fs ++ [f]⟩]
 | none => []
def stepL (l : List Sch) (b : Bool) (w : Bs) : List Sch := if b then l ++ [⟨w, []⟩] else addF l (newF w)
theorem lastF_app (d : List Sch) (q : Sch) : lastF (d ++ [q]) = q.fs := by simp [lastF]
theorem addF_app (d : List Sch) (q : Sch) (f : Fld) : addF (d ++ [q]) f = d ++ [⟨q.nm, q.fs ++ [f]⟩] := by simp [addF]
def rdT : List Tok → List Sch → List Sch × Int × Int
 | [], l => (l, 0, 0)
 | t :: r, l => if stepE l t.fst t.w ≠ 0 then ([], (t.at' : Int), stepE l t.fst t.w) else rdT r (stepL l t.fst t.w)
def prs (s : Bs) : List Sch × Int × Int := if 65536 < s.length then ([], 0, 13) else rdT (toks s 0 true) []
theorem toks_at : ∀ (n : Nat) (l : Bs) (a : Nat) (f : Bool), l.length ≤ n → ∀ t ∈ toks l a f, a ≤ t.at' ∧ t.at' + t.w.length ≤ a + l.length ∧ t.w ≠ [] ∧ ∀ c ∈ t.w, nsp c = true
 | 0, l, a, f, hn, t, ht => by
  cases l with
  | nil => rw [toks_nil] at ht; cases ht
  | cons c d => simp at hn
 | n + 1, l, a, f, hn, t, ht => by
  rcases toks_cases l with rfl | ⟨d, rfl⟩ | ⟨d, rfl⟩ | ⟨w, d, rfl, h0, h1, h2⟩
  · rw [toks_nil] at ht; cases ht
  · rw [toks_nl] at ht
    have := toks_at n d (a + 1) true (by simp at hn; omega) t ht
    simp only [List.length_cons]; exact ⟨by omega, by omega, this.2.2⟩
  · rw [toks_sp] at ht
    have := toks_at n d (a + 1) f (by simp at hn; omega) t ht
    simp only [List.length_cons]; exact ⟨by omega, by omega, this.2.2⟩
  · have hl : d.length ≤ n := by
     have := List.length_pos_iff.2 h0
     simp at hn; omega
    rw [toks_word a f h0 h1 h2] at ht
    simp only [List.length_append]
    rcases List.mem_cons.1 ht with rfl | ht
    · exact ⟨Nat.le_refl _, by simp only; omega, h0, h1⟩
    · have := toks_at n d (a + w.length) false hl t ht
      exact ⟨by omega, by omega, this.2.2⟩
theorem rdT_bad : ∀ (r : List Tok) (l : List Sch), (rdT r l).2.2 ≠ 0 → (rdT r l).1 = [] ∧ ∃ t ∈ r, (rdT r l).2.1 = (t.at' : Int)
 | [], l, h => absurd rfl h
 | t :: r, l, h => by
  rw [rdT] at h ⊢
  by_cases g : stepE l t.fst t.w ≠ 0
  · rw [if_pos g]; exact ⟨rfl, t, by simp, rfl⟩
  · rw [if_neg g] at h ⊢
    obtain ⟨a, t', b, c⟩ := rdT_bad r _ h
    exact ⟨a, t', by simp [b], c⟩
theorem rdT_ok : ∀ (r : List Tok) (l : List Sch), (rdT r l).2.2 = 0 → (rdT r l).2.1 = 0
 | [], l, h => rfl
 | t :: r, l, h => by
  rw [rdT] at h ⊢
  by_cases g : stepE l t.fst t.w ≠ 0
  · rw [if_pos g] at h; exact absurd h g
  · rw [if_neg g] at h ⊢; exact rdT_ok r _ h
def wrd (l : Bs) (f : Bool) : List (Bool × Bs) := (toks l 0 f).map fun t => (t.fst, t.w)
theorem toks_wrd (l : Bs) (a : Nat) (f : Bool) : (toks l a f).map (fun t => (t.fst, t.w)) = wrd l f := by
 rw [wrd, ← Nat.add_zero a, toks_shift l.length l a 0 f (Nat.le_refl _), List.map_map]; rfl
theorem wrd_nil (f : Bool) : wrd [] f = [] := by rw [wrd, toks_nil]; rfl
theorem wrd_nl (r : Bs) (f : Bool) : wrd (10 :: r) f = wrd r true := by rw [wrd, toks_nl, toks_wrd]
theorem wrd_sp (r : Bs) (f : Bool) : wrd (32 :: r) f = wrd r f := by rw [wrd, toks_sp, toks_wrd]
theorem wrd_word {w r : Bs} (f : Bool) (h0 : w ≠ []) (h1 : ∀ c ∈ w, nsp c = true) (h2 : stops r) : wrd (w ++ r) f = (f, w) :: wrd r false := by
 rw [wrd, toks_word 0 f h0 h1 h2, List.map_cons, toks_wrd]
def rdW : List (Bool × Bs) → List Sch → Option (List Sch)
 | [], l => some l
 | (b, w) :: r, l => if stepE l b w ≠ 0 then none else rdW r (stepL l b w)
theorem rdT_W : ∀ (ts : List Tok) (l m : List Sch), rdW (ts.map fun t => (t.fst, t.w)) l = some m ↔ rdT ts l = (m, 0, 0)
 | [], l, m => by
  simp [rdW, rdT]
 | t :: r, l, m => by
  rw [List.map_cons, rdW, rdT]
  by_cases g : stepE l t.fst t.w ≠ 0
  · rw [if_pos g, if_pos g]
    constructor
    · intro h; cases h
    · intro h
      simp only [Prod.mk.injEq] at h
      exact absurd h.2.2 g
  · rw [if_neg g, if_neg g]
    exact rdT_W r _ m
theorem prs_of {s : Bs} {l : List Sch} (hs : s.length ≤ 65536) (h : rdW (wrd s true) [] = some l) : prs s = (l, 0, 0) := by
 rw [prs, if_neg (by omega)]
 exact (rdT_W _ _ _).1 (by rw [toks_wrd]; exact h)
theorem prs_ok {s : Bs} (h : (prs s).2.2 = 0) : s.length ≤ 65536 ∧ ∃ l, prs s = (l, 0, 0) ∧ rdW (wrd s true) [] = some l := by
 rw [prs] at h ⊢
 by_cases g : 65536 < s.length
 · rw [if_pos g] at h; cases h
 rw [if_neg g] at h ⊢
 have h2 := rdT_ok _ _ h
 generalize hr : rdT (toks s 0 true) [] = R at h h2 ⊢
 obtain ⟨l, i, e⟩ := R
 dsimp only at h h2
 subst h h2
 refine ⟨by omega, l, rfl, ?_⟩
 rw [← toks_wrd s 0 true]
 exact (rdT_W _ _ _).2 hr
theorem prs_bad {s : Bs} (h : (prs s).2.2 ≠ 0) : (prs s).1 = [] ∧ 0 ≤ (prs s).2.1 ∧ (prs s).2.1 ≤ s.length := by
 rw [prs] at h ⊢
 by_cases g : 65536 < s.length
 · rw [if_pos g]; exact ⟨rfl, by simp, by simp⟩
 rw [if_neg g] at h ⊢
 obtain ⟨a, t, b, c⟩ := rdT_bad _ _ h
 have := toks_at s.length s 0 true (Nat.le_refl _) t b
 refine ⟨a, ?_, ?_⟩ <;> rw [c] <;> omega
def fldW (f : Fld) : Bs := f.nm ++ 58 :: kw f.kd
def wordsF (l : List Fld) : List (Bool × Bs) := l.map fun f => (false, fldW f)
def wordsS (l : List Sch) : List (Bool × Bs) := l.flatMap fun q => (true, q.nm) :: wordsF q.fs
theorem okCh_ns (c : UInt8) (h : okCh c = true) : nsp c = true ∧ c ≠ 58 := by
 constructor
 · rw [nsp]
   by_cases h1 : c = 32
   · subst h1; revert h; decide
   by_cases h2 : c = 10
   · subst h2; revert h; decide
   simp [h1, h2]
 · rintro rfl; revert h; decide
theorem nameB_ch {w : Bs} (h : nameB w = true) : w ≠ [] ∧ w.length ≤ 24 ∧ (∀ c ∈ w, nsp c = true) ∧ (58 : UInt8) ∉ w := by
 cases w with
 | nil => simp [nameB] at h
 | cons c w =>
  simp only [nameB, Bool.and_eq_true, decide_eq_true_eq] at h
  obtain ⟨h1, h2, h3⟩ := h
  have ha : ∀ x ∈ c :: w, okCh x = true := fun x hx => List.all_eq_true.1 h3 x hx
  exact ⟨by simp, h1, fun x hx => (okCh_ns x (ha x hx)).1, fun hx => (okCh_ns _ (ha _ hx)).2 rfl⟩
theorem kw_ch (k : Int) : ∀ c ∈ kw k, nsp c = true ∧ c ≠ 58 := by
 unfold kw
 split
 · decide
 · split <;> decide
theorem kdOf_kw {k : Int} (h0 : 0 ≤ k) (h3 : k < 3) : kdOf (kw k) = k := by
 have : k = 0 ∨ k = 1 ∨ k = 2 := by omega
 rcases this with rfl | rfl | rfl <;> decide
theorem fldW_ch {f : Fld} (h : fnameB f.nm = true) : fldW f ≠ [] ∧ ∀ c ∈ fldW f, nsp c = true := by
 simp only [fnameB, Bool.and_eq_true] at h
 obtain ⟨a, _, b, _⟩ := nameB_ch h.1
 refine ⟨by simp [fldW], fun c hc => ?_⟩
 rw [fldW] at hc
 rcases List.mem_append.1 hc with hc | hc
 · exact b c hc
 · rcases List.mem_cons.1 hc with rfl | hc
   · decide
   · exact (kw_ch _ c hc).1
theorem fldW_new {f : Fld} (h : fnameB f.nm = true ∧ 0 ≤ f.kd ∧ f.kd < 3) : newF (fldW f) = f := by
 have hn := h.1
 simp only [fnameB, Bool.and_eq_true] at hn
 obtain ⟨_, _, _, b⟩ := nameB_ch hn.1
 rw [newF, fldW, cutL_app _ b, cutR_app _ b, kdOf_kw h.2.1 h.2.2]
theorem wrd_fields (g : Bs → Bs) (t : Bs) (ht : ∀ w, stops (g w)) (hw : ∀ w f, wrd (g w) f = wrd w f) (h32 : stops t) : ∀ l : List Fld, (∀ f ∈ l, fnameB f.nm = true) → stops (l.foldr (fun f r => g (fldW f ++ r)) t) ∧ wrd (l.foldr (fun f r => g (fldW f ++ r)) t) false = wordsF l ++ wrd t false
 | [], _ => ⟨h32, rfl⟩
 | f :: l, h => by
  have ih := wrd_fields g t ht hw h32 l fun x hx => h x (by simp [hx])
  obtain ⟨a, b⟩ := fldW_ch (h f (by simp))
  refine ⟨ht _, ?_⟩
  rw [List.foldr_cons, hw, wrd_word false a b ih.1, ih.2]; rfl
theorem wrd_lines (g e : Bs → Bs) (hg1 : ∀ w, stops (g w)) (hg2 : ∀ w f, wrd (g w) f = wrd w f) (he1 : ∀ w, stops (e w)) (he2 : ∀ w f, wrd (e w) f = wrd w true) (t : Bs) :
 ∀ l : List Sch, (∀ q ∈ l, q.chk = 0) → wrd (l.foldr (fun q r => q.nm ++ q.fs.foldr (fun f r => g (fldW f ++ r)) (e r)) t) true = wordsS l ++ wrd t true
 | [], _ => rfl
 | q :: l, h => by
  have ih := wrd_lines g e hg1 hg2 he1 he2 t l fun x hx => h x (by simp [hx])
  obtain ⟨h1, _, h3, _⟩ := (Sch.chk_zero q).1 (h q (by simp))
  obtain ⟨a, _, b, _⟩ := nameB_ch h1
  have hf := wrd_fields g (e (l.foldr (fun q r => q.nm ++ q.fs.foldr (fun f r => g (fldW f ++ r)) (e r)) t)) hg1 hg2 (he1 _) q.fs fun f hf => (h3 f hf).1
  rw [List.foldr_cons, wrd_word true a b hf.1, hf.2, he2, ih]
  simp [wordsS]
theorem fmt_fold (l : List Sch) : fmt l = l.foldr (fun q r => q.nm ++ q.fs.foldr (fun f r => 32 :: (fldW f ++ r)) (10 :: r)) [] := by
 have hf : ∀ (fs : List Fld) (r : Bs), fs.flatMap fmtF ++ r = fs.foldr (fun f r => 32 :: (fldW f ++ r)) r := by
  intro fs r
  induction fs with
  | nil => rfl
  | cons f fs ih => rw [List.flatMap_cons, List.append_assoc, ih]; rfl
 induction l with
 | nil => rfl
 | cons q l ih =>
  rw [fmt, List.flatMap_cons, ← fmt, ih, List.foldr_cons, fmtS, List.append_assoc, List.append_assoc, hf]; rfl
theorem wrd_fmt {l : List Sch} (h : ∀ q ∈ l, q.chk = 0) : wrd (fmt l) true = wordsS l := by
 rw [fmt_fold]
 have := wrd_lines (fun w => 32 :: w) (fun w => 10 :: w) (fun w => by show nsp 32 = false; decide) (fun w f => wrd_sp w f) (fun w => by show nsp 10 = false; decide) (fun w f => wrd_nl w f) [] l h
 rw [wrd_nil, List.append_nil] at this
 exact this
theorem rdW_fields (d : List Sch) (nm : Bs) (r : List (Bool × Bs)) : ∀ (b a : List Fld), (∀ f ∈ b, fnameB f.nm = true ∧ 0 ≤ f.kd ∧ f.kd < 3) → ((a ++ b).map Fld.nm).Nodup → (a ++ b).length ≤ 8 →
 rdW (wordsF b ++ r) (d ++ [⟨nm, a⟩]) = rdW r (d ++ [⟨nm, a ++ b⟩])
 | [], a, _, _, _ => by simp [wordsF]
 | f :: b, a, h1, h2, h3 => by
  obtain ⟨g1, g2, g3⟩ := h1 f (by simp)
  have hn := g1
  simp only [fnameB, Bool.and_eq_true] at hn
  obtain ⟨_, _, _, hc⟩ := nameB_ch hn.1
  have hpos : Fld.pos a f.nm = -1 := pos_miss fun x hx e => by
   rw [List.map_append, List.nodup_append] at h2
   exact h2.2.2 x.nm (List.mem_map.2 ⟨x, hx, rfl⟩) f.nm (by simp) e
  have he : stepE (d ++ [⟨nm, a⟩]) false (fldW f) = 0 := by
   simp only [stepE]
   rw [if_neg (by decide), lastF_app, fldE]
   dsimp only
   rw [fldW, cutL_app _ hc, cutR_app _ hc, kdOf_kw g2 g3, if_neg (by omega), if_neg (by simp at h3; omega), if_neg (by simp [g1]), hpos, if_neg (by decide)]
  have hl : stepL (d ++ [⟨nm, a⟩]) false (fldW f) = d ++ [⟨nm, a ++ [f]⟩] := by
   simp only [stepL]
   rw [if_neg (by decide), addF_app, fldW_new ⟨g1, g2, g3⟩]
  have ih := rdW_fields d nm r b (a ++ [f]) (fun x hx => h1 x (by simp [hx])) (by simpa using h2) (by simpa using h3)
  show rdW ((false, fldW f) :: (wordsF b ++ r)) _ = _
  rw [rdW, if_neg (by rw [he]; simp), hl, ih]; simp
theorem rdW_schs : ∀ (b a : List Sch), (∀ q ∈ b, q.chk = 0) → ((a ++ b).map Sch.nm).Nodup → (a ++ b).length ≤ 16 → rdW (wordsS b) a = some (a ++ b)
 | [], a, _, _, _ => by simp [wordsS, rdW]
 | q :: b, a, h1, h2, h3 => by
  obtain ⟨g1, g2, g3, g4⟩ := (Sch.chk_zero q).1 (h1 q (by simp))
  obtain ⟨_, _, _, hc⟩ := nameB_ch g1
  have hwh : Sch.wh a q.nm = -1 := wh_miss fun x hx e => by
   rw [List.map_append, List.nodup_append] at h2
   exact h2.2.2 x.nm (List.mem_map.2 ⟨x, hx, rfl⟩) q.nm (by simp) e
  have he : stepE a true q.nm = 0 := by
   show begE a q.nm = 0
   rw [begE, if_neg hc, if_neg (by simp at h3; omega), if_neg (by simp [g1]), hwh, if_neg (by decide)]
  have hl : stepL a true q.nm = a ++ [⟨q.nm, []⟩] := by
   rfl
  have ih := rdW_schs b (a ++ [q]) (fun x hx => h1 x (by simp [hx])) (by simpa using h2) (by simpa using h3)
  rw [wordsS, List.flatMap_cons, ← wordsS, List.cons_append, rdW, if_neg (by rw [he]; simp), hl, rdW_fields a q.nm (wordsS b) q.fs [] g3 (by simpa using g4) (by simpa using g2), List.nil_append]
  rw [show a ++ [({ nm := q.nm, fs := q.fs } : Sch)] = a ++ [q] from rfl, ih]
  simp
theorem rdW_all {l : List Sch} (h : chkAll l = 0) : rdW (wordsS l) [] = some l := by
 obtain ⟨h1, h2, h3⟩ := (chkAll_zero l).1 h
 have := rdW_schs l [] h2 (by simpa using h3) (by simpa using h1)
 simpa using this
theorem fmt_len {l : List Sch} (h : chkAll l = 0) : (fmt l).length ≤ 4496 := by
 obtain ⟨h1, h2, _⟩ := (chkAll_zero l).1 h
 have hq : ∀ q ∈ l, (fmtS q).length ≤ 281 := fun q hq => by
  obtain ⟨g1, g2, g3, _⟩ := (Sch.chk_zero q).1 (h2 q hq)
  have hn := (nameB_ch g1).2.1
  have hf : ∀ fs : List Fld, (∀ f ∈ fs, fnameB f.nm = true) → (fs.flatMap fmtF).length ≤ fs.length * 32 := by
   intro fs
   induction fs with
   | nil => simp
   | cons f fs ih =>
    intro hfs
    have i1 := ih fun x hx => hfs x (by simp [hx])
    have := hfs f (by simp)
    simp only [fnameB, Bool.and_eq_true] at this
    have := (nameB_ch this.1).2.1
    have := kw_len f.kd
    rw [List.flatMap_cons, List.length_append, List.length_cons]
    simp only [fmtF, List.length_cons, List.length_append]
    omega
  have := hf q.fs fun f hf => (g3 f hf).1
  rw [fmtS, List.length_append, List.length_append]
  simp only [List.length_cons, List.length_nil]
  omega
 have : ∀ l : List Sch, (∀ q ∈ l, (fmtS q).length ≤ 281) → (fmt l).length ≤ l.length * 281 := by
  intro l
  induction l with
  | nil => simp [fmt]
  | cons q l ih =>
   intro h
   have := ih fun x hx => h x (by simp [hx])
   have := h q (by simp)
   rw [fmt, List.flatMap_cons, ← fmt, List.length_append, List.length_cons]
   omega
 have := this l hq
 omega
theorem prs_fmt {l : List Sch} (h : chkAll l = 0) : prs (fmt l) = (l, 0, 0) :=
 prs_of (by have := fmt_len h; omega) (by rw [wrd_fmt ((chkAll_zero l).1 h).2.1]; exact rdW_all h)
theorem not_in {c : UInt8} {w : Bs} (hc : nsp c = false) (h : ∀ x ∈ w, nsp x = true) : c ∉ w := fun hh => by rw [h c hh] at hc; cases hc
theorem wh_ge {l : List Sch} {nm : Bs} (h : ¬ 0 ≤ Sch.wh l nm) : ∀ q ∈ l, q.nm ≠ nm := by
 intro q hq e
 have : ∀ (l : List Sch) (i : Int), q ∈ l → 0 ≤ i → 0 ≤ whF nm l i := by
  intro l
  induction l with
  | nil => intro i h; cases h
  | cons x l ih =>
   intro i h hi
   rw [whF]
   by_cases g : x.nm = nm
   · rw [if_pos g]; exact hi
   · rw [if_neg g]
     rcases List.mem_cons.1 h with rfl | h
     · exact absurd e g
     · exact ih (i + 1) h (by omega)
 exact h (this l 0 hq (by omega))
theorem pos_ge {l : List Fld} {nm : Bs} (h : ¬ 0 ≤ Fld.pos l nm) : ∀ q ∈ l, q.nm ≠ nm := by
 intro q hq e
 have : ∀ (l : List Fld) (i : Int), q ∈ l → 0 ≤ i → 0 ≤ posF nm l i := by
  intro l
  induction l with
  | nil => intro i h; cases h
  | cons x l ih =>
   intro i h hi
   rw [posF]
   by_cases g : x.nm = nm
   · rw [if_pos g]; exact hi
   · rw [if_neg g]
     rcases List.mem_cons.1 h with rfl | h
     · exact absurd e g
     · exact ih (i + 1) h (by omega)
 exact h (this l 0 hq (by omega))
theorem step_ok {l : List Sch} {b : Bool} {w : Bs} (hl : chkAll l = 0) (hb : b = true ∨ l ≠ []) (h : stepE l b w = 0) : chkAll (stepL l b w) = 0 ∧ stepL l b w ≠ [] := by
  obtain ⟨h1, h2, h3⟩ := (chkAll_zero l).1 hl
  cases b with
  | true =>
    have h : begE l w = 0 := h
    have e : stepL l true w = l ++ [⟨w, []⟩] := rfl
    rw [e]
    refine ⟨(chkAll_zero _).2 ?_, by simp⟩
    rw [begE] at h
    by_cases g1 : (58 : UInt8) ∈ w
    · rw [if_pos g1] at h; cases h
    rw [if_neg g1] at h
    by_cases g2 : l.length = 16
    · rw [if_pos g2] at h; cases h
    rw [if_neg g2] at h
    by_cases g3 : nameB w = false
    · rw [if_pos g3] at h; cases h
    rw [if_neg g3] at h
    by_cases g4 : 0 ≤ Sch.wh l w
    · rw [if_pos g4] at h; cases h
    refine ⟨by simp; omega, fun q hq => ?_, ?_⟩
    · rcases List.mem_append.1 hq with hq | hq
      · exact h2 q hq
      · simp at hq; subst hq
        exact (Sch.chk_zero _).2 ⟨by simpa using g3, by simp, by simp, by simp⟩
    · rw [List.map_append, List.nodup_append]
      refine ⟨h3, by simp, ?_⟩
      intro a ha b hb
      simp at hb; subst hb
      obtain ⟨q, hq, rfl⟩ := List.mem_map.1 ha
      exact wh_ge g4 q hq
  | false =>
    have hne : l ≠ [] := by rcases hb with hb | hb; cases hb; exact hb
    obtain ⟨a, q, rfl⟩ : ∃ a q, l = a ++ [q] := ⟨l.dropLast, l.getLast hne, (List.dropLast_concat_getLast hne).symm⟩
    have h : fldE (lastF (a ++ [q])) w = 0 := h
    have e : stepL (a ++ [q]) false w = a ++ [⟨q.nm, q.fs ++ [newF w]⟩] := addF_app a q (newF w)
    rw [e]
    refine ⟨(chkAll_zero _).2 ?_, by simp⟩
    rw [lastF_app, fldE] at h
    by_cases g1 : kdOf (cutR 58 w) < 0
    · rw [if_pos g1] at h; cases h
    rw [if_neg g1] at h
    by_cases g2 : q.fs.length = 8
    · rw [if_pos g2] at h; cases h
    rw [if_neg g2] at h
    by_cases g3 : fnameB (cutL 58 w) = false
    · rw [if_pos g3] at h; cases h
    rw [if_neg g3] at h
    by_cases g4 : 0 ≤ Fld.pos q.fs (cutL 58 w)
    · rw [if_pos g4] at h; cases h
    obtain ⟨i1, i2, i3, i4⟩ := (Sch.chk_zero q).1 (h2 q (by simp))
    have hk : kdOf (cutR 58 w) < 3 := by rw [kdOf]; split; · decide
                                         split; · decide
                                         split <;> decide
    refine ⟨by simpa using h1, fun p hp => ?_, by simpa using h3⟩
    rcases List.mem_append.1 hp with hp | hp
    · exact h2 p (by simp [hp])
    · simp at hp; subst hp
      refine (Sch.chk_zero _).2 ⟨i1, by simp; omega, fun f hf => ?_, ?_⟩
      · dsimp only at hf
        rcases List.mem_append.1 hf with hf | hf
        · exact i3 f hf
        · simp at hf; subst hf
          exact ⟨by simpa [newF] using g3, by simp [newF]; omega, hk⟩
      · dsimp only
        rw [List.map_append, List.nodup_append]
        refine ⟨i4, by simp, ?_⟩
        intro x hx b hb
        simp at hb; subst hb
        obtain ⟨f, hf, rfl⟩ := List.mem_map.1 hx
        exact pos_ge g4 f hf
theorem rdW_wf : ∀ (r : List (Bool × Bs)) (l m : List Sch), chkAll l = 0 → (l ≠ [] ∨ r = [] ∨ ∃ w r', r = (true, w) :: r') → rdW r l = some m → chkAll m = 0
 | [], l, m, hl, _, h => by
  simp only [rdW, Option.some.injEq] at h
  rw [← h]; exact hl
 | (b, w) :: r, l, m, hl, hb, h => by
  rw [rdW] at h
  by_cases g : stepE l b w ≠ 0
  · rw [if_pos g] at h; cases h
  rw [if_neg g] at h
  have hs := step_ok (w := w) hl (by
   rcases hb with hb | hb | ⟨w', r', hb⟩
   · exact .inr hb
   · cases hb
   · simp only [List.cons.injEq, Prod.mk.injEq] at hb; exact .inl hb.1.1) (by simpa using g)
  exact rdW_wf r _ m hs.1 (.inl hs.2) h
theorem wrd_first : ∀ (n : Nat) (l : Bs), l.length ≤ n → wrd l true = [] ∨ ∃ w r', wrd l true = (true, w) :: r'
 | 0, l, hn => by
  cases l with
  | nil => exact .inl (wrd_nil _)
  | cons c d => simp at hn
 | n + 1, l, hn => by
  rcases toks_cases l with rfl | ⟨d, rfl⟩ | ⟨d, rfl⟩ | ⟨w, d, rfl, h0, h1, h2⟩
  · exact .inl (wrd_nil _)
  · rw [wrd_nl]; exact wrd_first n d (by simp at hn; omega)
  · rw [wrd_sp]; exact wrd_first n d (by simp at hn; omega)
  · rw [wrd_word true h0 h1 h2]; exact .inr ⟨w, _, rfl⟩
theorem prs_wf {s : Bs} {l : List Sch} (h : rdW (wrd s true) [] = some l) : chkAll l = 0 :=
 rdW_wf _ _ _ (by decide) (.inr (wrd_first s.length s (Nat.le_refl _))) h
theorem nodup_at {α β : Type} {g : α → β} {l d r : List α} {x : α} (h : (l.map g).Nodup) (e : l = d ++ x :: r) : ∀ y ∈ d, g y ≠ g x := by
 intro y hy hh
 rw [e, List.map_append, List.nodup_append] at h
 exact h.2.2 (g y) (List.mem_map.2 ⟨y, hy, rfl⟩) (g x) (by simp) hh
theorem fnd_hit {l d r : List Sch} {q : Sch} (h : chkAll l = 0) (e : l = d ++ q :: r) : fndI l q.nm = d.length ∧ fndE l q.nm = 0 := by
 have hw : Sch.wh l q.nm = d.length := wh_hit e (nodup_at ((chkAll_zero l).1 h).2.2 e) rfl
 have k : ¬ ((d.length : Int) < 0) := by omega
 simp [fndI, fndE, h, hw, k]
theorem fnd_some {l : List Sch} {nm : Bs} (h : chkAll l = 0) : fndE l nm = if nm ∈ l.map Sch.nm then 0 else 6 := by
 rw [fndE, if_neg (by simp [h])]
 by_cases g : nm ∈ l.map Sch.nm
 · rw [if_pos g]
   obtain ⟨q, hq, e⟩ := List.mem_map.1 g
   by_cases k : 0 ≤ Sch.wh l nm
   · rw [if_neg (by omega)]
   · exact absurd e (wh_ge k q hq)
 · rw [if_neg g, wh_miss fun f hf e => g (List.mem_map.2 ⟨f, hf, e⟩), if_pos (by decide)]
theorem idx_hit {q : Sch} {d r : List Fld} {f : Fld} (h : q.chk = 0) (e : q.fs = d ++ f :: r) : idxI q f.nm = d.length ∧ idxE q f.nm = 0 := by
 have hw : Fld.pos q.fs f.nm = d.length := pos_hit e (nodup_at ((Sch.chk_zero q).1 h).2.2.2 e) rfl
 have k : ¬ ((d.length : Int) < 0) := by omega
 simp [idxI, idxE, h, hw, k]
def cmpL (a : List Fld) : List Fld → Option (List Int)
 | [] => some []
 | f :: r => if Fld.pos a f.nm < 0 then none else if (a[(Fld.pos a f.nm).toNat]?).map Fld.kd ≠ some f.kd then none else (cmpL a r).map (Fld.pos a f.nm :: ·)
def cmpE (a b : Sch) : Int := if a.chk ≠ 0 then a.chk else b.chk
def cmpQ (a b : Sch) : Option (List Int) := if cmpE a b ≠ 0 then none else cmpL a.fs b.fs
theorem pos_cases (a : List Fld) (nm : Bs) : (Fld.pos a nm = -1 ∧ ∀ f ∈ a, f.nm ≠ nm) ∨ ∃ d f r, a = d ++ f :: r ∧ f.nm = nm ∧ (∀ g ∈ d, g.nm ≠ nm) ∧ Fld.pos a nm = d.length := by
 by_cases h : ∀ f ∈ a, f.nm ≠ nm
 · exact .inl ⟨pos_miss h, h⟩
 · have : ∀ a : List Fld, (¬ ∀ f ∈ a, f.nm ≠ nm) → ∃ d f r, a = d ++ f :: r ∧ f.nm = nm ∧ (∀ g ∈ d, g.nm ≠ nm) := by
    intro a
    induction a with
    | nil => intro h; exact absurd (by simp) h
    | cons x a ih =>
     intro h
     by_cases g : x.nm = nm
     · exact ⟨[], x, a, rfl, g, by simp⟩
     · obtain ⟨d, f, r, e, e2, e3⟩ := ih fun h2 => h (by simpa [g] using h2)
       exact ⟨x :: d, f, r, by rw [e]; rfl, e2, by simpa [g] using e3⟩
   obtain ⟨d, f, r, e, e2, e3⟩ := this a h
   exact .inr ⟨d, f, r, e, e2, e3, pos_hit e e3 e2⟩
theorem P_CheckAll (l : List Sch) (hl : l.length < 1152921504606846976) (hs : ∀ q ∈ l, q.Short) : PCall EE 25 [.isl 2 (mapE Sch.enc l)] (int (chkAll l)) := by
 have kcl := Sch.closedI l
 rw [chkAll]
 refine wordsN ?_; unhygienic intros
 generalize hes : mapE Sch.enc l = es at *
 have hel : es.length = l.length := by rw [← hes, mapE_len]
 by_cases h8 : 16 < l.length
 · have k8 : iLt 16 (lenA es) = true := by simp only [ee]; simp; omega
   rw [if_pos h8]
   refine fn_body (fn := Tryd.f25) (n := 30) (ac := Trydc25) (rvs := [.t 2]) rfl (by decide) Trydp25 rfl rfl rfl ?_
   refine goB hX 0 (by conv => lhs; cbv; try simp only [k8]; cbv; try simp only [k8]; cbv; try simp only [k8]; cbv; try simp only [k8]; cbv) ?_
   refine goA 60 ?_
   refine fn_ret rfl rfl (.val ?_)
   rfl
 have k8 : iLt 16 (lenA es) = false := by simp only [ee]; simp; omega
 rw [if_neg h8]
 refine fn_body (fn := Tryd.f25) (n := 30) (ac := Trydc25) (rvs := [.t 2]) rfl (by decide) Trydp25 rfl rfl rfl ?_
 refine goB hX 0 (by conv => lhs; cbv; try simp only [k8]; cbv; try simp only [k8]; cbv; try simp only [k8]; cbv; try simp only [k8]; cbv) ?_
 refine goA 60 ?_
 refine on_loopP (ι := List Sch × List Sch × Int × List (AV × AV)) (fun p => ([(13, int p.2.2.1), (12, int (lenA es)), (11, .isl 2 es), (3, .amap 0)], [.amap p.2.2.2])) (fun p => l = p.1 ++ p.2.1 ∧ p.2.2.1 = p.1.length ∧ p.2.2.2 = ents (p.1.map Sch.nm) ∧ chkL [] l = chkL (p.1.map Sch.nm) p.2.1) (fun p => p.2.1.length) ([], l, 0, []) ⟨rfl, rfl, rfl, rfl⟩ ?_ ?_
 · have kcM : closedM [] = true := rfl
   exact (ent_sub [.to 0] [some 0] ⟨⟨by simp, rfl⟩, trivial⟩ ⟨osrc_amap (b := 0) rfl rfl rfl rfl (by rfl), trivial⟩ ⟨.refl _, .refl _, .cl kcl, .refl _, trivial⟩)
 rintro ⟨d, r, i, m⟩ ⟨g1, gi, gm, gc⟩
 dsimp only at g1 gi gm gc ⊢
 cases r with
 | nil =>
  have L1 := len_split g1
  try simp only [List.length] at L1
  have hc : iLt i (lenA es) = false := lt_f e_iLt e_lenA (by omega)
  rw [gc, chkL]
  refine goB hX 0 (by conv => lhs; cbv; try simp only [hc]; cbv; try simp only [hc]; cbv; try simp only [hc]; cbv; try simp only [hc]; cbv) ?_
  refine goA 60 ?_
  refine loopP_exit ?_
  refine goA 60 ?_
  refine fn_ret rfl rfl (.val ?_)
  rfl
 | cons f r =>
  have L1 := len_split g1
  try simp only [List.length] at L1
  have hc : iLt i (lenA es) = true := lt_t e_iLt e_lenA (by omega)
  have hat := el_at e_atA hes g1 gi
  have hi2 : iAdd .i64 i 1 = ((d ++ [f]).length : Int) := by rw [List.length_append]; exact inc_w e_iAdd gi (by omega)
  have pf := P_Check f (hs f (by rw [g1]; simp))
  have gc2 : chkL (d.map Sch.nm ++ [f.nm]) r = chkL ((d ++ [f]).map Sch.nm) r := by simp
  rw [chkL, gc2] at gc
  rw [gc]
  clear hs
  rw [Sch.enc_eq] at hat pf
  have kcf := Fld.closedI f.fs
  have kokL : mOkL true m (str (ba f.nm)) = true := by rw [gm]; exact ents_ok _ _
  have kok : mOk true m (str (ba f.nm)) = true := by simp only [ee]; rw [gm]; exact ents_ok _ _
  have kget : mGet true m (str (ba f.nm)) (bool false) = bool (decide (f.nm ∈ d.map Sch.nm)) := by simp only [ee]; rw [gm]; exact ents_get _ _
  have kput : f.nm ∉ d.map Sch.nm → mPut true m (str (ba f.nm)) (bool true) = ents ((d ++ [f]).map Sch.nm) := fun h => by simp only [ee]; rw [gm, ents_put _ _ h]; simp
  have kk1 : f.chk ≠ 0 → iNe f.chk 0 = true := fun h => by simp only [ee]; simpa using h
  have kk2 : ¬ f.chk ≠ 0 → iNe f.chk 0 = false := fun h => by simp only [ee]; simpa using h
  clear gc2
  generalize mapE Fld.enc f.fs = fe at *
  generalize f.chk = fc at *
  generalize hin : decide (f.nm ∈ d.map Sch.nm) = bi at *
  generalize ba f.nm = fs at *
  have kcA : AV.closedL [str fs, .isl 2 fe] = true := by simp [AV.closedL, closed_v, kcf]
  by_cases n0 : fc ≠ 0
  · have k0 := kk1 n0
    rw [if_pos n0]
    clear kk1 kk2 kput kokL kget kok gc
    refine goB hX 0 (by conv => lhs; cbv; try simp only [hc, hat, k0]; cbv; try simp only [hc, hat, k0]; cbv; try simp only [hc, hat, k0]; cbv; try simp only [hc, hat, k0]; cbv) ?_
    refine goB hX 1 (by conv => lhs; cbv; try simp only [hc, hat, k0]; cbv; try simp only [hc, hat, k0]; cbv; try simp only [hc, hat, k0]; cbv; try simp only [hc, hat, k0]; cbv) ?_
    refine oPA pf ?_
    refine goB hX 0 (by conv => lhs; cbv; try simp only [hc, hat, k0]; cbv; try simp only [hc, hat, k0]; cbv; try simp only [hc, hat, k0]; cbv; try simp only [hc, hat, k0]; cbv) ?_
    refine goA 60 ?_
    refine loopP_ret ?_
    refine goA 60 ?_
    refine fn_ret rfl rfl (.val ?_)
    rfl
  have k0 := kk2 n0
  rw [if_neg n0] at gc ⊢
  clear kk1 kk2
  cases bi with
  | true =>
   rw [if_pos (of_decide_eq_true hin)]
   clear kput kokL gc
   refine goB hX 0 (by conv => lhs; cbv; try simp only [hc, hat, k0, kget, kok]; cbv; try simp only [hc, hat, k0, kget, kok]; cbv; try simp only [hc, hat, k0, kget, kok]; cbv; try simp only [hc, hat, k0, kget, kok]; cbv) ?_
   refine goB hX 1 (by conv => lhs; cbv; try simp only [hc, hat, k0, kget, kok]; cbv; try simp only [hc, hat, k0, kget, kok]; cbv; try simp only [hc, hat, k0, kget, kok]; cbv; try simp only [hc, hat, k0, kget, kok]; cbv) ?_
   refine oPA pf ?_
   refine goB hX 0 (by conv => lhs; cbv; try simp only [hc, hat, k0, kget, kok]; cbv; try simp only [hc, hat, k0, kget, kok]; cbv; try simp only [hc, hat, k0, kget, kok]; cbv; try simp only [hc, hat, k0, kget, kok]; cbv) ?_
   refine goB hX 1 (by conv => lhs; cbv; try simp only [hc, hat, k0, kget, kok]; cbv; try simp only [hc, hat, k0, kget, kok]; cbv; try simp only [hc, hat, k0, kget, kok]; cbv; try simp only [hc, hat, k0, kget, kok]; cbv) ?_
   refine goA 60 ?_
   refine loopP_ret ?_
   refine goA 60 ?_
   refine fn_ret rfl rfl (.val ?_)
   rfl
  | false =>
  rw [if_neg (of_decide_eq_false hin)] at gc ⊢
  have kp := kput (of_decide_eq_false hin)
  clear kput
  have kcM : closedM (mPut true m (str fs) (bool true)) = true := by rw [kp]; exact ents_cl _
  refine goB hX 0 (by conv => lhs; cbv; try simp only [hc, hat, k0, kget, kok]; cbv; try simp only [hc, hat, k0, kget, kok]; cbv; try simp only [hc, hat, k0, kget, kok]; cbv; try simp only [hc, hat, k0, kget, kok]; cbv) ?_
  refine goB hX 1 (by conv => lhs; cbv; try simp only [hc, hat, k0, kget, kok]; cbv; try simp only [hc, hat, k0, kget, kok]; cbv; try simp only [hc, hat, k0, kget, kok]; cbv; try simp only [hc, hat, k0, kget, kok]; cbv) ?_
  refine oPA pf ?_
  refine goB hX 0 (by conv => lhs; cbv; try simp only [hc, hat, k0, kget, kok]; cbv; try simp only [hc, hat, k0, kget, kok]; cbv; try simp only [hc, hat, k0, kget, kok]; cbv; try simp only [hc, hat, k0, kget, kok]; cbv) ?_
  refine goB hX 1 (by conv => lhs; cbv; try simp only [hc, hat, k0, kget, kok]; cbv; try simp only [hc, hat, k0, kget, kok]; cbv; try simp only [hc, hat, k0, kget, kok]; cbv; try simp only [hc, hat, k0, kget, kok]; cbv) ?_
  refine go rfl hX 60 (by conv => lhs; cbv) ?_ ?_
  · simp only [ee]; simp only [kokL]; trivial
  refine loopP_next (d ++ [f], r, iAdd .i64 i 1, mPut true m (str fs) (bool true)) ⟨by simp [g1], hi2, kp, gc ▸ rfl⟩ (by simp) (ent_sub [.to 0, .gone] [some 0] ⟨⟨by simp, rfl⟩, trivial, trivial⟩ ⟨osrc_amap (b := 0) rfl rfl rfl rfl (by assumption), trivial⟩ ⟨.refl _, .refl _, .cl kcl, .refl _, trivial⟩)
theorem whF_in {nm : Bs} : ∀ (d r : List Sch) (i : Int), nm ∈ d.map Sch.nm → whF nm (d ++ r) i < i + d.length
 | [], _, _, h => by simp at h
 | f :: d, r, i, h => by
  rw [List.cons_append, whF]
  by_cases e : f.nm = nm
  · rw [if_pos e]; simp; omega
  · rw [if_neg e]
    have := whF_in d r (i + 1) (by simpa [Ne.symm e] using h)
    simp only [List.length_cons]; omega
theorem wh_lt {l d r : List Sch} {f : Sch} (h : l = d ++ f :: r) : decide (Sch.wh l f.nm < (d.length : Int)) = decide (f.nm ∈ d.map Sch.nm) := by
 apply decide_eq_decide.2
 constructor
 · intro h1
   refine Classical.byContradiction fun h2 => ?_
   have := wh_hit h (fun g hg e => h2 (List.mem_map.2 ⟨g, hg, e⟩)) rfl
   omega
 · intro h1
   have := whF_in d (f :: r) 0 h1
   rw [Sch.wh, h]; omega
theorem P_refCheckAll (l : List Sch) (hl : l.length < 1152921504606846976) (hs : ∀ q ∈ l, q.Short) : PCall EE 28 [.isl 2 (mapE Sch.enc l)] (int (chkAll l)) := by
 have kcl := Sch.closedI l
 have pp := fun nm => P_Where l nm hl
 rw [chkAll]
 refine wordsN ?_; unhygienic intros
 generalize hes : mapE Sch.enc l = es at *
 have hel : es.length = l.length := by rw [← hes, mapE_len]
 by_cases h8 : 16 < l.length
 · have k8 : iLt 16 (lenA es) = true := by simp only [ee]; simp; omega
   rw [if_pos h8]
   clear pp
   refine fn_body (fn := Tryd.f28) (n := 31) (ac := Trydc28) (rvs := [.t 2]) rfl (by decide) Trydp28 rfl rfl rfl ?_
   refine goB hX 0 (by conv => lhs; cbv; try simp only [k8]; cbv; try simp only [k8]; cbv; try simp only [k8]; cbv; try simp only [k8]; cbv) ?_
   refine goA 60 ?_
   refine fn_ret rfl rfl (.val ?_)
   rfl
 have k8 : iLt 16 (lenA es) = false := by simp only [ee]; simp; omega
 rw [if_neg h8]
 refine fn_body (fn := Tryd.f28) (n := 31) (ac := Trydc28) (rvs := [.t 2]) rfl (by decide) Trydp28 rfl rfl rfl ?_
 refine goB hX 0 (by conv => lhs; cbv; try simp only [k8]; cbv; try simp only [k8]; cbv; try simp only [k8]; cbv; try simp only [k8]; cbv) ?_
 refine goA 60 ?_
 refine on_loopP (ι := List Sch × List Sch × Int) (fun p => ([(3, int p.2.2), (0, .isl 2 es)], [])) (fun p => l = p.1 ++ p.2.1 ∧ p.2.2 = p.1.length ∧ chkL [] l = chkL (p.1.map Sch.nm) p.2.1) (fun p => p.2.1.length) ([], l, 0) ⟨rfl, rfl, rfl⟩ ?_ ?_
 · exact (ent_sub [] [] trivial trivial ⟨.refl _, .cl kcl, trivial⟩)
 rintro ⟨d, r, i⟩ ⟨g1, gi, gc⟩
 dsimp only at g1 gi gc ⊢
 cases r with
 | nil =>
  have L1 := len_split g1
  try simp only [List.length] at L1
  have hc : iLt i (lenA es) = false := lt_f e_iLt e_lenA (by omega)
  rw [gc, chkL]
  refine goB hX 0 (by conv => lhs; cbv; try simp only [hc]; cbv; try simp only [hc]; cbv; try simp only [hc]; cbv; try simp only [hc]; cbv) ?_
  refine goA 60 ?_
  refine loopP_exit ?_
  refine goA 60 ?_
  refine fn_ret rfl rfl (.val ?_)
  rfl
 | cons f r =>
  have L1 := len_split g1
  try simp only [List.length] at L1
  have hc : iLt i (lenA es) = true := lt_t e_iLt e_lenA (by omega)
  have hat := el_at e_atA hes g1 gi
  have hi2 : iAdd .i64 i 1 = ((d ++ [f]).length : Int) := by rw [List.length_append]; exact inc_w e_iAdd gi (by omega)
  have pf := P_refCheck f (hs f (by rw [g1]; simp))
  have pq := pp f.nm
  have gc2 : chkL (d.map Sch.nm ++ [f.nm]) r = chkL ((d ++ [f]).map Sch.nm) r := by simp
  rw [chkL, gc2] at gc
  rw [gc]
  clear hs pp
  rw [Sch.enc_eq] at hat pf
  have kcf := Fld.closedI f.fs
  have kpos : iLt (Sch.wh l f.nm) i = decide (f.nm ∈ d.map Sch.nm) := by simp only [ee]; rw [gi]; exact wh_lt g1
  have kk1 : f.chk ≠ 0 → iNe f.chk 0 = true := fun h => by simp only [ee]; simpa using h
  have kk2 : ¬ f.chk ≠ 0 → iNe f.chk 0 = false := fun h => by simp only [ee]; simpa using h
  clear gc2
  generalize mapE Fld.enc f.fs = fe at *
  generalize f.chk = fc at *
  generalize hin : decide (f.nm ∈ d.map Sch.nm) = bi at *
  generalize Sch.wh l f.nm = P at *
  generalize ba f.nm = fs at *
  have kcA : AV.closedL [str fs, .isl 2 fe] = true := by simp [AV.closedL, closed_v, kcf]
  by_cases n0 : fc ≠ 0
  · have k0 := kk1 n0
    rw [if_pos n0]
    clear kk1 kk2 kpos gc
    refine goB hX 0 (by conv => lhs; cbv; try simp only [hc, hat, k0]; cbv; try simp only [hc, hat, k0]; cbv; try simp only [hc, hat, k0]; cbv; try simp only [hc, hat, k0]; cbv) ?_
    refine goB hX 1 (by conv => lhs; cbv; try simp only [hc, hat, k0]; cbv; try simp only [hc, hat, k0]; cbv; try simp only [hc, hat, k0]; cbv; try simp only [hc, hat, k0]; cbv) ?_
    refine oPA pf ?_
    refine goB hX 0 (by conv => lhs; cbv; try simp only [hc, hat, k0]; cbv; try simp only [hc, hat, k0]; cbv; try simp only [hc, hat, k0]; cbv; try simp only [hc, hat, k0]; cbv) ?_
    refine goA 60 ?_
    refine loopP_ret ?_
    refine goA 60 ?_
    refine fn_ret rfl rfl (.val ?_)
    rfl
  have k0 := kk2 n0
  rw [if_neg n0] at gc ⊢
  clear kk1 kk2
  cases bi with
  | true =>
   rw [if_pos (of_decide_eq_true hin)]
   clear gc
   refine goB hX 0 (by conv => lhs; cbv; try simp only [hc, hat, k0, kpos]; cbv; try simp only [hc, hat, k0, kpos]; cbv; try simp only [hc, hat, k0, kpos]; cbv; try simp only [hc, hat, k0, kpos]; cbv) ?_
   refine goB hX 1 (by conv => lhs; cbv; try simp only [hc, hat, k0, kpos]; cbv; try simp only [hc, hat, k0, kpos]; cbv; try simp only [hc, hat, k0, kpos]; cbv; try simp only [hc, hat, k0, kpos]; cbv) ?_
   refine oPA pf ?_
   refine goB hX 0 (by conv => lhs; cbv; try simp only [hc, hat, k0, kpos]; cbv; try simp only [hc, hat, k0, kpos]; cbv; try simp only [hc, hat, k0, kpos]; cbv; try simp only [hc, hat, k0, kpos]; cbv) ?_
   refine goB hX 1 (by conv => lhs; cbv; try simp only [hc, hat, k0, kpos]; cbv; try simp only [hc, hat, k0, kpos]; cbv; try simp only [hc, hat, k0, kpos]; cbv; try simp only [hc, hat, k0, kpos]; cbv) ?_
   refine oPA pq ?_
   refine goB hX 0 (by conv => lhs; cbv; try simp only [hc, hat, k0, kpos]; cbv; try simp only [hc, hat, k0, kpos]; cbv; try simp only [hc, hat, k0, kpos]; cbv; try simp only [hc, hat, k0, kpos]; cbv) ?_
   refine goA 60 ?_
   refine loopP_ret ?_
   refine goA 60 ?_
   refine fn_ret rfl rfl (.val ?_)
   rfl
  | false =>
  rw [if_neg (of_decide_eq_false hin)] at gc ⊢
  refine goB hX 0 (by conv => lhs; cbv; try simp only [hc, hat, k0, kpos]; cbv; try simp only [hc, hat, k0, kpos]; cbv; try simp only [hc, hat, k0, kpos]; cbv; try simp only [hc, hat, k0, kpos]; cbv) ?_
  refine goB hX 1 (by conv => lhs; cbv; try simp only [hc, hat, k0, kpos]; cbv; try simp only [hc, hat, k0, kpos]; cbv; try simp only [hc, hat, k0, kpos]; cbv; try simp only [hc, hat, k0, kpos]; cbv) ?_
  refine oPA pf ?_
  refine goB hX 0 (by conv => lhs; cbv; try simp only [hc, hat, k0, kpos]; cbv; try simp only [hc, hat, k0, kpos]; cbv; try simp only [hc, hat, k0, kpos]; cbv; try simp only [hc, hat, k0, kpos]; cbv) ?_
  refine goB hX 1 (by conv => lhs; cbv; try simp only [hc, hat, k0, kpos]; cbv; try simp only [hc, hat, k0, kpos]; cbv; try simp only [hc, hat, k0, kpos]; cbv; try simp only [hc, hat, k0, kpos]; cbv) ?_
  refine oPA pq ?_
  refine goB hX 0 (by conv => lhs; cbv; try simp only [hc, hat, k0, kpos]; cbv; try simp only [hc, hat, k0, kpos]; cbv; try simp only [hc, hat, k0, kpos]; cbv; try simp only [hc, hat, k0, kpos]; cbv) ?_
  refine goA 60 ?_
  refine loopP_next (d ++ [f], r, iAdd .i64 i 1) ⟨by simp [g1], hi2, gc ▸ rfl⟩ (by simp) (ent_sub [] [] trivial trivial ⟨.refl _, .cl kcl, trivial⟩)
theorem P_Find (l : List Sch) (nm : Bs) (hl : l.length < 1152921504606846976) (hs : ∀ q ∈ l, q.Short) : PCall EE 26 [.isl 2 (mapE Sch.enc l), str (ba nm)] (.tup [int (fndI l nm), int (fndE l nm)]) := by
 have kcl := Sch.closedI l
 have pc := P_CheckAll l hl hs
 clear hs
 have heq : ∀ f : Sch, ((ba f.nm).toList == (ba nm).toList) = decide (f.nm = nm) := fun f => ba_eqB _ _
 rw [fndI, fndE]
 obtain ⟨P, hP⟩ : ∃ P, P = Sch.wh l nm := ⟨_, rfl⟩
 rw [← hP]
 generalize chkAll l = ec at *
 generalize hsn : ba nm = s at *
 refine wordsN ?_; unhygienic intros
 generalize hes : mapE Sch.enc l = es at *
 have hel : es.length = l.length := by rw [← hes, mapE_len]
 by_cases n0 : ec ≠ 0
 · have k0 : iNe ec 0 = true := by simp only [ee]; simpa using n0
   rw [if_pos n0, if_pos n0]
   refine fn_body (fn := Tryd.f26) (n := 27) (ac := Trydc26) (rvs := [.t 4, .t 5]) rfl (by decide) Trydp26 rfl rfl rfl ?_
   refine goA 60 ?_
   refine oPA pc ?_
   refine goB hX 0 (by conv => lhs; cbv; try simp only [k0]; cbv; try simp only [k0]; cbv; try simp only [k0]; cbv; try simp only [k0]; cbv) ?_
   refine goA 60 ?_
   refine fn_ret rfl rfl ?_
   exact ⟨[], trivial, .refl _⟩
 have k0 : iNe ec 0 = false := by simp only [ee]; simpa using n0
 rw [if_neg n0, if_neg n0]
 refine fn_body (fn := Tryd.f26) (n := 27) (ac := Trydc26) (rvs := [.t 4, .t 5]) rfl (by decide) Trydp26 rfl rfl rfl ?_
 refine goA 60 ?_
 refine oPA pc ?_
 refine goB hX 0 (by conv => lhs; cbv; try simp only [k0]; cbv; try simp only [k0]; cbv; try simp only [k0]; cbv; try simp only [k0]; cbv) ?_
 refine goA 60 ?_
 refine on_loopP (ι := List Sch × List Sch × Int) (fun p => ([(16, int p.2.2), (15, int (lenA es)), (14, .isl 2 es), (1, str s)], [])) (fun p => l = p.1 ++ p.2.1 ∧ p.2.2 = p.1.length ∧ ∀ f ∈ p.1, f.nm ≠ nm) (fun p => p.2.1.length) ([], l, 0) ⟨rfl, rfl, by simp⟩ ?_ ?_
 · exact (ent_sub [] [] trivial trivial ⟨.refl _, .refl _, .cl kcl, .refl _, trivial⟩)
 rintro ⟨d, r, i⟩ ⟨g1, gi, gd⟩
 dsimp only at g1 gi gd ⊢
 cases r with
 | nil =>
  have L1 := len_split g1
  try simp only [List.length] at L1
  have hc : iLt i (lenA es) = false := lt_f e_iLt e_lenA (by omega)
  have hp : P = -1 := by rw [hP]; exact wh_miss (by rw [g1, List.append_nil]; exact gd)
  subst hp
  rw [if_pos (by decide), if_pos (by decide)]
  refine goB hX 0 (by conv => lhs; cbv; try simp only [hc]; cbv; try simp only [hc]; cbv; try simp only [hc]; cbv; try simp only [hc]; cbv) ?_
  refine goA 60 ?_
  refine loopP_exit ?_
  refine goA 60 ?_
  refine fn_ret rfl rfl ?_
  exact ⟨[], trivial, .refl _⟩
 | cons f r =>
  have L1 := len_split g1
  try simp only [List.length] at L1
  have hc : iLt i (lenA es) = true := lt_t e_iLt e_lenA (by omega)
  have hat := el_at e_atA hes g1 gi
  rw [Sch.enc_eq] at hat
  have kcf := Fld.closedI f.fs
  have hi2 : iAdd .i64 i 1 = ((d ++ [f]).length : Int) := by rw [List.length_append]; exact inc_w e_iAdd gi (by omega)
  have hq : sEq (ba f.nm) s = decide (f.nm = nm) := by simp only [ee]; exact heq f
  clear heq pc
  generalize mapE Fld.enc f.fs = fe at *
  have kcA : AV.closedL [str (ba f.nm), .isl 2 fe] = true := by simp [AV.closedL, closed_v, kcf]
  by_cases h : f.nm = nm
  · rw [decide_eq_true h] at hq
    have hp : P = i := by rw [hP, gi]; exact wh_hit g1 gd h
    generalize ba f.nm = fs at *
    subst hp
    rw [if_neg (by omega), if_neg (by omega)]
    refine goB hX 0 (by conv => lhs; cbv; try simp only [hc, hat, hq]; cbv; try simp only [hc, hat, hq]; cbv; try simp only [hc, hat, hq]; cbv; try simp only [hc, hat, hq]; cbv) ?_
    refine goB hX 1 (by conv => lhs; cbv; try simp only [hc, hat, hq]; cbv; try simp only [hc, hat, hq]; cbv; try simp only [hc, hat, hq]; cbv; try simp only [hc, hat, hq]; cbv) ?_
    refine goA 60 ?_
    refine loopP_ret ?_
    refine goA 60 ?_
    refine fn_ret rfl rfl ?_
    exact ⟨[.gone], ⟨trivial, trivial⟩, .refl _⟩
  rw [decide_eq_false h] at hq
  have gd2 : ∀ x ∈ d ++ [f], x.nm ≠ nm := fun x hx => by
   rcases List.mem_append.1 hx with hx | hx
   · exact gd x hx
   · simp at hx; rw [hx]; exact h
  generalize ba f.nm = fs at *
  refine goB hX 0 (by conv => lhs; cbv; try simp only [hc, hat, hq]; cbv; try simp only [hc, hat, hq]; cbv; try simp only [hc, hat, hq]; cbv; try simp only [hc, hat, hq]; cbv) ?_
  refine goB hX 1 (by conv => lhs; cbv; try simp only [hc, hat, hq]; cbv; try simp only [hc, hat, hq]; cbv; try simp only [hc, hat, hq]; cbv; try simp only [hc, hat, hq]; cbv) ?_
  refine goA 60 ?_
  refine loopP_next (d ++ [f], r, iAdd .i64 i 1) ⟨by simp [g1], hi2, gd2⟩ (by simp) (ent_sub [.gone] [] ⟨trivial, trivial⟩ trivial ⟨.refl _, .refl _, .cl kcl, .refl _, trivial⟩)
theorem P_refFind (l : List Sch) (nm : Bs) (hl : l.length < 1152921504606846976) (hs : ∀ q ∈ l, q.Short) : PCall EE 27 [.isl 2 (mapE Sch.enc l), str (ba nm)] (.tup [int (fndI l nm), int (fndE l nm)]) := by
 have kcl := Sch.closedI l
 have pc := P_refCheckAll l hl hs
 have pw := P_Where l nm hl
 clear hs
 rw [fndI, fndE]
 generalize Sch.wh l nm = P at *
 generalize chkAll l = ec at *
 generalize ba nm = s at *
 generalize mapE Sch.enc l = es at *
 refine wordsN ?_; unhygienic intros
 by_cases n0 : ec ≠ 0
 · have k0 : iNe ec 0 = true := by simp only [ee]; simpa using n0
   rw [if_pos n0, if_pos n0]
   refine fn_body (fn := Tryd.f27) (n := 19) (ac := Trydc27) (rvs := [.t 4, .t 5]) rfl (by decide) Trydp27 rfl rfl rfl ?_
   refine goA 60 ?_
   refine oPA pc ?_
   refine goB hX 0 (by conv => lhs; cbv; try simp only [k0]; cbv; try simp only [k0]; cbv; try simp only [k0]; cbv; try simp only [k0]; cbv) ?_
   refine goA 60 ?_
   refine fn_ret rfl rfl ?_
   exact ⟨[], trivial, .refl _⟩
 have k0 : iNe ec 0 = false := by simp only [ee]; simpa using n0
 rw [if_neg n0, if_neg n0]
 by_cases n1 : P < 0
 · have k1 : iLt P 0 = true := by simp only [ee]; simpa using n1
   rw [if_pos n1, if_pos n1]
   refine fn_body (fn := Tryd.f27) (n := 19) (ac := Trydc27) (rvs := [.t 4, .t 5]) rfl (by decide) Trydp27 rfl rfl rfl ?_
   refine goA 60 ?_
   refine oPA pc ?_
   refine goB hX 0 (by conv => lhs; cbv; try simp only [k0, k1]; cbv; try simp only [k0, k1]; cbv; try simp only [k0, k1]; cbv; try simp only [k0, k1]; cbv) ?_
   refine goA 60 ?_
   refine oPA pw ?_
   refine goB hX 0 (by conv => lhs; cbv; try simp only [k0, k1]; cbv; try simp only [k0, k1]; cbv; try simp only [k0, k1]; cbv; try simp only [k0, k1]; cbv) ?_
   refine goA 60 ?_
   refine fn_ret rfl rfl ?_
   exact ⟨[], trivial, .refl _⟩
 have k1 : iLt P 0 = false := by simp only [ee]; simpa using n1
 rw [if_neg n1, if_neg n1]
 refine fn_body (fn := Tryd.f27) (n := 19) (ac := Trydc27) (rvs := [.t 4, .t 5]) rfl (by decide) Trydp27 rfl rfl rfl ?_
 refine goA 60 ?_
 refine oPA pc ?_
 refine goB hX 0 (by conv => lhs; cbv; try simp only [k0, k1]; cbv; try simp only [k0, k1]; cbv; try simp only [k0, k1]; cbv; try simp only [k0, k1]; cbv) ?_
 refine goA 60 ?_
 refine oPA pw ?_
 refine goB hX 0 (by conv => lhs; cbv; try simp only [k0, k1]; cbv; try simp only [k0, k1]; cbv; try simp only [k0, k1]; cbv; try simp only [k0, k1]; cbv) ?_
 refine goA 60 ?_
 refine fn_ret rfl rfl ?_
 exact ⟨[], trivial, .refl _⟩
theorem P_Index (q : Sch) (nm : Bs) (hq : q.Short) : PCall EE 13 [q.enc, str (ba nm)] (.tup [int (idxI q nm), int (idxE q nm)]) := by
 have kcf := Fld.closedI q.fs
 have pc := P_Check q hq
 have pw := P_position q.fs nm hq.2.1
 rw [Sch.enc_eq] at pc ⊢
 rw [idxI, idxE]
 generalize Fld.pos q.fs nm = P at *
 generalize q.chk = ec at *
 generalize ba nm = s at *
 generalize ba q.nm = qn at *
 generalize mapE Fld.enc q.fs = es at *
 have kcA : AV.closedL [str qn, .isl 2 es] = true := by simp [AV.closedL, closed_v, kcf]
 refine wordsN ?_; unhygienic intros
 by_cases n0 : ec ≠ 0
 · have k0 : iNe ec 0 = true := by simp only [ee]; simpa using n0
   rw [if_pos n0, if_pos n0]
   refine fn_body (fn := Tryd.f13) (n := 20) (ac := Trydc13) (rvs := [.t 4, .t 5]) rfl (by decide) Trydp13 rfl rfl rfl ?_
   refine goA 60 ?_
   refine oPA pc ?_
   refine goB hX 0 (by conv => lhs; cbv; try simp only [k0]; cbv; try simp only [k0]; cbv; try simp only [k0]; cbv; try simp only [k0]; cbv) ?_
   refine goA 60 ?_
   refine fn_ret rfl rfl ?_
   exact ⟨[.gone], ⟨trivial, trivial⟩, .refl _⟩
 have k0 : iNe ec 0 = false := by simp only [ee]; simpa using n0
 rw [if_neg n0, if_neg n0]
 by_cases n1 : P < 0
 · have k1 : iLe 0 P = false := by simp only [ee]; simpa using n1
   rw [if_pos n1, if_pos n1]
   refine fn_body (fn := Tryd.f13) (n := 20) (ac := Trydc13) (rvs := [.t 4, .t 5]) rfl (by decide) Trydp13 rfl rfl rfl ?_
   refine goA 60 ?_
   refine oPA pc ?_
   refine goB hX 0 (by conv => lhs; cbv; try simp only [k0, k1]; cbv; try simp only [k0, k1]; cbv; try simp only [k0, k1]; cbv; try simp only [k0, k1]; cbv) ?_
   refine goA 60 ?_
   refine oPA pw ?_
   refine goB hX 0 (by conv => lhs; cbv; try simp only [k0, k1]; cbv; try simp only [k0, k1]; cbv; try simp only [k0, k1]; cbv; try simp only [k0, k1]; cbv) ?_
   refine goA 60 ?_
   refine fn_ret rfl rfl ?_
   exact ⟨[.gone], ⟨trivial, trivial⟩, .refl _⟩
 have k1 : iLe 0 P = true := by simp only [ee]; simpa using n1
 rw [if_neg n1, if_neg n1]
 refine fn_body (fn := Tryd.f13) (n := 20) (ac := Trydc13) (rvs := [.t 4, .t 5]) rfl (by decide) Trydp13 rfl rfl rfl ?_
 refine goA 60 ?_
 refine oPA pc ?_
 refine goB hX 0 (by conv => lhs; cbv; try simp only [k0, k1]; cbv; try simp only [k0, k1]; cbv; try simp only [k0, k1]; cbv; try simp only [k0, k1]; cbv) ?_
 refine goA 60 ?_
 refine oPA pw ?_
 refine goB hX 0 (by conv => lhs; cbv; try simp only [k0, k1]; cbv; try simp only [k0, k1]; cbv; try simp only [k0, k1]; cbv; try simp only [k0, k1]; cbv) ?_
 refine goA 60 ?_
 refine fn_ret rfl rfl ?_
 exact ⟨[.gone], ⟨trivial, trivial⟩, .refl _⟩
theorem P_refIndex (q : Sch) (nm : Bs) (hq : q.Short) : PCall EE 14 [q.enc, str (ba nm)] (.tup [int (idxI q nm), int (idxE q nm)]) := by
 have kcf := Fld.closedI q.fs
 have pc := P_refCheck q hq
 have pw := P_refPosition q nm hq.2.1
 rw [Sch.enc_eq] at pc pw ⊢
 rw [idxI, idxE]
 generalize Fld.pos q.fs nm = P at *
 generalize q.chk = ec at *
 generalize ba nm = s at *
 generalize ba q.nm = qn at *
 generalize mapE Fld.enc q.fs = es at *
 have kcA : AV.closedL [str qn, .isl 2 es] = true := by simp [AV.closedL, closed_v, kcf]
 refine wordsN ?_; unhygienic intros
 by_cases n0 : ec ≠ 0
 · have k0 : iNe ec 0 = true := by simp only [ee]; simpa using n0
   rw [if_pos n0, if_pos n0]
   refine fn_body (fn := Tryd.f14) (n := 19) (ac := Trydc14) (rvs := [.t 4, .t 5]) rfl (by decide) Trydp14 rfl rfl rfl ?_
   refine goA 60 ?_
   refine oPA pc ?_
   refine goB hX 0 (by conv => lhs; cbv; try simp only [k0]; cbv; try simp only [k0]; cbv; try simp only [k0]; cbv; try simp only [k0]; cbv) ?_
   refine goA 60 ?_
   refine fn_ret rfl rfl ?_
   exact ⟨[.gone], ⟨trivial, trivial⟩, .refl _⟩
 have k0 : iNe ec 0 = false := by simp only [ee]; simpa using n0
 rw [if_neg n0, if_neg n0]
 by_cases n1 : P < 0
 · have k1 : iLt P 0 = true := by simp only [ee]; simpa using n1
   rw [if_pos n1, if_pos n1]
   refine fn_body (fn := Tryd.f14) (n := 19) (ac := Trydc14) (rvs := [.t 4, .t 5]) rfl (by decide) Trydp14 rfl rfl rfl ?_
   refine goA 60 ?_
   refine oPA pc ?_
   refine goB hX 0 (by conv => lhs; cbv; try simp only [k0, k1]; cbv; try simp only [k0, k1]; cbv; try simp only [k0, k1]; cbv; try simp only [k0, k1]; cbv) ?_
   refine goA 60 ?_
   refine oPA pw ?_
   refine goB hX 0 (by conv => lhs; cbv; try simp only [k0, k1]; cbv; try simp only [k0, k1]; cbv; try simp only [k0, k1]; cbv; try simp only [k0, k1]; cbv) ?_
   refine goA 60 ?_
   refine fn_ret rfl rfl ?_
   exact ⟨[.gone], ⟨trivial, trivial⟩, .refl _⟩
 have k1 : iLt P 0 = false := by simp only [ee]; simpa using n1
 rw [if_neg n1, if_neg n1]
 refine fn_body (fn := Tryd.f14) (n := 19) (ac := Trydc14) (rvs := [.t 4, .t 5]) rfl (by decide) Trydp14 rfl rfl rfl ?_
 refine goA 60 ?_
 refine oPA pc ?_
 refine goB hX 0 (by conv => lhs; cbv; try simp only [k0, k1]; cbv; try simp only [k0, k1]; cbv; try simp only [k0, k1]; cbv; try simp only [k0, k1]; cbv) ?_
 refine goA 60 ?_
 refine oPA pw ?_
 refine goB hX 0 (by conv => lhs; cbv; try simp only [k0, k1]; cbv; try simp only [k0, k1]; cbv; try simp only [k0, k1]; cbv; try simp only [k0, k1]; cbv) ?_
 refine goA 60 ?_
 refine fn_ret rfl rfl ?_
 exact ⟨[.gone], ⟨trivial, trivial⟩, .refl _⟩
theorem kwd {k : Int} (h0 : 0 ≤ k) (h3 : k < 3) : Wd.rowA [str (Classical.choice kwBox_ne).i, str (Classical.choice kwBox_ne).b, str (Classical.choice kwBox_ne).s] k 1 = [str (ba (kw k))] ∧ Wd.atA [str (Classical.choice kwBox_ne).i, str (Classical.choice kwBox_ne).b, str (Classical.choice kwBox_ne).s] k = str (ba (kw k)) := by
 rw [(Classical.choice kwBox_ne).hi, (Classical.choice kwBox_ne).hb, (Classical.choice kwBox_ne).hs]
 have : k = 0 ∨ k = 1 ∨ k = 2 := by omega
 rcases this with rfl | rfl | rfl <;> exact ⟨rfl, rfl⟩
theorem fmt_snoc (d : List Sch) (q : Sch) : fmt (d ++ [q]) = fmt d ++ (q.nm ++ (q.fs.flatMap fmtF ++ [10])) := by simp [fmt, fmtS]
theorem fmt_pre {l d r : List Sch} (h : l = d ++ r) : (fmt d).length ≤ (fmt l).length := by rw [h]; simp [fmt]
theorem P_refFormat (l : List Sch) (hl : l.length < 1152921504606846976) (hs : ∀ q ∈ l, q.Short) : PCall EK 21 [.isl 2 (mapE Sch.enc l)] (.tup [str (ba (if chkAll l ≠ 0 then [] else fmt l)), int (chkAll l)]) := by
 have kcl := Sch.closedI l
 have pc := (P_refCheckAll l hl hs).toK
 have h0 : (⟨#[]⟩ : ByteArray) = ba [] := by rw [ba_eq]
 have hchk := fun h => (chkAll_zero l).1 h
 have hflen := fun h => fmt_len (l := l) h
 generalize chkAll l = ec at *
 refine wordsN ?_; unhygienic intros
 generalize hes : mapE Sch.enc l = es at *
 have hel : es.length = l.length := by rw [← hes, mapE_len]
 by_cases n0 : ec ≠ 0
 · have k0 : iNe ec 0 = true := by simp only [ee]; simpa using n0
   rw [if_pos n0, ← h0]
   refine fn_body (fn := Tryd.f21) (n := 60) (ac := Trydc21) (rvs := [.t 2, .t 3]) rfl (by decide) Trydp21 rfl rfl rfl ?_
   refine goA 60 ?_
   refine oPA pc ?_
   refine goB hX 0 (by conv => lhs; cbv; try simp only [k0]; cbv; try simp only [k0]; cbv; try simp only [k0]; cbv; try simp only [k0]; cbv) ?_
   refine goA 60 ?_
   refine fn_ret rfl rfl ?_
   exact ⟨[], trivial, .refl _⟩
 have k0 : iNe ec 0 = false := by simp only [ee]; simpa using n0
 rw [if_neg n0]
 have e0 : ec = 0 := by simpa using n0
 subst e0
 obtain ⟨-, hchk, -⟩ := hchk rfl
 have hflen := hflen rfl
 clear n0
 refine fn_body (fn := Tryd.f21) (n := 60) (ac := Trydc21) (rvs := [.t 2, .t 3]) rfl (by decide) Trydp21 rfl rfl rfl ?_
 refine goA 60 ?_
 refine oPA pc ?_
 refine goB hX 0 (by conv => lhs; cbv; try simp only [k0]; cbv; try simp only [k0]; cbv; try simp only [k0]; cbv; try simp only [k0]; cbv) ?_
 refine goA 60 ?_
 refine on_loopP (ι := List Sch × List Sch × Int × ByteArray) (fun p => ([(6, int p.2.2.1), (5, str p.2.2.2), (0, .isl 2 es)], [])) (fun p => l = p.1 ++ p.2.1 ∧ p.2.2.1 = p.1.length ∧ p.2.2.2 = ba (fmt p.1)) (fun p => p.2.1.length) ([], l, 0, ⟨#[]⟩) ⟨rfl, rfl, h0⟩ ?_ ?_
 · exact (ent_sub [] [] trivial trivial ⟨.refl _, .refl _, .cl kcl, trivial⟩)
 rintro ⟨d, r, i, t⟩ ⟨g1, gi, gt⟩
 dsimp only at g1 gi gt ⊢
 cases r with
 | nil =>
  have L1 := len_split g1
  try simp only [List.length] at L1
  have hc : iLt i (lenA es) = false := lt_f e_iLt e_lenA (by omega)
  rw [List.append_nil] at g1
  rw [g1, ← gt]
  refine goB hX 0 (by conv => lhs; cbv; try simp only [hc]; cbv; try simp only [hc]; cbv; try simp only [hc]; cbv; try simp only [hc]; cbv) ?_
  refine goA 60 ?_
  refine loopP_exit ?_
  refine goA 60 ?_
  refine fn_ret rfl rfl ?_
  exact ⟨[], trivial, .refl _⟩
 | cons q r =>
  have L1 := len_split g1
  try simp only [List.length] at L1
  have hc : iLt i (lenA es) = true := lt_t e_iLt e_lenA (by omega)
  have hat := el_at e_atA hes g1 gi
  have hi2 : iAdd .i64 i 1 = ((d ++ [q]).length : Int) := by rw [List.length_append]; exact inc_w e_iAdd gi (by omega)
  rw [Sch.enc_eq] at hat
  have hq := hchk q (by rw [g1]; simp)
  obtain ⟨hq1, hq2, hq3, hq4⟩ := (Sch.chk_zero q).1 hq
  have hq24 := (nameB_ch hq1).2.1
  have hfd := fmt_pre g1
  have kcf := Fld.closedI q.fs
  have hcat : ∀ (u v : Bs), sCat (ba u) (ba v) = ba (u ++ v) := fun u v => by simp only [ee]; rw [ba_app]
  have hszs : ∀ u : Bs, (ba u).size = u.length := fun u => ba_size u
  have c1' : sCat t (ba q.nm) = ba (fmt d ++ q.nm) := by rw [gt, hcat]
  have hst : t.size = (fmt d).length := by rw [gt, hszs]
  have hsq : (ba q.nm).size = q.nm.length := hszs _
  obtain ⟨t1, ht1⟩ : ∃ t1, t1 = ba (fmt d ++ q.nm) := ⟨_, rfl⟩
  rw [← ht1] at c1'
  generalize hqn : ba q.nm = qn at *
  generalize hfe : mapE Fld.enc q.fs = fe at *
  have hfl : fe.length = q.fs.length := by rw [← hfe, mapE_len]
  clear hs pc hchk
  refine goB hX 0 (by conv => lhs; cbv; try simp only [hc, hat, c1']; cbv; try simp only [hc, hat, c1']; cbv; try simp only [hc, hat, c1']; cbv; try simp only [hc, hat, c1']; cbv) ?_
  refine goB hX 1 (by conv => lhs; cbv; try simp only [hc, hat, c1']; cbv; try simp only [hc, hat, c1']; cbv; try simp only [hc, hat, c1']; cbv; try simp only [hc, hat, c1']; cbv) ?_
  refine on_loopP (ι := List Fld × List Fld × Int × ByteArray) (fun p => ([(7, int p.2.2.1), (6, int i), (5, str p.2.2.2), (0, .isl 2 es)], [])) (fun p => q.fs = p.1 ++ p.2.1 ∧ p.2.2.1 = p.1.length ∧ p.2.2.2 = ba (fmt d ++ q.nm ++ p.1.flatMap fmtF) ∧ (p.1.flatMap fmtF).length ≤ p.1.length * 32) (fun p => p.2.1.length) ([], q.fs, 0, t1) ⟨rfl, rfl, by rw [ht1]; simp, by simp⟩ ?_ ?_
  · exact (ent_sub [] [] trivial trivial ⟨.refl _, .refl _, .refl _, .cl kcl, trivial⟩)
  rintro ⟨d2, r2, k, u⟩ ⟨f1, fi, fu, fl⟩
  dsimp only at f1 fi fu fl ⊢
  have hsu : u.size = (fmt d ++ q.nm ++ d2.flatMap fmtF).length := by rw [fu, hszs]
  simp only [List.length_append] at hsu
  cases r2 with
  | nil =>
   have L2 := len_split f1
   try simp only [List.length] at L2
   have hc2 : iLt k (lenA fe) = false := lt_f e_iLt e_lenA (by omega)
   rw [List.append_nil] at f1
   have c2' : sCat u ⟨#[10]⟩ = ba (fmt (d ++ [q])) := by rw [fu, one_ba, hcat, fmt_snoc, f1]; simp
   obtain ⟨t2, ht2⟩ : ∃ t2, t2 = ba (fmt (d ++ [q])) := ⟨_, rfl⟩
   rw [← ht2] at c2'
   have hz1 : (ByteArray.mk (Array.mk [10])).size = 1 := rfl
   refine goB hX 0 (by conv => lhs; cbv; try simp only [hc, hat, hc2, c2']; cbv; try simp only [hc, hat, hc2, c2']; cbv; try simp only [hc, hat, hc2, c2']; cbv; try simp only [hc, hat, hc2, c2']; cbv) ?_
   refine goA 60 ?_
   refine loopP_exit ?_
   refine goA 60 ?_
   refine loopP_next (d ++ [q], r, iAdd .i64 i 1, t2) ⟨by simp [g1], hi2, ht2⟩ (by simp) (ent_sub [] [] trivial trivial ⟨.refl _, .of (by simp only [c2']; rfl), .cl kcl, trivial⟩)
  | cons f r2 =>
   have L2 := len_split f1
   try simp only [List.length] at L2
   have hc2 : iLt k (lenA fe) = true := lt_t e_iLt e_lenA (by omega)
   have hat2 := el_at e_atA hfe f1 fi
   rw [Fld.enc_eq] at hat2
   have hk2 : iAdd .i64 k 1 = ((d2 ++ [f]).length : Int) := by rw [List.length_append]; exact inc_w e_iAdd fi (by omega)
   obtain ⟨hf1, hf2, hf3⟩ := hq3 f (by rw [f1]; simp)
   obtain ⟨_, hkw⟩ := kwd hf2 hf3
   simp only [fnameB, Bool.and_eq_true] at hf1
   have hn24 := (nameB_ch hf1.1).2.1
   have hkl := kw_len f.kd
   have hatk : atA [str (Classical.choice kwBox_ne).i, str (Classical.choice kwBox_ne).b, str (Classical.choice kwBox_ne).s] f.kd = str (ba (kw f.kd)) := by simp only [e_atA]; exact hkw
   have hlk : lenA [str (Classical.choice kwBox_ne).i, str (Classical.choice kwBox_ne).b, str (Classical.choice kwBox_ne).s] = 3 := by simp only [ee]; rfl
   have s1 : sCat ⟨#[32]⟩ (ba f.nm) = ba (32 :: f.nm) := by rw [one_ba, hcat]; rfl
   have s2 : sCat (ba (32 :: f.nm)) ⟨#[58]⟩ = ba (32 :: (f.nm ++ [58])) := by rw [one_ba, hcat]; rfl
   have s3 : sCat (ba (32 :: (f.nm ++ [58]))) (ba (kw f.kd)) = ba (fmtF f) := by rw [hcat, fmtF]; simp
   have s4 : sCat u (ba (fmtF f)) = ba (fmt d ++ q.nm ++ (d2 ++ [f]).flatMap fmtF) := by rw [fu, hcat]; simp
   have z0 : (ByteArray.mk (Array.mk [32])).size = 1 := rfl
   have z1 : (ByteArray.mk (Array.mk [58])).size = 1 := rfl
   have z2 := hszs f.nm
   have z3 := hszs (32 :: f.nm)
   have z4 := hszs (32 :: (f.nm ++ [58]))
   have z5 := hszs (kw f.kd)
   have z6 : (ba (fmtF f)).size = f.nm.length + (kw f.kd).length + 2 := by rw [hszs, fmtF]; simp only [List.length_cons, List.length_append]; omega
   simp only [List.length_cons, List.length_append, List.length_nil] at z3 z4
   have hfl2 : ((d2 ++ [f]).flatMap fmtF).length ≤ (d2 ++ [f]).length * 32 := by
    rw [List.flatMap_append, List.length_append, List.length_append]
    simp only [List.flatMap_cons, List.flatMap_nil, List.append_nil, fmtF, List.length_cons, List.length_append, List.length_nil]
    omega
   have hd8 : d2.length ≤ 8 := by omega
   obtain ⟨u2, hu2⟩ : ∃ u2, u2 = ba (fmt d ++ q.nm ++ (d2 ++ [f]).flatMap fmtF) := ⟨_, rfl⟩
   rw [← hu2] at s4
   generalize ba (fmtF f) = w4 at *
   generalize ba (32 :: (f.nm ++ [58])) = w3 at *
   generalize ba (32 :: f.nm) = w2 at *
   generalize ba f.nm = w1 at *
   generalize ba (kw f.kd) = w5 at *
   generalize f.kd = fk at *
   clear hcat hszs
   refine goB hX 0 (by conv => lhs; cbv; try simp only [hc, hat, hc2, hat2, hlk, hatk, s1, s2, s3, s4]; cbv; try simp only [hc, hat, hc2, hat2, hlk, hatk, s1, s2, s3, s4]; cbv; try simp only [hc, hat, hc2, hat2, hlk, hatk, s1, s2, s3, s4]; cbv; try simp only [hc, hat, hc2, hat2, hlk, hatk, s1, s2, s3, s4]; cbv) ?_
   refine goB hX 1 (by conv => lhs; cbv; try simp only [hc, hat, hc2, hat2, hlk, hatk, s1, s2, s3, s4]; cbv; try simp only [hc, hat, hc2, hat2, hlk, hatk, s1, s2, s3, s4]; cbv; try simp only [hc, hat, hc2, hat2, hlk, hatk, s1, s2, s3, s4]; cbv; try simp only [hc, hat, hc2, hat2, hlk, hatk, s1, s2, s3, s4]; cbv) ?_
   refine tr_drawX rfl (by conv => lhs; cbv) (by conv => lhs; cbv) (by decide) (by decide) (by conv => lhs; cbv) rfl ?_
   refine tgB hX (by conv => lhs; cbv; try simp only [hc, hat, hc2, hat2, hlk, hatk, s1, s2, s3, s4]; cbv; try simp only [hc, hat, hc2, hat2, hlk, hatk, s1, s2, s3, s4]; cbv; try simp only [hc, hat, hc2, hat2, hlk, hatk, s1, s2, s3, s4]; cbv; try simp only [hc, hat, hc2, hat2, hlk, hatk, s1, s2, s3, s4]; cbv) ?_
   refine tr_nil ⟨rfl, by simp [LooksL, lookAll], ?_⟩
   refine goA 60 ?_
   refine loopP_next (d2 ++ [f], r2, iAdd .i64 k 1, u2) ⟨by simp [f1], hk2, hu2, hfl2⟩ (by simp) (ent_sub [.gone] [] ⟨trivial, trivial⟩ trivial ⟨.refl _, .refl _, .refl _, .cl kcl, trivial⟩)
end Go.Am
end
