/- PrefixJoins: prefix and rest, one after another, are the pattern; for all patterns of bulk up to 1048576, the listed variable as it is laid. -/
import Derived.Test.YtpfnahcfnclgdaaGreatDoorCards
import Derived.Test.YtpfnahcfnclgdaaGreatDoorProg
import Derived.Test.YtpfnahcfnclgdaaGreatDoorRows
import Derived.Test.YtpfnahcfnclgdaaGreatDoorTie
import Derived.Test.YtpfnahcfnclgdaaGreatDoorPCt17
section
set_option maxHeartbeats 16000000
set_option maxRecDepth 100000
namespace Go.Proofs.YtpfnahcfnclgdaaGreatDoor
open Go.ChangeShapes Go.WideShapes Go.ChangeAt Go.RowKit Go.Am
def zeroP : Value := .agg #[.int .i64 0, .slice none 0 0, .int .i64 0, .int .i64 0, .int .i64 0, .int .i64 0, .int .i64 0, .slice none 0 0, .int .i64 0, .int .i64 0, .int .i64 0, .int .i64 0, .int .i64 0, .string ⟨#[]⟩]
def zeroE : Value := .agg #[.int .i64 0, .slice none 0 0, .int .i64 0, .int .i64 0, .int .i64 0, .int .i64 0, .int .i64 0, .string ⟨#[]⟩]
def zeroEd {H : Type} : DataW H := .agg [.lit (.int .i64 0), .nil, .lit (.int .i64 0), .lit (.int .i64 0), .lit (.int .i64 0), .agg [.lit (.int .i64 0), .lit (.int .i64 0), .lit (.string [])]]
def zeroPd {H : Type} : DataW H := .agg [.lit (.int .i64 0), .nil, .lit (.int .i64 0), .lit (.int .i64 0), .lit (.int .i64 0), .lit (.int .i64 0), zeroEd]
theorem laid_met (os : Os) : laidMet Tryz.prog Rows.prefixJoinsUptoRow.laid ((laidWorld os).forCall (fun _ _ => 0) ⟨#[], #[zeroP], []⟩).memory :=
 laidMet_of_run' 8 (by kernel_rfl) (by kernel_rfl)
theorem reads (os : Os) {H : Type} (enc : TypeId × Value → H) : ∃ places, DataW.whole enc Tryz.prog ((laidWorld os).forCall (fun _ _ => 0) ⟨#[], #[zeroP], []⟩).memory Tryz.f6.params.toList Rows.prefixJoinsSpec.vars false #[zeroP].toList 8 = some ([zeroPd], [], places) :=
 ⟨[], by kernel_rfl⟩
theorem lifted (os : Os) (started : os.Started) (H : Type) (enc : TypeId × Value → H) (F : Stop.Interp) :
 ReturnsInHanded {} Tryz.checked os 6 .any ((Rows.OpenSpec.upto Rows.prefixJoinsSpec).preRow enc Tryz.prog Tryz.f6 Rows.prefixJoinsUptoRow.domain false Rows.prefixJoinsUptoRow.laid) (((Rows.OpenSpec.upto Rows.prefixJoinsSpec).at F).post enc Tryz.prog Tryz.f6 false true false false) := by
 obtain ⟨places, hx⟩ := reads os enc
 refine returnsInHanded_of_row (C := Tryz.checked) (s := Rows.OpenSpec.upto Rows.prefixJoinsSpec) Go.Am.own_none started (by kernel_rfl) Tryz.func6
  (witness_row_at (enc := enc) (C := Tryz.checked) false (laidWorld os) #[zeroP] rfl (by kernel_rfl) (by kernel_rfl) (by kernel_rfl)
   (OpenSpec.preRow_of_cond 8 hx (by kernel_rfl) (fun k hk => by cases hk; kernel_rfl) (by kernel_rfl) (laid_met os))) ?_
 intro W base args ds gs before hval hW _ hcond hwt hL _ _
 have hk := hcond _ rfl
 refine law_postG (E := EE) Go.Am.kidsP Go.Am.fullP rfl (by rw [Tryz.params6]; decide) (tb := 4) rfl Tryz.underlying4 (fun ds hds => ?_) (glob_of_laid (laid := [("tidegate/pattern.shapes", Rows.laid_tidegate_pattern_shapes)]) (List.mem_singleton.2 rfl) hL) hval hW hwt fun xs hx hb => ?_
 · match ds, hds with
   | [_], _ => rfl
 have hk : Rows.uptoBulkAll (ds ++ gs) ≤ 1048576 := of_decide_eq_true hk
 rw [bulk_upto.2, dBulkAll_append] at hk
 rw [Tryz.params6] at hx
 match xs, hx with
 | [x0], ⟨⟨_, h0⟩, _⟩ =>
  obtain ⟨a0, rfl⟩ := rdPat _ _ (Nat.le_refl _) _ h0
  simp only [AV.bulkL] at hb
  exact P_lawJoins a0 (Pat.sm_of (by omega))
theorem saidUpto : Rows.PrefixJoinsUptoSaid :=
 OpenClaim.holds_of_cond 6 Tryz.f6 rfl rfl rfl rfl rfl rfl rfl ⟨rfl, rfl, rfl, rfl, rfl⟩ rfl rfl rfl rfl rfl (by kernel_rfl) Tryz.func6 (by kernel_rfl)
  (of_decide_eq_true (by kernel_rfl)) (by unfold Func.isWrapper; first | (rw [if_pos (by decide +kernel)]; kernel_rfl) | (rw [if_neg (by decide +kernel)]; exact ⟨rfl, rfl⟩))
  (fun os started H enc _ F => by rw [OpenClaim.pre_eq_preRow]; exact lifted os started H enc F)
theorem plain (f : FuncId) (fn : Func) (hf : Tryz.pinned.checked.prog.funcNamed "tidegate/tidegatelaw32.PrefixJoins" = some f) (hfn : Tryz.pinned.checked.prog.funcs[f]? = some fn) :
 false = Tryz.pinned.checked.prog.looks [] ∧ ∀ (j : Nat) t, fn.params[j]? = some t → Tryz.pinned.checked.prog.wantsStandIn t = false := by
 obtain rfl : f = 6 := Option.some.inj ((show Tryz.prog.funcNamed "tidegate/tidegatelaw32.PrefixJoins" = some 6 by kernel_rfl).symm.trans hf) |>.symm
 obtain rfl : fn = Tryz.f6 := (Option.some.inj (Tryz.func6.symm.trans hfn)).symm
 refine ⟨by kernel_rfl, fun j t ht => ?_⟩
 rw [Tryz.params6] at ht
 have := Array.mem_of_getElem? ht
 simp only [List.mem_toArray, List.mem_cons, List.not_mem_nil, or_false] at this
 subst this
 exact (show Tryz.prog.wantsStandIn 29 = false by kernel_rfl)
theorem joins_card : Rows.PrefixJoinsUptoCardSaid :=
 Claim7.holds_tied_plain_at .later [] _ _ _ _ saidUpto (fun _ h => by cases h) (by kernel_rfl) (fun _ h => by cases h) prefixJoinsUpto_row_tie rfl ⟨rfl, rfl⟩ (by kernel_rfl) rfl plain (by kernel_rfl)
#print axioms joins_card
end Go.Proofs.YtpfnahcfnclgdaaGreatDoor
end
