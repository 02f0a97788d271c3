/- The law FnExactIntervals returns true for every input, and its arguments read as before. No condition. -/
import Derived.Test.YthegbhfoleiegaaRows
import Derived.Test.YthegbhfoleiegaaCFnExactIntervals5
import Derived.Below
import Derived.Deep.Draws
import Derived.Deep.AppendLies
import Derived.Maps.AppendAt
import Derived.OwnWalk
import Derived.Laws.BytesArg
import Derived.Laws.MakeOwn
import Derived.Laws.OwnMore
import Derived.Deep.OwnRows
import Derived.Tactics
import Derived.Lib.ConvBytes
import Derived.Laws.Slices
import Derived.WalkKit
import Derived.KernelRfl
import Derived.RowKit3
import Derived.Deep.LoopGhost
import Derived.Deep.QuietTactic
import Derived.BigQuiet
import Derived.WideLaws
import Derived.Deep.DeepCutAuto
import Derived.Deep.CutBlock
import Derived.Deep.RegionHeld3
import Derived.Laws.Rows
import Derived.Lib.AppendStr
import Derived.ArgAppend
import Derived.Laws.IdiomCopy
import Derived.OrdersHeld
import Derived.Laws.BitsLemmas
import Derived.RowKit
import Derived.Laws.CopyOwn
import Derived.Maps.OwnSet
import Derived.Maps.OwnOps
import Derived.Maps.RangeWalk
import Derived.BigRegion
import Derived.Handy
import Derived.Shelf.GgSortFunc.Whole
import Derived.Shelf.GgSortFunc.Tiny
import Derived.Sort.OwnSortedInts
import Derived.Lib.RowBridge
import Derived.Lib.SortBridge
import Derived.Sort.LotA
import Derived.Deep.Slices
import Derived.ChangeArms
import Derived.ProofKit
import Derived.OpenShut
import Derived.ShutString
import Derived.ChangeOld
import Derived.SizedLaws
namespace Go.Proofs.Ythegbhfoleiegaa.fnExactIntervals
open Go.ChangeShapes Go.WideShapes Go.ChangeAt Go.RowKit Go.Proofs.Ythegbhfoleiegaa.All Go.Proofs.YthegbhfoleiegaaW.PrintWords
open Go.ChangeMaps (open_string shut_string)
set_option linter.unusedVariables false
theorem own : ownKnob Try.prog.godebug = none := by kernel_rfl
theorem laidOut : laidOutB Try.prog = true := by kernel_rfl
set_option maxRecDepth 100000 in
theorem lifted (os : Os) (started : os.Started) (H : Type) (enc : TypeId × Value → H) :
    ReturnsInHanded {} Try.checked os 5 .any (Rows.fnExactIntervalsSpec.pre6 enc Try.prog Try.f5 Rows.fnExactIntervalsRow.domain false) (Rows.fnExactIntervalsSpec.post enc Try.prog Try.f5 false true false false) := by
  refine returnsInHanded_of_change_sized (C := Try.checked) own started (by kernel_rfl) Try.func5
    (ChangeSpec.witness6 (enc := enc) (C := Try.checked) false ⟨#[], #[.agg #[.int .i64 0, .slice none 0 0, .slice none 0 0]], []⟩ 8 (by kernel_rfl) (by kernel_rfl) (by kernel_rfl) (by kernel_rfl)) ?_
  intro W base args ds gs before hval0 hW hcnd hsz0 _
  have hval : ∀ (j : Nat) t v, Try.f5.params[j]? = some t → args[j]? = some v → Value.okWide Try.prog W .any base t v := hval0
  have hW' := hW
  obtain ⟨p, q, hA0, hV, rfl, hfz, hnd⟩ := hW
  have hA : DataW.TrodAll enc Try.prog W 0 (fun _ => true) true Try.f5.params.toList args.toList ds p := hA0
  rw [Try.params5] at hA hval
  obtain ⟨v0, vs0, d0, ds0, p0, q0, hargs, rfl, rfl, h0, r0⟩ := trodAll_cons hA
  obtain ⟨rfl, rfl, rfl⟩ := trodAll_nil r0
  obtain rfl : args = #[v0] := by cases args; simp_all
  obtain ⟨rfl, rfl⟩ := trodVars_none hV
  have k0 := h0
  have lt0 : ∀ x ∈ p0, x.block < W.heap.size := by obtain ⟨m, hm⟩ := k0; exact DataW.trod_lt m _ _ _ hm
  obtain ⟨cs0, rfl⟩ : ∃ cs, v0 = .agg cs := by
    have ho := hval 0 25 v0 rfl rfl
    unfold Value.okWide at ho
    rw [Try.underlying25] at ho
    obtain ⟨cs, e, _⟩ := ho
    exact ⟨cs, e⟩
  obtain ⟨fuel0, hf0⟩ := h0
  obtain ⟨x0, hK0, hok0⟩ := rdbTop25.rd hf0
  obtain ⟨_, _, e0, rfl, ⟨_, _, rfl, ⟨A0_1, c0_1, rfl, l0_1, g0_1⟩, ⟨A0_2, c0_2, rfl, l0_2, g0_2⟩⟩⟩ := hK0
  obtain rfl : cs0 = #[.int .i64 x0.1, .slice A0_1 x0.2.1.length c0_1, .slice A0_2 x0.2.2.length c0_2] := Array.ext' (e0.trans rfl)
  clear hA0 hval0 hsz0
  obtain ⟨k, hk⟩ := Pure.FnExactIntervals x0.1 x0.2.1 x0.2.2 hok0.1 hok0.2.1 hok0.2.2
  refine (All.laws_FnExactIntervals.calls k x0.1 _ _ x0.2.1 _ _ x0.2.2 true W g0_1 l0_1 g0_2 l0_2 hk ⟨rfl⟩).mono fun e W' he => ?_
  obtain ⟨he, bel⟩ := he
  subst he
  exact ⟨_, rfl, _, _, _, [], _, [], hW', trodAll_mk1 (shut_bool Try.underlying4 _), (trodAll_cons_mk (Below.trod laidOut (by kernel_rfl) (of_decide_eq_true (by kernel_rfl)) k0 bel lt0) trodAll_mk0), rfl, bel.frame _, fun h => by cases h⟩
theorem over : Rows.fnExactIntervalsRow.holds Try.pinned (OpenSpec.ofChange Rows.fnExactIntervalsSpec) :=
  OpenClaim.holds_of_wide 5 Try.f5 rfl rfl rfl rfl rfl rfl rfl ⟨rfl, rfl, rfl, rfl, rfl⟩ rfl rfl rfl rfl rfl (by kernel_rfl) Try.func5 (by kernel_rfl)
    (of_decide_eq_true (by kernel_rfl)) (by unfold Func.isWrapper; first | (rw [if_pos (by decide +kernel)]; kernel_rfl) | (rw [if_neg (by decide +kernel)]; exact ⟨rfl, rfl⟩))
    (fun os started H enc _ => lifted os started H enc)
theorem proved : Rows.FnExactIntervalsSaid := over
end Go.Proofs.Ythegbhfoleiegaa.fnExactIntervals
namespace Go.Proofs.Ythegbhfoleiegaa
/-- The row, under a short name, for the claim. -/
theorem fnExactIntervals_holds : Rows.FnExactIntervalsSaid := fnExactIntervals.proved
#print axioms fnExactIntervals_holds
end Go.Proofs.Ythegbhfoleiegaa
