/- The law FnExactDisassemble returns true for every input, and its arguments read as before. No condition. -/
import Derived.Test.YtkohjiajbdkcbaaDoorRows
import Derived.Test.YtkohjiajbdkcbaaDoorCards
import Derived.Test.YtkohjiajbdkcbaaDoorTie
import Derived.Test.YtkohjiajbdkcbaaDoorCFnExactDisassemble5
import Derived.Below
import Derived.Deep.Draws
import Derived.Deep.AppendLies
import Derived.Maps.AppendAt
import Derived.OwnWalk
import Derived.Laws.BytesArg
import Derived.Laws.MakeOwn
import Derived.Laws.OwnMore
import Derived.Deep.OwnRows
import Derived.Tactics
import Derived.Lib.ConvBytes
import Derived.Laws.Slices
import Derived.WalkKit
import Derived.KernelRfl
import Derived.RowKit3
import Derived.Deep.LoopGhost
import Derived.Deep.QuietTactic
import Derived.BigQuiet
import Derived.WideLaws
import Derived.Deep.DeepCutAuto
import Derived.Deep.CutBlock
import Derived.Deep.RegionHeld3
import Derived.Laws.Rows
import Derived.Lib.AppendStr
import Derived.ArgAppend
import Derived.Laws.IdiomCopy
import Derived.OrdersHeld
import Derived.Laws.BitsLemmas
import Derived.RowKit
import Derived.Lib.LaidTab
import Derived.Lib.ItoaNum
import Derived.Sort.Grow
import Derived.Lib.ItoaLen
import Derived.Shelf.Strings.Builder1
import Derived.Lib.Builder
import Derived.Shelf.LaysM
import Derived.Shelf.LaysC
import Derived.Shelf.Strconv.Itoa4
import Derived.Shelf.Strconv.Itoa3
import Derived.Shelf.Strconv.Itoa1
import Derived.Laws.BitsAllLaws
import Derived.Lib.ParseIntBCases
import Derived.Deep.Slices
import Derived.ChangeArms
import Derived.OpenShut
import Derived.Stop.LaidErr
import Derived.LaidMore
import Derived.ProofKit
import Derived.ShutString
import Derived.ChangeOld
import Derived.SizedLaws
import Derived.Deep.DeepHandedRow
import Derived.Deep.DeepWitnessRowRef
import Derived.SevenTiedAt
namespace Go.Proofs.YtkohjiajbdkcbaaDoor.fnExactDisassemble
open Go.ChangeShapes Go.WideShapes Go.ChangeAt Go.RowKit Go.Proofs.YtkohjiajbdkcbaaDoor.All Go.Proofs.YtkohjiajbdkcbaaDoorW.PrintWords
open Go.ChangeMaps (open_string shut_string)
set_option linter.unusedVariables false
theorem own : ownKnob Tryd.prog.godebug = none := by kernel_rfl
theorem laidOut : laidOutB Tryd.prog = true := by kernel_rfl
set_option maxRecDepth 100000 in
theorem contract (H : Type) (enc : TypeId × Value → H) (W : World) (base : Nat) (args : Array Value) (ds gs : List (DataW H)) (before : List MemPlace)
    (hval0 : ∀ (j : Nat) t v, Tryd.f6.params[j]? = some t → args[j]? = some v → Value.okWide Tryd.prog W .any base t v)
    (hW : DataW.Whole enc Tryd.prog Tryd.f6.params.toList Rows.fnExactDisassembleSpec.vars false W args.toList ds gs before) (hL : laidMetH Tryd.prog Rows.fnExactDisassembleRow.laid W) :
    Calls Tryd.prog 6 args W fun e W' => ∃ v, e = .returned v ∧ Rows.fnExactDisassembleSpec.post enc Tryd.prog Tryd.f6 false true false false W args v W' := by
  rw [MakeChecks.laidMetH_plain _ _ _ (by kernel_rfl)] at hL
  have hT : LtTab W := ltTab_of hL
  have hval : ∀ (j : Nat) t v, Tryd.f6.params[j]? = some t → args[j]? = some v → Value.okWide Tryd.prog W .any base t v := hval0
  have hW' := hW
  obtain ⟨p, q, hA0, hV, rfl, hfz, hnd⟩ := hW
  have hA : DataW.TrodAll enc Tryd.prog W 0 (fun _ => true) true Tryd.f6.params.toList args.toList ds p := hA0
  rw [Tryd.params6] at hA hval
  obtain ⟨v0, vs0, d0, ds0, p0, q0, hargs, rfl, rfl, h0, r0⟩ := trodAll_cons hA
  obtain ⟨rfl, rfl, rfl⟩ := trodAll_nil r0
  obtain rfl : args = #[v0] := by cases args; simp_all
  obtain ⟨rfl, rfl⟩ := trodVars_none hV
  have k0 := h0
  have lt0 : ∀ x ∈ p0, x.block < W.heap.size := by obtain ⟨m, hm⟩ := k0; exact DataW.trod_lt m _ _ _ hm
  obtain ⟨cs0, rfl⟩ : ∃ cs, v0 = .agg cs := by
    have ho := hval 0 55 v0 rfl rfl
    unfold Value.okWide at ho
    rw [Tryd.underlying55] at ho
    obtain ⟨cs, e, _⟩ := ho
    exact ⟨cs, e⟩
  obtain ⟨fuel0, hf0⟩ := h0
  obtain ⟨x0, hK0, hok0⟩ := rdbTop55.rd hf0
  obtain ⟨_, _, e0, ⟨A0_0, c0_0, rfl, l0_0, g0_0⟩, ⟨_, _, rfl, ⟨A0_1, c0_1, rfl, l0_1, g0_1⟩, ⟨_, _, rfl, rfl, ⟨_, _, rfl, ⟨A0_3, c0_3, rfl, l0_3, g0_3⟩, ⟨_, _, rfl, rfl, ⟨A0_5, c0_5, rfl, l0_5, g0_5⟩⟩⟩⟩⟩⟩ := hK0
  obtain rfl : cs0 = #[.slice A0_0 x0.1.length c0_0, .slice A0_1 x0.2.1.length c0_1, .int .i64 x0.2.2.1, .slice A0_3 x0.2.2.2.1.length c0_3, .int .i64 x0.2.2.2.2.1, .slice A0_5 x0.2.2.2.2.2.length c0_5] := Array.ext' (e0.trans rfl)
  clear hA0 hval0 hL
  obtain ⟨k, hk⟩ := Pure.FnExactDisassemble x0.1 x0.2.1 x0.2.2.1 x0.2.2.2.1 x0.2.2.2.2.1 x0.2.2.2.2.2 hok0.1 hok0.2.1 hok0.2.2.1 hok0.2.2.2.1 hok0.2.2.2.2.1 hok0.2.2.2.2.2
  refine (All.laws_FnExactDisassemble.calls k _ _ x0.1 _ _ x0.2.1 x0.2.2.1 _ _ x0.2.2.2.1 x0.2.2.2.2.1 _ _ x0.2.2.2.2.2 true W hT g0_0 l0_0 g0_1 l0_1 g0_3 l0_3 g0_5 l0_5 hk).mono fun e W' he => ?_
  obtain ⟨he, bel⟩ := he
  subst he
  exact ⟨_, rfl, _, _, _, [], _, [], hW', trodAll_mk1 (shut_bool Tryd.underlying4 _), (trodAll_cons_mk (Below.trod laidOut (by kernel_rfl) (of_decide_eq_true (by kernel_rfl)) k0 bel lt0) trodAll_mk0), rfl, bel.frame _, fun h => by cases h⟩
theorem laid_met (os : Os) : laidMetH Tryd.prog Rows.fnExactDisassembleRow.laid ((World.doorLaid Tryd.prog 400 os).forCall (fun _ _ => 0) ⟨#[], #[.agg #[.slice none 0 0, .slice none 0 0, .int .i64 0, .slice none 0 0, .int .i64 0, .slice none 0 0]], []⟩).memory :=
  laidMetH_of_parts3 (fuel := 8) (laidMet_of_run' 8 (by kernel_rfl) (by kernel_rfl)) (by kernel_rfl) (by kernel_rfl)
theorem reads (os : Os) {H : Type} (enc : TypeId × Value → H) : (DataW.whole enc Tryd.prog ((World.doorLaid Tryd.prog 400 os).forCall (fun _ _ => 0) ⟨#[], #[.agg #[.slice none 0 0, .slice none 0 0, .int .i64 0, .slice none 0 0, .int .i64 0, .slice none 0 0]], []⟩).memory Tryd.f6.params.toList Rows.fnExactDisassembleSpec.vars false (#[.agg #[.slice none 0 0, .slice none 0 0, .int .i64 0, .slice none 0 0, .int .i64 0, .slice none 0 0]] : Array Value).toList 8).isSome = true := by kernel_rfl
set_option maxRecDepth 100000 in
theorem lifted (os : Os) (started : os.Started) (H : Type) (enc : TypeId × Value → H) (F : Stop.Interp) :
    ReturnsInHanded {} Tryd.checked os 6 .any ((OpenSpec.ofChange Rows.fnExactDisassembleSpec).preRow enc Tryd.prog Tryd.f6 Rows.fnExactDisassembleRow.domain false Rows.fnExactDisassembleRow.laid) (((OpenSpec.ofChange Rows.fnExactDisassembleSpec).at F).post enc Tryd.prog Tryd.f6 false true false false) := by
  obtain ⟨x, hx⟩ := Option.isSome_iff_exists.1 (reads os enc)
  refine returnsInHanded_of_row (C := Tryd.checked) (s := OpenSpec.ofChange Rows.fnExactDisassembleSpec) own started (by kernel_rfl) Tryd.func6
    (witness_row_atRef (enc := enc) (C := Tryd.checked) false (World.doorLaid Tryd.prog 400 os) #[.agg #[.slice none 0 0, .slice none 0 0, .int .i64 0, .slice none 0 0, .int .i64 0, .slice none 0 0]] rfl (by kernel_rfl) (by kernel_rfl) (by kernel_rfl)
      (OpenSpec.preRow_of_cond 8 hx rfl (fun k hk => by cases hk) (by kernel_rfl) (laid_met os))) ?_
  intro W base args ds gs before hval hW _ _ _ hL _ _
  exact contract H enc W base args ds gs before hval hW hL
theorem over : Rows.fnExactDisassembleRow.holds Tryd.pinned (OpenSpec.ofChange Rows.fnExactDisassembleSpec) :=
  OpenClaim.holds_of_cond 6 Tryd.f6 rfl rfl rfl rfl rfl rfl rfl ⟨rfl, rfl, rfl, rfl, rfl⟩ rfl rfl rfl rfl rfl (by kernel_rfl) Tryd.func6 (by kernel_rfl)
    (of_decide_eq_true (by kernel_rfl)) (by unfold Func.isWrapper; first | (rw [if_pos (by decide +kernel)]; kernel_rfl) | (rw [if_neg (by decide +kernel)]; exact ⟨rfl, rfl⟩))
    (fun os started H enc _ F => by rw [OpenClaim.pre_eq_preRow]; exact lifted os started H enc F)
theorem plain (f : FuncId) (fn : Func) (hf : Tryd.pinned.checked.prog.funcNamed "loop.example/g00010/laws.FnExactDisassemble" = some f) (hfn : Tryd.pinned.checked.prog.funcs[f]? = some fn) :
    Rows.fnExactDisassembleCard.stood.looks = Tryd.pinned.checked.prog.looks [] ∧ ∀ (j : Nat) t, fn.params[j]? = some t → Tryd.pinned.checked.prog.wantsStandIn t = false := by
  obtain rfl : f = 6 := Option.some.inj ((show Tryd.prog.funcNamed "loop.example/g00010/laws.FnExactDisassemble" = some 6 by kernel_rfl).symm.trans hf) |>.symm
  obtain rfl : fn = Tryd.f6 := (Option.some.inj (Tryd.func6.symm.trans hfn)).symm
  refine ⟨by kernel_rfl, fun j t ht => ?_⟩
  rw [Tryd.params6] at ht
  have hm : t ∈ [55] := by simpa using Array.mem_of_getElem? ht
  have hall : ([55].all fun u => !Tryd.prog.wantsStandIn u) = true := by kernel_rfl
  exact (show Tryd.prog.wantsStandIn t = false by simpa using List.all_eq_true.1 hall t hm)
theorem proved : Rows.FnExactDisassembleCardSaid :=
  Claim7.holds_tied_plain_at .later [] _ _ _ _ over (fun _ h => by cases h) (by kernel_rfl) (fun _ h => by cases h) fnExactDisassemble_row_tie rfl ⟨rfl, rfl⟩ (by kernel_rfl) rfl plain (by kernel_rfl)
end Go.Proofs.YtkohjiajbdkcbaaDoor.fnExactDisassemble
namespace Go.Proofs.YtkohjiajbdkcbaaDoor
/-- The card, under a short name, for the claim. -/
theorem fnExactDisassemble_holds : Rows.FnExactDisassembleCardSaid := fnExactDisassemble.proved
#print axioms fnExactDisassemble_holds
end Go.Proofs.YtkohjiajbdkcbaaDoor
