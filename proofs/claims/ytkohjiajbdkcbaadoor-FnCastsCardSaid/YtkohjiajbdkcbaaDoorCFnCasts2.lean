/- Part 2 of the proof of FnCasts: functions of the translation with what they return, and plain laws of these. Written by programs of this session over the kit's print, and by hand. -/
import Derived.Test.YtkohjiajbdkcbaaDoorProg
import Derived.Test.YtkohjiajbdkcbaaDoorCFnCastsWApart
import Derived.Test.YtkohjiajbdkcbaaDoorCFnCastsWArr
import Derived.Test.YtkohjiajbdkcbaaDoorCFnCastsWFoot
import Derived.Test.YtkohjiajbdkcbaaDoorCFnCastsWGuard
import Derived.Test.YtkohjiajbdkcbaaDoorCFnCastsWKept
import Derived.Test.YtkohjiajbdkcbaaDoorCFnCastsWLast
import Derived.Test.YtkohjiajbdkcbaaDoorCFnCastsWMore
import Derived.Test.YtkohjiajbdkcbaaDoorCFnCastsWN
import Derived.Test.YtkohjiajbdkcbaaDoorCFnCastsWNEv
import Derived.Test.YtkohjiajbdkcbaaDoorCFnCastsWQPut
import Derived.Test.YtkohjiajbdkcbaaDoorCFnCastsWRepsOne
import Derived.Test.YtkohjiajbdkcbaaDoorCFnCastsWShare
import Derived.Test.YtkohjiajbdkcbaaDoorCFnCastsWTab
import Derived.Test.YtkohjiajbdkcbaaDoorCFnCastsWWords
import Derived.Test.YtkohjiajbdkcbaaDoorCFnCastsWZeros
import Derived.Below
import Derived.Deep.Draws
import Derived.Deep.AppendLies
import Derived.Maps.AppendAt
import Derived.OwnWalk
import Derived.Laws.BytesArg
import Derived.Laws.MakeOwn
import Derived.Laws.OwnMore
import Derived.Deep.OwnRows
import Derived.Tactics
import Derived.Lib.ConvBytes
import Derived.Laws.Slices
import Derived.WalkKit
import Derived.KernelRfl
import Derived.RowKit3
import Derived.Deep.LoopGhost
import Derived.Deep.QuietTactic
import Derived.BigQuiet
import Derived.WideLaws
import Derived.Deep.DeepCutAuto
import Derived.Deep.CutBlock
import Derived.Deep.RegionHeld3
import Derived.Laws.Rows
import Derived.Lib.AppendStr
import Derived.ArgAppend
import Derived.Laws.IdiomCopy
import Derived.OrdersHeld
import Derived.Laws.BitsLemmas
import Derived.RowKit
import Derived.Lib.LaidTab
import Derived.Lib.ItoaNum
import Derived.Sort.Grow
import Derived.Shelf.Strconv.Itoa4
import Derived.Shelf.LaysM
import Derived.Shelf.LaysC
import Derived.Shelf.Strconv.Itoa1
import Derived.Shelf.Strconv.ErrVarParseInt
import Derived.Shelf.Strconv.ParseIntPublic10
import Derived.Laws.BitsAllLaws
import Derived.Lib.ItoaLen
import Derived.Lib.ParseIntBCases
import Derived.Deep.Slices
import Derived.ChangeArms
import Derived.OpenShut
import Derived.Stop.LaidErr
import Derived.LaidMore
import Derived.ProofKit
import Derived.ShutString
import Derived.ChangeOld
import Derived.SizedLaws
import Derived.Deep.DeepHandedRow
import Derived.Deep.DeepWitnessRowRef
import Derived.SevenTiedAt
import Derived.Test.YtkohjiajbdkcbaaDoorCFnCasts1
namespace Go.Proofs.YtkohjiajbdkcbaaDoor.All
open Go.RowKit Go.Proofs.YtkohjiajbdkcbaaDoorW.PrintWords Go.Proofs.YtkohjiajbdkcbaaDoorW.PrintLast Go.Proofs.YtkohjiajbdkcbaaDoorW.PrintMore
attribute [local go_sem] max2_int min2_int max_two min_two max_three min_three max_four min_four   -- for this text's walks alone
set_option linter.unusedVariables false
set_option linter.unusedSimpArgs false

/-! ### laws_FnCasts: function 5 -/
mutual
def laws_FnCasts.j0 : Nat → List Int → Int → Int → Int → Bool → Int → Int → Int → Int → Option (Bool)
 | 0, _, _, _, _, _, _, _, _, _ => none
 | k + 1, x0, x5, x6, x7, x65, x194000, x194001, x197000, x197001 => if x65 = true then (some false) else ((impl_Cast.f k 18 x6 x5 x194001).bind fun bt199 => (if bt199.2 = x7 then ((impl_Cast.f k 18 x6 x5 x197001).bind fun bt201 => (if bt201.2 = x7 then ((impl_Cast.f k 18 x5 x6 x7).bind fun bt203 => (if bt203.1 = 3 then ((impl_Cast.f k 16 x6 x5 0).bind fun bt205 => (laws_FnCasts.j1 k x0 x5 x6 (bt205.1 != 3) x197000 x197001)) else (laws_FnCasts.j1 k x0 x5 x6 true x197000 x197001))) else (laws_FnCasts.j1 k x0 x5 x6 true x197000 x197001))) else (laws_FnCasts.j1 k x0 x5 x6 true x197000 x197001)))
def laws_FnCasts.j1 : Nat → List Int → Int → Int → Bool → Int → Int → Option (Bool)
 | 0, _, _, _, _, _, _ => none
 | k + 1, x0, x5, x6, x98, x197000, x197001 => if x98 = true then (some false) else ((laws_lwWord.f k x0 20 64).bind fun t207 => ((impl_Cut.f x5 t207).bind fun t208 => ((impl_Cut.f x6 t207).bind fun t209 => ((impl_Cut.f x5 t209).bind fun t210 => (if t208 = t210 then ((impl_FormatWord.f x6 x197001).bind fun t211 => ((impl_ParseWord.f x6 t211).bind fun bt212 => ((laws_lwWord.f k x0 30 64).bind fun t215 => ((spec_FormatWord.f k 64 t215).bind fun t216 => ((impl_ParseWord.f x5 t216).bind fun bt217 => (if bt212.1 = true then (if bt212.2 = x197001 then (if bt217.1 = true then ((impl_FormatWord.f x5 bt217.2).bind fun t220 => (if t220.toList = t216.toList then ((spec_ParseWord.f k x5 t216).bind fun bt221 => (if (bt217.1 == bt221.1) = true then (if t211.size + 1 ≤ 9223372036854775807 then ((impl_ParseWord.f x6 (t211 ++ (⟨#[32]⟩ : ByteArray))).bind fun bt223 => (if bt223.1 = true then (some false) else (if 1 + t211.size ≤ 9223372036854775807 then ((impl_ParseWord.f x6 ((⟨#[48]⟩ : ByteArray) ++ t211)).bind fun bt225 => (some (!bt225.1))) else (none)))) else (none)) else (some false))) else (some false))) else ((spec_ParseWord.f k x5 t216).bind fun bt227 => (if (bt217.1 == bt227.1) = true then (if t211.size + 1 ≤ 9223372036854775807 then ((impl_ParseWord.f x6 (t211 ++ (⟨#[32]⟩ : ByteArray))).bind fun bt229 => (if bt229.1 = true then (some false) else (if 1 + t211.size ≤ 9223372036854775807 then ((impl_ParseWord.f x6 ((⟨#[48]⟩ : ByteArray) ++ t211)).bind fun bt231 => (some (!bt231.1))) else (none)))) else (none)) else (some false)))) else (some false)) else (some false))))))) else (some false))))))
end
def laws_FnCasts.f (k : Nat) (l0 : List Int) : Option (Bool) := if (l0.length : Int) > 1048576 then (some true) else ((laws_lwAt.f l0 0 4).bind fun t186 => ((laws_lwAt.f l0 1 (wrap64 (4 - t186))).bind fun t187 => ((laws_lwWidth.f t186).bind fun t188 => ((laws_lwWidth.f (wrap64 ((wrap64 (t186 + 1)) + t187))).bind fun t189 => ((laws_lwWord.f k l0 2 t188).bind fun t190 => ((impl_Cast.f k 16 t188 t189 t190).bind fun bt191 => ((impl_Cast.f k 17 t188 t189 t190).bind fun bt194 => (if bt191.1 = 0 then (if bt191.2 = t190 then (if bt194.1 = 0 then ((impl_Signed.f t189 bt194.2).bind fun t197 => ((impl_Signed.f t188 t190).bind fun t198 => (laws_FnCasts.j0 k l0 t188 t189 t190 (t197 != t198) bt191.1 bt191.2 bt194.1 bt194.2))) else (laws_FnCasts.j0 k l0 t188 t189 t190 true bt191.1 bt191.2 bt194.1 bt194.2)) else (laws_FnCasts.j0 k l0 t188 t189 t190 true bt191.1 bt191.2 bt194.1 bt194.2)) else (laws_FnCasts.j0 k l0 t188 t189 t190 true bt191.1 bt191.2 bt194.1 bt194.2)))))))))
def laws_FnCasts.T21 : Bool × List (List Nat × List Nat) := (true, [([], []), ([0], [0]), ([1], [1]), ([2], [2]), ([3, 2], [2, 3]), ([2], [2]), ([5, 2], [2, 5]), ([4, 6, 2], [2, 4, 6]), ([2, 7], [2, 7]), ([8, 2], [8]), ([9], [9]), ([10, 9], [9, 10]), ([11, 9], [9, 11]), ([12, 9, 9], [9, 12]), ([13], [13]), ([13], [13]), ([15, 13], [13, 15]), ([14, 16, 13, 13], [13, 14, 16]), ([13], [13]), ([17, 18, 13], [13, 17, 18]), ([13, 19, 9], [9, 13, 19]), ([9, 20], [9, 20]), ([21, 17], [21]), ([22], [22]), ([23, 22], [22, 23]), ([22], [22]), ([22], [22]), ([25, 26, 22, 22], [22, 25, 26]), ([27, 22], [22, 27]), ([24, 28, 22], [22, 24, 28]), ([22, 29], [22, 29]), ([30, 27], [30]), ([31], [31]), ([31], [31]), ([33, 31], [31, 33]), ([32, 34, 31, 31], [31, 32, 34]), ([35, 31], [31, 35]), ([36, 31], [31, 36]), ([31, 37], [31, 37]), ([38, 35], [38]), ([39], [39]), ([39], [39]), ([41, 39], [39, 41]), ([40, 42, 39, 39], [39, 40, 42]), ([43, 39], [39, 43]), ([44, 39], [39, 44]), ([39, 45], [39, 45]), ([46, 43, 0, 1, 2, 3, 4, 5, 6, 7, 8, 9, 10, 11, 12, 13, 14, 15, 16, 17, 18, 19, 20, 21, 22, 23, 24, 25, 26, 27, 28, 29, 30, 31, 32, 33, 34, 35, 36, 37, 38, 39, 40, 41, 42, 43, 44, 45, 46], [46])])
def laws_FnCasts.B21 : List Nat := [0, 1, 3, 7, 15, 7, 39, 127, 255, 511, 1023, 2047, 4095, 8191, 16383, 16383, 49151, 131071, 16383, 524287, 1048575, 2097151, 4194303, 8388607, 16777215, 8388607, 8388607, 109051903, 243269631, 536870911, 1073741823, 2147483647, 4294967295, 4294967295, 12884901887, 34359738367, 68719476735, 137438953471, 274877906943, 549755813887, 1099511627775, 1099511627775, 3298534883327, 8796093022207, 17592186044415, 35184372088831, 70368744177663, 140737488355327]
theorem laws_FnCasts.tab21 : rtab .any (opsOf Tryd.f5 21) = laws_FnCasts.T21 := by kernel_rfl
theorem laws_FnCasts.bits21 : waitsOk laws_FnCasts.T21.2 laws_FnCasts.B21 = true := by kernel_rfl
set_option maxHeartbeats 8000000 in
set_option maxRecDepth 100000 in
theorem laws_FnCasts.calls (k : Nat) (A0 : Option Addr) (c0 : Nat) (l0 : List Int) (r : Bool) (w : World) (hLtTab : LtTab w) (hLtErr : LtErr w) (hr0 : Kd.C (Kd.int .u8) w A0 l0.length l0) (hc0 : l0.length ≤ c0) (h : laws_FnCasts.f k l0 = some r) (hr_ : Aside0 (r = true)) :
 Calls Tryd.prog 5 #[.slice A0 l0.length c0] w fun e w' => e = .returned (.bool r) ∧ Below w.heap.size w w' := by
 have hfd37_0 : ∀ (x1 : Bool) (x2 : Int) (W_ : World), (Instr.field 37 (.agg #[.bool x1, .int .u64 x2]) 0).run Tryd.prog W_ = .ok (.bool x1) W_ := fun _ _ _ => by kernel_rfl
 have hfd46_0 : ∀ (x1 : Int) (x2 : Int) (W_ : World), (Instr.field 46 (.agg #[.int .i64 x1, .int .u64 x2]) 0).run Tryd.prog W_ = .ok (.int .i64 x1) W_ := fun _ _ _ => by kernel_rfl
 have hfd46_1 : ∀ (x1 : Int) (x2 : Int) (W_ : World), (Instr.field 46 (.agg #[.int .i64 x1, .int .u64 x2]) 1).run Tryd.prog W_ = .ok (.int .u64 x2) W_ := fun _ _ _ => by kernel_rfl
 have HLtTab := Aside0.mk hLtTab
 clear hLtTab
 have HLtErr := Aside0.mk hLtErr
 clear hLtErr
 have hu46 := Tryd.underlying46
 have hu37 := Tryd.underlying37
 have HR0 := Aside0.mk hr0
 have HC0 := Aside0.mk hc0
 clear hr0 hc0
 have HB := Aside0.mk (Below.refl w.heap.size w)
 have H : (if (l0.length : Int) > 1048576 then (some true) else ((laws_lwAt.f l0 0 4).bind fun t186 => ((laws_lwAt.f l0 1 (wrap64 (4 - t186))).bind fun t187 => ((laws_lwWidth.f t186).bind fun t188 => ((laws_lwWidth.f (wrap64 ((wrap64 (t186 + 1)) + t187))).bind fun t189 => ((laws_lwWord.f k l0 2 t188).bind fun t190 => ((impl_Cast.f k 16 t188 t189 t190).bind fun bt191 => ((impl_Cast.f k 17 t188 t189 t190).bind fun bt194 => (if bt191.1 = 0 then (if bt191.2 = t190 then (if bt194.1 = 0 then ((impl_Signed.f t189 bt194.2).bind fun t197 => ((impl_Signed.f t188 t190).bind fun t198 => (laws_FnCasts.j0 k l0 t188 t189 t190 (t197 != t198) bt191.1 bt191.2 bt194.1 bt194.2))) else (laws_FnCasts.j0 k l0 t188 t189 t190 true bt191.1 bt191.2 bt194.1 bt194.2)) else (laws_FnCasts.j0 k l0 t188 t189 t190 true bt191.1 bt191.2 bt194.1 bt194.2)) else (laws_FnCasts.j0 k l0 t188 t189 t190 true bt191.1 bt191.2 bt194.1 bt194.2)))))))))) = some r := h
 clear h
 by_cases c2 : (l0.length : Int) > 1048576
 · rw [if_pos c2] at H
   have c2b0 : decide (1048576 < (l0.length : Int)) = true := decide_eq_true c2
   have c2b1 : decide (1048576 < l0.length) = true := decide_eq_true (by omega)
   clear c2
   obtain rfl := Option.some.inj H
   go_enter Tryd.func5, Tryd.ntmps5
   go_wp2
   go_ret
   exact ⟨by first | rfl | (simp [errW_none, errW_some] <;> rfl) | (simp [*, errW_none, errW_some] <;> rfl), by repeat (first | (with_reducible first | exact HB.out | apply below_alloc | apply pw_below_drewN | apply below_drew1) | exact HB.out)⟩
 · rw [if_neg c2] at H
   have c2b0 : decide (1048576 < (l0.length : Int)) = false := decide_eq_false c2
   have c2b1 : decide (1048576 < l0.length) = false := decide_eq_false (by omega)
   clear c2
   replace H := Option.bind_eq_some_iff.mp H
   obtain ⟨t186, A30, H⟩ := H
   replace H : ((laws_lwAt.f l0 1 (wrap64 (4 - t186))).bind fun t187 => ((laws_lwWidth.f t186).bind fun t188 => ((laws_lwWidth.f (wrap64 ((wrap64 (t186 + 1)) + t187))).bind fun t189 => ((laws_lwWord.f k l0 2 t188).bind fun t190 => ((impl_Cast.f k 16 t188 t189 t190).bind fun bt191 => ((impl_Cast.f k 17 t188 t189 t190).bind fun bt194 => (if bt191.1 = 0 then (if bt191.2 = t190 then (if bt194.1 = 0 then ((impl_Signed.f t189 bt194.2).bind fun t197 => ((impl_Signed.f t188 t190).bind fun t198 => (laws_FnCasts.j0 k l0 t188 t189 t190 (t197 != t198) bt191.1 bt191.2 bt194.1 bt194.2))) else (laws_FnCasts.j0 k l0 t188 t189 t190 true bt191.1 bt191.2 bt194.1 bt194.2)) else (laws_FnCasts.j0 k l0 t188 t189 t190 true bt191.1 bt191.2 bt194.1 bt194.2)) else (laws_FnCasts.j0 k l0 t188 t189 t190 true bt191.1 bt191.2 bt194.1 bt194.2)))))))) = some r := H
   have A3 := Aside0.mk A30
   clear A30
   replace H := Option.bind_eq_some_iff.mp H
   obtain ⟨t187, A40, H⟩ := H
   replace H : ((laws_lwWidth.f t186).bind fun t188 => ((laws_lwWidth.f (wrap64 ((wrap64 (t186 + 1)) + t187))).bind fun t189 => ((laws_lwWord.f k l0 2 t188).bind fun t190 => ((impl_Cast.f k 16 t188 t189 t190).bind fun bt191 => ((impl_Cast.f k 17 t188 t189 t190).bind fun bt194 => (if bt191.1 = 0 then (if bt191.2 = t190 then (if bt194.1 = 0 then ((impl_Signed.f t189 bt194.2).bind fun t197 => ((impl_Signed.f t188 t190).bind fun t198 => (laws_FnCasts.j0 k l0 t188 t189 t190 (t197 != t198) bt191.1 bt191.2 bt194.1 bt194.2))) else (laws_FnCasts.j0 k l0 t188 t189 t190 true bt191.1 bt191.2 bt194.1 bt194.2)) else (laws_FnCasts.j0 k l0 t188 t189 t190 true bt191.1 bt191.2 bt194.1 bt194.2)) else (laws_FnCasts.j0 k l0 t188 t189 t190 true bt191.1 bt191.2 bt194.1 bt194.2))))))) = some r := H
   have A4 := Aside0.mk A40
   clear A40
   replace H := Option.bind_eq_some_iff.mp H
   obtain ⟨t188, A50, H⟩ := H
   replace H : ((laws_lwWidth.f (wrap64 ((wrap64 (t186 + 1)) + t187))).bind fun t189 => ((laws_lwWord.f k l0 2 t188).bind fun t190 => ((impl_Cast.f k 16 t188 t189 t190).bind fun bt191 => ((impl_Cast.f k 17 t188 t189 t190).bind fun bt194 => (if bt191.1 = 0 then (if bt191.2 = t190 then (if bt194.1 = 0 then ((impl_Signed.f t189 bt194.2).bind fun t197 => ((impl_Signed.f t188 t190).bind fun t198 => (laws_FnCasts.j0 k l0 t188 t189 t190 (t197 != t198) bt191.1 bt191.2 bt194.1 bt194.2))) else (laws_FnCasts.j0 k l0 t188 t189 t190 true bt191.1 bt191.2 bt194.1 bt194.2)) else (laws_FnCasts.j0 k l0 t188 t189 t190 true bt191.1 bt191.2 bt194.1 bt194.2)) else (laws_FnCasts.j0 k l0 t188 t189 t190 true bt191.1 bt191.2 bt194.1 bt194.2)))))) = some r := H
   have A5 := Aside0.mk A50
   clear A50
   replace H := Option.bind_eq_some_iff.mp H
   obtain ⟨t189, A60, H⟩ := H
   replace H : ((laws_lwWord.f k l0 2 t188).bind fun t190 => ((impl_Cast.f k 16 t188 t189 t190).bind fun bt191 => ((impl_Cast.f k 17 t188 t189 t190).bind fun bt194 => (if bt191.1 = 0 then (if bt191.2 = t190 then (if bt194.1 = 0 then ((impl_Signed.f t189 bt194.2).bind fun t197 => ((impl_Signed.f t188 t190).bind fun t198 => (laws_FnCasts.j0 k l0 t188 t189 t190 (t197 != t198) bt191.1 bt191.2 bt194.1 bt194.2))) else (laws_FnCasts.j0 k l0 t188 t189 t190 true bt191.1 bt191.2 bt194.1 bt194.2)) else (laws_FnCasts.j0 k l0 t188 t189 t190 true bt191.1 bt191.2 bt194.1 bt194.2)) else (laws_FnCasts.j0 k l0 t188 t189 t190 true bt191.1 bt191.2 bt194.1 bt194.2))))) = some r := H
   have A6 := Aside0.mk A60
   clear A60
   replace H := Option.bind_eq_some_iff.mp H
   obtain ⟨t190, A70, H⟩ := H
   replace H : ((impl_Cast.f k 16 t188 t189 t190).bind fun bt191 => ((impl_Cast.f k 17 t188 t189 t190).bind fun bt194 => (if bt191.1 = 0 then (if bt191.2 = t190 then (if bt194.1 = 0 then ((impl_Signed.f t189 bt194.2).bind fun t197 => ((impl_Signed.f t188 t190).bind fun t198 => (laws_FnCasts.j0 k l0 t188 t189 t190 (t197 != t198) bt191.1 bt191.2 bt194.1 bt194.2))) else (laws_FnCasts.j0 k l0 t188 t189 t190 true bt191.1 bt191.2 bt194.1 bt194.2)) else (laws_FnCasts.j0 k l0 t188 t189 t190 true bt191.1 bt191.2 bt194.1 bt194.2)) else (laws_FnCasts.j0 k l0 t188 t189 t190 true bt191.1 bt191.2 bt194.1 bt194.2)))) = some r := H
   have A7 := Aside0.mk A70
   clear A70
   replace H := Option.bind_eq_some_iff.mp H
   obtain ⟨⟨t191, t192⟩, A80, H⟩ := H
   replace H : ((impl_Cast.f k 17 t188 t189 t190).bind fun bt194 => (if t191 = 0 then (if t192 = t190 then (if bt194.1 = 0 then ((impl_Signed.f t189 bt194.2).bind fun t197 => ((impl_Signed.f t188 t190).bind fun t198 => (laws_FnCasts.j0 k l0 t188 t189 t190 (t197 != t198) t191 t192 bt194.1 bt194.2))) else (laws_FnCasts.j0 k l0 t188 t189 t190 true t191 t192 bt194.1 bt194.2)) else (laws_FnCasts.j0 k l0 t188 t189 t190 true t191 t192 bt194.1 bt194.2)) else (laws_FnCasts.j0 k l0 t188 t189 t190 true t191 t192 bt194.1 bt194.2))) = some r := H
   have A8 := Aside0.mk A80
   clear A80
   replace H := Option.bind_eq_some_iff.mp H
   obtain ⟨⟨t194, t195⟩, A90, H⟩ := H
   replace H : (if t191 = 0 then (if t192 = t190 then (if t194 = 0 then ((impl_Signed.f t189 t195).bind fun t197 => ((impl_Signed.f t188 t190).bind fun t198 => (laws_FnCasts.j0 k l0 t188 t189 t190 (t197 != t198) t191 t192 t194 t195))) else (laws_FnCasts.j0 k l0 t188 t189 t190 true t191 t192 t194 t195)) else (laws_FnCasts.j0 k l0 t188 t189 t190 true t191 t192 t194 t195)) else (laws_FnCasts.j0 k l0 t188 t189 t190 true t191 t192 t194 t195)) = some r := H
   have A9 := Aside0.mk A90
   clear A90
   have HC10 := Aside0.mk H
   clear H
   go_enter Tryd.func5, Tryd.ntmps5
   go_upto_region 10 with (first | ((with_reducible refine gate_callee (f := 16) rfl ?_); refine goesL_ (some 19) rfl rfl Tryd.func16 (by kernel_rfl) rfl #[.slice A0 l0.length c0, .int .i64 0, .int .i64 4] rfl (by (try simp only [List.map_toArray, List.map_cons, List.map_nil]); first | done | rfl | (simp only [List.length_drop, List.length_take]; rfl)) ?_; (with_reducible refine (laws_lwAt.calls _ _ l0 0 4 t186 _ ?side1 ?side2 A3.out).mono ?_); (case side1 => repeat (first | exact HR0.out | (with_reducible refine Kd.C_alloc ?_ _) | (with_reducible refine Kd.C_drewN ?_ _) | (with_reducible refine Kd.C_drew ?_))); (case side2 => exact HC0.out); rintro e w' ⟨rfl, ⟨nd, rfl⟩⟩; refine ⟨_, rfl, ?_⟩) | ((with_reducible refine gate_callee (f := 16) rfl ?_); refine goesL_ (some 25) rfl rfl Tryd.func16 (by kernel_rfl) rfl #[.slice A0 l0.length c0, .int .i64 1, .int .i64 (wrap64 (4 - t186))] rfl (by (try simp only [List.map_toArray, List.map_cons, List.map_nil]); first | done | rfl | (simp only [List.length_drop, List.length_take]; rfl)) ?_; (with_reducible refine (laws_lwAt.calls _ _ l0 1 (wrap64 (4 - t186)) t187 _ ?side1 ?side2 A4.out).mono ?_); (case side1 => repeat (first | exact HR0.out | (with_reducible refine Kd.C_alloc ?_ _) | (with_reducible refine Kd.C_drewN ?_ _) | (with_reducible refine Kd.C_drew ?_))); (case side2 => exact HC0.out); rintro e w' ⟨rfl, ⟨nd, rfl⟩⟩; refine ⟨_, rfl, ?_⟩) | ((with_reducible refine gate_callee (f := 17) rfl ?_); refine goesL_ (some 28) rfl rfl Tryd.func17 (by kernel_rfl) rfl #[.int .i64 t186] rfl (by (try simp only [List.map_toArray, List.map_cons, List.map_nil]); first | done | rfl | (simp only [List.length_drop, List.length_take]; rfl)) ?_; (with_reducible refine (laws_lwWidth.calls t186 t188 _ A5.out).mono ?_); rintro e w11 ⟨rfl, hb⟩; refine ⟨_, rfl, ?_⟩; have n0_ := Aside0.mk (below_step (by repeat (first | (with_reducible first | exact HB.out | apply below_alloc | apply pw_below_drewN | apply below_drew1) | exact HB.out)) hb); clear HB; have HB := n0_; clear n0_; (try clear hb); (try clear hb2); (try clear hk); (try clear hi)) | ((with_reducible refine gate_callee (f := 17) rfl ?_); refine goesL_ (some 30) rfl rfl Tryd.func17 (by kernel_rfl) rfl #[.int .i64 (wrap64 ((wrap64 (t186 + 1)) + t187))] rfl (by (try simp only [List.map_toArray, List.map_cons, List.map_nil]); first | done | rfl | (simp only [List.length_drop, List.length_take]; rfl)) ?_; (with_reducible refine (laws_lwWidth.calls (wrap64 ((wrap64 (t186 + 1)) + t187)) t189 _ A6.out).mono ?_); rintro e w12 ⟨rfl, hb⟩; refine ⟨_, rfl, ?_⟩; have n0_ := Aside0.mk (below_step (by repeat (first | (with_reducible first | exact HB.out | apply below_alloc | apply pw_below_drewN | apply below_drew1) | exact HB.out)) hb); clear HB; have HB := n0_; clear n0_; (try clear hb); (try clear hb2); (try clear hk); (try clear hi)) | ((with_reducible refine gate_callee (f := 18) rfl ?_); refine goesL_ (some 33) rfl rfl Tryd.func18 (by kernel_rfl) rfl #[.slice A0 l0.length c0, .int .i64 2, .int .i64 t188] rfl (by (try simp only [List.map_toArray, List.map_cons, List.map_nil]); first | done | rfl | (simp only [List.length_drop, List.length_take]; rfl)) ?_; (with_reducible refine (laws_lwWord.calls k _ _ l0 2 t188 t190 _ ?side1 ?side2 A7.out).mono ?_); (case side1 => repeat (first | exact (Kd.C_below HR0.out HB.out) | (with_reducible refine Kd.C_alloc ?_ _) | (with_reducible refine Kd.C_drewN ?_ _) | (with_reducible refine Kd.C_drew ?_))); (case side2 => exact HC0.out); rintro e w' ⟨rfl, ⟨nd, rfl⟩⟩; refine ⟨_, rfl, ?_⟩; (try (rw [drewN_self w12]; generalize hq_ : World.drewN w12 _ = w12; have n0_ : Aside0 (Below w.heap.size w w12) := ⟨by rw [← hq_]; exact (by repeat (first | (with_reducible first | exact HB.out | apply below_alloc | apply pw_below_drewN | apply below_drew1) | exact HB.out))⟩; clear HB hq_; have HB := n0_; clear n0_))) | ((with_reducible refine gate_callee (f := 19) rfl ?_); refine goesL_ (some 37) rfl rfl Tryd.func19 (by kernel_rfl) rfl #[.int .i64 16, .int .i64 t188, .int .i64 t189, .int .u64 t190] rfl (by (try simp only [List.map_toArray, List.map_cons, List.map_nil]); first | done | rfl | (simp only [List.length_drop, List.length_take]; rfl)) ?_; (with_reducible refine (impl_Cast.calls k 16 t188 t189 t190 t191 t192 _ A8.out).mono ?_); rintro e w13 ⟨rfl, hb⟩; refine ⟨_, rfl, ?_⟩; have n0_ := Aside0.mk (below_step (by repeat (first | (with_reducible first | exact HB.out | apply below_alloc | apply pw_below_drewN | apply below_drew1) | exact HB.out)) hb); clear HB; have HB := n0_; clear n0_; (try clear hb); (try clear hb2); (try clear hk); (try clear hi)) | ((with_reducible refine gate_dst (N := 8) rfl ?_); refine box_event ?hg (N := 8) ?hd (cs := #[.int .i64 0, .int .u64 0]) (t := 46) ?hr ?_; (case hd => rfl); (case hg => rfl); (case hr => first | (go_simp; done) | (go_simp; rfl)); intro gb193 hg w14 hbox hb; have n0_ := Aside0.mk (below_step (by repeat (first | (with_reducible first | exact HB.out | apply below_alloc | apply pw_below_drewN | apply below_drew1) | exact HB.out)) hb); have n1_ := Aside0.mk (hbox); have n2_ := Aside0.mk ((by rw [hg]; exact (below_size (by repeat (first | (with_reducible first | exact HB.out | apply below_alloc | apply pw_below_drewN | apply below_drew1) | exact HB.out))) : w.heap.size ≤ gb193)); have n3_ := Aside0.mk ((by rw [hg]; exact (below_size (by repeat (first | (with_reducible first | exact HB.out | apply below_alloc | apply pw_below_drewN | apply below_drew1) | exact HB.out))) : w.heap.size ≤ gb193)); clear HB; have HB := n0_; have BK193 := n1_; have GW193 := n2_; have GE193 := n3_; clear n0_ n1_ n2_ n3_; clear hb hbox hg; have hcz15_0 : w14.cell? ⟨gb193, 0, none⟩ = some (.int .i64 0) := (blk_cell BK193.out 0).trans rfl; have hcz15_1 : w14.cell? ⟨gb193, 1, none⟩ = some (.int .u64 0) := (blk_cell BK193.out 1).trans rfl; have hfz15_0 := blk_frozen BK193.out 0; have hfz15_1 := blk_frozen BK193.out 1) | ((with_reducible refine gate_callee (f := 19) rfl ?_); refine goesL_ (some 41) rfl rfl Tryd.func19 (by kernel_rfl) rfl #[.int .i64 17, .int .i64 t188, .int .i64 t189, .int .u64 t190] rfl (by (try simp only [List.map_toArray, List.map_cons, List.map_nil]); first | done | rfl | (simp only [List.length_drop, List.length_take]; rfl)) ?_; (with_reducible refine (impl_Cast.calls k 17 t188 t189 t190 t194 t195 _ A9.out).mono ?_); rintro e w16 ⟨rfl, hb⟩; refine ⟨_, rfl, ?_⟩; have n0_ := Aside0.mk (blk_below (g := gb193) (o := .cells #[.int .i64 t191, .int .u64 t192] 46 (0, 0)) (by (with_reducible repeat (first | refine blk_drewN ?_ _ | refine blk_drew ?_ | refine blk_alloc ?_ _)); refine blk_put (cs := #[.int .i64 t191, .int .u64 0]) ?_ 1 _ rfl; (with_reducible repeat (first | refine blk_drewN ?_ _ | refine blk_drew ?_ | refine blk_alloc ?_ _)); refine blk_put (cs := #[.int .i64 0, .int .u64 0]) ?_ 0 _ rfl; (with_reducible repeat (first | refine blk_drewN ?_ _ | refine blk_drew ?_ | refine blk_alloc ?_ _)); exact BK193.out) hb); have n1_ := Aside0.mk (below_step (by repeat (first | (with_reducible first | exact HB.out | apply below_alloc | apply pw_below_drewN | apply below_drew1 | refine below_set ?_ GE193.out) | exact HB.out)) hb); clear BK193; clear HB; have BK193 := n0_; have HB := n1_; clear n0_ n1_; (try clear hb); (try clear hb2); (try clear hk); (try clear hi)) | ((with_reducible refine gate_dst (N := 9) rfl ?_); refine box_event ?hg (N := 9) ?hd (cs := #[.int .i64 0, .int .u64 0]) (t := 46) ?hr ?_; (case hd => rfl); (case hg => rfl); (case hr => first | (go_simp; done) | (go_simp; rfl)); intro gb196 hg w17 hbox hb; have n0_ := Aside0.mk (blk_below (g := gb193) (o := .cells #[.int .i64 t191, .int .u64 t192] 46 (0, 0)) (by (with_reducible repeat (first | refine blk_drewN ?_ _ | refine blk_drew ?_ | refine blk_alloc ?_ _)); exact BK193.out) hb); have n1_ := Aside0.mk (below_step (by repeat (first | (with_reducible first | exact HB.out | apply below_alloc | apply pw_below_drewN | apply below_drew1 | refine below_set ?_ GE193.out) | exact HB.out)) hb); have n2_ := Aside0.mk (hbox); have n3_ := Aside0.mk ((by rw [hg]; exact (below_size (by repeat (first | (with_reducible first | exact HB.out | apply below_alloc | apply pw_below_drewN | apply below_drew1 | refine below_set ?_ GE193.out) | exact HB.out))) : w.heap.size ≤ gb196)); have n4_ := Aside0.mk ((by rw [hg]; exact (below_size (by repeat (first | (with_reducible first | exact HB.out | apply below_alloc | apply pw_below_drewN | apply below_drew1 | refine below_set ?_ GE193.out) | exact HB.out))) : w.heap.size ≤ gb196)); have n5_ := Aside0.mk ((by rw [hg]; exact Nat.ne_of_lt (blk_lt (g := gb193) (o := .cells #[.int .i64 t191, .int .u64 t192] 46 (0, 0)) (by (with_reducible repeat (first | refine blk_drewN ?_ _ | refine blk_drew ?_ | refine blk_alloc ?_ _)); exact BK193.out)) : gb193 ≠ gb196)); have n6_ := Aside0.mk ((by rw [hg]; exact Nat.ne_of_gt (blk_lt (g := gb193) (o := .cells #[.int .i64 t191, .int .u64 t192] 46 (0, 0)) (by (with_reducible repeat (first | refine blk_drewN ?_ _ | refine blk_drew ?_ | refine blk_alloc ?_ _)); exact BK193.out)) : gb196 ≠ gb193)); clear BK193; clear HB; have BK193 := n0_; have HB := n1_; have BK196 := n2_; have GW196 := n3_; have GE196 := n4_; have NB193_196 := n5_; have NB196_193 := n6_; clear n0_ n1_ n2_ n3_ n4_ n5_ n6_; clear hb hbox hg; have hnb18 := NB196_193.out; have hnc18 := NB193_196.out; have hcz19_0 : w17.cell? ⟨gb196, 0, none⟩ = some (.int .i64 0) := (blk_cell BK196.out 0).trans rfl; have hcz19_1 : w17.cell? ⟨gb196, 1, none⟩ = some (.int .u64 0) := (blk_cell BK196.out 1).trans rfl; have hfz19_0 := blk_frozen BK196.out 0; have hfz19_1 := blk_frozen BK196.out 1))
   (try simp only [Act.put, List.setIfInBounds_toArray, List.set_cons_zero, List.set_cons_succ])
   go_cut [65] (fun v65 wc => ∃ (kq : Nat) (x65_9 : Bool), v65 = .bool x65_9 ∧ Aside0 (laws_FnCasts.j0 kq l0 t188 t189 t190 x65_9 t191 t192 t194 t195 = some r) ∧ Aside0 (kq ≤ k) ∧ Aside0 (wc.heap[gb193]? = some (.cells #[.int .i64 t191, .int .u64 t192] 46 (0, 0))) ∧ Aside0 (wc.heap[gb196]? = some (.cells #[.int .i64 t194, .int .u64 t195] 46 (0, 0))) ∧ Aside0 (Below w.heap.size w wc))
   case first =>
    have H := HC10.out
    clear HC10
    by_cases c20 : t191 = 0
    · rw [if_pos c20] at H
      have c20b0 : (t191 == 0) = true := beq_iff_eq.mpr c20
      have c20b1 : (t191 != 0) = false := bne_eq_false_iff_eq.mpr c20
      clear c20
      (first | rw [c20b0] | (simp only [i64_w, i32_w]; rw [c20b0]) | skip)
      by_cases c21 : t192 = t190
      · rw [if_pos c21] at H
        have c21b0 : (t192 == t190) = true := beq_iff_eq.mpr c21
        have c21b1 : (t192 != t190) = false := bne_eq_false_iff_eq.mpr c21
        clear c21
        by_cases c22 : t194 = 0
        · rw [if_pos c22] at H
          have c22b0 : (t194 == 0) = true := beq_iff_eq.mpr c22
          have c22b1 : (t194 != 0) = false := bne_eq_false_iff_eq.mpr c22
          clear c22
          replace H := Option.bind_eq_some_iff.mp H
          obtain ⟨t197, A230, H⟩ := H
          replace H : ((impl_Signed.f t188 t190).bind fun t198 => (laws_FnCasts.j0 k l0 t188 t189 t190 (t197 != t198) t191 t192 t194 t195)) = some r := H
          have A23 := Aside0.mk A230
          clear A230
          replace H := Option.bind_eq_some_iff.mp H
          obtain ⟨t198, A240, H⟩ := H
          replace H : (laws_FnCasts.j0 k l0 t188 t189 t190 (t197 != t198) t191 t192 t194 t195) = some r := H
          have A24 := Aside0.mk A240
          clear A240
          have H' := Aside0.mk H
          clear H
          have hnb25 := NB193_196.out
          have hnc25 := NB196_193.out
          have hcz26_0 : w17.cell? ⟨gb193, 0, none⟩ = some (.int .i64 t191) := (blk_cell BK193.out 0).trans rfl
          have hcz26_1 : w17.cell? ⟨gb193, 1, none⟩ = some (.int .u64 t192) := (blk_cell BK193.out 1).trans rfl
          have hfz26_0 := blk_frozen BK193.out 0
          have hfz26_1 := blk_frozen BK193.out 1
          have hcz27_0 : w17.cell? ⟨gb196, 0, none⟩ = some (.int .i64 0) := (blk_cell BK196.out 0).trans rfl
          have hcz27_1 : w17.cell? ⟨gb196, 1, none⟩ = some (.int .u64 0) := (blk_cell BK196.out 1).trans rfl
          have hfz27_0 := blk_frozen BK196.out 0
          have hfz27_1 := blk_frozen BK196.out 1
          go_wp2_with (first | (go_at_call 20; (with_reducible refine (impl_Signed.calls t189 t195 t197 _ A23.out).mono ?_); rintro e w' ⟨rfl, ⟨nd, rfl⟩⟩) | (go_at_call 20; (with_reducible refine (impl_Signed.calls t188 t190 t198 _ A24.out).mono ?_); rintro e w' ⟨rfl, ⟨nd, rfl⟩⟩))
          go_meet
          case rel => exact ⟨_, ((t197 != t198)), (by first | rfl | (simp; done) | (simp [*]; done)), H', ⟨by first | omega | exact Nat.le_refl _⟩, ⟨by (with_reducible repeat (first | refine blk_drewN ?_ _ | refine blk_drew ?_ | refine blk_alloc ?_ _)); refine blk_far ?_ NB193_196.out _; (with_reducible repeat (first | refine blk_drewN ?_ _ | refine blk_drew ?_ | refine blk_alloc ?_ _)); refine blk_far ?_ NB193_196.out _; (with_reducible repeat (first | refine blk_drewN ?_ _ | refine blk_drew ?_ | refine blk_alloc ?_ _)); exact BK193.out⟩, ⟨by (with_reducible repeat (first | refine blk_drewN ?_ _ | refine blk_drew ?_ | refine blk_alloc ?_ _)); refine blk_put (cs := #[.int .i64 t194, .int .u64 0]) ?_ 1 _ rfl; (with_reducible repeat (first | refine blk_drewN ?_ _ | refine blk_drew ?_ | refine blk_alloc ?_ _)); refine blk_put (cs := #[.int .i64 0, .int .u64 0]) ?_ 0 _ rfl; (with_reducible repeat (first | refine blk_drewN ?_ _ | refine blk_drew ?_ | refine blk_alloc ?_ _)); exact BK196.out⟩, ⟨by repeat (first | (with_reducible first | exact HB.out | apply below_alloc | apply pw_below_drewN | apply below_drew1 | refine below_set ?_ GE193.out | refine below_set ?_ GE196.out) | exact HB.out)⟩⟩
        · rw [if_neg c22] at H
          have c22b0 : (t194 == 0) = false := beq_eq_false_iff_ne.mpr c22
          have c22b1 : (t194 != 0) = true := bne_iff_ne.mpr c22
          have H' := Aside0.mk H
          clear H
          have hnb28 := NB193_196.out
          have hnc28 := NB196_193.out
          have hcz29_0 : w17.cell? ⟨gb193, 0, none⟩ = some (.int .i64 t191) := (blk_cell BK193.out 0).trans rfl
          have hcz29_1 : w17.cell? ⟨gb193, 1, none⟩ = some (.int .u64 t192) := (blk_cell BK193.out 1).trans rfl
          have hfz29_0 := blk_frozen BK193.out 0
          have hfz29_1 := blk_frozen BK193.out 1
          have hcz30_0 : w17.cell? ⟨gb196, 0, none⟩ = some (.int .i64 0) := (blk_cell BK196.out 0).trans rfl
          have hcz30_1 : w17.cell? ⟨gb196, 1, none⟩ = some (.int .u64 0) := (blk_cell BK196.out 1).trans rfl
          have hfz30_0 := blk_frozen BK196.out 0
          have hfz30_1 := blk_frozen BK196.out 1
          go_wp2
          go_meet
          case rel => exact ⟨_, (true), (by first | rfl | (simp; done) | (simp [*]; done)), H', ⟨by first | omega | exact Nat.le_refl _⟩, ⟨by (with_reducible repeat (first | refine blk_drewN ?_ _ | refine blk_drew ?_ | refine blk_alloc ?_ _)); refine blk_far ?_ NB193_196.out _; (with_reducible repeat (first | refine blk_drewN ?_ _ | refine blk_drew ?_ | refine blk_alloc ?_ _)); refine blk_far ?_ NB193_196.out _; (with_reducible repeat (first | refine blk_drewN ?_ _ | refine blk_drew ?_ | refine blk_alloc ?_ _)); exact BK193.out⟩, ⟨by (with_reducible repeat (first | refine blk_drewN ?_ _ | refine blk_drew ?_ | refine blk_alloc ?_ _)); refine blk_put (cs := #[.int .i64 t194, .int .u64 0]) ?_ 1 _ rfl; (with_reducible repeat (first | refine blk_drewN ?_ _ | refine blk_drew ?_ | refine blk_alloc ?_ _)); refine blk_put (cs := #[.int .i64 0, .int .u64 0]) ?_ 0 _ rfl; (with_reducible repeat (first | refine blk_drewN ?_ _ | refine blk_drew ?_ | refine blk_alloc ?_ _)); exact BK196.out⟩, ⟨by repeat (first | (with_reducible first | exact HB.out | apply below_alloc | apply pw_below_drewN | apply below_drew1 | refine below_set ?_ GE193.out | refine below_set ?_ GE196.out) | exact HB.out)⟩⟩
      · rw [if_neg c21] at H
        have c21b0 : (t192 == t190) = false := beq_eq_false_iff_ne.mpr c21
        have c21b1 : (t192 != t190) = true := bne_iff_ne.mpr c21
        have H' := Aside0.mk H
        clear H
        have hnb31 := NB193_196.out
        have hnc31 := NB196_193.out
        have hcz32_0 : w17.cell? ⟨gb193, 0, none⟩ = some (.int .i64 t191) := (blk_cell BK193.out 0).trans rfl
        have hcz32_1 : w17.cell? ⟨gb193, 1, none⟩ = some (.int .u64 t192) := (blk_cell BK193.out 1).trans rfl
        have hfz32_0 := blk_frozen BK193.out 0
        have hfz32_1 := blk_frozen BK193.out 1
        go_wp2
        go_meet
        case rel => exact ⟨_, (true), (by first | rfl | (simp; done) | (simp [*]; done)), H', ⟨by first | omega | exact Nat.le_refl _⟩, ⟨by (with_reducible repeat (first | refine blk_drewN ?_ _ | refine blk_drew ?_ | refine blk_alloc ?_ _)); refine blk_far ?_ NB193_196.out _; (with_reducible repeat (first | refine blk_drewN ?_ _ | refine blk_drew ?_ | refine blk_alloc ?_ _)); refine blk_far ?_ NB193_196.out _; (with_reducible repeat (first | refine blk_drewN ?_ _ | refine blk_drew ?_ | refine blk_alloc ?_ _)); exact BK193.out⟩, ⟨by (with_reducible repeat (first | refine blk_drewN ?_ _ | refine blk_drew ?_ | refine blk_alloc ?_ _)); refine blk_put (cs := #[.int .i64 t194, .int .u64 0]) ?_ 1 _ rfl; (with_reducible repeat (first | refine blk_drewN ?_ _ | refine blk_drew ?_ | refine blk_alloc ?_ _)); refine blk_put (cs := #[.int .i64 0, .int .u64 0]) ?_ 0 _ rfl; (with_reducible repeat (first | refine blk_drewN ?_ _ | refine blk_drew ?_ | refine blk_alloc ?_ _)); exact BK196.out⟩, ⟨by repeat (first | (with_reducible first | exact HB.out | apply below_alloc | apply pw_below_drewN | apply below_drew1 | refine below_set ?_ GE193.out | refine below_set ?_ GE196.out) | exact HB.out)⟩⟩
    · rw [if_neg c20] at H
      have c20b0 : (t191 == 0) = false := beq_eq_false_iff_ne.mpr c20
      have c20b1 : (t191 != 0) = true := bne_iff_ne.mpr c20
      (first | rw [c20b0] | (simp only [i64_w, i32_w]; rw [c20b0]) | skip)
      have H' := Aside0.mk H
      clear H
      have hnb33 := NB193_196.out
      have hnc33 := NB196_193.out
      have hcz34_0 : w17.cell? ⟨gb193, 0, none⟩ = some (.int .i64 t191) := (blk_cell BK193.out 0).trans rfl
      have hcz34_1 : w17.cell? ⟨gb193, 1, none⟩ = some (.int .u64 t192) := (blk_cell BK193.out 1).trans rfl
      have hfz34_0 := blk_frozen BK193.out 0
      have hfz34_1 := blk_frozen BK193.out 1
      go_wp2
      go_meet
      case rel => exact ⟨_, (true), (by first | rfl | (simp; done) | (simp [*]; done)), H', ⟨by first | omega | exact Nat.le_refl _⟩, ⟨by (with_reducible repeat (first | refine blk_drewN ?_ _ | refine blk_drew ?_ | refine blk_alloc ?_ _)); refine blk_far ?_ NB193_196.out _; (with_reducible repeat (first | refine blk_drewN ?_ _ | refine blk_drew ?_ | refine blk_alloc ?_ _)); refine blk_far ?_ NB193_196.out _; (with_reducible repeat (first | refine blk_drewN ?_ _ | refine blk_drew ?_ | refine blk_alloc ?_ _)); exact BK193.out⟩, ⟨by (with_reducible repeat (first | refine blk_drewN ?_ _ | refine blk_drew ?_ | refine blk_alloc ?_ _)); refine blk_put (cs := #[.int .i64 t194, .int .u64 0]) ?_ 1 _ rfl; (with_reducible repeat (first | refine blk_drewN ?_ _ | refine blk_drew ?_ | refine blk_alloc ?_ _)); refine blk_put (cs := #[.int .i64 0, .int .u64 0]) ?_ 0 _ rfl; (with_reducible repeat (first | refine blk_drewN ?_ _ | refine blk_drew ?_ | refine blk_alloc ?_ _)); exact BK196.out⟩, ⟨by repeat (first | (with_reducible first | exact HB.out | apply below_alloc | apply pw_below_drewN | apply below_drew1 | refine below_set ?_ GE193.out | refine below_set ?_ GE196.out) | exact HB.out)⟩⟩
   case rest =>
    clear HC10
    try clear c1
    try clear c2
    try clear c2b0
    try clear c2b1
    try clear p2
    try clear c3
    try clear c5
    try clear p6
    try clear c16
    try clear c17
    try clear c18
    try clear c19
    try clear c20
    try clear c20b0
    try clear c20b1
    try clear c21
    try clear c21b0
    try clear c21b1
    try clear c22
    try clear c22b0
    try clear c22b1
    try clear c25
    try clear c28
    try clear c31
    try clear c33
    try clear hcz15_0
    try clear hcz15_1
    try clear hcz19_0
    try clear hcz19_1
    try clear hcz26_0
    try clear hcz26_1
    try clear hcz27_0
    try clear hcz27_1
    try clear hcz29_0
    try clear hcz29_1
    try clear hcz30_0
    try clear hcz30_1
    try clear hcz32_0
    try clear hcz32_1
    try clear hcz34_0
    try clear hcz34_1
    try clear hfz15_0
    try clear hfz15_1
    try clear hfz19_0
    try clear hfz19_1
    try clear hfz26_0
    try clear hfz26_1
    try clear hfz27_0
    try clear hfz27_1
    try clear hfz29_0
    try clear hfz29_1
    try clear hfz30_0
    try clear hfz30_1
    try clear hfz32_0
    try clear hfz32_1
    try clear hfz34_0
    try clear hfz34_1
    obtain ⟨kq, x65_9, rfl, HA, HJ9, BK193, BK196, HB⟩ := hcut
    cases kq with
    | zero => exact absurd HA.out (by simp [laws_FnCasts.j0])
    | succ kj9 =>
     have H := HA.out
     clear HA
     simp only [laws_FnCasts.j0] at H
     by_cases c35 : x65_9 = true
     · subst c35
       have H1 : (some false) = some r := by rw [if_pos rfl] at H; exact H
       clear H
       have H := H1
       clear H1
       exact Bool.noConfusion ((Option.some.inj H).trans hr_.out)
     · replace c35 := Bool.eq_false_iff.mpr c35
       subst c35
       have H1 : ((impl_Cast.f kj9 18 t189 t188 t192).bind fun bt199 => (if bt199.2 = t190 then ((impl_Cast.f kj9 18 t189 t188 t195).bind fun bt201 => (if bt201.2 = t190 then ((impl_Cast.f kj9 18 t188 t189 t190).bind fun bt203 => (if bt203.1 = 3 then ((impl_Cast.f kj9 16 t189 t188 0).bind fun bt205 => (laws_FnCasts.j1 kj9 l0 t188 t189 (bt205.1 != 3) t194 t195)) else (laws_FnCasts.j1 kj9 l0 t188 t189 true t194 t195))) else (laws_FnCasts.j1 kj9 l0 t188 t189 true t194 t195))) else (laws_FnCasts.j1 kj9 l0 t188 t189 true t194 t195))) = some r := by rw [if_neg (show ¬ (false = true) by decide)] at H; exact H
       clear H
       have H := H1
       clear H1
       have HC36 := Aside0.mk H
       clear H
       go_upto_region 12 with (fail)
       go_cut [98] (fun v98 wc => ∃ (kq : Nat) (x98_35 : Bool), v98 = .bool x98_35 ∧ Aside0 (laws_FnCasts.j1 kq l0 t188 t189 x98_35 t194 t195 = some r) ∧ Aside0 (kq ≤ kj9) ∧ Aside0 (wc.heap[gb193]? = some (.cells #[.int .i64 t191, .int .u64 t192] 46 (0, 0))) ∧ Aside0 (wc.heap[gb196]? = some (.cells #[.int .i64 t194, .int .u64 t195] 46 (0, 0))) ∧ Aside0 (Below w.heap.size w wc))
       case first =>
        have H := HC36.out
        clear HC36
        replace H := Option.bind_eq_some_iff.mp H
        obtain ⟨⟨t199, t200⟩, A370, H⟩ := H
        replace H : (if t200 = t190 then ((impl_Cast.f kj9 18 t189 t188 t195).bind fun bt201 => (if bt201.2 = t190 then ((impl_Cast.f kj9 18 t188 t189 t190).bind fun bt203 => (if bt203.1 = 3 then ((impl_Cast.f kj9 16 t189 t188 0).bind fun bt205 => (laws_FnCasts.j1 kj9 l0 t188 t189 (bt205.1 != 3) t194 t195)) else (laws_FnCasts.j1 kj9 l0 t188 t189 true t194 t195))) else (laws_FnCasts.j1 kj9 l0 t188 t189 true t194 t195))) else (laws_FnCasts.j1 kj9 l0 t188 t189 true t194 t195)) = some r := H
        have A37 := Aside0.mk A370
        clear A370
        by_cases c38 : t200 = t190
        · rw [if_pos c38] at H
          have c38b0 : (t200 == t190) = true := beq_iff_eq.mpr c38
          have c38b1 : (t200 != t190) = false := bne_eq_false_iff_eq.mpr c38
          clear c38
          (first | rw [c38b0] | (simp only [i64_w, i32_w]; rw [c38b0]) | skip)
          replace H := Option.bind_eq_some_iff.mp H
          obtain ⟨⟨t201, t202⟩, A390, H⟩ := H
          replace H : (if t202 = t190 then ((impl_Cast.f kj9 18 t188 t189 t190).bind fun bt203 => (if bt203.1 = 3 then ((impl_Cast.f kj9 16 t189 t188 0).bind fun bt205 => (laws_FnCasts.j1 kj9 l0 t188 t189 (bt205.1 != 3) t194 t195)) else (laws_FnCasts.j1 kj9 l0 t188 t189 true t194 t195))) else (laws_FnCasts.j1 kj9 l0 t188 t189 true t194 t195)) = some r := H
          have A39 := Aside0.mk A390
          clear A390
          by_cases c40 : t202 = t190
          · rw [if_pos c40] at H
            have c40b0 : (t202 == t190) = true := beq_iff_eq.mpr c40
            have c40b1 : (t202 != t190) = false := bne_eq_false_iff_eq.mpr c40
            clear c40
            replace H := Option.bind_eq_some_iff.mp H
            obtain ⟨⟨t203, t204⟩, A410, H⟩ := H
            replace H : (if t203 = 3 then ((impl_Cast.f kj9 16 t189 t188 0).bind fun bt205 => (laws_FnCasts.j1 kj9 l0 t188 t189 (bt205.1 != 3) t194 t195)) else (laws_FnCasts.j1 kj9 l0 t188 t189 true t194 t195)) = some r := H
            have A41 := Aside0.mk A410
            clear A410
            by_cases c42 : t203 = 3
            · rw [if_pos c42] at H
              have c42b0 : (t203 == 3) = true := beq_iff_eq.mpr c42
              have c42b1 : (t203 != 3) = false := bne_eq_false_iff_eq.mpr c42
              clear c42
              replace H := Option.bind_eq_some_iff.mp H
              obtain ⟨⟨t205, t206⟩, A430, H⟩ := H
              replace H : (laws_FnCasts.j1 kj9 l0 t188 t189 (t205 != 3) t194 t195) = some r := H
              have A43 := Aside0.mk A430
              clear A430
              have H' := Aside0.mk H
              clear H
              have hnb44 := NB193_196.out
              have hnc44 := NB196_193.out
              have hcz45_0 : wc.cell? ⟨gb193, 0, none⟩ = some (.int .i64 t191) := (blk_cell BK193.out 0).trans rfl
              have hcz45_1 : wc.cell? ⟨gb193, 1, none⟩ = some (.int .u64 t192) := (blk_cell BK193.out 1).trans rfl
              have hfz45_0 := blk_frozen BK193.out 0
              have hfz45_1 := blk_frozen BK193.out 1
              go_wp2_with (first | ((with_reducible refine gate_callee (f := 19) rfl ?_); refine goesL_ (some 70) rfl rfl Tryd.func19 (by kernel_rfl) rfl #[.int .i64 18, .int .i64 t189, .int .i64 t188, .int .u64 t192] rfl (by (try simp only [List.map_toArray, List.map_cons, List.map_nil]); first | done | rfl | (simp only [List.length_drop, List.length_take]; rfl)) ?_; (with_reducible refine (impl_Cast.calls kj9 18 t189 t188 t192 t199 t200 _ A37.out).mono ?_); rintro e w46 ⟨rfl, hb⟩; refine ⟨_, rfl, ?_⟩; have n0_ := Aside0.mk (blk_below (g := gb193) (o := .cells #[.int .i64 t191, .int .u64 t192] 46 (0, 0)) (by (with_reducible repeat (first | refine blk_drewN ?_ _ | refine blk_drew ?_ | refine blk_alloc ?_ _)); exact BK193.out) hb); have n1_ := Aside0.mk (blk_below (g := gb196) (o := .cells #[.int .i64 t194, .int .u64 t195] 46 (0, 0)) (by (with_reducible repeat (first | refine blk_drewN ?_ _ | refine blk_drew ?_ | refine blk_alloc ?_ _)); exact BK196.out) hb); have n2_ := Aside0.mk (below_step (by repeat (first | (with_reducible first | exact HB.out | apply below_alloc | apply pw_below_drewN | apply below_drew1 | refine below_set ?_ GE193.out | refine below_set ?_ GE196.out) | exact HB.out)) hb); clear BK193; clear BK196; clear HB; have BK193 := n0_; have BK196 := n1_; have HB := n2_; clear n0_ n1_ n2_; (try clear hb); (try clear hb2); (try clear hk); (try clear hi); have hcz47_0 : w46.cell? ⟨gb196, 0, none⟩ = some (.int .i64 t194) := (blk_cell BK196.out 0).trans rfl; have hcz47_1 : w46.cell? ⟨gb196, 1, none⟩ = some (.int .u64 t195) := (blk_cell BK196.out 1).trans rfl; have hfz47_0 := blk_frozen BK196.out 0; have hfz47_1 := blk_frozen BK196.out 1) | (go_at_call 19; (with_reducible refine (impl_Cast.calls kj9 18 t189 t188 t195 t201 t202 _ A39.out).mono ?_); rintro e w48 ⟨rfl, hb⟩; have n0_ := Aside0.mk (blk_below (g := gb193) (o := .cells #[.int .i64 t191, .int .u64 t192] 46 (0, 0)) (by (with_reducible repeat (first | refine blk_drewN ?_ _ | refine blk_drew ?_ | refine blk_alloc ?_ _)); exact BK193.out) hb); have n1_ := Aside0.mk (blk_below (g := gb196) (o := .cells #[.int .i64 t194, .int .u64 t195] 46 (0, 0)) (by (with_reducible repeat (first | refine blk_drewN ?_ _ | refine blk_drew ?_ | refine blk_alloc ?_ _)); exact BK196.out) hb); have n2_ := Aside0.mk (below_step (by repeat (first | (with_reducible first | exact HB.out | apply below_alloc | apply pw_below_drewN | apply below_drew1 | refine below_set ?_ GE193.out | refine below_set ?_ GE196.out) | exact HB.out)) hb); clear BK193; clear BK196; clear HB; have BK193 := n0_; have BK196 := n1_; have HB := n2_; clear n0_ n1_ n2_; (try clear hb); (try clear hb2); (try clear hk); (try clear hi)) | (go_at_call 19; (with_reducible refine (impl_Cast.calls kj9 18 t188 t189 t190 t203 t204 _ A41.out).mono ?_); rintro e w49 ⟨rfl, hb⟩; have n0_ := Aside0.mk (blk_below (g := gb193) (o := .cells #[.int .i64 t191, .int .u64 t192] 46 (0, 0)) (by (with_reducible repeat (first | refine blk_drewN ?_ _ | refine blk_drew ?_ | refine blk_alloc ?_ _)); exact BK193.out) hb); have n1_ := Aside0.mk (blk_below (g := gb196) (o := .cells #[.int .i64 t194, .int .u64 t195] 46 (0, 0)) (by (with_reducible repeat (first | refine blk_drewN ?_ _ | refine blk_drew ?_ | refine blk_alloc ?_ _)); exact BK196.out) hb); have n2_ := Aside0.mk (below_step (by repeat (first | (with_reducible first | exact HB.out | apply below_alloc | apply pw_below_drewN | apply below_drew1 | refine below_set ?_ GE193.out | refine below_set ?_ GE196.out) | exact HB.out)) hb); clear BK193; clear BK196; clear HB; have BK193 := n0_; have BK196 := n1_; have HB := n2_; clear n0_ n1_ n2_; (try clear hb); (try clear hb2); (try clear hk); (try clear hi)) | (go_at_call 19; (with_reducible refine (impl_Cast.calls kj9 16 t189 t188 0 t205 t206 _ A43.out).mono ?_); rintro e w50 ⟨rfl, hb⟩; have n0_ := Aside0.mk (blk_below (g := gb193) (o := .cells #[.int .i64 t191, .int .u64 t192] 46 (0, 0)) (by (with_reducible repeat (first | refine blk_drewN ?_ _ | refine blk_drew ?_ | refine blk_alloc ?_ _)); exact BK193.out) hb); have n1_ := Aside0.mk (blk_below (g := gb196) (o := .cells #[.int .i64 t194, .int .u64 t195] 46 (0, 0)) (by (with_reducible repeat (first | refine blk_drewN ?_ _ | refine blk_drew ?_ | refine blk_alloc ?_ _)); exact BK196.out) hb); have n2_ := Aside0.mk (below_step (by repeat (first | (with_reducible first | exact HB.out | apply below_alloc | apply pw_below_drewN | apply below_drew1 | refine below_set ?_ GE193.out | refine below_set ?_ GE196.out) | exact HB.out)) hb); clear BK193; clear BK196; clear HB; have BK193 := n0_; have BK196 := n1_; have HB := n2_; clear n0_ n1_ n2_; (try clear hb); (try clear hb2); (try clear hk); (try clear hi)))
              go_meet
              case rel => exact ⟨_, ((t205 != 3)), (by first | rfl | (simp; done) | (simp [*]; done)), H', ⟨by have := HJ9.out; first | omega | exact Nat.le_refl _⟩, ⟨by (with_reducible repeat (first | refine blk_drewN ?_ _ | refine blk_drew ?_ | refine blk_alloc ?_ _)); exact BK193.out⟩, ⟨by (with_reducible repeat (first | refine blk_drewN ?_ _ | refine blk_drew ?_ | refine blk_alloc ?_ _)); exact BK196.out⟩, ⟨by repeat (first | (with_reducible first | exact HB.out | apply below_alloc | apply pw_below_drewN | apply below_drew1 | refine below_set ?_ GE193.out | refine below_set ?_ GE196.out) | exact HB.out)⟩⟩
            · rw [if_neg c42] at H
              have c42b0 : (t203 == 3) = false := beq_eq_false_iff_ne.mpr c42
              have c42b1 : (t203 != 3) = true := bne_iff_ne.mpr c42
              have H' := Aside0.mk H
              clear H
              have hnb51 := NB193_196.out
              have hnc51 := NB196_193.out
              have hcz52_0 : wc.cell? ⟨gb193, 0, none⟩ = some (.int .i64 t191) := (blk_cell BK193.out 0).trans rfl
              have hcz52_1 : wc.cell? ⟨gb193, 1, none⟩ = some (.int .u64 t192) := (blk_cell BK193.out 1).trans rfl
              have hfz52_0 := blk_frozen BK193.out 0
              have hfz52_1 := blk_frozen BK193.out 1
              go_wp2_with (first | ((with_reducible refine gate_callee (f := 19) rfl ?_); refine goesL_ (some 70) rfl rfl Tryd.func19 (by kernel_rfl) rfl #[.int .i64 18, .int .i64 t189, .int .i64 t188, .int .u64 t192] rfl (by (try simp only [List.map_toArray, List.map_cons, List.map_nil]); first | done | rfl | (simp only [List.length_drop, List.length_take]; rfl)) ?_; (with_reducible refine (impl_Cast.calls kj9 18 t189 t188 t192 t199 t200 _ A37.out).mono ?_); rintro e w53 ⟨rfl, hb⟩; refine ⟨_, rfl, ?_⟩; have n0_ := Aside0.mk (blk_below (g := gb193) (o := .cells #[.int .i64 t191, .int .u64 t192] 46 (0, 0)) (by (with_reducible repeat (first | refine blk_drewN ?_ _ | refine blk_drew ?_ | refine blk_alloc ?_ _)); exact BK193.out) hb); have n1_ := Aside0.mk (blk_below (g := gb196) (o := .cells #[.int .i64 t194, .int .u64 t195] 46 (0, 0)) (by (with_reducible repeat (first | refine blk_drewN ?_ _ | refine blk_drew ?_ | refine blk_alloc ?_ _)); exact BK196.out) hb); have n2_ := Aside0.mk (below_step (by repeat (first | (with_reducible first | exact HB.out | apply below_alloc | apply pw_below_drewN | apply below_drew1 | refine below_set ?_ GE193.out | refine below_set ?_ GE196.out) | exact HB.out)) hb); clear BK193; clear BK196; clear HB; have BK193 := n0_; have BK196 := n1_; have HB := n2_; clear n0_ n1_ n2_; (try clear hb); (try clear hb2); (try clear hk); (try clear hi); have hcz54_0 : w53.cell? ⟨gb196, 0, none⟩ = some (.int .i64 t194) := (blk_cell BK196.out 0).trans rfl; have hcz54_1 : w53.cell? ⟨gb196, 1, none⟩ = some (.int .u64 t195) := (blk_cell BK196.out 1).trans rfl; have hfz54_0 := blk_frozen BK196.out 0; have hfz54_1 := blk_frozen BK196.out 1) | (go_at_call 19; (with_reducible refine (impl_Cast.calls kj9 18 t189 t188 t195 t201 t202 _ A39.out).mono ?_); rintro e w55 ⟨rfl, hb⟩; have n0_ := Aside0.mk (blk_below (g := gb193) (o := .cells #[.int .i64 t191, .int .u64 t192] 46 (0, 0)) (by (with_reducible repeat (first | refine blk_drewN ?_ _ | refine blk_drew ?_ | refine blk_alloc ?_ _)); exact BK193.out) hb); have n1_ := Aside0.mk (blk_below (g := gb196) (o := .cells #[.int .i64 t194, .int .u64 t195] 46 (0, 0)) (by (with_reducible repeat (first | refine blk_drewN ?_ _ | refine blk_drew ?_ | refine blk_alloc ?_ _)); exact BK196.out) hb); have n2_ := Aside0.mk (below_step (by repeat (first | (with_reducible first | exact HB.out | apply below_alloc | apply pw_below_drewN | apply below_drew1 | refine below_set ?_ GE193.out | refine below_set ?_ GE196.out) | exact HB.out)) hb); clear BK193; clear BK196; clear HB; have BK193 := n0_; have BK196 := n1_; have HB := n2_; clear n0_ n1_ n2_; (try clear hb); (try clear hb2); (try clear hk); (try clear hi)) | (go_at_call 19; (with_reducible refine (impl_Cast.calls kj9 18 t188 t189 t190 t203 t204 _ A41.out).mono ?_); rintro e w56 ⟨rfl, hb⟩; have n0_ := Aside0.mk (blk_below (g := gb193) (o := .cells #[.int .i64 t191, .int .u64 t192] 46 (0, 0)) (by (with_reducible repeat (first | refine blk_drewN ?_ _ | refine blk_drew ?_ | refine blk_alloc ?_ _)); exact BK193.out) hb); have n1_ := Aside0.mk (blk_below (g := gb196) (o := .cells #[.int .i64 t194, .int .u64 t195] 46 (0, 0)) (by (with_reducible repeat (first | refine blk_drewN ?_ _ | refine blk_drew ?_ | refine blk_alloc ?_ _)); exact BK196.out) hb); have n2_ := Aside0.mk (below_step (by repeat (first | (with_reducible first | exact HB.out | apply below_alloc | apply pw_below_drewN | apply below_drew1 | refine below_set ?_ GE193.out | refine below_set ?_ GE196.out) | exact HB.out)) hb); clear BK193; clear BK196; clear HB; have BK193 := n0_; have BK196 := n1_; have HB := n2_; clear n0_ n1_ n2_; (try clear hb); (try clear hb2); (try clear hk); (try clear hi)))
              go_meet
              case rel => exact ⟨_, (true), (by first | rfl | (simp; done) | (simp [*]; done)), H', ⟨by have := HJ9.out; first | omega | exact Nat.le_refl _⟩, ⟨by (with_reducible repeat (first | refine blk_drewN ?_ _ | refine blk_drew ?_ | refine blk_alloc ?_ _)); exact BK193.out⟩, ⟨by (with_reducible repeat (first | refine blk_drewN ?_ _ | refine blk_drew ?_ | refine blk_alloc ?_ _)); exact BK196.out⟩, ⟨by repeat (first | (with_reducible first | exact HB.out | apply below_alloc | apply pw_below_drewN | apply below_drew1 | refine below_set ?_ GE193.out | refine below_set ?_ GE196.out) | exact HB.out)⟩⟩
          · rw [if_neg c40] at H
            have c40b0 : (t202 == t190) = false := beq_eq_false_iff_ne.mpr c40
            have c40b1 : (t202 != t190) = true := bne_iff_ne.mpr c40
            have H' := Aside0.mk H
            clear H
            have hnb57 := NB193_196.out
            have hnc57 := NB196_193.out
            have hcz58_0 : wc.cell? ⟨gb193, 0, none⟩ = some (.int .i64 t191) := (blk_cell BK193.out 0).trans rfl
            have hcz58_1 : wc.cell? ⟨gb193, 1, none⟩ = some (.int .u64 t192) := (blk_cell BK193.out 1).trans rfl
            have hfz58_0 := blk_frozen BK193.out 0
            have hfz58_1 := blk_frozen BK193.out 1
            go_wp2_with (first | ((with_reducible refine gate_callee (f := 19) rfl ?_); refine goesL_ (some 70) rfl rfl Tryd.func19 (by kernel_rfl) rfl #[.int .i64 18, .int .i64 t189, .int .i64 t188, .int .u64 t192] rfl (by (try simp only [List.map_toArray, List.map_cons, List.map_nil]); first | done | rfl | (simp only [List.length_drop, List.length_take]; rfl)) ?_; (with_reducible refine (impl_Cast.calls kj9 18 t189 t188 t192 t199 t200 _ A37.out).mono ?_); rintro e w59 ⟨rfl, hb⟩; refine ⟨_, rfl, ?_⟩; have n0_ := Aside0.mk (blk_below (g := gb193) (o := .cells #[.int .i64 t191, .int .u64 t192] 46 (0, 0)) (by (with_reducible repeat (first | refine blk_drewN ?_ _ | refine blk_drew ?_ | refine blk_alloc ?_ _)); exact BK193.out) hb); have n1_ := Aside0.mk (blk_below (g := gb196) (o := .cells #[.int .i64 t194, .int .u64 t195] 46 (0, 0)) (by (with_reducible repeat (first | refine blk_drewN ?_ _ | refine blk_drew ?_ | refine blk_alloc ?_ _)); exact BK196.out) hb); have n2_ := Aside0.mk (below_step (by repeat (first | (with_reducible first | exact HB.out | apply below_alloc | apply pw_below_drewN | apply below_drew1 | refine below_set ?_ GE193.out | refine below_set ?_ GE196.out) | exact HB.out)) hb); clear BK193; clear BK196; clear HB; have BK193 := n0_; have BK196 := n1_; have HB := n2_; clear n0_ n1_ n2_; (try clear hb); (try clear hb2); (try clear hk); (try clear hi); have hcz60_0 : w59.cell? ⟨gb196, 0, none⟩ = some (.int .i64 t194) := (blk_cell BK196.out 0).trans rfl; have hcz60_1 : w59.cell? ⟨gb196, 1, none⟩ = some (.int .u64 t195) := (blk_cell BK196.out 1).trans rfl; have hfz60_0 := blk_frozen BK196.out 0; have hfz60_1 := blk_frozen BK196.out 1) | (go_at_call 19; (with_reducible refine (impl_Cast.calls kj9 18 t189 t188 t195 t201 t202 _ A39.out).mono ?_); rintro e w61 ⟨rfl, hb⟩; have n0_ := Aside0.mk (blk_below (g := gb193) (o := .cells #[.int .i64 t191, .int .u64 t192] 46 (0, 0)) (by (with_reducible repeat (first | refine blk_drewN ?_ _ | refine blk_drew ?_ | refine blk_alloc ?_ _)); exact BK193.out) hb); have n1_ := Aside0.mk (blk_below (g := gb196) (o := .cells #[.int .i64 t194, .int .u64 t195] 46 (0, 0)) (by (with_reducible repeat (first | refine blk_drewN ?_ _ | refine blk_drew ?_ | refine blk_alloc ?_ _)); exact BK196.out) hb); have n2_ := Aside0.mk (below_step (by repeat (first | (with_reducible first | exact HB.out | apply below_alloc | apply pw_below_drewN | apply below_drew1 | refine below_set ?_ GE193.out | refine below_set ?_ GE196.out) | exact HB.out)) hb); clear BK193; clear BK196; clear HB; have BK193 := n0_; have BK196 := n1_; have HB := n2_; clear n0_ n1_ n2_; (try clear hb); (try clear hb2); (try clear hk); (try clear hi)))
            go_meet
            case rel => exact ⟨_, (true), (by first | rfl | (simp; done) | (simp [*]; done)), H', ⟨by have := HJ9.out; first | omega | exact Nat.le_refl _⟩, ⟨by (with_reducible repeat (first | refine blk_drewN ?_ _ | refine blk_drew ?_ | refine blk_alloc ?_ _)); exact BK193.out⟩, ⟨by (with_reducible repeat (first | refine blk_drewN ?_ _ | refine blk_drew ?_ | refine blk_alloc ?_ _)); exact BK196.out⟩, ⟨by repeat (first | (with_reducible first | exact HB.out | apply below_alloc | apply pw_below_drewN | apply below_drew1 | refine below_set ?_ GE193.out | refine below_set ?_ GE196.out) | exact HB.out)⟩⟩
        · rw [if_neg c38] at H
          have c38b0 : (t200 == t190) = false := beq_eq_false_iff_ne.mpr c38
          have c38b1 : (t200 != t190) = true := bne_iff_ne.mpr c38
          (first | rw [c38b0] | (simp only [i64_w, i32_w]; rw [c38b0]) | skip)
          have H' := Aside0.mk H
          clear H
          have hnb62 := NB193_196.out
          have hnc62 := NB196_193.out
          have hcz63_0 : wc.cell? ⟨gb193, 0, none⟩ = some (.int .i64 t191) := (blk_cell BK193.out 0).trans rfl
          have hcz63_1 : wc.cell? ⟨gb193, 1, none⟩ = some (.int .u64 t192) := (blk_cell BK193.out 1).trans rfl
          have hfz63_0 := blk_frozen BK193.out 0
          have hfz63_1 := blk_frozen BK193.out 1
          go_wp2_with (first | ((with_reducible refine gate_callee (f := 19) rfl ?_); refine goesL_ (some 70) rfl rfl Tryd.func19 (by kernel_rfl) rfl #[.int .i64 18, .int .i64 t189, .int .i64 t188, .int .u64 t192] rfl (by (try simp only [List.map_toArray, List.map_cons, List.map_nil]); first | done | rfl | (simp only [List.length_drop, List.length_take]; rfl)) ?_; (with_reducible refine (impl_Cast.calls kj9 18 t189 t188 t192 t199 t200 _ A37.out).mono ?_); rintro e w64 ⟨rfl, hb⟩; refine ⟨_, rfl, ?_⟩; have n0_ := Aside0.mk (blk_below (g := gb193) (o := .cells #[.int .i64 t191, .int .u64 t192] 46 (0, 0)) (by (with_reducible repeat (first | refine blk_drewN ?_ _ | refine blk_drew ?_ | refine blk_alloc ?_ _)); exact BK193.out) hb); have n1_ := Aside0.mk (blk_below (g := gb196) (o := .cells #[.int .i64 t194, .int .u64 t195] 46 (0, 0)) (by (with_reducible repeat (first | refine blk_drewN ?_ _ | refine blk_drew ?_ | refine blk_alloc ?_ _)); exact BK196.out) hb); have n2_ := Aside0.mk (below_step (by repeat (first | (with_reducible first | exact HB.out | apply below_alloc | apply pw_below_drewN | apply below_drew1 | refine below_set ?_ GE193.out | refine below_set ?_ GE196.out) | exact HB.out)) hb); clear BK193; clear BK196; clear HB; have BK193 := n0_; have BK196 := n1_; have HB := n2_; clear n0_ n1_ n2_; (try clear hb); (try clear hb2); (try clear hk); (try clear hi)))
          go_meet
          case rel => exact ⟨_, (true), (by first | rfl | (simp; done) | (simp [*]; done)), H', ⟨by have := HJ9.out; first | omega | exact Nat.le_refl _⟩, ⟨by (with_reducible repeat (first | refine blk_drewN ?_ _ | refine blk_drew ?_ | refine blk_alloc ?_ _)); exact BK193.out⟩, ⟨by (with_reducible repeat (first | refine blk_drewN ?_ _ | refine blk_drew ?_ | refine blk_alloc ?_ _)); exact BK196.out⟩, ⟨by repeat (first | (with_reducible first | exact HB.out | apply below_alloc | apply pw_below_drewN | apply below_drew1 | refine below_set ?_ GE193.out | refine below_set ?_ GE196.out) | exact HB.out)⟩⟩
       case rest =>
        clear HC36
        try clear c1
        try clear c2
        try clear c2b0
        try clear c2b1
        try clear p2
        try clear c3
        try clear c4
        try clear c5
        try clear c6
        try clear p6
        try clear c16
        try clear c17
        try clear c18
        try clear c19
        try clear c20
        try clear c20b0
        try clear c20b1
        try clear c21
        try clear c21b0
        try clear c21b1
        try clear c22
        try clear c22b0
        try clear c22b1
        try clear c25
        try clear c28
        try clear c31
        try clear c33
        try clear c35
        try clear c38
        try clear c38b0
        try clear c38b1
        try clear c40
        try clear c40b0
        try clear c40b1
        try clear c42
        try clear c42b0
        try clear c42b1
        try clear c44
        try clear c51
        try clear c57
        try clear c62
        try clear p64
        try clear hcz15_0
        try clear hcz15_1
        try clear hcz19_0
        try clear hcz19_1
        try clear hcz26_0
        try clear hcz26_1
        try clear hcz27_0
        try clear hcz27_1
        try clear hcz29_0
        try clear hcz29_1
        try clear hcz30_0
        try clear hcz30_1
        try clear hcz32_0
        try clear hcz32_1
        try clear hcz34_0
        try clear hcz34_1
        try clear hcz45_0
        try clear hcz45_1
        try clear hcz47_0
        try clear hcz47_1
        try clear hcz52_0
        try clear hcz52_1
        try clear hcz54_0
        try clear hcz54_1
        try clear hcz58_0
        try clear hcz58_1
        try clear hcz60_0
        try clear hcz60_1
        try clear hcz63_0
        try clear hcz63_1
        try clear hfz15_0
        try clear hfz15_1
        try clear hfz19_0
        try clear hfz19_1
        try clear hfz26_0
        try clear hfz26_1
        try clear hfz27_0
        try clear hfz27_1
        try clear hfz29_0
        try clear hfz29_1
        try clear hfz30_0
        try clear hfz30_1
        try clear hfz32_0
        try clear hfz32_1
        try clear hfz34_0
        try clear hfz34_1
        try clear hfz45_0
        try clear hfz45_1
        try clear hfz47_0
        try clear hfz47_1
        try clear hfz52_0
        try clear hfz52_1
        try clear hfz54_0
        try clear hfz54_1
        try clear hfz58_0
        try clear hfz58_1
        try clear hfz60_0
        try clear hfz60_1
        try clear hfz63_0
        try clear hfz63_1
        try clear p2
        try clear p6
        obtain ⟨kq, x98_35, rfl, HA, HJ35, BK193, BK196, HB⟩ := hcut
        cases kq with
        | zero => exact absurd HA.out (by simp [laws_FnCasts.j1])
        | succ kj35 =>
         have H := HA.out
         clear HA
         simp only [laws_FnCasts.j1] at H
         by_cases c65 : x98_35 = true
         · subst c65
           have H1 : (some false) = some r := by rw [if_pos rfl] at H; exact H
           clear H
           have H := H1
           clear H1
           exact Bool.noConfusion ((Option.some.inj H).trans hr_.out)
         · replace c65 := Bool.eq_false_iff.mpr c65
           subst c65
           have H1 : ((laws_lwWord.f kj35 l0 20 64).bind fun t207 => ((impl_Cut.f t188 t207).bind fun t208 => ((impl_Cut.f t189 t207).bind fun t209 => ((impl_Cut.f t188 t209).bind fun t210 => (if t208 = t210 then ((impl_FormatWord.f t189 t195).bind fun t211 => ((impl_ParseWord.f t189 t211).bind fun bt212 => ((laws_lwWord.f kj35 l0 30 64).bind fun t215 => ((spec_FormatWord.f kj35 64 t215).bind fun t216 => ((impl_ParseWord.f t188 t216).bind fun bt217 => (if bt212.1 = true then (if bt212.2 = t195 then (if bt217.1 = true then ((impl_FormatWord.f t188 bt217.2).bind fun t220 => (if t220.toList = t216.toList then ((spec_ParseWord.f kj35 t188 t216).bind fun bt221 => (if (bt217.1 == bt221.1) = true then (if t211.size + 1 ≤ 9223372036854775807 then ((impl_ParseWord.f t189 (t211 ++ (⟨#[32]⟩ : ByteArray))).bind fun bt223 => (if bt223.1 = true then (some false) else (if 1 + t211.size ≤ 9223372036854775807 then ((impl_ParseWord.f t189 ((⟨#[48]⟩ : ByteArray) ++ t211)).bind fun bt225 => (some (!bt225.1))) else (none)))) else (none)) else (some false))) else (some false))) else ((spec_ParseWord.f kj35 t188 t216).bind fun bt227 => (if (bt217.1 == bt227.1) = true then (if t211.size + 1 ≤ 9223372036854775807 then ((impl_ParseWord.f t189 (t211 ++ (⟨#[32]⟩ : ByteArray))).bind fun bt229 => (if bt229.1 = true then (some false) else (if 1 + t211.size ≤ 9223372036854775807 then ((impl_ParseWord.f t189 ((⟨#[48]⟩ : ByteArray) ++ t211)).bind fun bt231 => (some (!bt231.1))) else (none)))) else (none)) else (some false)))) else (some false)) else (some false))))))) else (some false)))))) = some r := by rw [if_neg (show ¬ (false = true) by decide)] at H; exact H
           clear H
           have H := H1
           clear H1
           replace H := Option.bind_eq_some_iff.mp H
           obtain ⟨t207, A660, H⟩ := H
           replace H : ((impl_Cut.f t188 t207).bind fun t208 => ((impl_Cut.f t189 t207).bind fun t209 => ((impl_Cut.f t188 t209).bind fun t210 => (if t208 = t210 then ((impl_FormatWord.f t189 t195).bind fun t211 => ((impl_ParseWord.f t189 t211).bind fun bt212 => ((laws_lwWord.f kj35 l0 30 64).bind fun t215 => ((spec_FormatWord.f kj35 64 t215).bind fun t216 => ((impl_ParseWord.f t188 t216).bind fun bt217 => (if bt212.1 = true then (if bt212.2 = t195 then (if bt217.1 = true then ((impl_FormatWord.f t188 bt217.2).bind fun t220 => (if t220.toList = t216.toList then ((spec_ParseWord.f kj35 t188 t216).bind fun bt221 => (if (bt217.1 == bt221.1) = true then (if t211.size + 1 ≤ 9223372036854775807 then ((impl_ParseWord.f t189 (t211 ++ (⟨#[32]⟩ : ByteArray))).bind fun bt223 => (if bt223.1 = true then (some false) else (if 1 + t211.size ≤ 9223372036854775807 then ((impl_ParseWord.f t189 ((⟨#[48]⟩ : ByteArray) ++ t211)).bind fun bt225 => (some (!bt225.1))) else (none)))) else (none)) else (some false))) else (some false))) else ((spec_ParseWord.f kj35 t188 t216).bind fun bt227 => (if (bt217.1 == bt227.1) = true then (if t211.size + 1 ≤ 9223372036854775807 then ((impl_ParseWord.f t189 (t211 ++ (⟨#[32]⟩ : ByteArray))).bind fun bt229 => (if bt229.1 = true then (some false) else (if 1 + t211.size ≤ 9223372036854775807 then ((impl_ParseWord.f t189 ((⟨#[48]⟩ : ByteArray) ++ t211)).bind fun bt231 => (some (!bt231.1))) else (none)))) else (none)) else (some false)))) else (some false)) else (some false))))))) else (some false))))) = some r := H
           have A66 := Aside0.mk A660
           clear A660
           replace H := Option.bind_eq_some_iff.mp H
           obtain ⟨t208, A670, H⟩ := H
           replace H : ((impl_Cut.f t189 t207).bind fun t209 => ((impl_Cut.f t188 t209).bind fun t210 => (if t208 = t210 then ((impl_FormatWord.f t189 t195).bind fun t211 => ((impl_ParseWord.f t189 t211).bind fun bt212 => ((laws_lwWord.f kj35 l0 30 64).bind fun t215 => ((spec_FormatWord.f kj35 64 t215).bind fun t216 => ((impl_ParseWord.f t188 t216).bind fun bt217 => (if bt212.1 = true then (if bt212.2 = t195 then (if bt217.1 = true then ((impl_FormatWord.f t188 bt217.2).bind fun t220 => (if t220.toList = t216.toList then ((spec_ParseWord.f kj35 t188 t216).bind fun bt221 => (if (bt217.1 == bt221.1) = true then (if t211.size + 1 ≤ 9223372036854775807 then ((impl_ParseWord.f t189 (t211 ++ (⟨#[32]⟩ : ByteArray))).bind fun bt223 => (if bt223.1 = true then (some false) else (if 1 + t211.size ≤ 9223372036854775807 then ((impl_ParseWord.f t189 ((⟨#[48]⟩ : ByteArray) ++ t211)).bind fun bt225 => (some (!bt225.1))) else (none)))) else (none)) else (some false))) else (some false))) else ((spec_ParseWord.f kj35 t188 t216).bind fun bt227 => (if (bt217.1 == bt227.1) = true then (if t211.size + 1 ≤ 9223372036854775807 then ((impl_ParseWord.f t189 (t211 ++ (⟨#[32]⟩ : ByteArray))).bind fun bt229 => (if bt229.1 = true then (some false) else (if 1 + t211.size ≤ 9223372036854775807 then ((impl_ParseWord.f t189 ((⟨#[48]⟩ : ByteArray) ++ t211)).bind fun bt231 => (some (!bt231.1))) else (none)))) else (none)) else (some false)))) else (some false)) else (some false))))))) else (some false)))) = some r := H
           have A67 := Aside0.mk A670
           clear A670
           replace H := Option.bind_eq_some_iff.mp H
           obtain ⟨t209, A680, H⟩ := H
           replace H : ((impl_Cut.f t188 t209).bind fun t210 => (if t208 = t210 then ((impl_FormatWord.f t189 t195).bind fun t211 => ((impl_ParseWord.f t189 t211).bind fun bt212 => ((laws_lwWord.f kj35 l0 30 64).bind fun t215 => ((spec_FormatWord.f kj35 64 t215).bind fun t216 => ((impl_ParseWord.f t188 t216).bind fun bt217 => (if bt212.1 = true then (if bt212.2 = t195 then (if bt217.1 = true then ((impl_FormatWord.f t188 bt217.2).bind fun t220 => (if t220.toList = t216.toList then ((spec_ParseWord.f kj35 t188 t216).bind fun bt221 => (if (bt217.1 == bt221.1) = true then (if t211.size + 1 ≤ 9223372036854775807 then ((impl_ParseWord.f t189 (t211 ++ (⟨#[32]⟩ : ByteArray))).bind fun bt223 => (if bt223.1 = true then (some false) else (if 1 + t211.size ≤ 9223372036854775807 then ((impl_ParseWord.f t189 ((⟨#[48]⟩ : ByteArray) ++ t211)).bind fun bt225 => (some (!bt225.1))) else (none)))) else (none)) else (some false))) else (some false))) else ((spec_ParseWord.f kj35 t188 t216).bind fun bt227 => (if (bt217.1 == bt227.1) = true then (if t211.size + 1 ≤ 9223372036854775807 then ((impl_ParseWord.f t189 (t211 ++ (⟨#[32]⟩ : ByteArray))).bind fun bt229 => (if bt229.1 = true then (some false) else (if 1 + t211.size ≤ 9223372036854775807 then ((impl_ParseWord.f t189 ((⟨#[48]⟩ : ByteArray) ++ t211)).bind fun bt231 => (some (!bt231.1))) else (none)))) else (none)) else (some false)))) else (some false)) else (some false))))))) else (some false))) = some r := H
           have A68 := Aside0.mk A680
           clear A680
           replace H := Option.bind_eq_some_iff.mp H
           obtain ⟨t210, A690, H⟩ := H
           replace H : (if t208 = t210 then ((impl_FormatWord.f t189 t195).bind fun t211 => ((impl_ParseWord.f t189 t211).bind fun bt212 => ((laws_lwWord.f kj35 l0 30 64).bind fun t215 => ((spec_FormatWord.f kj35 64 t215).bind fun t216 => ((impl_ParseWord.f t188 t216).bind fun bt217 => (if bt212.1 = true then (if bt212.2 = t195 then (if bt217.1 = true then ((impl_FormatWord.f t188 bt217.2).bind fun t220 => (if t220.toList = t216.toList then ((spec_ParseWord.f kj35 t188 t216).bind fun bt221 => (if (bt217.1 == bt221.1) = true then (if t211.size + 1 ≤ 9223372036854775807 then ((impl_ParseWord.f t189 (t211 ++ (⟨#[32]⟩ : ByteArray))).bind fun bt223 => (if bt223.1 = true then (some false) else (if 1 + t211.size ≤ 9223372036854775807 then ((impl_ParseWord.f t189 ((⟨#[48]⟩ : ByteArray) ++ t211)).bind fun bt225 => (some (!bt225.1))) else (none)))) else (none)) else (some false))) else (some false))) else ((spec_ParseWord.f kj35 t188 t216).bind fun bt227 => (if (bt217.1 == bt227.1) = true then (if t211.size + 1 ≤ 9223372036854775807 then ((impl_ParseWord.f t189 (t211 ++ (⟨#[32]⟩ : ByteArray))).bind fun bt229 => (if bt229.1 = true then (some false) else (if 1 + t211.size ≤ 9223372036854775807 then ((impl_ParseWord.f t189 ((⟨#[48]⟩ : ByteArray) ++ t211)).bind fun bt231 => (some (!bt231.1))) else (none)))) else (none)) else (some false)))) else (some false)) else (some false))))))) else (some false)) = some r := H
           have A69 := Aside0.mk A690
           clear A690
           by_cases c70 : t208 = t210
           · rw [if_pos c70] at H
             have c70b0 : (t208 == t210) = true := beq_iff_eq.mpr c70
             have c70b1 : (t208 != t210) = false := bne_eq_false_iff_eq.mpr c70
             clear c70
             replace H := Option.bind_eq_some_iff.mp H
             obtain ⟨t211, A710, H⟩ := H
             replace H : ((impl_ParseWord.f t189 t211).bind fun bt212 => ((laws_lwWord.f kj35 l0 30 64).bind fun t215 => ((spec_FormatWord.f kj35 64 t215).bind fun t216 => ((impl_ParseWord.f t188 t216).bind fun bt217 => (if bt212.1 = true then (if bt212.2 = t195 then (if bt217.1 = true then ((impl_FormatWord.f t188 bt217.2).bind fun t220 => (if t220.toList = t216.toList then ((spec_ParseWord.f kj35 t188 t216).bind fun bt221 => (if (bt217.1 == bt221.1) = true then (if t211.size + 1 ≤ 9223372036854775807 then ((impl_ParseWord.f t189 (t211 ++ (⟨#[32]⟩ : ByteArray))).bind fun bt223 => (if bt223.1 = true then (some false) else (if 1 + t211.size ≤ 9223372036854775807 then ((impl_ParseWord.f t189 ((⟨#[48]⟩ : ByteArray) ++ t211)).bind fun bt225 => (some (!bt225.1))) else (none)))) else (none)) else (some false))) else (some false))) else ((spec_ParseWord.f kj35 t188 t216).bind fun bt227 => (if (bt217.1 == bt227.1) = true then (if t211.size + 1 ≤ 9223372036854775807 then ((impl_ParseWord.f t189 (t211 ++ (⟨#[32]⟩ : ByteArray))).bind fun bt229 => (if bt229.1 = true then (some false) else (if 1 + t211.size ≤ 9223372036854775807 then ((impl_ParseWord.f t189 ((⟨#[48]⟩ : ByteArray) ++ t211)).bind fun bt231 => (some (!bt231.1))) else (none)))) else (none)) else (some false)))) else (some false)) else (some false)))))) = some r := H
             have A71 := Aside0.mk A710
             clear A710
             replace H := Option.bind_eq_some_iff.mp H
             obtain ⟨⟨t212, t213⟩, A720, H⟩ := H
             replace H : ((laws_lwWord.f kj35 l0 30 64).bind fun t215 => ((spec_FormatWord.f kj35 64 t215).bind fun t216 => ((impl_ParseWord.f t188 t216).bind fun bt217 => (if t212 = true then (if t213 = t195 then (if bt217.1 = true then ((impl_FormatWord.f t188 bt217.2).bind fun t220 => (if t220.toList = t216.toList then ((spec_ParseWord.f kj35 t188 t216).bind fun bt221 => (if (bt217.1 == bt221.1) = true then (if t211.size + 1 ≤ 9223372036854775807 then ((impl_ParseWord.f t189 (t211 ++ (⟨#[32]⟩ : ByteArray))).bind fun bt223 => (if bt223.1 = true then (some false) else (if 1 + t211.size ≤ 9223372036854775807 then ((impl_ParseWord.f t189 ((⟨#[48]⟩ : ByteArray) ++ t211)).bind fun bt225 => (some (!bt225.1))) else (none)))) else (none)) else (some false))) else (some false))) else ((spec_ParseWord.f kj35 t188 t216).bind fun bt227 => (if (bt217.1 == bt227.1) = true then (if t211.size + 1 ≤ 9223372036854775807 then ((impl_ParseWord.f t189 (t211 ++ (⟨#[32]⟩ : ByteArray))).bind fun bt229 => (if bt229.1 = true then (some false) else (if 1 + t211.size ≤ 9223372036854775807 then ((impl_ParseWord.f t189 ((⟨#[48]⟩ : ByteArray) ++ t211)).bind fun bt231 => (some (!bt231.1))) else (none)))) else (none)) else (some false)))) else (some false)) else (some false))))) = some r := H
             have A72 := Aside0.mk A720
             clear A720
             replace H := Option.bind_eq_some_iff.mp H
             obtain ⟨t215, A730, H⟩ := H
             replace H : ((spec_FormatWord.f kj35 64 t215).bind fun t216 => ((impl_ParseWord.f t188 t216).bind fun bt217 => (if t212 = true then (if t213 = t195 then (if bt217.1 = true then ((impl_FormatWord.f t188 bt217.2).bind fun t220 => (if t220.toList = t216.toList then ((spec_ParseWord.f kj35 t188 t216).bind fun bt221 => (if (bt217.1 == bt221.1) = true then (if t211.size + 1 ≤ 9223372036854775807 then ((impl_ParseWord.f t189 (t211 ++ (⟨#[32]⟩ : ByteArray))).bind fun bt223 => (if bt223.1 = true then (some false) else (if 1 + t211.size ≤ 9223372036854775807 then ((impl_ParseWord.f t189 ((⟨#[48]⟩ : ByteArray) ++ t211)).bind fun bt225 => (some (!bt225.1))) else (none)))) else (none)) else (some false))) else (some false))) else ((spec_ParseWord.f kj35 t188 t216).bind fun bt227 => (if (bt217.1 == bt227.1) = true then (if t211.size + 1 ≤ 9223372036854775807 then ((impl_ParseWord.f t189 (t211 ++ (⟨#[32]⟩ : ByteArray))).bind fun bt229 => (if bt229.1 = true then (some false) else (if 1 + t211.size ≤ 9223372036854775807 then ((impl_ParseWord.f t189 ((⟨#[48]⟩ : ByteArray) ++ t211)).bind fun bt231 => (some (!bt231.1))) else (none)))) else (none)) else (some false)))) else (some false)) else (some false)))) = some r := H
             have A73 := Aside0.mk A730
             clear A730
             replace H := Option.bind_eq_some_iff.mp H
             obtain ⟨t216, A740, H⟩ := H
             replace H : ((impl_ParseWord.f t188 t216).bind fun bt217 => (if t212 = true then (if t213 = t195 then (if bt217.1 = true then ((impl_FormatWord.f t188 bt217.2).bind fun t220 => (if t220.toList = t216.toList then ((spec_ParseWord.f kj35 t188 t216).bind fun bt221 => (if (bt217.1 == bt221.1) = true then (if t211.size + 1 ≤ 9223372036854775807 then ((impl_ParseWord.f t189 (t211 ++ (⟨#[32]⟩ : ByteArray))).bind fun bt223 => (if bt223.1 = true then (some false) else (if 1 + t211.size ≤ 9223372036854775807 then ((impl_ParseWord.f t189 ((⟨#[48]⟩ : ByteArray) ++ t211)).bind fun bt225 => (some (!bt225.1))) else (none)))) else (none)) else (some false))) else (some false))) else ((spec_ParseWord.f kj35 t188 t216).bind fun bt227 => (if (bt217.1 == bt227.1) = true then (if t211.size + 1 ≤ 9223372036854775807 then ((impl_ParseWord.f t189 (t211 ++ (⟨#[32]⟩ : ByteArray))).bind fun bt229 => (if bt229.1 = true then (some false) else (if 1 + t211.size ≤ 9223372036854775807 then ((impl_ParseWord.f t189 ((⟨#[48]⟩ : ByteArray) ++ t211)).bind fun bt231 => (some (!bt231.1))) else (none)))) else (none)) else (some false)))) else (some false)) else (some false))) = some r := H
             have A74 := Aside0.mk A740
             clear A740
             replace H := Option.bind_eq_some_iff.mp H
             obtain ⟨⟨t217, t218⟩, A750, H⟩ := H
             replace H : (if t212 = true then (if t213 = t195 then (if t217 = true then ((impl_FormatWord.f t188 t218).bind fun t220 => (if t220.toList = t216.toList then ((spec_ParseWord.f kj35 t188 t216).bind fun bt221 => (if (t217 == bt221.1) = true then (if t211.size + 1 ≤ 9223372036854775807 then ((impl_ParseWord.f t189 (t211 ++ (⟨#[32]⟩ : ByteArray))).bind fun bt223 => (if bt223.1 = true then (some false) else (if 1 + t211.size ≤ 9223372036854775807 then ((impl_ParseWord.f t189 ((⟨#[48]⟩ : ByteArray) ++ t211)).bind fun bt225 => (some (!bt225.1))) else (none)))) else (none)) else (some false))) else (some false))) else ((spec_ParseWord.f kj35 t188 t216).bind fun bt227 => (if (t217 == bt227.1) = true then (if t211.size + 1 ≤ 9223372036854775807 then ((impl_ParseWord.f t189 (t211 ++ (⟨#[32]⟩ : ByteArray))).bind fun bt229 => (if bt229.1 = true then (some false) else (if 1 + t211.size ≤ 9223372036854775807 then ((impl_ParseWord.f t189 ((⟨#[48]⟩ : ByteArray) ++ t211)).bind fun bt231 => (some (!bt231.1))) else (none)))) else (none)) else (some false)))) else (some false)) else (some false)) = some r := H
             have A75 := Aside0.mk A750
             clear A750
             by_cases c76 : t212 = true
             · subst c76
               have H1 : (if t213 = t195 then (if t217 = true then ((impl_FormatWord.f t188 t218).bind fun t220 => (if t220.toList = t216.toList then ((spec_ParseWord.f kj35 t188 t216).bind fun bt221 => (if (t217 == bt221.1) = true then (if t211.size + 1 ≤ 9223372036854775807 then ((impl_ParseWord.f t189 (t211 ++ (⟨#[32]⟩ : ByteArray))).bind fun bt223 => (if bt223.1 = true then (some false) else (if 1 + t211.size ≤ 9223372036854775807 then ((impl_ParseWord.f t189 ((⟨#[48]⟩ : ByteArray) ++ t211)).bind fun bt225 => (some (!bt225.1))) else (none)))) else (none)) else (some false))) else (some false))) else ((spec_ParseWord.f kj35 t188 t216).bind fun bt227 => (if (t217 == bt227.1) = true then (if t211.size + 1 ≤ 9223372036854775807 then ((impl_ParseWord.f t189 (t211 ++ (⟨#[32]⟩ : ByteArray))).bind fun bt229 => (if bt229.1 = true then (some false) else (if 1 + t211.size ≤ 9223372036854775807 then ((impl_ParseWord.f t189 ((⟨#[48]⟩ : ByteArray) ++ t211)).bind fun bt231 => (some (!bt231.1))) else (none)))) else (none)) else (some false)))) else (some false)) = some r := by rw [if_pos rfl] at H; exact H
               clear H
               have H := H1
               clear H1
               by_cases c77 : t213 = t195
               · rw [if_pos c77] at H
                 have c77b0 : (t213 == t195) = true := beq_iff_eq.mpr c77
                 have c77b1 : (t213 != t195) = false := bne_eq_false_iff_eq.mpr c77
                 clear c77
                 by_cases c78 : t217 = true
                 · subst c78
                   have H1 : ((impl_FormatWord.f t188 t218).bind fun t220 => (if t220.toList = t216.toList then ((spec_ParseWord.f kj35 t188 t216).bind fun bt221 => (if (true == bt221.1) = true then (if t211.size + 1 ≤ 9223372036854775807 then ((impl_ParseWord.f t189 (t211 ++ (⟨#[32]⟩ : ByteArray))).bind fun bt223 => (if bt223.1 = true then (some false) else (if 1 + t211.size ≤ 9223372036854775807 then ((impl_ParseWord.f t189 ((⟨#[48]⟩ : ByteArray) ++ t211)).bind fun bt225 => (some (!bt225.1))) else (none)))) else (none)) else (some false))) else (some false))) = some r := by rw [if_pos rfl] at H; exact H
                   clear H
                   have H := H1
                   clear H1
                   replace H := Option.bind_eq_some_iff.mp H
                   obtain ⟨t220, A790, H⟩ := H
                   replace H : (if t220.toList = t216.toList then ((spec_ParseWord.f kj35 t188 t216).bind fun bt221 => (if (true == bt221.1) = true then (if t211.size + 1 ≤ 9223372036854775807 then ((impl_ParseWord.f t189 (t211 ++ (⟨#[32]⟩ : ByteArray))).bind fun bt223 => (if bt223.1 = true then (some false) else (if 1 + t211.size ≤ 9223372036854775807 then ((impl_ParseWord.f t189 ((⟨#[48]⟩ : ByteArray) ++ t211)).bind fun bt225 => (some (!bt225.1))) else (none)))) else (none)) else (some false))) else (some false)) = some r := H
                   have A79 := Aside0.mk A790
                   clear A790
                   by_cases c80 : t220.toList = t216.toList
                   · rw [if_pos c80] at H
                     have c80b0 : (t220.toList == t216.toList) = true := beq_iff_eq.mpr c80
                     have c80b1 : (t220.toList != t216.toList) = false := bne_eq_false_iff_eq.mpr c80
                     clear c80
                     replace H := Option.bind_eq_some_iff.mp H
                     obtain ⟨⟨t221, t222⟩, A810, H⟩ := H
                     replace H : (if (true == t221) = true then (if t211.size + 1 ≤ 9223372036854775807 then ((impl_ParseWord.f t189 (t211 ++ (⟨#[32]⟩ : ByteArray))).bind fun bt223 => (if bt223.1 = true then (some false) else (if 1 + t211.size ≤ 9223372036854775807 then ((impl_ParseWord.f t189 ((⟨#[48]⟩ : ByteArray) ++ t211)).bind fun bt225 => (some (!bt225.1))) else (none)))) else (none)) else (some false)) = some r := H
                     have A81 := Aside0.mk A810
                     clear A810
                     by_cases c82 : (true == t221) = true
                     · rw [if_pos c82] at H
                       have c82b0 : (true == t221) = true := c82
                       (try (have c82b1 : decide (true = t221) = true := by simpa using c82))
                       (try (have c82b2 : (true == t221) = true := by simpa using c82))
                       clear c82
                       by_cases c83 : t211.size + 1 ≤ 9223372036854775807
                       · rw [if_pos c83] at H
                         have c83b0 := eq_true c83
                         have c83b1 : decide (t211.size + 1 ≤ 9223372036854775807) = true := decide_eq_true c83
                         try have c83b2 : (9223372036854775807 < t211.size + 1) = False := eq_false (Nat.not_lt.2 c83)
                         replace H := Option.bind_eq_some_iff.mp H
                         obtain ⟨⟨t223, t224⟩, A840, H⟩ := H
                         replace H : (if t223 = true then (some false) else (if 1 + t211.size ≤ 9223372036854775807 then ((impl_ParseWord.f t189 ((⟨#[48]⟩ : ByteArray) ++ t211)).bind fun bt225 => (some (!bt225.1))) else (none))) = some r := H
                         have A84 := Aside0.mk A840
                         clear A840
                         by_cases c85 : t223 = true
                         · subst c85
                           have H1 : (some false) = some r := by rw [if_pos rfl] at H; exact H
                           clear H
                           have H := H1
                           clear H1
                           exact Bool.noConfusion ((Option.some.inj H).trans hr_.out)
                         · replace c85 := Bool.eq_false_iff.mpr c85
                           subst c85
                           have H1 : (if 1 + t211.size ≤ 9223372036854775807 then ((impl_ParseWord.f t189 ((⟨#[48]⟩ : ByteArray) ++ t211)).bind fun bt225 => (some (!bt225.1))) else (none)) = some r := by rw [if_neg (show ¬ (false = true) by decide)] at H; exact H
                           clear H
                           have H := H1
                           clear H1
                           by_cases c106 : 1 + t211.size ≤ 9223372036854775807
                           · rw [if_pos c106] at H
                             have c106b0 := eq_true c106
                             have c106b1 : decide (1 + t211.size ≤ 9223372036854775807) = true := decide_eq_true c106
                             try have c106b2 : (9223372036854775807 < 1 + t211.size) = False := eq_false (Nat.not_lt.2 c106)
                             replace H := Option.bind_eq_some_iff.mp H
                             obtain ⟨⟨t225, t226⟩, A1070, H⟩ := H
                             replace H : (some (!t225)) = some r := H
                             have A107 := Aside0.mk A1070
                             clear A1070
                             obtain rfl := Option.some.inj H
                             try go_wp2_with (first | ((with_reducible refine gate_callee (f := 18) rfl ?_); refine goesL_ (some 100) rfl rfl Tryd.func18 (by kernel_rfl) rfl #[.slice A0 l0.length c0, .int .i64 20, .int .i64 64] rfl (by (try simp only [List.map_toArray, List.map_cons, List.map_nil]); first | done | rfl | (simp only [List.length_drop, List.length_take]; rfl)) ?_; (with_reducible refine (laws_lwWord.calls kj35 _ _ l0 20 64 t207 _ ?side1 ?side2 A66.out).mono ?_); (case side1 => repeat (first | exact (Kd.C_below HR0.out HB.out) | (with_reducible refine Kd.C_alloc ?_ _) | (with_reducible refine Kd.C_drewN ?_ _) | (with_reducible refine Kd.C_drew ?_))); (case side2 => exact HC0.out); rintro e w' ⟨rfl, ⟨nd, rfl⟩⟩; refine ⟨_, rfl, ?_⟩; (try (rw [drewN_self wc]; generalize hq_ : World.drewN wc _ = wc; have n0_ : Aside0 (wc.heap[gb193]? = some (.cells #[.int .i64 t191, .int .u64 t192] 46 (0, 0))) := ⟨by rw [← hq_]; exact (by (with_reducible repeat (first | refine blk_drewN ?_ _ | refine blk_drew ?_ | refine blk_alloc ?_ _)); exact BK193.out)⟩; have n1_ : Aside0 (wc.heap[gb196]? = some (.cells #[.int .i64 t194, .int .u64 t195] 46 (0, 0))) := ⟨by rw [← hq_]; exact (by (with_reducible repeat (first | refine blk_drewN ?_ _ | refine blk_drew ?_ | refine blk_alloc ?_ _)); exact BK196.out)⟩; have n2_ : Aside0 (Below w.heap.size w wc) := ⟨by rw [← hq_]; exact (by repeat (first | (with_reducible first | exact HB.out | apply below_alloc | apply pw_below_drewN | apply below_drew1 | refine below_set ?_ GE193.out | refine below_set ?_ GE196.out) | exact HB.out))⟩; clear BK193 BK196 HB hq_; have BK193 := n0_; have BK196 := n1_; have HB := n2_; clear n0_ n1_ n2_))) | ((with_reducible refine gate_callee (f := 21) rfl ?_); refine goesL_ (some 103) rfl rfl Tryd.func21 (by kernel_rfl) rfl #[.int .i64 t188, .int .u64 t207] rfl (by (try simp only [List.map_toArray, List.map_cons, List.map_nil]); first | done | rfl | (simp only [List.length_drop, List.length_take]; rfl)) ?_; (with_reducible refine (impl_Cut.calls t188 t207 t208 _ A67.out).mono ?_); rintro e w' ⟨rfl, ⟨nd, rfl⟩⟩; refine ⟨_, rfl, ?_⟩; (try (rw [drewN_self wc]; generalize hq_ : World.drewN wc _ = wc; have n0_ : Aside0 (wc.heap[gb193]? = some (.cells #[.int .i64 t191, .int .u64 t192] 46 (0, 0))) := ⟨by rw [← hq_]; exact (by (with_reducible repeat (first | refine blk_drewN ?_ _ | refine blk_drew ?_ | refine blk_alloc ?_ _)); exact BK193.out)⟩; have n1_ : Aside0 (wc.heap[gb196]? = some (.cells #[.int .i64 t194, .int .u64 t195] 46 (0, 0))) := ⟨by rw [← hq_]; exact (by (with_reducible repeat (first | refine blk_drewN ?_ _ | refine blk_drew ?_ | refine blk_alloc ?_ _)); exact BK196.out)⟩; have n2_ : Aside0 (Below w.heap.size w wc) := ⟨by rw [← hq_]; exact (by repeat (first | (with_reducible first | exact HB.out | apply below_alloc | apply pw_below_drewN | apply below_drew1 | refine below_set ?_ GE193.out | refine below_set ?_ GE196.out) | exact HB.out))⟩; clear BK193 BK196 HB hq_; have BK193 := n0_; have BK196 := n1_; have HB := n2_; clear n0_ n1_ n2_))) | ((with_reducible refine gate_callee (f := 21) rfl ?_); refine goesL_ (some 107) rfl rfl Tryd.func21 (by kernel_rfl) rfl #[.int .i64 t189, .int .u64 t207] rfl (by (try simp only [List.map_toArray, List.map_cons, List.map_nil]); first | done | rfl | (simp only [List.length_drop, List.length_take]; rfl)) ?_; (with_reducible refine (impl_Cut.calls t189 t207 t209 _ A68.out).mono ?_); rintro e w' ⟨rfl, ⟨nd, rfl⟩⟩; refine ⟨_, rfl, ?_⟩; (try (rw [drewN_self wc]; generalize hq_ : World.drewN wc _ = wc; have n0_ : Aside0 (wc.heap[gb193]? = some (.cells #[.int .i64 t191, .int .u64 t192] 46 (0, 0))) := ⟨by rw [← hq_]; exact (by (with_reducible repeat (first | refine blk_drewN ?_ _ | refine blk_drew ?_ | refine blk_alloc ?_ _)); exact BK193.out)⟩; have n1_ : Aside0 (wc.heap[gb196]? = some (.cells #[.int .i64 t194, .int .u64 t195] 46 (0, 0))) := ⟨by rw [← hq_]; exact (by (with_reducible repeat (first | refine blk_drewN ?_ _ | refine blk_drew ?_ | refine blk_alloc ?_ _)); exact BK196.out)⟩; have n2_ : Aside0 (Below w.heap.size w wc) := ⟨by rw [← hq_]; exact (by repeat (first | (with_reducible first | exact HB.out | apply below_alloc | apply pw_below_drewN | apply below_drew1 | refine below_set ?_ GE193.out | refine below_set ?_ GE196.out) | exact HB.out))⟩; clear BK193 BK196 HB hq_; have BK193 := n0_; have BK196 := n1_; have HB := n2_; clear n0_ n1_ n2_))) | ((with_reducible refine gate_callee (f := 21) rfl ?_); refine goesL_ (some 108) rfl rfl Tryd.func21 (by kernel_rfl) rfl #[.int .i64 t188, .int .u64 t209] rfl (by (try simp only [List.map_toArray, List.map_cons, List.map_nil]); first | done | rfl | (simp only [List.length_drop, List.length_take]; rfl)) ?_; (with_reducible refine (impl_Cut.calls t188 t209 t210 _ A69.out).mono ?_); rintro e w' ⟨rfl, ⟨nd, rfl⟩⟩; refine ⟨_, rfl, ?_⟩; (try (rw [drewN_self wc]; generalize hq_ : World.drewN wc _ = wc; have n0_ : Aside0 (wc.heap[gb193]? = some (.cells #[.int .i64 t191, .int .u64 t192] 46 (0, 0))) := ⟨by rw [← hq_]; exact (by (with_reducible repeat (first | refine blk_drewN ?_ _ | refine blk_drew ?_ | refine blk_alloc ?_ _)); exact BK193.out)⟩; have n1_ : Aside0 (wc.heap[gb196]? = some (.cells #[.int .i64 t194, .int .u64 t195] 46 (0, 0))) := ⟨by rw [← hq_]; exact (by (with_reducible repeat (first | refine blk_drewN ?_ _ | refine blk_drew ?_ | refine blk_alloc ?_ _)); exact BK196.out)⟩; have n2_ : Aside0 (Below w.heap.size w wc) := ⟨by rw [← hq_]; exact (by repeat (first | (with_reducible first | exact HB.out | apply below_alloc | apply pw_below_drewN | apply below_drew1 | refine below_set ?_ GE193.out | refine below_set ?_ GE196.out) | exact HB.out))⟩; clear BK193 BK196 HB hq_; have BK193 := n0_; have BK196 := n1_; have HB := n2_; clear n0_ n1_ n2_)); have hnb108 := NB196_193.out; have hnc108 := NB193_196.out; have hcz109_0 : wc.cell? ⟨gb196, 0, none⟩ = some (.int .i64 t194) := (blk_cell BK196.out 0).trans rfl; have hcz109_1 : wc.cell? ⟨gb196, 1, none⟩ = some (.int .u64 t195) := (blk_cell BK196.out 1).trans rfl; have hfz109_0 := blk_frozen BK196.out 0; have hfz109_1 := blk_frozen BK196.out 1) | ((with_reducible refine gate_callee (f := 22) rfl ?_); refine goesL_ (some 113) rfl rfl Tryd.func22 (by kernel_rfl) rfl #[.int .i64 t189, .int .u64 t195] rfl (by (try simp only [List.map_toArray, List.map_cons, List.map_nil]); first | done | rfl | (simp only [List.length_drop, List.length_take]; rfl)) ?_; (with_reducible refine (impl_FormatWord.calls t189 t195 t211 _ ?tLtTab A71.out).mono ?_); (case tLtTab => exact HLtTab.out.on (by repeat (first | (with_reducible first | exact HB.out | apply below_alloc | apply pw_below_drewN | apply below_drew1 | refine below_set ?_ GE193.out | refine below_set ?_ GE196.out) | exact HB.out))); rintro e w110 ⟨rfl, hb⟩; refine ⟨_, rfl, ?_⟩; have n0_ := Aside0.mk (blk_below (g := gb193) (o := .cells #[.int .i64 t191, .int .u64 t192] 46 (0, 0)) (by (with_reducible repeat (first | refine blk_drewN ?_ _ | refine blk_drew ?_ | refine blk_alloc ?_ _)); exact BK193.out) hb); have n1_ := Aside0.mk (blk_below (g := gb196) (o := .cells #[.int .i64 t194, .int .u64 t195] 46 (0, 0)) (by (with_reducible repeat (first | refine blk_drewN ?_ _ | refine blk_drew ?_ | refine blk_alloc ?_ _)); exact BK196.out) hb); have n2_ := Aside0.mk (below_step (by repeat (first | (with_reducible first | exact HB.out | apply below_alloc | apply pw_below_drewN | apply below_drew1 | refine below_set ?_ GE193.out | refine below_set ?_ GE196.out) | exact HB.out)) hb); clear BK193; clear BK196; clear HB; have BK193 := n0_; have BK196 := n1_; have HB := n2_; clear n0_ n1_ n2_; (try clear hb); (try clear hb2); (try clear hk); (try clear hi)) | ((with_reducible refine gate_callee (f := 14) rfl ?_); refine goesL_ (some 116) rfl rfl Tryd.func14 (by kernel_rfl) rfl #[.int .i64 t189, .string t211] rfl (by (try simp only [List.map_toArray, List.map_cons, List.map_nil]); first | done | rfl | (simp only [List.length_drop, List.length_take]; rfl)) ?_; (with_reducible refine (impl_ParseWord.calls t189 t211 true t213 _ ?tLtTab ?tLtErr A72.out).mono ?_); (case tLtTab => exact HLtTab.out.on (by repeat (first | (with_reducible first | exact HB.out | apply below_alloc | apply pw_below_drewN | apply below_drew1 | refine below_set ?_ GE193.out | refine below_set ?_ GE196.out) | exact HB.out))); (case tLtErr => exact HLtErr.out.on (by repeat (first | (with_reducible first | exact HB.out | apply below_alloc | apply pw_below_drewN | apply below_drew1 | refine below_set ?_ GE193.out | refine below_set ?_ GE196.out) | exact HB.out))); rintro e w111 ⟨rfl, hb⟩; refine ⟨_, rfl, ?_⟩; have n0_ := Aside0.mk (blk_below (g := gb193) (o := .cells #[.int .i64 t191, .int .u64 t192] 46 (0, 0)) (by (with_reducible repeat (first | refine blk_drewN ?_ _ | refine blk_drew ?_ | refine blk_alloc ?_ _)); exact BK193.out) hb); have n1_ := Aside0.mk (blk_below (g := gb196) (o := .cells #[.int .i64 t194, .int .u64 t195] 46 (0, 0)) (by (with_reducible repeat (first | refine blk_drewN ?_ _ | refine blk_drew ?_ | refine blk_alloc ?_ _)); exact BK196.out) hb); have n2_ := Aside0.mk (below_step (by repeat (first | (with_reducible first | exact HB.out | apply below_alloc | apply pw_below_drewN | apply below_drew1 | refine below_set ?_ GE193.out | refine below_set ?_ GE196.out) | exact HB.out)) hb); clear BK193; clear BK196; clear HB; have BK193 := n0_; have BK196 := n1_; have HB := n2_; clear n0_ n1_ n2_; (try clear hb); (try clear hb2); (try clear hk); (try clear hi)) | ((with_reducible refine gate_dst (N := 12) rfl ?_); refine box_event ?hg (N := 12) ?hd (cs := #[.bool false, .int .u64 0]) (t := 37) ?hr ?_; (case hd => rfl); (case hg => rfl); (case hr => first | (go_simp; done) | (go_simp; rfl)); intro gb214 hg w112 hbox hb; have n0_ := Aside0.mk (blk_below (g := gb193) (o := .cells #[.int .i64 t191, .int .u64 t192] 46 (0, 0)) (by (with_reducible repeat (first | refine blk_drewN ?_ _ | refine blk_drew ?_ | refine blk_alloc ?_ _)); exact BK193.out) hb); have n1_ := Aside0.mk (blk_below (g := gb196) (o := .cells #[.int .i64 t194, .int .u64 t195] 46 (0, 0)) (by (with_reducible repeat (first | refine blk_drewN ?_ _ | refine blk_drew ?_ | refine blk_alloc ?_ _)); exact BK196.out) hb); have n2_ := Aside0.mk (below_step (by repeat (first | (with_reducible first | exact HB.out | apply below_alloc | apply pw_below_drewN | apply below_drew1 | refine below_set ?_ GE193.out | refine below_set ?_ GE196.out) | exact HB.out)) hb); have n3_ := Aside0.mk (hbox); have n4_ := Aside0.mk ((by rw [hg]; exact (below_size (by repeat (first | (with_reducible first | exact HB.out | apply below_alloc | apply pw_below_drewN | apply below_drew1 | refine below_set ?_ GE193.out | refine below_set ?_ GE196.out) | exact HB.out))) : w.heap.size ≤ gb214)); have n5_ := Aside0.mk ((by rw [hg]; exact (below_size (by repeat (first | (with_reducible first | exact HB.out | apply below_alloc | apply pw_below_drewN | apply below_drew1 | refine below_set ?_ GE193.out | refine below_set ?_ GE196.out) | exact HB.out))) : w.heap.size ≤ gb214)); have n6_ := Aside0.mk ((by rw [hg]; exact Nat.ne_of_lt (blk_lt (g := gb193) (o := .cells #[.int .i64 t191, .int .u64 t192] 46 (0, 0)) (by (with_reducible repeat (first | refine blk_drewN ?_ _ | refine blk_drew ?_ | refine blk_alloc ?_ _)); exact BK193.out)) : gb193 ≠ gb214)); have n7_ := Aside0.mk ((by rw [hg]; exact Nat.ne_of_gt (blk_lt (g := gb193) (o := .cells #[.int .i64 t191, .int .u64 t192] 46 (0, 0)) (by (with_reducible repeat (first | refine blk_drewN ?_ _ | refine blk_drew ?_ | refine blk_alloc ?_ _)); exact BK193.out)) : gb214 ≠ gb193)); have n8_ := Aside0.mk ((by rw [hg]; exact Nat.ne_of_lt (blk_lt (g := gb196) (o := .cells #[.int .i64 t194, .int .u64 t195] 46 (0, 0)) (by (with_reducible repeat (first | refine blk_drewN ?_ _ | refine blk_drew ?_ | refine blk_alloc ?_ _)); exact BK196.out)) : gb196 ≠ gb214)); have n9_ := Aside0.mk ((by rw [hg]; exact Nat.ne_of_gt (blk_lt (g := gb196) (o := .cells #[.int .i64 t194, .int .u64 t195] 46 (0, 0)) (by (with_reducible repeat (first | refine blk_drewN ?_ _ | refine blk_drew ?_ | refine blk_alloc ?_ _)); exact BK196.out)) : gb214 ≠ gb196)); clear BK193; clear BK196; clear HB; have BK193 := n0_; have BK196 := n1_; have HB := n2_; have BK214 := n3_; have GW214 := n4_; have GE214 := n5_; have NB193_214 := n6_; have NB214_193 := n7_; have NB196_214 := n8_; have NB214_196 := n9_; clear n0_ n1_ n2_ n3_ n4_ n5_ n6_ n7_ n8_ n9_; clear hb hbox hg; have hnb113 := NB214_193.out; have hnc113 := NB193_214.out; have hnb114 := NB214_196.out; have hnc114 := NB196_214.out; have hcz115_0 : w112.cell? ⟨gb214, 0, none⟩ = some (.bool false) := (blk_cell BK214.out 0).trans rfl; have hcz115_1 : w112.cell? ⟨gb214, 1, none⟩ = some (.int .u64 0) := (blk_cell BK214.out 1).trans rfl; have hfz115_0 := blk_frozen BK214.out 0; have hfz115_1 := blk_frozen BK214.out 1) | ((with_reducible refine gate_callee (f := 18) rfl ?_); refine goesL_ (some 118) rfl rfl Tryd.func18 (by kernel_rfl) rfl #[.slice A0 l0.length c0, .int .i64 30, .int .i64 64] rfl (by (try simp only [List.map_toArray, List.map_cons, List.map_nil]); first | done | rfl | (simp only [List.length_drop, List.length_take]; rfl)) ?_; (with_reducible refine (laws_lwWord.calls kj35 _ _ l0 30 64 t215 _ ?side1 ?side2 A73.out).mono ?_); (case side1 => exact Kd.C_below HR0.out (by repeat (first | (with_reducible first | exact HB.out | apply below_alloc | apply pw_below_drewN | apply below_drew1 | refine below_set ?_ GE193.out | refine below_set ?_ GE196.out | refine below_set ?_ GE214.out) | exact HB.out))); (case side2 => exact HC0.out); rintro e w' ⟨rfl, ⟨nd, rfl⟩⟩; refine ⟨_, rfl, ?_⟩) | ((with_reducible refine gate_callee (f := 23) rfl ?_); refine goesL_ (some 119) rfl rfl Tryd.func23 (by kernel_rfl) rfl #[.int .i64 64, .int .u64 t215] rfl (by (try simp only [List.map_toArray, List.map_cons, List.map_nil]); first | done | rfl | (simp only [List.length_drop, List.length_take]; rfl)) ?_; (with_reducible refine (spec_FormatWord.calls kj35 64 t215 t216 _ A74.out).mono ?_); rintro e w116 ⟨rfl, hb⟩; refine ⟨_, rfl, ?_⟩; have n0_ := Aside0.mk (blk_below (g := gb193) (o := .cells #[.int .i64 t191, .int .u64 t192] 46 (0, 0)) (by (with_reducible repeat (first | refine blk_drewN ?_ _ | refine blk_drew ?_ | refine blk_alloc ?_ _)); refine blk_far ?_ NB193_214.out _; (with_reducible repeat (first | refine blk_drewN ?_ _ | refine blk_drew ?_ | refine blk_alloc ?_ _)); refine blk_far ?_ NB193_214.out _; (with_reducible repeat (first | refine blk_drewN ?_ _ | refine blk_drew ?_ | refine blk_alloc ?_ _)); exact BK193.out) hb); have n1_ := Aside0.mk (blk_below (g := gb196) (o := .cells #[.int .i64 t194, .int .u64 t195] 46 (0, 0)) (by (with_reducible repeat (first | refine blk_drewN ?_ _ | refine blk_drew ?_ | refine blk_alloc ?_ _)); refine blk_far ?_ NB196_214.out _; (with_reducible repeat (first | refine blk_drewN ?_ _ | refine blk_drew ?_ | refine blk_alloc ?_ _)); refine blk_far ?_ NB196_214.out _; (with_reducible repeat (first | refine blk_drewN ?_ _ | refine blk_drew ?_ | refine blk_alloc ?_ _)); exact BK196.out) hb); have n2_ := Aside0.mk (blk_below (g := gb214) (o := .cells #[.bool true, .int .u64 t213] 37 (0, 0)) (by (with_reducible repeat (first | refine blk_drewN ?_ _ | refine blk_drew ?_ | refine blk_alloc ?_ _)); refine blk_put (cs := #[.bool true, .int .u64 0]) ?_ 1 _ rfl; (with_reducible repeat (first | refine blk_drewN ?_ _ | refine blk_drew ?_ | refine blk_alloc ?_ _)); refine blk_put (cs := #[.bool false, .int .u64 0]) ?_ 0 _ rfl; (with_reducible repeat (first | refine blk_drewN ?_ _ | refine blk_drew ?_ | refine blk_alloc ?_ _)); exact BK214.out) hb); have n3_ := Aside0.mk (below_step (by repeat (first | (with_reducible first | exact HB.out | apply below_alloc | apply pw_below_drewN | apply below_drew1 | refine below_set ?_ GE193.out | refine below_set ?_ GE196.out | refine below_set ?_ GE214.out) | exact HB.out)) hb); clear BK193; clear BK196; clear BK214; clear HB; have BK193 := n0_; have BK196 := n1_; have BK214 := n2_; have HB := n3_; clear n0_ n1_ n2_ n3_; (try clear hb); (try clear hb2); (try clear hk); (try clear hi)) | ((with_reducible refine gate_callee (f := 14) rfl ?_); refine goesL_ (some 122) rfl rfl Tryd.func14 (by kernel_rfl) rfl #[.int .i64 t188, .string t216] rfl (by (try simp only [List.map_toArray, List.map_cons, List.map_nil]); first | done | rfl | (simp only [List.length_drop, List.length_take]; rfl)) ?_; (with_reducible refine (impl_ParseWord.calls t188 t216 true t218 _ ?tLtTab ?tLtErr A75.out).mono ?_); (case tLtTab => exact HLtTab.out.on (by repeat (first | (with_reducible first | exact HB.out | apply below_alloc | apply pw_below_drewN | apply below_drew1 | refine below_set ?_ GE193.out | refine below_set ?_ GE196.out | refine below_set ?_ GE214.out) | exact HB.out))); (case tLtErr => exact HLtErr.out.on (by repeat (first | (with_reducible first | exact HB.out | apply below_alloc | apply pw_below_drewN | apply below_drew1 | refine below_set ?_ GE193.out | refine below_set ?_ GE196.out | refine below_set ?_ GE214.out) | exact HB.out))); rintro e w117 ⟨rfl, hb⟩; refine ⟨_, rfl, ?_⟩; have n0_ := Aside0.mk (blk_below (g := gb193) (o := .cells #[.int .i64 t191, .int .u64 t192] 46 (0, 0)) (by (with_reducible repeat (first | refine blk_drewN ?_ _ | refine blk_drew ?_ | refine blk_alloc ?_ _)); exact BK193.out) hb); have n1_ := Aside0.mk (blk_below (g := gb196) (o := .cells #[.int .i64 t194, .int .u64 t195] 46 (0, 0)) (by (with_reducible repeat (first | refine blk_drewN ?_ _ | refine blk_drew ?_ | refine blk_alloc ?_ _)); exact BK196.out) hb); have n2_ := Aside0.mk (blk_below (g := gb214) (o := .cells #[.bool true, .int .u64 t213] 37 (0, 0)) (by (with_reducible repeat (first | refine blk_drewN ?_ _ | refine blk_drew ?_ | refine blk_alloc ?_ _)); exact BK214.out) hb); have n3_ := Aside0.mk (below_step (by repeat (first | (with_reducible first | exact HB.out | apply below_alloc | apply pw_below_drewN | apply below_drew1 | refine below_set ?_ GE193.out | refine below_set ?_ GE196.out | refine below_set ?_ GE214.out) | exact HB.out)) hb); clear BK193; clear BK196; clear BK214; clear HB; have BK193 := n0_; have BK196 := n1_; have BK214 := n2_; have HB := n3_; clear n0_ n1_ n2_ n3_; (try clear hb); (try clear hb2); (try clear hk); (try clear hi)) | ((with_reducible refine gate_dst (N := 14) rfl ?_); refine box_event ?hg (N := 14) ?hd (cs := #[.bool false, .int .u64 0]) (t := 37) ?hr ?_; (case hd => rfl); (case hg => rfl); (case hr => first | (go_simp; done) | (go_simp; rfl)); intro gb219 hg w118 hbox hb; have n0_ := Aside0.mk (blk_below (g := gb193) (o := .cells #[.int .i64 t191, .int .u64 t192] 46 (0, 0)) (by (with_reducible repeat (first | refine blk_drewN ?_ _ | refine blk_drew ?_ | refine blk_alloc ?_ _)); exact BK193.out) hb); have n1_ := Aside0.mk (blk_below (g := gb196) (o := .cells #[.int .i64 t194, .int .u64 t195] 46 (0, 0)) (by (with_reducible repeat (first | refine blk_drewN ?_ _ | refine blk_drew ?_ | refine blk_alloc ?_ _)); exact BK196.out) hb); have n2_ := Aside0.mk (blk_below (g := gb214) (o := .cells #[.bool true, .int .u64 t213] 37 (0, 0)) (by (with_reducible repeat (first | refine blk_drewN ?_ _ | refine blk_drew ?_ | refine blk_alloc ?_ _)); exact BK214.out) hb); have n3_ := Aside0.mk (below_step (by repeat (first | (with_reducible first | exact HB.out | apply below_alloc | apply pw_below_drewN | apply below_drew1 | refine below_set ?_ GE193.out | refine below_set ?_ GE196.out | refine below_set ?_ GE214.out) | exact HB.out)) hb); have n4_ := Aside0.mk (hbox); have n5_ := Aside0.mk ((by rw [hg]; exact (below_size (by repeat (first | (with_reducible first | exact HB.out | apply below_alloc | apply pw_below_drewN | apply below_drew1 | refine below_set ?_ GE193.out | refine below_set ?_ GE196.out | refine below_set ?_ GE214.out) | exact HB.out))) : w.heap.size ≤ gb219)); have n6_ := Aside0.mk ((by rw [hg]; exact (below_size (by repeat (first | (with_reducible first | exact HB.out | apply below_alloc | apply pw_below_drewN | apply below_drew1 | refine below_set ?_ GE193.out | refine below_set ?_ GE196.out | refine below_set ?_ GE214.out) | exact HB.out))) : w.heap.size ≤ gb219)); have n7_ := Aside0.mk ((by rw [hg]; exact Nat.ne_of_lt (blk_lt (g := gb193) (o := .cells #[.int .i64 t191, .int .u64 t192] 46 (0, 0)) (by (with_reducible repeat (first | refine blk_drewN ?_ _ | refine blk_drew ?_ | refine blk_alloc ?_ _)); exact BK193.out)) : gb193 ≠ gb219)); have n8_ := Aside0.mk ((by rw [hg]; exact Nat.ne_of_gt (blk_lt (g := gb193) (o := .cells #[.int .i64 t191, .int .u64 t192] 46 (0, 0)) (by (with_reducible repeat (first | refine blk_drewN ?_ _ | refine blk_drew ?_ | refine blk_alloc ?_ _)); exact BK193.out)) : gb219 ≠ gb193)); have n9_ := Aside0.mk ((by rw [hg]; exact Nat.ne_of_lt (blk_lt (g := gb196) (o := .cells #[.int .i64 t194, .int .u64 t195] 46 (0, 0)) (by (with_reducible repeat (first | refine blk_drewN ?_ _ | refine blk_drew ?_ | refine blk_alloc ?_ _)); exact BK196.out)) : gb196 ≠ gb219)); have n10_ := Aside0.mk ((by rw [hg]; exact Nat.ne_of_gt (blk_lt (g := gb196) (o := .cells #[.int .i64 t194, .int .u64 t195] 46 (0, 0)) (by (with_reducible repeat (first | refine blk_drewN ?_ _ | refine blk_drew ?_ | refine blk_alloc ?_ _)); exact BK196.out)) : gb219 ≠ gb196)); have n11_ := Aside0.mk ((by rw [hg]; exact Nat.ne_of_lt (blk_lt (g := gb214) (o := .cells #[.bool true, .int .u64 t213] 37 (0, 0)) (by (with_reducible repeat (first | refine blk_drewN ?_ _ | refine blk_drew ?_ | refine blk_alloc ?_ _)); exact BK214.out)) : gb214 ≠ gb219)); have n12_ := Aside0.mk ((by rw [hg]; exact Nat.ne_of_gt (blk_lt (g := gb214) (o := .cells #[.bool true, .int .u64 t213] 37 (0, 0)) (by (with_reducible repeat (first | refine blk_drewN ?_ _ | refine blk_drew ?_ | refine blk_alloc ?_ _)); exact BK214.out)) : gb219 ≠ gb214)); clear BK193; clear BK196; clear BK214; clear HB; have BK193 := n0_; have BK196 := n1_; have BK214 := n2_; have HB := n3_; have BK219 := n4_; have GW219 := n5_; have GE219 := n6_; have NB193_219 := n7_; have NB219_193 := n8_; have NB196_219 := n9_; have NB219_196 := n10_; have NB214_219 := n11_; have NB219_214 := n12_; clear n0_ n1_ n2_ n3_ n4_ n5_ n6_ n7_ n8_ n9_ n10_ n11_ n12_; clear hb hbox hg; have hnb119 := NB219_193.out; have hnc119 := NB193_219.out; have hnb120 := NB219_196.out; have hnc120 := NB196_219.out; have hnb121 := NB219_214.out; have hnc121 := NB214_219.out; have hcz122_0 : w118.cell? ⟨gb219, 0, none⟩ = some (.bool false) := (blk_cell BK219.out 0).trans rfl; have hcz122_1 : w118.cell? ⟨gb219, 1, none⟩ = some (.int .u64 0) := (blk_cell BK219.out 1).trans rfl; have hfz122_0 := blk_frozen BK219.out 0; have hfz122_1 := blk_frozen BK219.out 1))
                             have n0_ : Aside0 (((w118.setCell ⟨gb219, 0, none⟩ (.bool true)).setCell ⟨gb219, 1, none⟩ (.int .u64 t218)).heap[gb193]? = some (.cells #[.int .i64 t191, .int .u64 t192] 46 (0, 0))) := ⟨by (with_reducible repeat (first | refine blk_drewN ?_ _ | refine blk_drew ?_ | refine blk_alloc ?_ _)); refine blk_far ?_ NB193_219.out _; (with_reducible repeat (first | refine blk_drewN ?_ _ | refine blk_drew ?_ | refine blk_alloc ?_ _)); refine blk_far ?_ NB193_219.out _; (with_reducible repeat (first | refine blk_drewN ?_ _ | refine blk_drew ?_ | refine blk_alloc ?_ _)); exact BK193.out⟩
                             have n1_ : Aside0 (((w118.setCell ⟨gb219, 0, none⟩ (.bool true)).setCell ⟨gb219, 1, none⟩ (.int .u64 t218)).heap[gb196]? = some (.cells #[.int .i64 t194, .int .u64 t195] 46 (0, 0))) := ⟨by (with_reducible repeat (first | refine blk_drewN ?_ _ | refine blk_drew ?_ | refine blk_alloc ?_ _)); refine blk_far ?_ NB196_219.out _; (with_reducible repeat (first | refine blk_drewN ?_ _ | refine blk_drew ?_ | refine blk_alloc ?_ _)); refine blk_far ?_ NB196_219.out _; (with_reducible repeat (first | refine blk_drewN ?_ _ | refine blk_drew ?_ | refine blk_alloc ?_ _)); exact BK196.out⟩
                             have n2_ : Aside0 (((w118.setCell ⟨gb219, 0, none⟩ (.bool true)).setCell ⟨gb219, 1, none⟩ (.int .u64 t218)).heap[gb214]? = some (.cells #[.bool true, .int .u64 t213] 37 (0, 0))) := ⟨by (with_reducible repeat (first | refine blk_drewN ?_ _ | refine blk_drew ?_ | refine blk_alloc ?_ _)); refine blk_far ?_ NB214_219.out _; (with_reducible repeat (first | refine blk_drewN ?_ _ | refine blk_drew ?_ | refine blk_alloc ?_ _)); refine blk_far ?_ NB214_219.out _; (with_reducible repeat (first | refine blk_drewN ?_ _ | refine blk_drew ?_ | refine blk_alloc ?_ _)); exact BK214.out⟩
                             have n3_ : Aside0 (((w118.setCell ⟨gb219, 0, none⟩ (.bool true)).setCell ⟨gb219, 1, none⟩ (.int .u64 t218)).heap[gb219]? = some (.cells #[.bool true, .int .u64 t218] 37 (0, 0))) := ⟨by (with_reducible repeat (first | refine blk_drewN ?_ _ | refine blk_drew ?_ | refine blk_alloc ?_ _)); refine blk_put (cs := #[.bool true, .int .u64 0]) ?_ 1 _ rfl; (with_reducible repeat (first | refine blk_drewN ?_ _ | refine blk_drew ?_ | refine blk_alloc ?_ _)); refine blk_put (cs := #[.bool false, .int .u64 0]) ?_ 0 _ rfl; (with_reducible repeat (first | refine blk_drewN ?_ _ | refine blk_drew ?_ | refine blk_alloc ?_ _)); exact BK219.out⟩
                             have n4_ : Aside0 (Below w.heap.size w ((w118.setCell ⟨gb219, 0, none⟩ (.bool true)).setCell ⟨gb219, 1, none⟩ (.int .u64 t218))) := ⟨by repeat (first | (with_reducible first | exact HB.out | apply below_alloc | apply pw_below_drewN | apply below_drew1 | refine below_set ?_ GE193.out | refine below_set ?_ GE196.out | refine below_set ?_ GE214.out | refine below_set ?_ GE219.out) | exact HB.out)⟩
                             (try clear BK193)
                             (try clear BK196)
                             (try clear BK214)
                             (try clear BK219)
                             (try clear HB)
                             generalize ((w118.setCell ⟨gb219, 0, none⟩ (.bool true)).setCell ⟨gb219, 1, none⟩ (.int .u64 t218)) = w123 at n0_ n1_ n2_ n3_ n4_ ⊢
                             have BK193 := n0_
                             have BK196 := n1_
                             have BK214 := n2_
                             have BK219 := n3_
                             have HB := n4_
                             clear n0_ n1_ n2_ n3_ n4_
                             have n0_ := Aside0.mk (blk_drew BK193.out)
                             have n1_ := Aside0.mk (blk_drew BK196.out)
                             have n2_ := Aside0.mk (blk_drew BK214.out)
                             have n3_ := Aside0.mk (blk_drew BK219.out)
                             have n4_ := Aside0.mk (below_drew1 HB.out)
                             clear BK193
                             clear BK196
                             clear BK214
                             clear BK219
                             clear HB
                             have BK193 := n0_
                             have BK196 := n1_
                             have BK214 := n2_
                             have BK219 := n3_
                             have HB := n4_
                             clear n0_ n1_ n2_ n3_ n4_
                             refine start_ (n := 48) (S := fun w' => w'.cell? ⟨gb214, 0, none⟩ = some (.bool true) ∧ w'.cell? ⟨gb214, 1, none⟩ = some (.int .u64 t213) ∧ w'.cell? ⟨gb196, 0, none⟩ = some (.int .i64 t194) ∧ w'.cell? ⟨gb196, 1, none⟩ = some (.int .u64 t195) ∧ w'.cell? ⟨gb219, 0, none⟩ = some (.bool true) ∧ w'.cell? ⟨gb219, 1, none⟩ = some (.int .u64 t218)) (ds := []) #[false, false, false, false, false, false, false, false, false, false, false, false, false, false, false, false, false, false, false, false, false, false, false, false, false, false, false, false, false, false, false, false, false, false, false, false, false, false, false, false, false, false, false, false, false, false, false, false] (by kernel_rfl) rfl rfl ⟨(blk_cell BK214.out 0).trans rfl, (blk_cell BK214.out 1).trans rfl, (blk_cell BK196.out 0).trans rfl, (blk_cell BK196.out 1).trans rfl, (blk_cell BK219.out 0).trans rfl, (blk_cell BK219.out 1).trans rfl⟩ (fun hHeld => ?_); refine with_tabW laws_FnCasts.tab21 laws_FnCasts.bits21 (fun HT_ HW_ => ?_)
                             generalize w123.drew = w124 at BK193 BK196 BK214 BK219 HB hHeld ⊢
                             refine pure_ (i := 0) (N := some 123) (v := ?_) (a' := ?_) #[true, false, false, false, false, false, false, false, false, false, false, false, false, false, false, false, false, false, false, false, false, false, false, false, false, false, false, false, false, false, false, false, false, false, false, false, false, false, false, false, false, false, false, false, false, false, false, false] rfl rfl (any_of HT_.out (by kernel_rfl)) (fun _ _ _ h => h) (Or.inl ⟨by rfl, ?_⟩) ?_ ?_
                             rotate_left
                             · intro w'
                               go_simp
                               with_reducible rfl
                             rotate_left
                             · simp only [Act.put, List.setIfInBounds_toArray, List.set_cons_zero, List.set_cons_succ, i64_w, i32_w]
                               rfl
                             refine take_ (i := 1) (N := some 124) (v := ?_) (a' := ?_) #[true, true, false, false, false, false, false, false, false, false, false, false, false, false, false, false, false, false, false, false, false, false, false, false, false, false, false, false, false, false, false, false, false, false, false, false, false, false, false, false, false, false, false, false, false, false, false, false] rfl rfl (take_ofW HT_.out HW_.out (by kernel_rfl)) (fun _ _ _ h => h) (Or.inl ⟨by rfl, ?_⟩) hHeld ?_ ?_
                             rotate_left
                             · rintro w' ⟨s0, s1, s2, s3, s4, s5⟩
                               go_simp
                               with_reducible rfl
                             rotate_left
                             · simp only [Act.put, List.setIfInBounds_toArray, List.set_cons_zero, List.set_cons_succ, i64_w, i32_w]
                               rfl
                             refine pure_ (i := 2) (N := some 125) (v := ?_) (a' := ?_) #[true, true, true, false, false, false, false, false, false, false, false, false, false, false, false, false, false, false, false, false, false, false, false, false, false, false, false, false, false, false, false, false, false, false, false, false, false, false, false, false, false, false, false, false, false, false, false, false] rfl rfl (any_of HT_.out (by kernel_rfl)) (fun _ _ _ h => h) (Or.inl ⟨by rfl, ?_⟩) ?_ ?_
                             rotate_left
                             · intro w'
                               go_simp
                               with_reducible rfl
                             rotate_left
                             · simp only [Act.put, List.setIfInBounds_toArray, List.set_cons_zero, List.set_cons_succ, i64_w, i32_w]
                               rfl
                             refine pure_ (i := 3) (N := some 126) (v := ?_) (a' := ?_) #[true, true, true, true, false, false, false, false, false, false, false, false, false, false, false, false, false, false, false, false, false, false, false, false, false, false, false, false, false, false, false, false, false, false, false, false, false, false, false, false, false, false, false, false, false, false, false, false] rfl rfl (any_of HT_.out (by kernel_rfl)) (fun _ _ _ h => h) (Or.inl ⟨by rfl, ?_⟩) ?_ ?_
                             rotate_left
                             · intro w'
                               go_simp
                               with_reducible rfl
                             rotate_left
                             · simp only [Act.put, List.setIfInBounds_toArray, List.set_cons_zero, List.set_cons_succ, i64_w, i32_w]
                               rfl
                             refine pure_ (i := 5) (N := some 128) (v := ?_) (a' := ?_) #[true, true, true, true, false, true, false, false, false, false, false, false, false, false, false, false, false, false, false, false, false, false, false, false, false, false, false, false, false, false, false, false, false, false, false, false, false, false, false, false, false, false, false, false, false, false, false, false] rfl rfl (any_of HT_.out (by kernel_rfl)) (fun _ _ _ h => h) (Or.inl ⟨by rfl, ?_⟩) ?_ ?_
                             rotate_left
                             · intro w'
                               go_simp
                               with_reducible rfl
                             rotate_left
                             · simp only [Act.put, List.setIfInBounds_toArray, List.set_cons_zero, List.set_cons_succ, i64_w, i32_w]
                               rfl
                             refine take_ (i := 4) (N := some 127) (v := ?_) (a' := ?_) #[true, true, true, true, true, true, false, false, false, false, false, false, false, false, false, false, false, false, false, false, false, false, false, false, false, false, false, false, false, false, false, false, false, false, false, false, false, false, false, false, false, false, false, false, false, false, false, false] rfl rfl (take_ofW HT_.out HW_.out (by kernel_rfl)) (fun _ _ _ h => h) (Or.inl ⟨by rfl, ?_⟩) hHeld ?_ ?_
                             rotate_left
                             · rintro w' ⟨s0, s1, s2, s3, s4, s5⟩
                               go_simp
                               with_reducible rfl
                             rotate_left
                             · simp only [Act.put, List.setIfInBounds_toArray, List.set_cons_zero, List.set_cons_succ, i64_w, i32_w]
                               rfl
                             refine take_ (i := 6) (N := some 129) (v := ?_) (a' := ?_) #[true, true, true, true, true, true, true, false, false, false, false, false, false, false, false, false, false, false, false, false, false, false, false, false, false, false, false, false, false, false, false, false, false, false, false, false, false, false, false, false, false, false, false, false, false, false, false, false] rfl rfl (take_ofW HT_.out HW_.out (by kernel_rfl)) (fun _ _ _ h => h) (Or.inl ⟨by rfl, ?_⟩) hHeld ?_ ?_
                             rotate_left
                             · rintro w' ⟨s0, s1, s2, s3, s4, s5⟩
                               go_simp
                               with_reducible rfl
                             rotate_left
                             · simp only [Act.put, List.setIfInBounds_toArray, List.set_cons_zero, List.set_cons_succ, i64_w, i32_w]
                               rfl
                             refine pure_ (i := 7) (N := some 130) (v := ?_) (a' := ?_) #[true, true, true, true, true, true, true, true, false, false, false, false, false, false, false, false, false, false, false, false, false, false, false, false, false, false, false, false, false, false, false, false, false, false, false, false, false, false, false, false, false, false, false, false, false, false, false, false] rfl rfl (any_of HT_.out (by kernel_rfl)) (fun _ _ _ h => h) (Or.inl ⟨by rfl, ?_⟩) ?_ ?_
                             rotate_left
                             · intro w'
                               go_simp
                               with_reducible rfl
                             rotate_left
                             · simp only [Act.put, List.setIfInBounds_toArray, List.set_cons_zero, List.set_cons_succ, i64_w, i32_w]
                               rfl
                             refine pure_ (i := 8) (N := some 131) (v := ?_) (a' := ?_) #[true, true, true, true, true, true, true, true, true, false, false, false, false, false, false, false, false, false, false, false, false, false, false, false, false, false, false, false, false, false, false, false, false, false, false, false, false, false, false, false, false, false, false, false, false, false, false, false] rfl rfl (any_of HT_.out (by kernel_rfl)) (fun _ _ _ h => h) (Or.inl ⟨by rfl, ?_⟩) ?_ ?_
                             rotate_left
                             · intro w'
                               go_simp
                               with_reducible rfl
                             rotate_left
                             · simp only [Act.put, List.setIfInBounds_toArray, List.set_cons_zero, List.set_cons_succ, i64_w, i32_w]
                               rfl
                             refine pure_ (i := 9) (N := some 132) (v := ?_) (a' := ?_) #[true, true, true, true, true, true, true, true, true, true, false, false, false, false, false, false, false, false, false, false, false, false, false, false, false, false, false, false, false, false, false, false, false, false, false, false, false, false, false, false, false, false, false, false, false, false, false, false] rfl rfl (any_of HT_.out (by kernel_rfl)) (fun _ _ _ h => h) (Or.inl ⟨by rfl, ?_⟩) ?_ ?_
                             rotate_left
                             · intro w'
                               go_simp
                               with_reducible rfl
                             rotate_left
                             · simp only [Act.put, List.setIfInBounds_toArray, List.set_cons_zero, List.set_cons_succ, i64_w, i32_w]
                               rfl
                             refine pure_ (i := 10) (N := some 133) (v := ?_) (a' := ?_) #[true, true, true, true, true, true, true, true, true, true, true, false, false, false, false, false, false, false, false, false, false, false, false, false, false, false, false, false, false, false, false, false, false, false, false, false, false, false, false, false, false, false, false, false, false, false, false, false] rfl rfl (any_of HT_.out (by kernel_rfl)) (fun _ _ _ h => h) (Or.inl ⟨by rfl, ?_⟩) ?_ ?_
                             rotate_left
                             · intro w'
                               go_simp
                               with_reducible rfl
                             rotate_left
                             · simp only [Act.put, List.setIfInBounds_toArray, List.set_cons_zero, List.set_cons_succ, i64_w, i32_w]
                               rfl
                             refine take_ (i := 11) (N := some 134) (v := ?_) (a' := ?_) #[true, true, true, true, true, true, true, true, true, true, true, true, false, false, false, false, false, false, false, false, false, false, false, false, false, false, false, false, false, false, false, false, false, false, false, false, false, false, false, false, false, false, false, false, false, false, false, false] rfl rfl (take_ofW HT_.out HW_.out (by kernel_rfl)) (fun _ _ _ h => h) (Or.inl ⟨by rfl, ?_⟩) hHeld ?_ ?_
                             rotate_left
                             · rintro w' ⟨s0, s1, s2, s3, s4, s5⟩
                               go_simp
                               with_reducible rfl
                             rotate_left
                             · simp only [Act.put, List.setIfInBounds_toArray, List.set_cons_zero, List.set_cons_succ, i64_w, i32_w]
                               rfl
                             refine pure_ (i := 12) (N := some 135) (v := ?_) (a' := ?_) #[true, true, true, true, true, true, true, true, true, true, true, true, true, false, false, false, false, false, false, false, false, false, false, false, false, false, false, false, false, false, false, false, false, false, false, false, false, false, false, false, false, false, false, false, false, false, false, false] rfl rfl (any_of HT_.out (by kernel_rfl)) (fun _ _ _ h => h) (Or.inl ⟨by rfl, ?_⟩) ?_ ?_
                             rotate_left
                             · intro w'
                               go_simp
                               with_reducible rfl
                             rotate_left
                             · simp only [Act.put, List.setIfInBounds_toArray, List.set_cons_zero, List.set_cons_succ, i64_w, i32_w]
                               rfl
                             refine pure_ (i := 13) (N := some 136) (v := ?_) (a' := ?_) #[true, true, true, true, true, true, true, true, true, true, true, true, true, true, false, false, false, false, false, false, false, false, false, false, false, false, false, false, false, false, false, false, false, false, false, false, false, false, false, false, false, false, false, false, false, false, false, false] rfl rfl (any_of HT_.out (by kernel_rfl)) (fun _ _ _ h => h) (Or.inl ⟨by rfl, ?_⟩) ?_ ?_
                             rotate_left
                             · intro w'
                               go_simp
                               with_reducible rfl
                             rotate_left
                             · simp only [Act.put, List.setIfInBounds_toArray, List.set_cons_zero, List.set_cons_succ, i64_w, i32_w]
                               rfl
                             refine pure_ (i := 14) (N := some 137) (v := ?_) (a' := ?_) #[true, true, true, true, true, true, true, true, true, true, true, true, true, true, true, false, false, false, false, false, false, false, false, false, false, false, false, false, false, false, false, false, false, false, false, false, false, false, false, false, false, false, false, false, false, false, false, false] rfl rfl (any_of HT_.out (by kernel_rfl)) (fun _ _ _ h => h) (Or.inl ⟨by rfl, ?_⟩) ?_ ?_
                             rotate_left
                             · intro w'
                               go_simp
                               with_reducible rfl
                             rotate_left
                             · simp only [Act.put, List.setIfInBounds_toArray, List.set_cons_zero, List.set_cons_succ, i64_w, i32_w]
                               rfl
                             refine pure_ (i := 15) (N := some 138) (v := ?_) (a' := ?_) #[true, true, true, true, true, true, true, true, true, true, true, true, true, true, true, true, false, false, false, false, false, false, false, false, false, false, false, false, false, false, false, false, false, false, false, false, false, false, false, false, false, false, false, false, false, false, false, false] rfl rfl (any_of HT_.out (by kernel_rfl)) (fun _ _ _ h => h) (Or.inl ⟨by rfl, ?_⟩) ?_ ?_
                             rotate_left
                             · intro w'
                               go_simp
                               with_reducible rfl
                             rotate_left
                             · simp only [Act.put, List.setIfInBounds_toArray, List.set_cons_zero, List.set_cons_succ, i64_w, i32_w]
                               rfl
                             refine pure_ (i := 18) (N := some 141) (v := ?_) (a' := ?_) #[true, true, true, true, true, true, true, true, true, true, true, true, true, true, true, true, false, false, true, false, false, false, false, false, false, false, false, false, false, false, false, false, false, false, false, false, false, false, false, false, false, false, false, false, false, false, false, false] rfl rfl (any_of HT_.out (by kernel_rfl)) (fun _ _ _ h => h) (Or.inl ⟨by rfl, ?_⟩) ?_ ?_
                             rotate_left
                             · intro w'
                               go_simp
                               with_reducible rfl
                             rotate_left
                             · simp only [Act.put, List.setIfInBounds_toArray, List.set_cons_zero, List.set_cons_succ, i64_w, i32_w]
                               rfl
                             refine take_ (i := 16) (N := some 139) (v := ?_) (a' := ?_) #[true, true, true, true, true, true, true, true, true, true, true, true, true, true, true, true, true, false, true, false, false, false, false, false, false, false, false, false, false, false, false, false, false, false, false, false, false, false, false, false, false, false, false, false, false, false, false, false] rfl rfl (take_ofW HT_.out HW_.out (by kernel_rfl)) (fun _ _ _ h => h) (Or.inl ⟨by rfl, ?_⟩) hHeld ?_ ?_
                             rotate_left
                             · rintro w' ⟨s0, s1, s2, s3, s4, s5⟩
                               go_simp
                               with_reducible rfl
                             rotate_left
                             · simp only [Act.put, List.setIfInBounds_toArray, List.set_cons_zero, List.set_cons_succ, i64_w, i32_w]
                               rfl
                             refine one_ (i := 17) (N := some 140) #[true, true, true, true, true, true, true, true, true, true, true, true, true, true, true, true, true, true, true, false, false, false, false, false, false, false, false, false, false, false, false, false, false, false, false, false, false, false, false, false, false, false, false, false, false, false, false, false] rfl rfl (one_of HT_.out (by kernel_rfl)) (by decide) (fun K hK => ?_)
                             refine goes_ Tryd.func22 (by kernel_rfl) rfl #[.int .i64 t188, .int .u64 t218] (by rfl) rfl rfl (by (try simp only [List.map_toArray, List.map_cons, List.map_nil]); first | done | rfl | (simp only [List.length_drop, List.length_take]; rfl)) ?_
                             with_reducible refine (impl_FormatWord.calls t188 t218 t220 _ ?tLtTab A79.out).mono ?_
                             (case tLtTab => exact HLtTab.out.on (by repeat (first | (with_reducible first | exact HB.out | apply below_alloc | apply pw_below_drewN | apply below_drew1 | refine below_set ?_ GE193.out | refine below_set ?_ GE196.out | refine below_set ?_ GE214.out | refine below_set ?_ GE219.out) | exact HB.out)))
                             rintro e w125 ⟨rfl, hb⟩
                             refine ⟨_, rfl, ?_⟩
                             have n0_ := Aside0.mk (blk_below (g := gb193) (o := .cells #[.int .i64 t191, .int .u64 t192] 46 (0, 0)) (by (with_reducible repeat (first | refine blk_drewN ?_ _ | refine blk_drew ?_ | refine blk_alloc ?_ _)); exact BK193.out) hb)
                             have n1_ := Aside0.mk (blk_below (g := gb196) (o := .cells #[.int .i64 t194, .int .u64 t195] 46 (0, 0)) (by (with_reducible repeat (first | refine blk_drewN ?_ _ | refine blk_drew ?_ | refine blk_alloc ?_ _)); exact BK196.out) hb)
                             have n2_ := Aside0.mk (blk_below (g := gb214) (o := .cells #[.bool true, .int .u64 t213] 37 (0, 0)) (by (with_reducible repeat (first | refine blk_drewN ?_ _ | refine blk_drew ?_ | refine blk_alloc ?_ _)); exact BK214.out) hb)
                             have n3_ := Aside0.mk (blk_below (g := gb219) (o := .cells #[.bool true, .int .u64 t218] 37 (0, 0)) (by (with_reducible repeat (first | refine blk_drewN ?_ _ | refine blk_drew ?_ | refine blk_alloc ?_ _)); exact BK219.out) hb)
                             have n4_ := Aside0.mk (below_step (by repeat (first | (with_reducible first | exact HB.out | apply below_alloc | apply pw_below_drewN | apply below_drew1 | refine below_set ?_ GE193.out | refine below_set ?_ GE196.out | refine below_set ?_ GE214.out | refine below_set ?_ GE219.out) | exact HB.out)) hb)
                             clear BK193
                             clear BK196
                             clear BK214
                             clear BK219
                             clear HB
                             have BK193 := n0_
                             have BK196 := n1_
                             have BK214 := n2_
                             have BK219 := n3_
                             have HB := n4_
                             clear n0_ n1_ n2_ n3_ n4_
                             (try clear hb)
                             (try clear hb2)
                             (try clear hk)
                             (try clear hi)
                             refine hK.out _ _ ⟨(blk_cell BK214.out 0).trans rfl, (blk_cell BK214.out 1).trans rfl, (blk_cell BK196.out 0).trans rfl, (blk_cell BK196.out 1).trans rfl, (blk_cell BK219.out 0).trans rfl, (blk_cell BK219.out 1).trans rfl⟩ (fun hHeld => ?_)
                             clear hK K
                             refine norm_ (a' := ?_) ?_ ?_
                             rotate_left
                             · show Act.put _ (some 140) _ = _
                               simp only [Act.put, List.setIfInBounds_toArray, List.set_cons_zero, List.set_cons_succ, i64_w, i32_w]
                               rfl
                             refine pure_ (i := 19) (N := some 142) (v := ?_) (a' := ?_) #[true, true, true, true, true, true, true, true, true, true, true, true, true, true, true, true, true, true, true, true, false, false, false, false, false, false, false, false, false, false, false, false, false, false, false, false, false, false, false, false, false, false, false, false, false, false, false, false] rfl rfl (any_of HT_.out (by kernel_rfl)) (fun _ _ _ h => h) (Or.inl ⟨by rfl, ?_⟩) ?_ ?_
                             rotate_left
                             · intro w'
                               go_simp
                               with_reducible rfl
                             rotate_left
                             · simp only [Act.put, List.setIfInBounds_toArray, List.set_cons_zero, List.set_cons_succ, i64_w, i32_w]
                               rfl
                             refine pure_ (i := 20) (N := some 143) (v := ?_) (a' := ?_) #[true, true, true, true, true, true, true, true, true, true, true, true, true, true, true, true, true, true, true, true, true, false, false, false, false, false, false, false, false, false, false, false, false, false, false, false, false, false, false, false, false, false, false, false, false, false, false, false] rfl rfl (any_of HT_.out (by kernel_rfl)) (fun _ _ _ h => h) (Or.inl ⟨by rfl, ?_⟩) ?_ ?_
                             rotate_left
                             · intro w'
                               go_simp
                               with_reducible rfl
                             rotate_left
                             · simp only [Act.put, List.setIfInBounds_toArray, List.set_cons_zero, List.set_cons_succ, i64_w, i32_w]
                               rfl
                             refine pure_ (i := 21) (N := some 144) (v := ?_) (a' := ?_) #[true, true, true, true, true, true, true, true, true, true, true, true, true, true, true, true, true, true, true, true, true, true, false, false, false, false, false, false, false, false, false, false, false, false, false, false, false, false, false, false, false, false, false, false, false, false, false, false] rfl rfl (any_of HT_.out (by kernel_rfl)) (fun _ _ _ h => h) (Or.inl ⟨by rfl, ?_⟩) ?_ ?_
                             rotate_left
                             · intro w'
                               go_simp
                               with_reducible rfl
                             rotate_left
                             · simp only [Act.put, List.setIfInBounds_toArray, List.set_cons_zero, List.set_cons_succ, i64_w, i32_w]
                               rfl
                             refine pure_ (i := 22) (N := some 145) (v := ?_) (a' := ?_) #[true, true, true, true, true, true, true, true, true, true, true, true, true, true, true, true, true, true, true, true, true, true, true, false, false, false, false, false, false, false, false, false, false, false, false, false, false, false, false, false, false, false, false, false, false, false, false, false] rfl rfl (any_of HT_.out (by kernel_rfl)) (fun _ _ _ h => h) (Or.inl ⟨by rfl, ?_⟩) ?_ ?_
                             rotate_left
                             · intro w'
                               go_simp
                               with_reducible rfl
                             rotate_left
                             · simp only [Act.put, List.setIfInBounds_toArray, List.set_cons_zero, List.set_cons_succ, i64_w, i32_w]
                               rfl
                             refine pure_ (i := 23) (N := some 146) (v := ?_) (a' := ?_) #[true, true, true, true, true, true, true, true, true, true, true, true, true, true, true, true, true, true, true, true, true, true, true, true, false, false, false, false, false, false, false, false, false, false, false, false, false, false, false, false, false, false, false, false, false, false, false, false] rfl rfl (any_of HT_.out (by kernel_rfl)) (fun _ _ _ h => h) (Or.inl ⟨by rfl, ?_⟩) ?_ ?_
                             rotate_left
                             · intro w'
                               go_simp
                               with_reducible rfl
                             rotate_left
                             · simp only [Act.put, List.setIfInBounds_toArray, List.set_cons_zero, List.set_cons_succ, i64_w, i32_w]
                               rfl
                             refine pure_ (i := 25) (N := some 148) (v := ?_) (a' := ?_) #[true, true, true, true, true, true, true, true, true, true, true, true, true, true, true, true, true, true, true, true, true, true, true, true, false, true, false, false, false, false, false, false, false, false, false, false, false, false, false, false, false, false, false, false, false, false, false, false] rfl rfl (any_of HT_.out (by kernel_rfl)) (fun _ _ _ h => h) (Or.inl ⟨by rfl, ?_⟩) ?_ ?_
                             rotate_left
                             · intro w'
                               go_simp
                               with_reducible rfl
                             rotate_left
                             · simp only [Act.put, List.setIfInBounds_toArray, List.set_cons_zero, List.set_cons_succ, i64_w, i32_w]
                               rfl
                             refine pure_ (i := 26) (N := some 149) (v := ?_) (a' := ?_) #[true, true, true, true, true, true, true, true, true, true, true, true, true, true, true, true, true, true, true, true, true, true, true, true, false, true, true, false, false, false, false, false, false, false, false, false, false, false, false, false, false, false, false, false, false, false, false, false] rfl rfl (any_of HT_.out (by kernel_rfl)) (fun _ _ _ h => h) (Or.inl ⟨by rfl, ?_⟩) ?_ ?_
                             rotate_left
                             · intro w'
                               go_simp
                               with_reducible rfl
                             rotate_left
                             · simp only [Act.put, List.setIfInBounds_toArray, List.set_cons_zero, List.set_cons_succ, i64_w, i32_w]
                               rfl
                             refine take_ (i := 24) (N := some 147) (v := ?_) (a' := ?_) #[true, true, true, true, true, true, true, true, true, true, true, true, true, true, true, true, true, true, true, true, true, true, true, true, true, true, true, false, false, false, false, false, false, false, false, false, false, false, false, false, false, false, false, false, false, false, false, false] rfl rfl (take_ofW HT_.out HW_.out (by kernel_rfl)) (fun _ _ _ h => h) (Or.inl ⟨by rfl, ?_⟩) hHeld ?_ ?_
                             rotate_left
                             · rintro w' ⟨s0, s1, s2, s3, s4, s5⟩
                               go_simp
                               with_reducible rfl
                             rotate_left
                             · simp only [Act.put, List.setIfInBounds_toArray, List.set_cons_zero, List.set_cons_succ, i64_w, i32_w]
                               rfl
                             refine one_ (i := 27) (N := some 150) #[true, true, true, true, true, true, true, true, true, true, true, true, true, true, true, true, true, true, true, true, true, true, true, true, true, true, true, true, false, false, false, false, false, false, false, false, false, false, false, false, false, false, false, false, false, false, false, false] rfl rfl (one_of HT_.out (by kernel_rfl)) (by decide) (fun K hK => ?_)
                             refine goes_ Tryd.func13 (by kernel_rfl) rfl #[.int .i64 t188, .string t216] (by rfl) rfl rfl (by (try simp only [List.map_toArray, List.map_cons, List.map_nil]); first | done | rfl | (simp only [List.length_drop, List.length_take]; rfl)) ?_
                             with_reducible refine (spec_ParseWord.calls kj35 t188 t216 t221 t222 _ A81.out).mono ?_
                             rintro e w126 ⟨rfl, hb⟩
                             refine ⟨_, rfl, ?_⟩
                             have n0_ := Aside0.mk (blk_below (g := gb193) (o := .cells #[.int .i64 t191, .int .u64 t192] 46 (0, 0)) (by (with_reducible repeat (first | refine blk_drewN ?_ _ | refine blk_drew ?_ | refine blk_alloc ?_ _)); exact BK193.out) hb)
                             have n1_ := Aside0.mk (blk_below (g := gb196) (o := .cells #[.int .i64 t194, .int .u64 t195] 46 (0, 0)) (by (with_reducible repeat (first | refine blk_drewN ?_ _ | refine blk_drew ?_ | refine blk_alloc ?_ _)); exact BK196.out) hb)
                             have n2_ := Aside0.mk (blk_below (g := gb214) (o := .cells #[.bool true, .int .u64 t213] 37 (0, 0)) (by (with_reducible repeat (first | refine blk_drewN ?_ _ | refine blk_drew ?_ | refine blk_alloc ?_ _)); exact BK214.out) hb)
                             have n3_ := Aside0.mk (blk_below (g := gb219) (o := .cells #[.bool true, .int .u64 t218] 37 (0, 0)) (by (with_reducible repeat (first | refine blk_drewN ?_ _ | refine blk_drew ?_ | refine blk_alloc ?_ _)); exact BK219.out) hb)
                             have n4_ := Aside0.mk (below_step (by repeat (first | (with_reducible first | exact HB.out | apply below_alloc | apply pw_below_drewN | apply below_drew1 | refine below_set ?_ GE193.out | refine below_set ?_ GE196.out | refine below_set ?_ GE214.out | refine below_set ?_ GE219.out) | exact HB.out)) hb)
                             clear BK193
                             clear BK196
                             clear BK214
                             clear BK219
                             clear HB
                             have BK193 := n0_
                             have BK196 := n1_
                             have BK214 := n2_
                             have BK219 := n3_
                             have HB := n4_
                             clear n0_ n1_ n2_ n3_ n4_
                             (try clear hb)
                             (try clear hb2)
                             (try clear hk)
                             (try clear hi)
                             refine hK.out _ _ ⟨(blk_cell BK214.out 0).trans rfl, (blk_cell BK214.out 1).trans rfl, (blk_cell BK196.out 0).trans rfl, (blk_cell BK196.out 1).trans rfl, (blk_cell BK219.out 0).trans rfl, (blk_cell BK219.out 1).trans rfl⟩ (fun hHeld => ?_)
                             clear hK K
                             refine norm_ (a' := ?_) ?_ ?_
                             rotate_left
                             · show Act.put _ (some 150) _ = _
                               simp only [Act.put, List.setIfInBounds_toArray, List.set_cons_zero, List.set_cons_succ, i64_w, i32_w]
                               rfl
                             refine pure_ (i := 28) (N := some 151) (v := ?_) (a' := ?_) #[true, true, true, true, true, true, true, true, true, true, true, true, true, true, true, true, true, true, true, true, true, true, true, true, true, true, true, true, true, false, false, false, false, false, false, false, false, false, false, false, false, false, false, false, false, false, false, false] rfl rfl (any_of HT_.out (by kernel_rfl)) (fun _ _ _ h => h) (Or.inl ⟨by rfl, ?_⟩) ?_ ?_
                             rotate_left
                             · intro w'
                               go_simp
                               with_reducible rfl
                             rotate_left
                             · simp only [Act.put, List.setIfInBounds_toArray, List.set_cons_zero, List.set_cons_succ, i64_w, i32_w]
                               rfl
                             refine pure_ (i := 29) (N := some 152) (v := ?_) (a' := ?_) #[true, true, true, true, true, true, true, true, true, true, true, true, true, true, true, true, true, true, true, true, true, true, true, true, true, true, true, true, true, true, false, false, false, false, false, false, false, false, false, false, false, false, false, false, false, false, false, false] rfl rfl (any_of HT_.out (by kernel_rfl)) (fun _ _ _ h => h) (Or.inl ⟨by rfl, ?_⟩) ?_ ?_
                             rotate_left
                             · intro w'
                               go_simp
                               with_reducible rfl
                             rotate_left
                             · simp only [Act.put, List.setIfInBounds_toArray, List.set_cons_zero, List.set_cons_succ, i64_w, i32_w]
                               rfl
                             refine pure_ (i := 30) (N := some 153) (v := ?_) (a' := ?_) #[true, true, true, true, true, true, true, true, true, true, true, true, true, true, true, true, true, true, true, true, true, true, true, true, true, true, true, true, true, true, true, false, false, false, false, false, false, false, false, false, false, false, false, false, false, false, false, false] rfl rfl (any_of HT_.out (by kernel_rfl)) (fun _ _ _ h => h) (Or.inl ⟨by rfl, ?_⟩) ?_ ?_
                             rotate_left
                             · intro w'
                               go_simp
                               with_reducible rfl
                             rotate_left
                             · simp only [Act.put, List.setIfInBounds_toArray, List.set_cons_zero, List.set_cons_succ, i64_w, i32_w]
                               rfl
                             refine pure_ (i := 31) (N := some 154) (v := ?_) (a' := ?_) #[true, true, true, true, true, true, true, true, true, true, true, true, true, true, true, true, true, true, true, true, true, true, true, true, true, true, true, true, true, true, true, true, false, false, false, false, false, false, false, false, false, false, false, false, false, false, false, false] rfl rfl (any_of HT_.out (by kernel_rfl)) (fun _ _ _ h => h) (Or.inl ⟨by rfl, ?_⟩) ?_ ?_
                             rotate_left
                             · intro w'
                               go_simp
                               with_reducible rfl
                             rotate_left
                             · simp only [Act.put, List.setIfInBounds_toArray, List.set_cons_zero, List.set_cons_succ, i64_w, i32_w]
                               rfl
                             refine pure_ (i := 32) (N := some 155) (v := ?_) (a' := ?_) #[true, true, true, true, true, true, true, true, true, true, true, true, true, true, true, true, true, true, true, true, true, true, true, true, true, true, true, true, true, true, true, true, true, false, false, false, false, false, false, false, false, false, false, false, false, false, false, false] rfl rfl (any_of HT_.out (by kernel_rfl)) (fun _ _ _ h => h) (Or.inl ⟨by rfl, ?_⟩) ?_ ?_
                             rotate_left
                             · intro w'
                               go_simp
                               with_reducible rfl
                             rotate_left
                             · simp only [Act.put, List.setIfInBounds_toArray, List.set_cons_zero, List.set_cons_succ, i64_w, i32_w]
                               rfl
                             refine pure_ (i := 33) (N := some 156) (v := ?_) (a' := ?_) #[true, true, true, true, true, true, true, true, true, true, true, true, true, true, true, true, true, true, true, true, true, true, true, true, true, true, true, true, true, true, true, true, true, true, false, false, false, false, false, false, false, false, false, false, false, false, false, false] rfl rfl (any_of HT_.out (by kernel_rfl)) (fun _ _ _ h => h) (Or.inl ⟨by rfl, ?_⟩) ?_ ?_
                             rotate_left
                             · intro w'
                               go_simp
                               with_reducible rfl
                             rotate_left
                             · simp only [Act.put, List.setIfInBounds_toArray, List.set_cons_zero, List.set_cons_succ, i64_w, i32_w]
                               rfl
                             refine pure_ (i := 34) (N := some 157) (v := ?_) (a' := ?_) #[true, true, true, true, true, true, true, true, true, true, true, true, true, true, true, true, true, true, true, true, true, true, true, true, true, true, true, true, true, true, true, true, true, true, true, false, false, false, false, false, false, false, false, false, false, false, false, false] rfl rfl (any_of HT_.out (by kernel_rfl)) (fun _ _ _ h => h) (Or.inl ⟨by rfl, ?_⟩) ?_ ?_
                             rotate_left
                             · intro w'
                               go_simp
                               with_reducible rfl
                             rotate_left
                             · simp only [Act.put, List.setIfInBounds_toArray, List.set_cons_zero, List.set_cons_succ, i64_w, i32_w]
                               rfl
                             refine one_ (i := 35) (N := some 158) #[true, true, true, true, true, true, true, true, true, true, true, true, true, true, true, true, true, true, true, true, true, true, true, true, true, true, true, true, true, true, true, true, true, true, true, true, false, false, false, false, false, false, false, false, false, false, false, false] rfl rfl (one_of HT_.out (by kernel_rfl)) (by decide) (fun K hK => ?_)
                             refine goes_ Tryd.func14 (by kernel_rfl) rfl #[.int .i64 t189, .string (t211 ++ (⟨#[32]⟩ : ByteArray))] (by rfl) rfl rfl (by (try simp only [List.map_toArray, List.map_cons, List.map_nil]); first | done | rfl | (simp only [List.length_drop, List.length_take]; rfl)) ?_
                             with_reducible refine (impl_ParseWord.calls t189 (t211 ++ (⟨#[32]⟩ : ByteArray)) false t224 _ ?tLtTab ?tLtErr A84.out).mono ?_
                             (case tLtTab => exact HLtTab.out.on (by repeat (first | (with_reducible first | exact HB.out | apply below_alloc | apply pw_below_drewN | apply below_drew1 | refine below_set ?_ GE193.out | refine below_set ?_ GE196.out | refine below_set ?_ GE214.out | refine below_set ?_ GE219.out) | exact HB.out))); (case tLtErr => exact HLtErr.out.on (by repeat (first | (with_reducible first | exact HB.out | apply below_alloc | apply pw_below_drewN | apply below_drew1 | refine below_set ?_ GE193.out | refine below_set ?_ GE196.out | refine below_set ?_ GE214.out | refine below_set ?_ GE219.out) | exact HB.out)))
                             rintro e w127 ⟨rfl, hb⟩
                             refine ⟨_, rfl, ?_⟩
                             have n0_ := Aside0.mk (blk_below (g := gb193) (o := .cells #[.int .i64 t191, .int .u64 t192] 46 (0, 0)) (by (with_reducible repeat (first | refine blk_drewN ?_ _ | refine blk_drew ?_ | refine blk_alloc ?_ _)); exact BK193.out) hb)
                             have n1_ := Aside0.mk (blk_below (g := gb196) (o := .cells #[.int .i64 t194, .int .u64 t195] 46 (0, 0)) (by (with_reducible repeat (first | refine blk_drewN ?_ _ | refine blk_drew ?_ | refine blk_alloc ?_ _)); exact BK196.out) hb)
                             have n2_ := Aside0.mk (blk_below (g := gb214) (o := .cells #[.bool true, .int .u64 t213] 37 (0, 0)) (by (with_reducible repeat (first | refine blk_drewN ?_ _ | refine blk_drew ?_ | refine blk_alloc ?_ _)); exact BK214.out) hb)
                             have n3_ := Aside0.mk (blk_below (g := gb219) (o := .cells #[.bool true, .int .u64 t218] 37 (0, 0)) (by (with_reducible repeat (first | refine blk_drewN ?_ _ | refine blk_drew ?_ | refine blk_alloc ?_ _)); exact BK219.out) hb)
                             have n4_ := Aside0.mk (below_step (by repeat (first | (with_reducible first | exact HB.out | apply below_alloc | apply pw_below_drewN | apply below_drew1 | refine below_set ?_ GE193.out | refine below_set ?_ GE196.out | refine below_set ?_ GE214.out | refine below_set ?_ GE219.out) | exact HB.out)) hb)
                             clear BK193
                             clear BK196
                             clear BK214
                             clear BK219
                             clear HB
                             have BK193 := n0_
                             have BK196 := n1_
                             have BK214 := n2_
                             have BK219 := n3_
                             have HB := n4_
                             clear n0_ n1_ n2_ n3_ n4_
                             (try clear hb)
                             (try clear hb2)
                             (try clear hk)
                             (try clear hi)
                             refine hK.out _ _ ⟨(blk_cell BK214.out 0).trans rfl, (blk_cell BK214.out 1).trans rfl, (blk_cell BK196.out 0).trans rfl, (blk_cell BK196.out 1).trans rfl, (blk_cell BK219.out 0).trans rfl, (blk_cell BK219.out 1).trans rfl⟩ (fun hHeld => ?_)
                             clear hK K
                             refine norm_ (a' := ?_) ?_ ?_
                             rotate_left
                             · show Act.put _ (some 158) _ = _
                               simp only [Act.put, List.setIfInBounds_toArray, List.set_cons_zero, List.set_cons_succ, i64_w, i32_w]
                               rfl
                             refine pure_ (i := 36) (N := some 159) (v := ?_) (a' := ?_) #[true, true, true, true, true, true, true, true, true, true, true, true, true, true, true, true, true, true, true, true, true, true, true, true, true, true, true, true, true, true, true, true, true, true, true, true, true, false, false, false, false, false, false, false, false, false, false, false] rfl rfl (any_of HT_.out (by kernel_rfl)) (fun _ _ _ h => h) (Or.inl ⟨by rfl, ?_⟩) ?_ ?_
                             rotate_left
                             · intro w'
                               go_simp
                               with_reducible rfl
                             rotate_left
                             · simp only [Act.put, List.setIfInBounds_toArray, List.set_cons_zero, List.set_cons_succ, i64_w, i32_w]
                               rfl
                             refine pure_ (i := 37) (N := some 160) (v := ?_) (a' := ?_) #[true, true, true, true, true, true, true, true, true, true, true, true, true, true, true, true, true, true, true, true, true, true, true, true, true, true, true, true, true, true, true, true, true, true, true, true, true, true, false, false, false, false, false, false, false, false, false, false] rfl rfl (any_of HT_.out (by kernel_rfl)) (fun _ _ _ h => h) (Or.inl ⟨by rfl, ?_⟩) ?_ ?_
                             rotate_left
                             · intro w'
                               go_simp
                               with_reducible rfl
                             rotate_left
                             · simp only [Act.put, List.setIfInBounds_toArray, List.set_cons_zero, List.set_cons_succ, i64_w, i32_w]
                               rfl
                             refine pure_ (i := 38) (N := some 161) (v := ?_) (a' := ?_) #[true, true, true, true, true, true, true, true, true, true, true, true, true, true, true, true, true, true, true, true, true, true, true, true, true, true, true, true, true, true, true, true, true, true, true, true, true, true, true, false, false, false, false, false, false, false, false, false] rfl rfl (any_of HT_.out (by kernel_rfl)) (fun _ _ _ h => h) (Or.inl ⟨by rfl, ?_⟩) ?_ ?_
                             rotate_left
                             · intro w'
                               go_simp
                               with_reducible rfl
                             rotate_left
                             · simp only [Act.put, List.setIfInBounds_toArray, List.set_cons_zero, List.set_cons_succ, i64_w, i32_w]
                               rfl
                             refine pure_ (i := 39) (N := some 162) (v := ?_) (a' := ?_) #[true, true, true, true, true, true, true, true, true, true, true, true, true, true, true, true, true, true, true, true, true, true, true, true, true, true, true, true, true, true, true, true, true, true, true, true, true, true, true, true, false, false, false, false, false, false, false, false] rfl rfl (any_of HT_.out (by kernel_rfl)) (fun _ _ _ h => h) (Or.inl ⟨by rfl, ?_⟩) ?_ ?_
                             rotate_left
                             · intro w'
                               go_simp
                               with_reducible rfl
                             rotate_left
                             · simp only [Act.put, List.setIfInBounds_toArray, List.set_cons_zero, List.set_cons_succ, i64_w, i32_w]
                               rfl
                             refine pure_ (i := 40) (N := some 163) (v := ?_) (a' := ?_) #[true, true, true, true, true, true, true, true, true, true, true, true, true, true, true, true, true, true, true, true, true, true, true, true, true, true, true, true, true, true, true, true, true, true, true, true, true, true, true, true, true, false, false, false, false, false, false, false] rfl rfl (any_of HT_.out (by kernel_rfl)) (fun _ _ _ h => h) (Or.inl ⟨by rfl, ?_⟩) ?_ ?_
                             rotate_left
                             · intro w'
                               go_simp
                               with_reducible rfl
                             rotate_left
                             · simp only [Act.put, List.setIfInBounds_toArray, List.set_cons_zero, List.set_cons_succ, i64_w, i32_w]
                               rfl
                             refine pure_ (i := 41) (N := some 164) (v := ?_) (a' := ?_) #[true, true, true, true, true, true, true, true, true, true, true, true, true, true, true, true, true, true, true, true, true, true, true, true, true, true, true, true, true, true, true, true, true, true, true, true, true, true, true, true, true, true, false, false, false, false, false, false] rfl rfl (any_of HT_.out (by kernel_rfl)) (fun _ _ _ h => h) (Or.inl ⟨by rfl, ?_⟩) ?_ ?_
                             rotate_left
                             · intro w'
                               go_simp
                               with_reducible rfl
                             rotate_left
                             · simp only [Act.put, List.setIfInBounds_toArray, List.set_cons_zero, List.set_cons_succ, i64_w, i32_w]
                               rfl
                             refine pure_ (i := 42) (N := some 165) (v := ?_) (a' := ?_) #[true, true, true, true, true, true, true, true, true, true, true, true, true, true, true, true, true, true, true, true, true, true, true, true, true, true, true, true, true, true, true, true, true, true, true, true, true, true, true, true, true, true, true, false, false, false, false, false] rfl rfl (any_of HT_.out (by kernel_rfl)) (fun _ _ _ h => h) (Or.inl ⟨by rfl, ?_⟩) ?_ ?_
                             rotate_left
                             · intro w'
                               go_simp
                               with_reducible rfl
                             rotate_left
                             · simp only [Act.put, List.setIfInBounds_toArray, List.set_cons_zero, List.set_cons_succ, i64_w, i32_w]
                               rfl
                             refine one_ (i := 43) (N := some 166) #[true, true, true, true, true, true, true, true, true, true, true, true, true, true, true, true, true, true, true, true, true, true, true, true, true, true, true, true, true, true, true, true, true, true, true, true, true, true, true, true, true, true, true, true, false, false, false, false] rfl rfl (one_of HT_.out (by kernel_rfl)) (by decide) (fun K hK => ?_)
                             refine goes_ Tryd.func14 (by kernel_rfl) rfl #[.int .i64 t189, .string ((⟨#[48]⟩ : ByteArray) ++ t211)] (by rfl) rfl rfl (by (try simp only [List.map_toArray, List.map_cons, List.map_nil]); first | done | rfl | (simp only [List.length_drop, List.length_take]; rfl)) ?_
                             with_reducible refine (impl_ParseWord.calls t189 ((⟨#[48]⟩ : ByteArray) ++ t211) t225 t226 _ ?tLtTab ?tLtErr A107.out).mono ?_
                             (case tLtTab => exact HLtTab.out.on (by repeat (first | (with_reducible first | exact HB.out | apply below_alloc | apply pw_below_drewN | apply below_drew1 | refine below_set ?_ GE193.out | refine below_set ?_ GE196.out | refine below_set ?_ GE214.out | refine below_set ?_ GE219.out) | exact HB.out))); (case tLtErr => exact HLtErr.out.on (by repeat (first | (with_reducible first | exact HB.out | apply below_alloc | apply pw_below_drewN | apply below_drew1 | refine below_set ?_ GE193.out | refine below_set ?_ GE196.out | refine below_set ?_ GE214.out | refine below_set ?_ GE219.out) | exact HB.out)))
                             rintro e w128 ⟨rfl, hb⟩
                             refine ⟨_, rfl, ?_⟩
                             have n0_ := Aside0.mk (blk_below (g := gb193) (o := .cells #[.int .i64 t191, .int .u64 t192] 46 (0, 0)) (by (with_reducible repeat (first | refine blk_drewN ?_ _ | refine blk_drew ?_ | refine blk_alloc ?_ _)); exact BK193.out) hb)
                             have n1_ := Aside0.mk (blk_below (g := gb196) (o := .cells #[.int .i64 t194, .int .u64 t195] 46 (0, 0)) (by (with_reducible repeat (first | refine blk_drewN ?_ _ | refine blk_drew ?_ | refine blk_alloc ?_ _)); exact BK196.out) hb)
                             have n2_ := Aside0.mk (blk_below (g := gb214) (o := .cells #[.bool true, .int .u64 t213] 37 (0, 0)) (by (with_reducible repeat (first | refine blk_drewN ?_ _ | refine blk_drew ?_ | refine blk_alloc ?_ _)); exact BK214.out) hb)
                             have n3_ := Aside0.mk (blk_below (g := gb219) (o := .cells #[.bool true, .int .u64 t218] 37 (0, 0)) (by (with_reducible repeat (first | refine blk_drewN ?_ _ | refine blk_drew ?_ | refine blk_alloc ?_ _)); exact BK219.out) hb)
                             have n4_ := Aside0.mk (below_step (by repeat (first | (with_reducible first | exact HB.out | apply below_alloc | apply pw_below_drewN | apply below_drew1 | refine below_set ?_ GE193.out | refine below_set ?_ GE196.out | refine below_set ?_ GE214.out | refine below_set ?_ GE219.out) | exact HB.out)) hb)
                             clear BK193
                             clear BK196
                             clear BK214
                             clear BK219
                             clear HB
                             have BK193 := n0_
                             have BK196 := n1_
                             have BK214 := n2_
                             have BK219 := n3_
                             have HB := n4_
                             clear n0_ n1_ n2_ n3_ n4_
                             (try clear hb)
                             (try clear hb2)
                             (try clear hk)
                             (try clear hi)
                             refine hK.out _ _ ⟨(blk_cell BK214.out 0).trans rfl, (blk_cell BK214.out 1).trans rfl, (blk_cell BK196.out 0).trans rfl, (blk_cell BK196.out 1).trans rfl, (blk_cell BK219.out 0).trans rfl, (blk_cell BK219.out 1).trans rfl⟩ (fun hHeld => ?_)
                             clear hK K
                             refine norm_ (a' := ?_) ?_ ?_
                             rotate_left
                             · show Act.put _ (some 166) _ = _
                               simp only [Act.put, List.setIfInBounds_toArray, List.set_cons_zero, List.set_cons_succ, i64_w, i32_w]
                               rfl
                             refine pure_ (i := 44) (N := some 167) (v := ?_) (a' := ?_) #[true, true, true, true, true, true, true, true, true, true, true, true, true, true, true, true, true, true, true, true, true, true, true, true, true, true, true, true, true, true, true, true, true, true, true, true, true, true, true, true, true, true, true, true, true, false, false, false] rfl rfl (any_of HT_.out (by kernel_rfl)) (fun _ _ _ h => h) (Or.inl ⟨by rfl, ?_⟩) ?_ ?_
                             rotate_left
                             · intro w'
                               go_simp
                               with_reducible rfl
                             rotate_left
                             · simp only [Act.put, List.setIfInBounds_toArray, List.set_cons_zero, List.set_cons_succ, i64_w, i32_w]
                               rfl
                             refine pure_ (i := 45) (N := some 168) (v := ?_) (a' := ?_) #[true, true, true, true, true, true, true, true, true, true, true, true, true, true, true, true, true, true, true, true, true, true, true, true, true, true, true, true, true, true, true, true, true, true, true, true, true, true, true, true, true, true, true, true, true, true, false, false] rfl rfl (any_of HT_.out (by kernel_rfl)) (fun _ _ _ h => h) (Or.inl ⟨by rfl, ?_⟩) ?_ ?_
                             rotate_left
                             · intro w'
                               go_simp
                               with_reducible rfl
                             rotate_left
                             · simp only [Act.put, List.setIfInBounds_toArray, List.set_cons_zero, List.set_cons_succ, i64_w, i32_w]
                               rfl
                             refine pure_ (i := 46) (N := some 169) (v := ?_) (a' := ?_) #[true, true, true, true, true, true, true, true, true, true, true, true, true, true, true, true, true, true, true, true, true, true, true, true, true, true, true, true, true, true, true, true, true, true, true, true, true, true, true, true, true, true, true, true, true, true, true, false] rfl rfl (any_of HT_.out (by kernel_rfl)) (fun _ _ _ h => h) (Or.inl ⟨by rfl, ?_⟩) ?_ ?_
                             rotate_left
                             · intro w'
                               go_simp
                               with_reducible rfl
                             rotate_left
                             · simp only [Act.put, List.setIfInBounds_toArray, List.set_cons_zero, List.set_cons_succ, i64_w, i32_w]
                               rfl
                             refine pure_ (i := 47) (N := some 2) (v := ?_) (a' := ?_) #[true, true, true, true, true, true, true, true, true, true, true, true, true, true, true, true, true, true, true, true, true, true, true, true, true, true, true, true, true, true, true, true, true, true, true, true, true, true, true, true, true, true, true, true, true, true, true, true] rfl rfl (any_of HT_.out (by kernel_rfl)) (fun _ _ _ h => h) (Or.inl ⟨by rfl, ?_⟩) ?_ ?_
                             rotate_left
                             · intro w'
                               go_simp
                               with_reducible rfl
                             rotate_left
                             · simp only [Act.put, List.setIfInBounds_toArray, List.set_cons_zero, List.set_cons_succ, i64_w, i32_w]
                               rfl
                             refine done_ (done_of HT_.out (by kernel_rfl)) ?_
                             try go_wp2
                             go_ret
                             exact ⟨by first | rfl | (simp [errW_none, errW_some] <;> rfl) | (simp [*, errW_none, errW_some] <;> rfl), by repeat (first | (with_reducible first | exact HB.out | apply below_alloc | apply pw_below_drewN | apply below_drew1 | refine below_set ?_ GE193.out | refine below_set ?_ GE196.out | refine below_set ?_ GE214.out | refine below_set ?_ GE219.out) | exact HB.out)⟩
                           · rw [if_neg c106] at H
                             exact absurd H (by simp)
                       · rw [if_neg c83] at H
                         exact absurd H (by simp)
                     · rw [if_neg c82] at H
                       have c82b0 : (true == t221) = false := by simpa using c82
                       (try (have c82b1 : decide (true = t221) = false := by simpa using c82))
                       (try (have c82b2 : (true == t221) = false := by simpa using c82))
                       (try (have c82b3 : ¬ (true = t221) := by simpa using c82))
                       clear c82
                       exact Bool.noConfusion ((Option.some.inj H).trans hr_.out)
                   · rw [if_neg c80] at H
                     have c80b0 : (t220.toList == t216.toList) = false := beq_eq_false_iff_ne.mpr c80
                     have c80b1 : (t220.toList != t216.toList) = true := bne_iff_ne.mpr c80
                     exact Bool.noConfusion ((Option.some.inj H).trans hr_.out)
                 · replace c78 := Bool.eq_false_iff.mpr c78
                   subst c78
                   have H1 : ((spec_ParseWord.f kj35 t188 t216).bind fun bt227 => (if (false == bt227.1) = true then (if t211.size + 1 ≤ 9223372036854775807 then ((impl_ParseWord.f t189 (t211 ++ (⟨#[32]⟩ : ByteArray))).bind fun bt229 => (if bt229.1 = true then (some false) else (if 1 + t211.size ≤ 9223372036854775807 then ((impl_ParseWord.f t189 ((⟨#[48]⟩ : ByteArray) ++ t211)).bind fun bt231 => (some (!bt231.1))) else (none)))) else (none)) else (some false))) = some r := by rw [if_neg (show ¬ (false = true) by decide)] at H; exact H
                   clear H
                   have H := H1
                   clear H1
                   replace H := Option.bind_eq_some_iff.mp H
                   obtain ⟨⟨t227, t228⟩, A1660, H⟩ := H
                   replace H : (if (false == t227) = true then (if t211.size + 1 ≤ 9223372036854775807 then ((impl_ParseWord.f t189 (t211 ++ (⟨#[32]⟩ : ByteArray))).bind fun bt229 => (if bt229.1 = true then (some false) else (if 1 + t211.size ≤ 9223372036854775807 then ((impl_ParseWord.f t189 ((⟨#[48]⟩ : ByteArray) ++ t211)).bind fun bt231 => (some (!bt231.1))) else (none)))) else (none)) else (some false)) = some r := H
                   have A166 := Aside0.mk A1660
                   clear A1660
                   by_cases c167 : (false == t227) = true
                   · rw [if_pos c167] at H
                     have c167b0 : (false == t227) = true := c167
                     (try (have c167b1 : decide (false = t227) = true := by simpa using c167))
                     (try (have c167b2 : (false == t227) = true := by simpa using c167))
                     clear c167
                     by_cases c168 : t211.size + 1 ≤ 9223372036854775807
                     · rw [if_pos c168] at H
                       have c168b0 := eq_true c168
                       have c168b1 : decide (t211.size + 1 ≤ 9223372036854775807) = true := decide_eq_true c168
                       try have c168b2 : (9223372036854775807 < t211.size + 1) = False := eq_false (Nat.not_lt.2 c168)
                       replace H := Option.bind_eq_some_iff.mp H
                       obtain ⟨⟨t229, t230⟩, A1690, H⟩ := H
                       replace H : (if t229 = true then (some false) else (if 1 + t211.size ≤ 9223372036854775807 then ((impl_ParseWord.f t189 ((⟨#[48]⟩ : ByteArray) ++ t211)).bind fun bt231 => (some (!bt231.1))) else (none))) = some r := H
                       have A169 := Aside0.mk A1690
                       clear A1690
                       by_cases c170 : t229 = true
                       · subst c170
                         have H1 : (some false) = some r := by rw [if_pos rfl] at H; exact H
                         clear H
                         have H := H1
                         clear H1
                         exact Bool.noConfusion ((Option.some.inj H).trans hr_.out)
                       · replace c170 := Bool.eq_false_iff.mpr c170
                         subst c170
                         have H1 : (if 1 + t211.size ≤ 9223372036854775807 then ((impl_ParseWord.f t189 ((⟨#[48]⟩ : ByteArray) ++ t211)).bind fun bt231 => (some (!bt231.1))) else (none)) = some r := by rw [if_neg (show ¬ (false = true) by decide)] at H; exact H
                         clear H
                         have H := H1
                         clear H1
                         by_cases c190 : 1 + t211.size ≤ 9223372036854775807
                         · rw [if_pos c190] at H
                           have c190b0 := eq_true c190
                           have c190b1 : decide (1 + t211.size ≤ 9223372036854775807) = true := decide_eq_true c190
                           try have c190b2 : (9223372036854775807 < 1 + t211.size) = False := eq_false (Nat.not_lt.2 c190)
                           replace H := Option.bind_eq_some_iff.mp H
                           obtain ⟨⟨t231, t232⟩, A1910, H⟩ := H
                           replace H : (some (!t231)) = some r := H
                           have A191 := Aside0.mk A1910
                           clear A1910
                           obtain rfl := Option.some.inj H
                           try go_wp2_with (first | ((with_reducible refine gate_callee (f := 18) rfl ?_); refine goesL_ (some 100) rfl rfl Tryd.func18 (by kernel_rfl) rfl #[.slice A0 l0.length c0, .int .i64 20, .int .i64 64] rfl (by (try simp only [List.map_toArray, List.map_cons, List.map_nil]); first | done | rfl | (simp only [List.length_drop, List.length_take]; rfl)) ?_; (with_reducible refine (laws_lwWord.calls kj35 _ _ l0 20 64 t207 _ ?side1 ?side2 A66.out).mono ?_); (case side1 => repeat (first | exact (Kd.C_below HR0.out HB.out) | (with_reducible refine Kd.C_alloc ?_ _) | (with_reducible refine Kd.C_drewN ?_ _) | (with_reducible refine Kd.C_drew ?_))); (case side2 => exact HC0.out); rintro e w' ⟨rfl, ⟨nd, rfl⟩⟩; refine ⟨_, rfl, ?_⟩; (try (rw [drewN_self wc]; generalize hq_ : World.drewN wc _ = wc; have n0_ : Aside0 (wc.heap[gb193]? = some (.cells #[.int .i64 t191, .int .u64 t192] 46 (0, 0))) := ⟨by rw [← hq_]; exact (by (with_reducible repeat (first | refine blk_drewN ?_ _ | refine blk_drew ?_ | refine blk_alloc ?_ _)); exact BK193.out)⟩; have n1_ : Aside0 (wc.heap[gb196]? = some (.cells #[.int .i64 t194, .int .u64 t195] 46 (0, 0))) := ⟨by rw [← hq_]; exact (by (with_reducible repeat (first | refine blk_drewN ?_ _ | refine blk_drew ?_ | refine blk_alloc ?_ _)); exact BK196.out)⟩; have n2_ : Aside0 (Below w.heap.size w wc) := ⟨by rw [← hq_]; exact (by repeat (first | (with_reducible first | exact HB.out | apply below_alloc | apply pw_below_drewN | apply below_drew1 | refine below_set ?_ GE193.out | refine below_set ?_ GE196.out) | exact HB.out))⟩; clear BK193 BK196 HB hq_; have BK193 := n0_; have BK196 := n1_; have HB := n2_; clear n0_ n1_ n2_))) | ((with_reducible refine gate_callee (f := 21) rfl ?_); refine goesL_ (some 103) rfl rfl Tryd.func21 (by kernel_rfl) rfl #[.int .i64 t188, .int .u64 t207] rfl (by (try simp only [List.map_toArray, List.map_cons, List.map_nil]); first | done | rfl | (simp only [List.length_drop, List.length_take]; rfl)) ?_; (with_reducible refine (impl_Cut.calls t188 t207 t208 _ A67.out).mono ?_); rintro e w' ⟨rfl, ⟨nd, rfl⟩⟩; refine ⟨_, rfl, ?_⟩; (try (rw [drewN_self wc]; generalize hq_ : World.drewN wc _ = wc; have n0_ : Aside0 (wc.heap[gb193]? = some (.cells #[.int .i64 t191, .int .u64 t192] 46 (0, 0))) := ⟨by rw [← hq_]; exact (by (with_reducible repeat (first | refine blk_drewN ?_ _ | refine blk_drew ?_ | refine blk_alloc ?_ _)); exact BK193.out)⟩; have n1_ : Aside0 (wc.heap[gb196]? = some (.cells #[.int .i64 t194, .int .u64 t195] 46 (0, 0))) := ⟨by rw [← hq_]; exact (by (with_reducible repeat (first | refine blk_drewN ?_ _ | refine blk_drew ?_ | refine blk_alloc ?_ _)); exact BK196.out)⟩; have n2_ : Aside0 (Below w.heap.size w wc) := ⟨by rw [← hq_]; exact (by repeat (first | (with_reducible first | exact HB.out | apply below_alloc | apply pw_below_drewN | apply below_drew1 | refine below_set ?_ GE193.out | refine below_set ?_ GE196.out) | exact HB.out))⟩; clear BK193 BK196 HB hq_; have BK193 := n0_; have BK196 := n1_; have HB := n2_; clear n0_ n1_ n2_))) | ((with_reducible refine gate_callee (f := 21) rfl ?_); refine goesL_ (some 107) rfl rfl Tryd.func21 (by kernel_rfl) rfl #[.int .i64 t189, .int .u64 t207] rfl (by (try simp only [List.map_toArray, List.map_cons, List.map_nil]); first | done | rfl | (simp only [List.length_drop, List.length_take]; rfl)) ?_; (with_reducible refine (impl_Cut.calls t189 t207 t209 _ A68.out).mono ?_); rintro e w' ⟨rfl, ⟨nd, rfl⟩⟩; refine ⟨_, rfl, ?_⟩; (try (rw [drewN_self wc]; generalize hq_ : World.drewN wc _ = wc; have n0_ : Aside0 (wc.heap[gb193]? = some (.cells #[.int .i64 t191, .int .u64 t192] 46 (0, 0))) := ⟨by rw [← hq_]; exact (by (with_reducible repeat (first | refine blk_drewN ?_ _ | refine blk_drew ?_ | refine blk_alloc ?_ _)); exact BK193.out)⟩; have n1_ : Aside0 (wc.heap[gb196]? = some (.cells #[.int .i64 t194, .int .u64 t195] 46 (0, 0))) := ⟨by rw [← hq_]; exact (by (with_reducible repeat (first | refine blk_drewN ?_ _ | refine blk_drew ?_ | refine blk_alloc ?_ _)); exact BK196.out)⟩; have n2_ : Aside0 (Below w.heap.size w wc) := ⟨by rw [← hq_]; exact (by repeat (first | (with_reducible first | exact HB.out | apply below_alloc | apply pw_below_drewN | apply below_drew1 | refine below_set ?_ GE193.out | refine below_set ?_ GE196.out) | exact HB.out))⟩; clear BK193 BK196 HB hq_; have BK193 := n0_; have BK196 := n1_; have HB := n2_; clear n0_ n1_ n2_))) | ((with_reducible refine gate_callee (f := 21) rfl ?_); refine goesL_ (some 108) rfl rfl Tryd.func21 (by kernel_rfl) rfl #[.int .i64 t188, .int .u64 t209] rfl (by (try simp only [List.map_toArray, List.map_cons, List.map_nil]); first | done | rfl | (simp only [List.length_drop, List.length_take]; rfl)) ?_; (with_reducible refine (impl_Cut.calls t188 t209 t210 _ A69.out).mono ?_); rintro e w' ⟨rfl, ⟨nd, rfl⟩⟩; refine ⟨_, rfl, ?_⟩; (try (rw [drewN_self wc]; generalize hq_ : World.drewN wc _ = wc; have n0_ : Aside0 (wc.heap[gb193]? = some (.cells #[.int .i64 t191, .int .u64 t192] 46 (0, 0))) := ⟨by rw [← hq_]; exact (by (with_reducible repeat (first | refine blk_drewN ?_ _ | refine blk_drew ?_ | refine blk_alloc ?_ _)); exact BK193.out)⟩; have n1_ : Aside0 (wc.heap[gb196]? = some (.cells #[.int .i64 t194, .int .u64 t195] 46 (0, 0))) := ⟨by rw [← hq_]; exact (by (with_reducible repeat (first | refine blk_drewN ?_ _ | refine blk_drew ?_ | refine blk_alloc ?_ _)); exact BK196.out)⟩; have n2_ : Aside0 (Below w.heap.size w wc) := ⟨by rw [← hq_]; exact (by repeat (first | (with_reducible first | exact HB.out | apply below_alloc | apply pw_below_drewN | apply below_drew1 | refine below_set ?_ GE193.out | refine below_set ?_ GE196.out) | exact HB.out))⟩; clear BK193 BK196 HB hq_; have BK193 := n0_; have BK196 := n1_; have HB := n2_; clear n0_ n1_ n2_)); have hnb192 := NB196_193.out; have hnc192 := NB193_196.out; have hcz193_0 : wc.cell? ⟨gb196, 0, none⟩ = some (.int .i64 t194) := (blk_cell BK196.out 0).trans rfl; have hcz193_1 : wc.cell? ⟨gb196, 1, none⟩ = some (.int .u64 t195) := (blk_cell BK196.out 1).trans rfl; have hfz193_0 := blk_frozen BK196.out 0; have hfz193_1 := blk_frozen BK196.out 1) | ((with_reducible refine gate_callee (f := 22) rfl ?_); refine goesL_ (some 113) rfl rfl Tryd.func22 (by kernel_rfl) rfl #[.int .i64 t189, .int .u64 t195] rfl (by (try simp only [List.map_toArray, List.map_cons, List.map_nil]); first | done | rfl | (simp only [List.length_drop, List.length_take]; rfl)) ?_; (with_reducible refine (impl_FormatWord.calls t189 t195 t211 _ ?tLtTab A71.out).mono ?_); (case tLtTab => exact HLtTab.out.on (by repeat (first | (with_reducible first | exact HB.out | apply below_alloc | apply pw_below_drewN | apply below_drew1 | refine below_set ?_ GE193.out | refine below_set ?_ GE196.out) | exact HB.out))); rintro e w194 ⟨rfl, hb⟩; refine ⟨_, rfl, ?_⟩; have n0_ := Aside0.mk (blk_below (g := gb193) (o := .cells #[.int .i64 t191, .int .u64 t192] 46 (0, 0)) (by (with_reducible repeat (first | refine blk_drewN ?_ _ | refine blk_drew ?_ | refine blk_alloc ?_ _)); exact BK193.out) hb); have n1_ := Aside0.mk (blk_below (g := gb196) (o := .cells #[.int .i64 t194, .int .u64 t195] 46 (0, 0)) (by (with_reducible repeat (first | refine blk_drewN ?_ _ | refine blk_drew ?_ | refine blk_alloc ?_ _)); exact BK196.out) hb); have n2_ := Aside0.mk (below_step (by repeat (first | (with_reducible first | exact HB.out | apply below_alloc | apply pw_below_drewN | apply below_drew1 | refine below_set ?_ GE193.out | refine below_set ?_ GE196.out) | exact HB.out)) hb); clear BK193; clear BK196; clear HB; have BK193 := n0_; have BK196 := n1_; have HB := n2_; clear n0_ n1_ n2_; (try clear hb); (try clear hb2); (try clear hk); (try clear hi)) | ((with_reducible refine gate_callee (f := 14) rfl ?_); refine goesL_ (some 116) rfl rfl Tryd.func14 (by kernel_rfl) rfl #[.int .i64 t189, .string t211] rfl (by (try simp only [List.map_toArray, List.map_cons, List.map_nil]); first | done | rfl | (simp only [List.length_drop, List.length_take]; rfl)) ?_; (with_reducible refine (impl_ParseWord.calls t189 t211 true t213 _ ?tLtTab ?tLtErr A72.out).mono ?_); (case tLtTab => exact HLtTab.out.on (by repeat (first | (with_reducible first | exact HB.out | apply below_alloc | apply pw_below_drewN | apply below_drew1 | refine below_set ?_ GE193.out | refine below_set ?_ GE196.out) | exact HB.out))); (case tLtErr => exact HLtErr.out.on (by repeat (first | (with_reducible first | exact HB.out | apply below_alloc | apply pw_below_drewN | apply below_drew1 | refine below_set ?_ GE193.out | refine below_set ?_ GE196.out) | exact HB.out))); rintro e w195 ⟨rfl, hb⟩; refine ⟨_, rfl, ?_⟩; have n0_ := Aside0.mk (blk_below (g := gb193) (o := .cells #[.int .i64 t191, .int .u64 t192] 46 (0, 0)) (by (with_reducible repeat (first | refine blk_drewN ?_ _ | refine blk_drew ?_ | refine blk_alloc ?_ _)); exact BK193.out) hb); have n1_ := Aside0.mk (blk_below (g := gb196) (o := .cells #[.int .i64 t194, .int .u64 t195] 46 (0, 0)) (by (with_reducible repeat (first | refine blk_drewN ?_ _ | refine blk_drew ?_ | refine blk_alloc ?_ _)); exact BK196.out) hb); have n2_ := Aside0.mk (below_step (by repeat (first | (with_reducible first | exact HB.out | apply below_alloc | apply pw_below_drewN | apply below_drew1 | refine below_set ?_ GE193.out | refine below_set ?_ GE196.out) | exact HB.out)) hb); clear BK193; clear BK196; clear HB; have BK193 := n0_; have BK196 := n1_; have HB := n2_; clear n0_ n1_ n2_; (try clear hb); (try clear hb2); (try clear hk); (try clear hi)) | ((with_reducible refine gate_dst (N := 12) rfl ?_); refine box_event ?hg (N := 12) ?hd (cs := #[.bool false, .int .u64 0]) (t := 37) ?hr ?_; (case hd => rfl); (case hg => rfl); (case hr => first | (go_simp; done) | (go_simp; rfl)); intro gb214 hg w196 hbox hb; have n0_ := Aside0.mk (blk_below (g := gb193) (o := .cells #[.int .i64 t191, .int .u64 t192] 46 (0, 0)) (by (with_reducible repeat (first | refine blk_drewN ?_ _ | refine blk_drew ?_ | refine blk_alloc ?_ _)); exact BK193.out) hb); have n1_ := Aside0.mk (blk_below (g := gb196) (o := .cells #[.int .i64 t194, .int .u64 t195] 46 (0, 0)) (by (with_reducible repeat (first | refine blk_drewN ?_ _ | refine blk_drew ?_ | refine blk_alloc ?_ _)); exact BK196.out) hb); have n2_ := Aside0.mk (below_step (by repeat (first | (with_reducible first | exact HB.out | apply below_alloc | apply pw_below_drewN | apply below_drew1 | refine below_set ?_ GE193.out | refine below_set ?_ GE196.out) | exact HB.out)) hb); have n3_ := Aside0.mk (hbox); have n4_ := Aside0.mk ((by rw [hg]; exact (below_size (by repeat (first | (with_reducible first | exact HB.out | apply below_alloc | apply pw_below_drewN | apply below_drew1 | refine below_set ?_ GE193.out | refine below_set ?_ GE196.out) | exact HB.out))) : w.heap.size ≤ gb214)); have n5_ := Aside0.mk ((by rw [hg]; exact (below_size (by repeat (first | (with_reducible first | exact HB.out | apply below_alloc | apply pw_below_drewN | apply below_drew1 | refine below_set ?_ GE193.out | refine below_set ?_ GE196.out) | exact HB.out))) : w.heap.size ≤ gb214)); have n6_ := Aside0.mk ((by rw [hg]; exact Nat.ne_of_lt (blk_lt (g := gb193) (o := .cells #[.int .i64 t191, .int .u64 t192] 46 (0, 0)) (by (with_reducible repeat (first | refine blk_drewN ?_ _ | refine blk_drew ?_ | refine blk_alloc ?_ _)); exact BK193.out)) : gb193 ≠ gb214)); have n7_ := Aside0.mk ((by rw [hg]; exact Nat.ne_of_gt (blk_lt (g := gb193) (o := .cells #[.int .i64 t191, .int .u64 t192] 46 (0, 0)) (by (with_reducible repeat (first | refine blk_drewN ?_ _ | refine blk_drew ?_ | refine blk_alloc ?_ _)); exact BK193.out)) : gb214 ≠ gb193)); have n8_ := Aside0.mk ((by rw [hg]; exact Nat.ne_of_lt (blk_lt (g := gb196) (o := .cells #[.int .i64 t194, .int .u64 t195] 46 (0, 0)) (by (with_reducible repeat (first | refine blk_drewN ?_ _ | refine blk_drew ?_ | refine blk_alloc ?_ _)); exact BK196.out)) : gb196 ≠ gb214)); have n9_ := Aside0.mk ((by rw [hg]; exact Nat.ne_of_gt (blk_lt (g := gb196) (o := .cells #[.int .i64 t194, .int .u64 t195] 46 (0, 0)) (by (with_reducible repeat (first | refine blk_drewN ?_ _ | refine blk_drew ?_ | refine blk_alloc ?_ _)); exact BK196.out)) : gb214 ≠ gb196)); clear BK193; clear BK196; clear HB; have BK193 := n0_; have BK196 := n1_; have HB := n2_; have BK214 := n3_; have GW214 := n4_; have GE214 := n5_; have NB193_214 := n6_; have NB214_193 := n7_; have NB196_214 := n8_; have NB214_196 := n9_; clear n0_ n1_ n2_ n3_ n4_ n5_ n6_ n7_ n8_ n9_; clear hb hbox hg; have hnb197 := NB214_193.out; have hnc197 := NB193_214.out; have hnb198 := NB214_196.out; have hnc198 := NB196_214.out; have hcz199_0 : w196.cell? ⟨gb214, 0, none⟩ = some (.bool false) := (blk_cell BK214.out 0).trans rfl; have hcz199_1 : w196.cell? ⟨gb214, 1, none⟩ = some (.int .u64 0) := (blk_cell BK214.out 1).trans rfl; have hfz199_0 := blk_frozen BK214.out 0; have hfz199_1 := blk_frozen BK214.out 1) | ((with_reducible refine gate_callee (f := 18) rfl ?_); refine goesL_ (some 118) rfl rfl Tryd.func18 (by kernel_rfl) rfl #[.slice A0 l0.length c0, .int .i64 30, .int .i64 64] rfl (by (try simp only [List.map_toArray, List.map_cons, List.map_nil]); first | done | rfl | (simp only [List.length_drop, List.length_take]; rfl)) ?_; (with_reducible refine (laws_lwWord.calls kj35 _ _ l0 30 64 t215 _ ?side1 ?side2 A73.out).mono ?_); (case side1 => exact Kd.C_below HR0.out (by repeat (first | (with_reducible first | exact HB.out | apply below_alloc | apply pw_below_drewN | apply below_drew1 | refine below_set ?_ GE193.out | refine below_set ?_ GE196.out | refine below_set ?_ GE214.out) | exact HB.out))); (case side2 => exact HC0.out); rintro e w' ⟨rfl, ⟨nd, rfl⟩⟩; refine ⟨_, rfl, ?_⟩) | ((with_reducible refine gate_callee (f := 23) rfl ?_); refine goesL_ (some 119) rfl rfl Tryd.func23 (by kernel_rfl) rfl #[.int .i64 64, .int .u64 t215] rfl (by (try simp only [List.map_toArray, List.map_cons, List.map_nil]); first | done | rfl | (simp only [List.length_drop, List.length_take]; rfl)) ?_; (with_reducible refine (spec_FormatWord.calls kj35 64 t215 t216 _ A74.out).mono ?_); rintro e w200 ⟨rfl, hb⟩; refine ⟨_, rfl, ?_⟩; have n0_ := Aside0.mk (blk_below (g := gb193) (o := .cells #[.int .i64 t191, .int .u64 t192] 46 (0, 0)) (by (with_reducible repeat (first | refine blk_drewN ?_ _ | refine blk_drew ?_ | refine blk_alloc ?_ _)); refine blk_far ?_ NB193_214.out _; (with_reducible repeat (first | refine blk_drewN ?_ _ | refine blk_drew ?_ | refine blk_alloc ?_ _)); refine blk_far ?_ NB193_214.out _; (with_reducible repeat (first | refine blk_drewN ?_ _ | refine blk_drew ?_ | refine blk_alloc ?_ _)); exact BK193.out) hb); have n1_ := Aside0.mk (blk_below (g := gb196) (o := .cells #[.int .i64 t194, .int .u64 t195] 46 (0, 0)) (by (with_reducible repeat (first | refine blk_drewN ?_ _ | refine blk_drew ?_ | refine blk_alloc ?_ _)); refine blk_far ?_ NB196_214.out _; (with_reducible repeat (first | refine blk_drewN ?_ _ | refine blk_drew ?_ | refine blk_alloc ?_ _)); refine blk_far ?_ NB196_214.out _; (with_reducible repeat (first | refine blk_drewN ?_ _ | refine blk_drew ?_ | refine blk_alloc ?_ _)); exact BK196.out) hb); have n2_ := Aside0.mk (blk_below (g := gb214) (o := .cells #[.bool true, .int .u64 t213] 37 (0, 0)) (by (with_reducible repeat (first | refine blk_drewN ?_ _ | refine blk_drew ?_ | refine blk_alloc ?_ _)); refine blk_put (cs := #[.bool true, .int .u64 0]) ?_ 1 _ rfl; (with_reducible repeat (first | refine blk_drewN ?_ _ | refine blk_drew ?_ | refine blk_alloc ?_ _)); refine blk_put (cs := #[.bool false, .int .u64 0]) ?_ 0 _ rfl; (with_reducible repeat (first | refine blk_drewN ?_ _ | refine blk_drew ?_ | refine blk_alloc ?_ _)); exact BK214.out) hb); have n3_ := Aside0.mk (below_step (by repeat (first | (with_reducible first | exact HB.out | apply below_alloc | apply pw_below_drewN | apply below_drew1 | refine below_set ?_ GE193.out | refine below_set ?_ GE196.out | refine below_set ?_ GE214.out) | exact HB.out)) hb); clear BK193; clear BK196; clear BK214; clear HB; have BK193 := n0_; have BK196 := n1_; have BK214 := n2_; have HB := n3_; clear n0_ n1_ n2_ n3_; (try clear hb); (try clear hb2); (try clear hk); (try clear hi)) | ((with_reducible refine gate_callee (f := 14) rfl ?_); refine goesL_ (some 122) rfl rfl Tryd.func14 (by kernel_rfl) rfl #[.int .i64 t188, .string t216] rfl (by (try simp only [List.map_toArray, List.map_cons, List.map_nil]); first | done | rfl | (simp only [List.length_drop, List.length_take]; rfl)) ?_; (with_reducible refine (impl_ParseWord.calls t188 t216 false t218 _ ?tLtTab ?tLtErr A75.out).mono ?_); (case tLtTab => exact HLtTab.out.on (by repeat (first | (with_reducible first | exact HB.out | apply below_alloc | apply pw_below_drewN | apply below_drew1 | refine below_set ?_ GE193.out | refine below_set ?_ GE196.out | refine below_set ?_ GE214.out) | exact HB.out))); (case tLtErr => exact HLtErr.out.on (by repeat (first | (with_reducible first | exact HB.out | apply below_alloc | apply pw_below_drewN | apply below_drew1 | refine below_set ?_ GE193.out | refine below_set ?_ GE196.out | refine below_set ?_ GE214.out) | exact HB.out))); rintro e w201 ⟨rfl, hb⟩; refine ⟨_, rfl, ?_⟩; have n0_ := Aside0.mk (blk_below (g := gb193) (o := .cells #[.int .i64 t191, .int .u64 t192] 46 (0, 0)) (by (with_reducible repeat (first | refine blk_drewN ?_ _ | refine blk_drew ?_ | refine blk_alloc ?_ _)); exact BK193.out) hb); have n1_ := Aside0.mk (blk_below (g := gb196) (o := .cells #[.int .i64 t194, .int .u64 t195] 46 (0, 0)) (by (with_reducible repeat (first | refine blk_drewN ?_ _ | refine blk_drew ?_ | refine blk_alloc ?_ _)); exact BK196.out) hb); have n2_ := Aside0.mk (blk_below (g := gb214) (o := .cells #[.bool true, .int .u64 t213] 37 (0, 0)) (by (with_reducible repeat (first | refine blk_drewN ?_ _ | refine blk_drew ?_ | refine blk_alloc ?_ _)); exact BK214.out) hb); have n3_ := Aside0.mk (below_step (by repeat (first | (with_reducible first | exact HB.out | apply below_alloc | apply pw_below_drewN | apply below_drew1 | refine below_set ?_ GE193.out | refine below_set ?_ GE196.out | refine below_set ?_ GE214.out) | exact HB.out)) hb); clear BK193; clear BK196; clear BK214; clear HB; have BK193 := n0_; have BK196 := n1_; have BK214 := n2_; have HB := n3_; clear n0_ n1_ n2_ n3_; (try clear hb); (try clear hb2); (try clear hk); (try clear hi)) | ((with_reducible refine gate_dst (N := 14) rfl ?_); refine box_event ?hg (N := 14) ?hd (cs := #[.bool false, .int .u64 0]) (t := 37) ?hr ?_; (case hd => rfl); (case hg => rfl); (case hr => first | (go_simp; done) | (go_simp; rfl)); intro gb219 hg w202 hbox hb; have n0_ := Aside0.mk (blk_below (g := gb193) (o := .cells #[.int .i64 t191, .int .u64 t192] 46 (0, 0)) (by (with_reducible repeat (first | refine blk_drewN ?_ _ | refine blk_drew ?_ | refine blk_alloc ?_ _)); exact BK193.out) hb); have n1_ := Aside0.mk (blk_below (g := gb196) (o := .cells #[.int .i64 t194, .int .u64 t195] 46 (0, 0)) (by (with_reducible repeat (first | refine blk_drewN ?_ _ | refine blk_drew ?_ | refine blk_alloc ?_ _)); exact BK196.out) hb); have n2_ := Aside0.mk (blk_below (g := gb214) (o := .cells #[.bool true, .int .u64 t213] 37 (0, 0)) (by (with_reducible repeat (first | refine blk_drewN ?_ _ | refine blk_drew ?_ | refine blk_alloc ?_ _)); exact BK214.out) hb); have n3_ := Aside0.mk (below_step (by repeat (first | (with_reducible first | exact HB.out | apply below_alloc | apply pw_below_drewN | apply below_drew1 | refine below_set ?_ GE193.out | refine below_set ?_ GE196.out | refine below_set ?_ GE214.out) | exact HB.out)) hb); have n4_ := Aside0.mk (hbox); have n5_ := Aside0.mk ((by rw [hg]; exact (below_size (by repeat (first | (with_reducible first | exact HB.out | apply below_alloc | apply pw_below_drewN | apply below_drew1 | refine below_set ?_ GE193.out | refine below_set ?_ GE196.out | refine below_set ?_ GE214.out) | exact HB.out))) : w.heap.size ≤ gb219)); have n6_ := Aside0.mk ((by rw [hg]; exact (below_size (by repeat (first | (with_reducible first | exact HB.out | apply below_alloc | apply pw_below_drewN | apply below_drew1 | refine below_set ?_ GE193.out | refine below_set ?_ GE196.out | refine below_set ?_ GE214.out) | exact HB.out))) : w.heap.size ≤ gb219)); have n7_ := Aside0.mk ((by rw [hg]; exact Nat.ne_of_lt (blk_lt (g := gb193) (o := .cells #[.int .i64 t191, .int .u64 t192] 46 (0, 0)) (by (with_reducible repeat (first | refine blk_drewN ?_ _ | refine blk_drew ?_ | refine blk_alloc ?_ _)); exact BK193.out)) : gb193 ≠ gb219)); have n8_ := Aside0.mk ((by rw [hg]; exact Nat.ne_of_gt (blk_lt (g := gb193) (o := .cells #[.int .i64 t191, .int .u64 t192] 46 (0, 0)) (by (with_reducible repeat (first | refine blk_drewN ?_ _ | refine blk_drew ?_ | refine blk_alloc ?_ _)); exact BK193.out)) : gb219 ≠ gb193)); have n9_ := Aside0.mk ((by rw [hg]; exact Nat.ne_of_lt (blk_lt (g := gb196) (o := .cells #[.int .i64 t194, .int .u64 t195] 46 (0, 0)) (by (with_reducible repeat (first | refine blk_drewN ?_ _ | refine blk_drew ?_ | refine blk_alloc ?_ _)); exact BK196.out)) : gb196 ≠ gb219)); have n10_ := Aside0.mk ((by rw [hg]; exact Nat.ne_of_gt (blk_lt (g := gb196) (o := .cells #[.int .i64 t194, .int .u64 t195] 46 (0, 0)) (by (with_reducible repeat (first | refine blk_drewN ?_ _ | refine blk_drew ?_ | refine blk_alloc ?_ _)); exact BK196.out)) : gb219 ≠ gb196)); have n11_ := Aside0.mk ((by rw [hg]; exact Nat.ne_of_lt (blk_lt (g := gb214) (o := .cells #[.bool true, .int .u64 t213] 37 (0, 0)) (by (with_reducible repeat (first | refine blk_drewN ?_ _ | refine blk_drew ?_ | refine blk_alloc ?_ _)); exact BK214.out)) : gb214 ≠ gb219)); have n12_ := Aside0.mk ((by rw [hg]; exact Nat.ne_of_gt (blk_lt (g := gb214) (o := .cells #[.bool true, .int .u64 t213] 37 (0, 0)) (by (with_reducible repeat (first | refine blk_drewN ?_ _ | refine blk_drew ?_ | refine blk_alloc ?_ _)); exact BK214.out)) : gb219 ≠ gb214)); clear BK193; clear BK196; clear BK214; clear HB; have BK193 := n0_; have BK196 := n1_; have BK214 := n2_; have HB := n3_; have BK219 := n4_; have GW219 := n5_; have GE219 := n6_; have NB193_219 := n7_; have NB219_193 := n8_; have NB196_219 := n9_; have NB219_196 := n10_; have NB214_219 := n11_; have NB219_214 := n12_; clear n0_ n1_ n2_ n3_ n4_ n5_ n6_ n7_ n8_ n9_ n10_ n11_ n12_; clear hb hbox hg; have hnb203 := NB219_193.out; have hnc203 := NB193_219.out; have hnb204 := NB219_196.out; have hnc204 := NB196_219.out; have hnb205 := NB219_214.out; have hnc205 := NB214_219.out; have hcz206_0 : w202.cell? ⟨gb219, 0, none⟩ = some (.bool false) := (blk_cell BK219.out 0).trans rfl; have hcz206_1 : w202.cell? ⟨gb219, 1, none⟩ = some (.int .u64 0) := (blk_cell BK219.out 1).trans rfl; have hfz206_0 := blk_frozen BK219.out 0; have hfz206_1 := blk_frozen BK219.out 1))
                           have n0_ : Aside0 (((w202.setCell ⟨gb219, 0, none⟩ (.bool false)).setCell ⟨gb219, 1, none⟩ (.int .u64 t218)).heap[gb193]? = some (.cells #[.int .i64 t191, .int .u64 t192] 46 (0, 0))) := ⟨by (with_reducible repeat (first | refine blk_drewN ?_ _ | refine blk_drew ?_ | refine blk_alloc ?_ _)); refine blk_far ?_ NB193_219.out _; (with_reducible repeat (first | refine blk_drewN ?_ _ | refine blk_drew ?_ | refine blk_alloc ?_ _)); refine blk_far ?_ NB193_219.out _; (with_reducible repeat (first | refine blk_drewN ?_ _ | refine blk_drew ?_ | refine blk_alloc ?_ _)); exact BK193.out⟩
                           have n1_ : Aside0 (((w202.setCell ⟨gb219, 0, none⟩ (.bool false)).setCell ⟨gb219, 1, none⟩ (.int .u64 t218)).heap[gb196]? = some (.cells #[.int .i64 t194, .int .u64 t195] 46 (0, 0))) := ⟨by (with_reducible repeat (first | refine blk_drewN ?_ _ | refine blk_drew ?_ | refine blk_alloc ?_ _)); refine blk_far ?_ NB196_219.out _; (with_reducible repeat (first | refine blk_drewN ?_ _ | refine blk_drew ?_ | refine blk_alloc ?_ _)); refine blk_far ?_ NB196_219.out _; (with_reducible repeat (first | refine blk_drewN ?_ _ | refine blk_drew ?_ | refine blk_alloc ?_ _)); exact BK196.out⟩
                           have n2_ : Aside0 (((w202.setCell ⟨gb219, 0, none⟩ (.bool false)).setCell ⟨gb219, 1, none⟩ (.int .u64 t218)).heap[gb214]? = some (.cells #[.bool true, .int .u64 t213] 37 (0, 0))) := ⟨by (with_reducible repeat (first | refine blk_drewN ?_ _ | refine blk_drew ?_ | refine blk_alloc ?_ _)); refine blk_far ?_ NB214_219.out _; (with_reducible repeat (first | refine blk_drewN ?_ _ | refine blk_drew ?_ | refine blk_alloc ?_ _)); refine blk_far ?_ NB214_219.out _; (with_reducible repeat (first | refine blk_drewN ?_ _ | refine blk_drew ?_ | refine blk_alloc ?_ _)); exact BK214.out⟩
                           have n3_ : Aside0 (((w202.setCell ⟨gb219, 0, none⟩ (.bool false)).setCell ⟨gb219, 1, none⟩ (.int .u64 t218)).heap[gb219]? = some (.cells #[.bool false, .int .u64 t218] 37 (0, 0))) := ⟨by (with_reducible repeat (first | refine blk_drewN ?_ _ | refine blk_drew ?_ | refine blk_alloc ?_ _)); refine blk_put (cs := #[.bool false, .int .u64 0]) ?_ 1 _ rfl; (with_reducible repeat (first | refine blk_drewN ?_ _ | refine blk_drew ?_ | refine blk_alloc ?_ _)); refine blk_put (cs := #[.bool false, .int .u64 0]) ?_ 0 _ rfl; (with_reducible repeat (first | refine blk_drewN ?_ _ | refine blk_drew ?_ | refine blk_alloc ?_ _)); exact BK219.out⟩
                           have n4_ : Aside0 (Below w.heap.size w ((w202.setCell ⟨gb219, 0, none⟩ (.bool false)).setCell ⟨gb219, 1, none⟩ (.int .u64 t218))) := ⟨by repeat (first | (with_reducible first | exact HB.out | apply below_alloc | apply pw_below_drewN | apply below_drew1 | refine below_set ?_ GE193.out | refine below_set ?_ GE196.out | refine below_set ?_ GE214.out | refine below_set ?_ GE219.out) | exact HB.out)⟩
                           (try clear BK193)
                           (try clear BK196)
                           (try clear BK214)
                           (try clear BK219)
                           (try clear HB)
                           generalize ((w202.setCell ⟨gb219, 0, none⟩ (.bool false)).setCell ⟨gb219, 1, none⟩ (.int .u64 t218)) = w207 at n0_ n1_ n2_ n3_ n4_ ⊢
                           have BK193 := n0_
                           have BK196 := n1_
                           have BK214 := n2_
                           have BK219 := n3_
                           have HB := n4_
                           clear n0_ n1_ n2_ n3_ n4_
                           have n0_ := Aside0.mk (blk_drew BK193.out)
                           have n1_ := Aside0.mk (blk_drew BK196.out)
                           have n2_ := Aside0.mk (blk_drew BK214.out)
                           have n3_ := Aside0.mk (blk_drew BK219.out)
                           have n4_ := Aside0.mk (below_drew1 HB.out)
                           clear BK193
                           clear BK196
                           clear BK214
                           clear BK219
                           clear HB
                           have BK193 := n0_
                           have BK196 := n1_
                           have BK214 := n2_
                           have BK219 := n3_
                           have HB := n4_
                           clear n0_ n1_ n2_ n3_ n4_
                           refine start_ (n := 48) (S := fun w' => w'.cell? ⟨gb214, 0, none⟩ = some (.bool true) ∧ w'.cell? ⟨gb214, 1, none⟩ = some (.int .u64 t213) ∧ w'.cell? ⟨gb196, 0, none⟩ = some (.int .i64 t194) ∧ w'.cell? ⟨gb196, 1, none⟩ = some (.int .u64 t195) ∧ w'.cell? ⟨gb219, 0, none⟩ = some (.bool false) ∧ w'.cell? ⟨gb219, 1, none⟩ = some (.int .u64 t218)) (ds := []) #[false, false, false, false, false, false, false, false, false, false, false, false, false, false, false, false, false, false, false, false, false, false, false, false, false, false, false, false, false, false, false, false, false, false, false, false, false, false, false, false, false, false, false, false, false, false, false, false] (by kernel_rfl) rfl rfl ⟨(blk_cell BK214.out 0).trans rfl, (blk_cell BK214.out 1).trans rfl, (blk_cell BK196.out 0).trans rfl, (blk_cell BK196.out 1).trans rfl, (blk_cell BK219.out 0).trans rfl, (blk_cell BK219.out 1).trans rfl⟩ (fun hHeld => ?_); refine with_tabW laws_FnCasts.tab21 laws_FnCasts.bits21 (fun HT_ HW_ => ?_)
                           generalize w207.drew = w208 at BK193 BK196 BK214 BK219 HB hHeld ⊢
                           refine pure_ (i := 0) (N := some 123) (v := ?_) (a' := ?_) #[true, false, false, false, false, false, false, false, false, false, false, false, false, false, false, false, false, false, false, false, false, false, false, false, false, false, false, false, false, false, false, false, false, false, false, false, false, false, false, false, false, false, false, false, false, false, false, false] rfl rfl (any_of HT_.out (by kernel_rfl)) (fun _ _ _ h => h) (Or.inl ⟨by rfl, ?_⟩) ?_ ?_
                           rotate_left
                           · intro w'
                             go_simp
                             with_reducible rfl
                           rotate_left
                           · simp only [Act.put, List.setIfInBounds_toArray, List.set_cons_zero, List.set_cons_succ, i64_w, i32_w]
                             rfl
                           refine take_ (i := 1) (N := some 124) (v := ?_) (a' := ?_) #[true, true, false, false, false, false, false, false, false, false, false, false, false, false, false, false, false, false, false, false, false, false, false, false, false, false, false, false, false, false, false, false, false, false, false, false, false, false, false, false, false, false, false, false, false, false, false, false] rfl rfl (take_ofW HT_.out HW_.out (by kernel_rfl)) (fun _ _ _ h => h) (Or.inl ⟨by rfl, ?_⟩) hHeld ?_ ?_
                           rotate_left
                           · rintro w' ⟨s0, s1, s2, s3, s4, s5⟩
                             go_simp
                             with_reducible rfl
                           rotate_left
                           · simp only [Act.put, List.setIfInBounds_toArray, List.set_cons_zero, List.set_cons_succ, i64_w, i32_w]
                             rfl
                           refine pure_ (i := 2) (N := some 125) (v := ?_) (a' := ?_) #[true, true, true, false, false, false, false, false, false, false, false, false, false, false, false, false, false, false, false, false, false, false, false, false, false, false, false, false, false, false, false, false, false, false, false, false, false, false, false, false, false, false, false, false, false, false, false, false] rfl rfl (any_of HT_.out (by kernel_rfl)) (fun _ _ _ h => h) (Or.inl ⟨by rfl, ?_⟩) ?_ ?_
                           rotate_left
                           · intro w'
                             go_simp
                             with_reducible rfl
                           rotate_left
                           · simp only [Act.put, List.setIfInBounds_toArray, List.set_cons_zero, List.set_cons_succ, i64_w, i32_w]
                             rfl
                           refine pure_ (i := 3) (N := some 126) (v := ?_) (a' := ?_) #[true, true, true, true, false, false, false, false, false, false, false, false, false, false, false, false, false, false, false, false, false, false, false, false, false, false, false, false, false, false, false, false, false, false, false, false, false, false, false, false, false, false, false, false, false, false, false, false] rfl rfl (any_of HT_.out (by kernel_rfl)) (fun _ _ _ h => h) (Or.inl ⟨by rfl, ?_⟩) ?_ ?_
                           rotate_left
                           · intro w'
                             go_simp
                             with_reducible rfl
                           rotate_left
                           · simp only [Act.put, List.setIfInBounds_toArray, List.set_cons_zero, List.set_cons_succ, i64_w, i32_w]
                             rfl
                           refine pure_ (i := 5) (N := some 128) (v := ?_) (a' := ?_) #[true, true, true, true, false, true, false, false, false, false, false, false, false, false, false, false, false, false, false, false, false, false, false, false, false, false, false, false, false, false, false, false, false, false, false, false, false, false, false, false, false, false, false, false, false, false, false, false] rfl rfl (any_of HT_.out (by kernel_rfl)) (fun _ _ _ h => h) (Or.inl ⟨by rfl, ?_⟩) ?_ ?_
                           rotate_left
                           · intro w'
                             go_simp
                             with_reducible rfl
                           rotate_left
                           · simp only [Act.put, List.setIfInBounds_toArray, List.set_cons_zero, List.set_cons_succ, i64_w, i32_w]
                             rfl
                           refine take_ (i := 4) (N := some 127) (v := ?_) (a' := ?_) #[true, true, true, true, true, true, false, false, false, false, false, false, false, false, false, false, false, false, false, false, false, false, false, false, false, false, false, false, false, false, false, false, false, false, false, false, false, false, false, false, false, false, false, false, false, false, false, false] rfl rfl (take_ofW HT_.out HW_.out (by kernel_rfl)) (fun _ _ _ h => h) (Or.inl ⟨by rfl, ?_⟩) hHeld ?_ ?_
                           rotate_left
                           · rintro w' ⟨s0, s1, s2, s3, s4, s5⟩
                             go_simp
                             with_reducible rfl
                           rotate_left
                           · simp only [Act.put, List.setIfInBounds_toArray, List.set_cons_zero, List.set_cons_succ, i64_w, i32_w]
                             rfl
                           refine take_ (i := 6) (N := some 129) (v := ?_) (a' := ?_) #[true, true, true, true, true, true, true, false, false, false, false, false, false, false, false, false, false, false, false, false, false, false, false, false, false, false, false, false, false, false, false, false, false, false, false, false, false, false, false, false, false, false, false, false, false, false, false, false] rfl rfl (take_ofW HT_.out HW_.out (by kernel_rfl)) (fun _ _ _ h => h) (Or.inl ⟨by rfl, ?_⟩) hHeld ?_ ?_
                           rotate_left
                           · rintro w' ⟨s0, s1, s2, s3, s4, s5⟩
                             go_simp
                             with_reducible rfl
                           rotate_left
                           · simp only [Act.put, List.setIfInBounds_toArray, List.set_cons_zero, List.set_cons_succ, i64_w, i32_w]
                             rfl
                           refine pure_ (i := 7) (N := some 130) (v := ?_) (a' := ?_) #[true, true, true, true, true, true, true, true, false, false, false, false, false, false, false, false, false, false, false, false, false, false, false, false, false, false, false, false, false, false, false, false, false, false, false, false, false, false, false, false, false, false, false, false, false, false, false, false] rfl rfl (any_of HT_.out (by kernel_rfl)) (fun _ _ _ h => h) (Or.inl ⟨by rfl, ?_⟩) ?_ ?_
                           rotate_left
                           · intro w'
                             go_simp
                             with_reducible rfl
                           rotate_left
                           · simp only [Act.put, List.setIfInBounds_toArray, List.set_cons_zero, List.set_cons_succ, i64_w, i32_w]
                             rfl
                           refine pure_ (i := 8) (N := some 131) (v := ?_) (a' := ?_) #[true, true, true, true, true, true, true, true, true, false, false, false, false, false, false, false, false, false, false, false, false, false, false, false, false, false, false, false, false, false, false, false, false, false, false, false, false, false, false, false, false, false, false, false, false, false, false, false] rfl rfl (any_of HT_.out (by kernel_rfl)) (fun _ _ _ h => h) (Or.inl ⟨by rfl, ?_⟩) ?_ ?_
                           rotate_left
                           · intro w'
                             go_simp
                             with_reducible rfl
                           rotate_left
                           · simp only [Act.put, List.setIfInBounds_toArray, List.set_cons_zero, List.set_cons_succ, i64_w, i32_w]
                             rfl
                           refine pure_ (i := 9) (N := some 132) (v := ?_) (a' := ?_) #[true, true, true, true, true, true, true, true, true, true, false, false, false, false, false, false, false, false, false, false, false, false, false, false, false, false, false, false, false, false, false, false, false, false, false, false, false, false, false, false, false, false, false, false, false, false, false, false] rfl rfl (any_of HT_.out (by kernel_rfl)) (fun _ _ _ h => h) (Or.inl ⟨by rfl, ?_⟩) ?_ ?_
                           rotate_left
                           · intro w'
                             go_simp
                             with_reducible rfl
                           rotate_left
                           · simp only [Act.put, List.setIfInBounds_toArray, List.set_cons_zero, List.set_cons_succ, i64_w, i32_w]
                             rfl
                           refine pure_ (i := 10) (N := some 133) (v := ?_) (a' := ?_) #[true, true, true, true, true, true, true, true, true, true, true, false, false, false, false, false, false, false, false, false, false, false, false, false, false, false, false, false, false, false, false, false, false, false, false, false, false, false, false, false, false, false, false, false, false, false, false, false] rfl rfl (any_of HT_.out (by kernel_rfl)) (fun _ _ _ h => h) (Or.inl ⟨by rfl, ?_⟩) ?_ ?_
                           rotate_left
                           · intro w'
                             go_simp
                             with_reducible rfl
                           rotate_left
                           · simp only [Act.put, List.setIfInBounds_toArray, List.set_cons_zero, List.set_cons_succ, i64_w, i32_w]
                             rfl
                           refine take_ (i := 11) (N := some 134) (v := ?_) (a' := ?_) #[true, true, true, true, true, true, true, true, true, true, true, true, false, false, false, false, false, false, false, false, false, false, false, false, false, false, false, false, false, false, false, false, false, false, false, false, false, false, false, false, false, false, false, false, false, false, false, false] rfl rfl (take_ofW HT_.out HW_.out (by kernel_rfl)) (fun _ _ _ h => h) (Or.inl ⟨by rfl, ?_⟩) hHeld ?_ ?_
                           rotate_left
                           · rintro w' ⟨s0, s1, s2, s3, s4, s5⟩
                             go_simp
                             with_reducible rfl
                           rotate_left
                           · simp only [Act.put, List.setIfInBounds_toArray, List.set_cons_zero, List.set_cons_succ, i64_w, i32_w]
                             rfl
                           refine pure_ (i := 12) (N := some 135) (v := ?_) (a' := ?_) #[true, true, true, true, true, true, true, true, true, true, true, true, true, false, false, false, false, false, false, false, false, false, false, false, false, false, false, false, false, false, false, false, false, false, false, false, false, false, false, false, false, false, false, false, false, false, false, false] rfl rfl (any_of HT_.out (by kernel_rfl)) (fun _ _ _ h => h) (Or.inl ⟨by rfl, ?_⟩) ?_ ?_
                           rotate_left
                           · intro w'
                             go_simp
                             with_reducible rfl
                           rotate_left
                           · simp only [Act.put, List.setIfInBounds_toArray, List.set_cons_zero, List.set_cons_succ, i64_w, i32_w]
                             rfl
                           refine pure_ (i := 13) (N := some 136) (v := ?_) (a' := ?_) #[true, true, true, true, true, true, true, true, true, true, true, true, true, true, false, false, false, false, false, false, false, false, false, false, false, false, false, false, false, false, false, false, false, false, false, false, false, false, false, false, false, false, false, false, false, false, false, false] rfl rfl (any_of HT_.out (by kernel_rfl)) (fun _ _ _ h => h) (Or.inl ⟨by rfl, ?_⟩) ?_ ?_
                           rotate_left
                           · intro w'
                             go_simp
                             with_reducible rfl
                           rotate_left
                           · simp only [Act.put, List.setIfInBounds_toArray, List.set_cons_zero, List.set_cons_succ, i64_w, i32_w]
                             rfl
                           refine pure_ (i := 14) (N := some 137) (v := undef) (a' := ?_) #[true, true, true, true, true, true, true, true, true, true, true, true, true, true, true, false, false, false, false, false, false, false, false, false, false, false, false, false, false, false, false, false, false, false, false, false, false, false, false, false, false, false, false, false, false, false, false, false] rfl rfl (any_of HT_.out (by kernel_rfl)) (fun _ _ _ h => h) (Or.inr ⟨by rfl, rfl⟩) ?_ ?_
                           rotate_left
                           · simp only [Act.put, List.setIfInBounds_toArray, List.set_cons_zero, List.set_cons_succ, i64_w, i32_w]
                             rfl
                           refine pure_ (i := 15) (N := some 138) (v := undef) (a' := ?_) #[true, true, true, true, true, true, true, true, true, true, true, true, true, true, true, true, false, false, false, false, false, false, false, false, false, false, false, false, false, false, false, false, false, false, false, false, false, false, false, false, false, false, false, false, false, false, false, false] rfl rfl (any_of HT_.out (by kernel_rfl)) (fun _ _ _ h => h) (Or.inr ⟨by rfl, rfl⟩) ?_ ?_
                           rotate_left
                           · simp only [Act.put, List.setIfInBounds_toArray, List.set_cons_zero, List.set_cons_succ, i64_w, i32_w]
                             rfl
                           refine pure_ (i := 16) (N := some 139) (v := undef) (a' := ?_) #[true, true, true, true, true, true, true, true, true, true, true, true, true, true, true, true, true, false, false, false, false, false, false, false, false, false, false, false, false, false, false, false, false, false, false, false, false, false, false, false, false, false, false, false, false, false, false, false] rfl rfl (any_of HT_.out (by kernel_rfl)) (fun _ _ _ h => h) (Or.inr ⟨by rfl, rfl⟩) ?_ ?_
                           rotate_left
                           · simp only [Act.put, List.setIfInBounds_toArray, List.set_cons_zero, List.set_cons_succ, i64_w, i32_w]
                             rfl
                           refine pure_ (i := 17) (N := some 140) (v := undef) (a' := ?_) #[true, true, true, true, true, true, true, true, true, true, true, true, true, true, true, true, true, true, false, false, false, false, false, false, false, false, false, false, false, false, false, false, false, false, false, false, false, false, false, false, false, false, false, false, false, false, false, false] rfl rfl (any_of HT_.out (by kernel_rfl)) (fun _ _ _ h => h) (Or.inr ⟨by rfl, rfl⟩) ?_ ?_
                           rotate_left
                           · simp only [Act.put, List.setIfInBounds_toArray, List.set_cons_zero, List.set_cons_succ, i64_w, i32_w]
                             rfl
                           refine pure_ (i := 18) (N := some 141) (v := undef) (a' := ?_) #[true, true, true, true, true, true, true, true, true, true, true, true, true, true, true, true, true, true, true, false, false, false, false, false, false, false, false, false, false, false, false, false, false, false, false, false, false, false, false, false, false, false, false, false, false, false, false, false] rfl rfl (any_of HT_.out (by kernel_rfl)) (fun _ _ _ h => h) (Or.inr ⟨by rfl, rfl⟩) ?_ ?_
                           rotate_left
                           · simp only [Act.put, List.setIfInBounds_toArray, List.set_cons_zero, List.set_cons_succ, i64_w, i32_w]
                             rfl
                           refine pure_ (i := 19) (N := some 142) (v := undef) (a' := ?_) #[true, true, true, true, true, true, true, true, true, true, true, true, true, true, true, true, true, true, true, true, false, false, false, false, false, false, false, false, false, false, false, false, false, false, false, false, false, false, false, false, false, false, false, false, false, false, false, false] rfl rfl (any_of HT_.out (by kernel_rfl)) (fun _ _ _ h => h) (Or.inr ⟨by rfl, rfl⟩) ?_ ?_
                           rotate_left
                           · simp only [Act.put, List.setIfInBounds_toArray, List.set_cons_zero, List.set_cons_succ, i64_w, i32_w]
                             rfl
                           refine pure_ (i := 20) (N := some 143) (v := ?_) (a' := ?_) #[true, true, true, true, true, true, true, true, true, true, true, true, true, true, true, true, true, true, true, true, true, false, false, false, false, false, false, false, false, false, false, false, false, false, false, false, false, false, false, false, false, false, false, false, false, false, false, false] rfl rfl (any_of HT_.out (by kernel_rfl)) (fun _ _ _ h => h) (Or.inl ⟨by rfl, ?_⟩) ?_ ?_
                           rotate_left
                           · intro w'
                             go_simp
                             with_reducible rfl
                           rotate_left
                           · simp only [Act.put, List.setIfInBounds_toArray, List.set_cons_zero, List.set_cons_succ, i64_w, i32_w]
                             rfl
                           refine pure_ (i := 21) (N := some 144) (v := ?_) (a' := ?_) #[true, true, true, true, true, true, true, true, true, true, true, true, true, true, true, true, true, true, true, true, true, true, false, false, false, false, false, false, false, false, false, false, false, false, false, false, false, false, false, false, false, false, false, false, false, false, false, false] rfl rfl (any_of HT_.out (by kernel_rfl)) (fun _ _ _ h => h) (Or.inl ⟨by rfl, ?_⟩) ?_ ?_
                           rotate_left
                           · intro w'
                             go_simp
                             with_reducible rfl
                           rotate_left
                           · simp only [Act.put, List.setIfInBounds_toArray, List.set_cons_zero, List.set_cons_succ, i64_w, i32_w]
                             rfl
                           refine pure_ (i := 22) (N := some 145) (v := ?_) (a' := ?_) #[true, true, true, true, true, true, true, true, true, true, true, true, true, true, true, true, true, true, true, true, true, true, true, false, false, false, false, false, false, false, false, false, false, false, false, false, false, false, false, false, false, false, false, false, false, false, false, false] rfl rfl (any_of HT_.out (by kernel_rfl)) (fun _ _ _ h => h) (Or.inl ⟨by rfl, ?_⟩) ?_ ?_
                           rotate_left
                           · intro w'
                             go_simp
                             with_reducible rfl
                           rotate_left
                           · simp only [Act.put, List.setIfInBounds_toArray, List.set_cons_zero, List.set_cons_succ, i64_w, i32_w]
                             rfl
                           refine pure_ (i := 23) (N := some 146) (v := ?_) (a' := ?_) #[true, true, true, true, true, true, true, true, true, true, true, true, true, true, true, true, true, true, true, true, true, true, true, true, false, false, false, false, false, false, false, false, false, false, false, false, false, false, false, false, false, false, false, false, false, false, false, false] rfl rfl (any_of HT_.out (by kernel_rfl)) (fun _ _ _ h => h) (Or.inl ⟨by rfl, ?_⟩) ?_ ?_
                           rotate_left
                           · intro w'
                             go_simp
                             with_reducible rfl
                           rotate_left
                           · simp only [Act.put, List.setIfInBounds_toArray, List.set_cons_zero, List.set_cons_succ, i64_w, i32_w]
                             rfl
                           refine pure_ (i := 25) (N := some 148) (v := ?_) (a' := ?_) #[true, true, true, true, true, true, true, true, true, true, true, true, true, true, true, true, true, true, true, true, true, true, true, true, false, true, false, false, false, false, false, false, false, false, false, false, false, false, false, false, false, false, false, false, false, false, false, false] rfl rfl (any_of HT_.out (by kernel_rfl)) (fun _ _ _ h => h) (Or.inl ⟨by rfl, ?_⟩) ?_ ?_
                           rotate_left
                           · intro w'
                             go_simp
                             with_reducible rfl
                           rotate_left
                           · simp only [Act.put, List.setIfInBounds_toArray, List.set_cons_zero, List.set_cons_succ, i64_w, i32_w]
                             rfl
                           refine pure_ (i := 26) (N := some 149) (v := ?_) (a' := ?_) #[true, true, true, true, true, true, true, true, true, true, true, true, true, true, true, true, true, true, true, true, true, true, true, true, false, true, true, false, false, false, false, false, false, false, false, false, false, false, false, false, false, false, false, false, false, false, false, false] rfl rfl (any_of HT_.out (by kernel_rfl)) (fun _ _ _ h => h) (Or.inl ⟨by rfl, ?_⟩) ?_ ?_
                           rotate_left
                           · intro w'
                             go_simp
                             with_reducible rfl
                           rotate_left
                           · simp only [Act.put, List.setIfInBounds_toArray, List.set_cons_zero, List.set_cons_succ, i64_w, i32_w]
                             rfl
                           refine take_ (i := 24) (N := some 147) (v := ?_) (a' := ?_) #[true, true, true, true, true, true, true, true, true, true, true, true, true, true, true, true, true, true, true, true, true, true, true, true, true, true, true, false, false, false, false, false, false, false, false, false, false, false, false, false, false, false, false, false, false, false, false, false] rfl rfl (take_ofW HT_.out HW_.out (by kernel_rfl)) (fun _ _ _ h => h) (Or.inl ⟨by rfl, ?_⟩) hHeld ?_ ?_
                           rotate_left
                           · rintro w' ⟨s0, s1, s2, s3, s4, s5⟩
                             go_simp
                             with_reducible rfl
                           rotate_left
                           · simp only [Act.put, List.setIfInBounds_toArray, List.set_cons_zero, List.set_cons_succ, i64_w, i32_w]
                             rfl
                           refine one_ (i := 27) (N := some 150) #[true, true, true, true, true, true, true, true, true, true, true, true, true, true, true, true, true, true, true, true, true, true, true, true, true, true, true, true, false, false, false, false, false, false, false, false, false, false, false, false, false, false, false, false, false, false, false, false] rfl rfl (one_of HT_.out (by kernel_rfl)) (by decide) (fun K hK => ?_)
                           refine goes_ Tryd.func13 (by kernel_rfl) rfl #[.int .i64 t188, .string t216] (by rfl) rfl rfl (by (try simp only [List.map_toArray, List.map_cons, List.map_nil]); first | done | rfl | (simp only [List.length_drop, List.length_take]; rfl)) ?_
                           with_reducible refine (spec_ParseWord.calls kj35 t188 t216 t227 t228 _ A166.out).mono ?_
                           rintro e w209 ⟨rfl, hb⟩
                           refine ⟨_, rfl, ?_⟩
                           have n0_ := Aside0.mk (blk_below (g := gb193) (o := .cells #[.int .i64 t191, .int .u64 t192] 46 (0, 0)) (by (with_reducible repeat (first | refine blk_drewN ?_ _ | refine blk_drew ?_ | refine blk_alloc ?_ _)); exact BK193.out) hb)
                           have n1_ := Aside0.mk (blk_below (g := gb196) (o := .cells #[.int .i64 t194, .int .u64 t195] 46 (0, 0)) (by (with_reducible repeat (first | refine blk_drewN ?_ _ | refine blk_drew ?_ | refine blk_alloc ?_ _)); exact BK196.out) hb)
                           have n2_ := Aside0.mk (blk_below (g := gb214) (o := .cells #[.bool true, .int .u64 t213] 37 (0, 0)) (by (with_reducible repeat (first | refine blk_drewN ?_ _ | refine blk_drew ?_ | refine blk_alloc ?_ _)); exact BK214.out) hb)
                           have n3_ := Aside0.mk (blk_below (g := gb219) (o := .cells #[.bool false, .int .u64 t218] 37 (0, 0)) (by (with_reducible repeat (first | refine blk_drewN ?_ _ | refine blk_drew ?_ | refine blk_alloc ?_ _)); exact BK219.out) hb)
                           have n4_ := Aside0.mk (below_step (by repeat (first | (with_reducible first | exact HB.out | apply below_alloc | apply pw_below_drewN | apply below_drew1 | refine below_set ?_ GE193.out | refine below_set ?_ GE196.out | refine below_set ?_ GE214.out | refine below_set ?_ GE219.out) | exact HB.out)) hb)
                           clear BK193
                           clear BK196
                           clear BK214
                           clear BK219
                           clear HB
                           have BK193 := n0_
                           have BK196 := n1_
                           have BK214 := n2_
                           have BK219 := n3_
                           have HB := n4_
                           clear n0_ n1_ n2_ n3_ n4_
                           (try clear hb)
                           (try clear hb2)
                           (try clear hk)
                           (try clear hi)
                           refine hK.out _ _ ⟨(blk_cell BK214.out 0).trans rfl, (blk_cell BK214.out 1).trans rfl, (blk_cell BK196.out 0).trans rfl, (blk_cell BK196.out 1).trans rfl, (blk_cell BK219.out 0).trans rfl, (blk_cell BK219.out 1).trans rfl⟩ (fun hHeld => ?_)
                           clear hK K
                           refine norm_ (a' := ?_) ?_ ?_
                           rotate_left
                           · show Act.put _ (some 150) _ = _
                             simp only [Act.put, List.setIfInBounds_toArray, List.set_cons_zero, List.set_cons_succ, i64_w, i32_w]
                             rfl
                           refine pure_ (i := 28) (N := some 151) (v := ?_) (a' := ?_) #[true, true, true, true, true, true, true, true, true, true, true, true, true, true, true, true, true, true, true, true, true, true, true, true, true, true, true, true, true, false, false, false, false, false, false, false, false, false, false, false, false, false, false, false, false, false, false, false] rfl rfl (any_of HT_.out (by kernel_rfl)) (fun _ _ _ h => h) (Or.inl ⟨by rfl, ?_⟩) ?_ ?_
                           rotate_left
                           · intro w'
                             go_simp
                             with_reducible rfl
                           rotate_left
                           · simp only [Act.put, List.setIfInBounds_toArray, List.set_cons_zero, List.set_cons_succ, i64_w, i32_w]
                             rfl
                           refine pure_ (i := 29) (N := some 152) (v := ?_) (a' := ?_) #[true, true, true, true, true, true, true, true, true, true, true, true, true, true, true, true, true, true, true, true, true, true, true, true, true, true, true, true, true, true, false, false, false, false, false, false, false, false, false, false, false, false, false, false, false, false, false, false] rfl rfl (any_of HT_.out (by kernel_rfl)) (fun _ _ _ h => h) (Or.inl ⟨by rfl, ?_⟩) ?_ ?_
                           rotate_left
                           · intro w'
                             go_simp
                             with_reducible rfl
                           rotate_left
                           · simp only [Act.put, List.setIfInBounds_toArray, List.set_cons_zero, List.set_cons_succ, i64_w, i32_w]
                             rfl
                           refine pure_ (i := 30) (N := some 153) (v := ?_) (a' := ?_) #[true, true, true, true, true, true, true, true, true, true, true, true, true, true, true, true, true, true, true, true, true, true, true, true, true, true, true, true, true, true, true, false, false, false, false, false, false, false, false, false, false, false, false, false, false, false, false, false] rfl rfl (any_of HT_.out (by kernel_rfl)) (fun _ _ _ h => h) (Or.inl ⟨by rfl, ?_⟩) ?_ ?_
                           rotate_left
                           · intro w'
                             go_simp
                             with_reducible rfl
                           rotate_left
                           · simp only [Act.put, List.setIfInBounds_toArray, List.set_cons_zero, List.set_cons_succ, i64_w, i32_w]
                             rfl
                           refine pure_ (i := 31) (N := some 154) (v := ?_) (a' := ?_) #[true, true, true, true, true, true, true, true, true, true, true, true, true, true, true, true, true, true, true, true, true, true, true, true, true, true, true, true, true, true, true, true, false, false, false, false, false, false, false, false, false, false, false, false, false, false, false, false] rfl rfl (any_of HT_.out (by kernel_rfl)) (fun _ _ _ h => h) (Or.inl ⟨by rfl, ?_⟩) ?_ ?_
                           rotate_left
                           · intro w'
                             go_simp
                             with_reducible rfl
                           rotate_left
                           · simp only [Act.put, List.setIfInBounds_toArray, List.set_cons_zero, List.set_cons_succ, i64_w, i32_w]
                             rfl
                           refine pure_ (i := 32) (N := some 155) (v := ?_) (a' := ?_) #[true, true, true, true, true, true, true, true, true, true, true, true, true, true, true, true, true, true, true, true, true, true, true, true, true, true, true, true, true, true, true, true, true, false, false, false, false, false, false, false, false, false, false, false, false, false, false, false] rfl rfl (any_of HT_.out (by kernel_rfl)) (fun _ _ _ h => h) (Or.inl ⟨by rfl, ?_⟩) ?_ ?_
                           rotate_left
                           · intro w'
                             go_simp
                             with_reducible rfl
                           rotate_left
                           · simp only [Act.put, List.setIfInBounds_toArray, List.set_cons_zero, List.set_cons_succ, i64_w, i32_w]
                             rfl
                           refine pure_ (i := 33) (N := some 156) (v := ?_) (a' := ?_) #[true, true, true, true, true, true, true, true, true, true, true, true, true, true, true, true, true, true, true, true, true, true, true, true, true, true, true, true, true, true, true, true, true, true, false, false, false, false, false, false, false, false, false, false, false, false, false, false] rfl rfl (any_of HT_.out (by kernel_rfl)) (fun _ _ _ h => h) (Or.inl ⟨by rfl, ?_⟩) ?_ ?_
                           rotate_left
                           · intro w'
                             go_simp
                             with_reducible rfl
                           rotate_left
                           · simp only [Act.put, List.setIfInBounds_toArray, List.set_cons_zero, List.set_cons_succ, i64_w, i32_w]
                             rfl
                           refine pure_ (i := 34) (N := some 157) (v := ?_) (a' := ?_) #[true, true, true, true, true, true, true, true, true, true, true, true, true, true, true, true, true, true, true, true, true, true, true, true, true, true, true, true, true, true, true, true, true, true, true, false, false, false, false, false, false, false, false, false, false, false, false, false] rfl rfl (any_of HT_.out (by kernel_rfl)) (fun _ _ _ h => h) (Or.inl ⟨by rfl, ?_⟩) ?_ ?_
                           rotate_left
                           · intro w'
                             go_simp
                             with_reducible rfl
                           rotate_left
                           · simp only [Act.put, List.setIfInBounds_toArray, List.set_cons_zero, List.set_cons_succ, i64_w, i32_w]
                             rfl
                           refine one_ (i := 35) (N := some 158) #[true, true, true, true, true, true, true, true, true, true, true, true, true, true, true, true, true, true, true, true, true, true, true, true, true, true, true, true, true, true, true, true, true, true, true, true, false, false, false, false, false, false, false, false, false, false, false, false] rfl rfl (one_of HT_.out (by kernel_rfl)) (by decide) (fun K hK => ?_)
                           refine goes_ Tryd.func14 (by kernel_rfl) rfl #[.int .i64 t189, .string (t211 ++ (⟨#[32]⟩ : ByteArray))] (by rfl) rfl rfl (by (try simp only [List.map_toArray, List.map_cons, List.map_nil]); first | done | rfl | (simp only [List.length_drop, List.length_take]; rfl)) ?_
                           with_reducible refine (impl_ParseWord.calls t189 (t211 ++ (⟨#[32]⟩ : ByteArray)) false t230 _ ?tLtTab ?tLtErr A169.out).mono ?_
                           (case tLtTab => exact HLtTab.out.on (by repeat (first | (with_reducible first | exact HB.out | apply below_alloc | apply pw_below_drewN | apply below_drew1 | refine below_set ?_ GE193.out | refine below_set ?_ GE196.out | refine below_set ?_ GE214.out | refine below_set ?_ GE219.out) | exact HB.out))); (case tLtErr => exact HLtErr.out.on (by repeat (first | (with_reducible first | exact HB.out | apply below_alloc | apply pw_below_drewN | apply below_drew1 | refine below_set ?_ GE193.out | refine below_set ?_ GE196.out | refine below_set ?_ GE214.out | refine below_set ?_ GE219.out) | exact HB.out)))
                           rintro e w210 ⟨rfl, hb⟩
                           refine ⟨_, rfl, ?_⟩
                           have n0_ := Aside0.mk (blk_below (g := gb193) (o := .cells #[.int .i64 t191, .int .u64 t192] 46 (0, 0)) (by (with_reducible repeat (first | refine blk_drewN ?_ _ | refine blk_drew ?_ | refine blk_alloc ?_ _)); exact BK193.out) hb)
                           have n1_ := Aside0.mk (blk_below (g := gb196) (o := .cells #[.int .i64 t194, .int .u64 t195] 46 (0, 0)) (by (with_reducible repeat (first | refine blk_drewN ?_ _ | refine blk_drew ?_ | refine blk_alloc ?_ _)); exact BK196.out) hb)
                           have n2_ := Aside0.mk (blk_below (g := gb214) (o := .cells #[.bool true, .int .u64 t213] 37 (0, 0)) (by (with_reducible repeat (first | refine blk_drewN ?_ _ | refine blk_drew ?_ | refine blk_alloc ?_ _)); exact BK214.out) hb)
                           have n3_ := Aside0.mk (blk_below (g := gb219) (o := .cells #[.bool false, .int .u64 t218] 37 (0, 0)) (by (with_reducible repeat (first | refine blk_drewN ?_ _ | refine blk_drew ?_ | refine blk_alloc ?_ _)); exact BK219.out) hb)
                           have n4_ := Aside0.mk (below_step (by repeat (first | (with_reducible first | exact HB.out | apply below_alloc | apply pw_below_drewN | apply below_drew1 | refine below_set ?_ GE193.out | refine below_set ?_ GE196.out | refine below_set ?_ GE214.out | refine below_set ?_ GE219.out) | exact HB.out)) hb)
                           clear BK193
                           clear BK196
                           clear BK214
                           clear BK219
                           clear HB
                           have BK193 := n0_
                           have BK196 := n1_
                           have BK214 := n2_
                           have BK219 := n3_
                           have HB := n4_
                           clear n0_ n1_ n2_ n3_ n4_
                           (try clear hb)
                           (try clear hb2)
                           (try clear hk)
                           (try clear hi)
                           refine hK.out _ _ ⟨(blk_cell BK214.out 0).trans rfl, (blk_cell BK214.out 1).trans rfl, (blk_cell BK196.out 0).trans rfl, (blk_cell BK196.out 1).trans rfl, (blk_cell BK219.out 0).trans rfl, (blk_cell BK219.out 1).trans rfl⟩ (fun hHeld => ?_)
                           clear hK K
                           refine norm_ (a' := ?_) ?_ ?_
                           rotate_left
                           · show Act.put _ (some 158) _ = _
                             simp only [Act.put, List.setIfInBounds_toArray, List.set_cons_zero, List.set_cons_succ, i64_w, i32_w]
                             rfl
                           refine pure_ (i := 36) (N := some 159) (v := ?_) (a' := ?_) #[true, true, true, true, true, true, true, true, true, true, true, true, true, true, true, true, true, true, true, true, true, true, true, true, true, true, true, true, true, true, true, true, true, true, true, true, true, false, false, false, false, false, false, false, false, false, false, false] rfl rfl (any_of HT_.out (by kernel_rfl)) (fun _ _ _ h => h) (Or.inl ⟨by rfl, ?_⟩) ?_ ?_
                           rotate_left
                           · intro w'
                             go_simp
                             with_reducible rfl
                           rotate_left
                           · simp only [Act.put, List.setIfInBounds_toArray, List.set_cons_zero, List.set_cons_succ, i64_w, i32_w]
                             rfl
                           refine pure_ (i := 37) (N := some 160) (v := ?_) (a' := ?_) #[true, true, true, true, true, true, true, true, true, true, true, true, true, true, true, true, true, true, true, true, true, true, true, true, true, true, true, true, true, true, true, true, true, true, true, true, true, true, false, false, false, false, false, false, false, false, false, false] rfl rfl (any_of HT_.out (by kernel_rfl)) (fun _ _ _ h => h) (Or.inl ⟨by rfl, ?_⟩) ?_ ?_
                           rotate_left
                           · intro w'
                             go_simp
                             with_reducible rfl
                           rotate_left
                           · simp only [Act.put, List.setIfInBounds_toArray, List.set_cons_zero, List.set_cons_succ, i64_w, i32_w]
                             rfl
                           refine pure_ (i := 38) (N := some 161) (v := ?_) (a' := ?_) #[true, true, true, true, true, true, true, true, true, true, true, true, true, true, true, true, true, true, true, true, true, true, true, true, true, true, true, true, true, true, true, true, true, true, true, true, true, true, true, false, false, false, false, false, false, false, false, false] rfl rfl (any_of HT_.out (by kernel_rfl)) (fun _ _ _ h => h) (Or.inl ⟨by rfl, ?_⟩) ?_ ?_
                           rotate_left
                           · intro w'
                             go_simp
                             with_reducible rfl
                           rotate_left
                           · simp only [Act.put, List.setIfInBounds_toArray, List.set_cons_zero, List.set_cons_succ, i64_w, i32_w]
                             rfl
                           refine pure_ (i := 39) (N := some 162) (v := ?_) (a' := ?_) #[true, true, true, true, true, true, true, true, true, true, true, true, true, true, true, true, true, true, true, true, true, true, true, true, true, true, true, true, true, true, true, true, true, true, true, true, true, true, true, true, false, false, false, false, false, false, false, false] rfl rfl (any_of HT_.out (by kernel_rfl)) (fun _ _ _ h => h) (Or.inl ⟨by rfl, ?_⟩) ?_ ?_
                           rotate_left
                           · intro w'
                             go_simp
                             with_reducible rfl
                           rotate_left
                           · simp only [Act.put, List.setIfInBounds_toArray, List.set_cons_zero, List.set_cons_succ, i64_w, i32_w]
                             rfl
                           refine pure_ (i := 40) (N := some 163) (v := ?_) (a' := ?_) #[true, true, true, true, true, true, true, true, true, true, true, true, true, true, true, true, true, true, true, true, true, true, true, true, true, true, true, true, true, true, true, true, true, true, true, true, true, true, true, true, true, false, false, false, false, false, false, false] rfl rfl (any_of HT_.out (by kernel_rfl)) (fun _ _ _ h => h) (Or.inl ⟨by rfl, ?_⟩) ?_ ?_
                           rotate_left
                           · intro w'
                             go_simp
                             with_reducible rfl
                           rotate_left
                           · simp only [Act.put, List.setIfInBounds_toArray, List.set_cons_zero, List.set_cons_succ, i64_w, i32_w]
                             rfl
                           refine pure_ (i := 41) (N := some 164) (v := ?_) (a' := ?_) #[true, true, true, true, true, true, true, true, true, true, true, true, true, true, true, true, true, true, true, true, true, true, true, true, true, true, true, true, true, true, true, true, true, true, true, true, true, true, true, true, true, true, false, false, false, false, false, false] rfl rfl (any_of HT_.out (by kernel_rfl)) (fun _ _ _ h => h) (Or.inl ⟨by rfl, ?_⟩) ?_ ?_
                           rotate_left
                           · intro w'
                             go_simp
                             with_reducible rfl
                           rotate_left
                           · simp only [Act.put, List.setIfInBounds_toArray, List.set_cons_zero, List.set_cons_succ, i64_w, i32_w]
                             rfl
                           refine pure_ (i := 42) (N := some 165) (v := ?_) (a' := ?_) #[true, true, true, true, true, true, true, true, true, true, true, true, true, true, true, true, true, true, true, true, true, true, true, true, true, true, true, true, true, true, true, true, true, true, true, true, true, true, true, true, true, true, true, false, false, false, false, false] rfl rfl (any_of HT_.out (by kernel_rfl)) (fun _ _ _ h => h) (Or.inl ⟨by rfl, ?_⟩) ?_ ?_
                           rotate_left
                           · intro w'
                             go_simp
                             with_reducible rfl
                           rotate_left
                           · simp only [Act.put, List.setIfInBounds_toArray, List.set_cons_zero, List.set_cons_succ, i64_w, i32_w]
                             rfl
                           refine one_ (i := 43) (N := some 166) #[true, true, true, true, true, true, true, true, true, true, true, true, true, true, true, true, true, true, true, true, true, true, true, true, true, true, true, true, true, true, true, true, true, true, true, true, true, true, true, true, true, true, true, true, false, false, false, false] rfl rfl (one_of HT_.out (by kernel_rfl)) (by decide) (fun K hK => ?_)
                           refine goes_ Tryd.func14 (by kernel_rfl) rfl #[.int .i64 t189, .string ((⟨#[48]⟩ : ByteArray) ++ t211)] (by rfl) rfl rfl (by (try simp only [List.map_toArray, List.map_cons, List.map_nil]); first | done | rfl | (simp only [List.length_drop, List.length_take]; rfl)) ?_
                           with_reducible refine (impl_ParseWord.calls t189 ((⟨#[48]⟩ : ByteArray) ++ t211) t231 t232 _ ?tLtTab ?tLtErr A191.out).mono ?_
                           (case tLtTab => exact HLtTab.out.on (by repeat (first | (with_reducible first | exact HB.out | apply below_alloc | apply pw_below_drewN | apply below_drew1 | refine below_set ?_ GE193.out | refine below_set ?_ GE196.out | refine below_set ?_ GE214.out | refine below_set ?_ GE219.out) | exact HB.out))); (case tLtErr => exact HLtErr.out.on (by repeat (first | (with_reducible first | exact HB.out | apply below_alloc | apply pw_below_drewN | apply below_drew1 | refine below_set ?_ GE193.out | refine below_set ?_ GE196.out | refine below_set ?_ GE214.out | refine below_set ?_ GE219.out) | exact HB.out)))
                           rintro e w211 ⟨rfl, hb⟩
                           refine ⟨_, rfl, ?_⟩
                           have n0_ := Aside0.mk (blk_below (g := gb193) (o := .cells #[.int .i64 t191, .int .u64 t192] 46 (0, 0)) (by (with_reducible repeat (first | refine blk_drewN ?_ _ | refine blk_drew ?_ | refine blk_alloc ?_ _)); exact BK193.out) hb)
                           have n1_ := Aside0.mk (blk_below (g := gb196) (o := .cells #[.int .i64 t194, .int .u64 t195] 46 (0, 0)) (by (with_reducible repeat (first | refine blk_drewN ?_ _ | refine blk_drew ?_ | refine blk_alloc ?_ _)); exact BK196.out) hb)
                           have n2_ := Aside0.mk (blk_below (g := gb214) (o := .cells #[.bool true, .int .u64 t213] 37 (0, 0)) (by (with_reducible repeat (first | refine blk_drewN ?_ _ | refine blk_drew ?_ | refine blk_alloc ?_ _)); exact BK214.out) hb)
                           have n3_ := Aside0.mk (blk_below (g := gb219) (o := .cells #[.bool false, .int .u64 t218] 37 (0, 0)) (by (with_reducible repeat (first | refine blk_drewN ?_ _ | refine blk_drew ?_ | refine blk_alloc ?_ _)); exact BK219.out) hb)
                           have n4_ := Aside0.mk (below_step (by repeat (first | (with_reducible first | exact HB.out | apply below_alloc | apply pw_below_drewN | apply below_drew1 | refine below_set ?_ GE193.out | refine below_set ?_ GE196.out | refine below_set ?_ GE214.out | refine below_set ?_ GE219.out) | exact HB.out)) hb)
                           clear BK193
                           clear BK196
                           clear BK214
                           clear BK219
                           clear HB
                           have BK193 := n0_
                           have BK196 := n1_
                           have BK214 := n2_
                           have BK219 := n3_
                           have HB := n4_
                           clear n0_ n1_ n2_ n3_ n4_
                           (try clear hb)
                           (try clear hb2)
                           (try clear hk)
                           (try clear hi)
                           refine hK.out _ _ ⟨(blk_cell BK214.out 0).trans rfl, (blk_cell BK214.out 1).trans rfl, (blk_cell BK196.out 0).trans rfl, (blk_cell BK196.out 1).trans rfl, (blk_cell BK219.out 0).trans rfl, (blk_cell BK219.out 1).trans rfl⟩ (fun hHeld => ?_)
                           clear hK K
                           refine norm_ (a' := ?_) ?_ ?_
                           rotate_left
                           · show Act.put _ (some 166) _ = _
                             simp only [Act.put, List.setIfInBounds_toArray, List.set_cons_zero, List.set_cons_succ, i64_w, i32_w]
                             rfl
                           refine pure_ (i := 44) (N := some 167) (v := ?_) (a' := ?_) #[true, true, true, true, true, true, true, true, true, true, true, true, true, true, true, true, true, true, true, true, true, true, true, true, true, true, true, true, true, true, true, true, true, true, true, true, true, true, true, true, true, true, true, true, true, false, false, false] rfl rfl (any_of HT_.out (by kernel_rfl)) (fun _ _ _ h => h) (Or.inl ⟨by rfl, ?_⟩) ?_ ?_
                           rotate_left
                           · intro w'
                             go_simp
                             with_reducible rfl
                           rotate_left
                           · simp only [Act.put, List.setIfInBounds_toArray, List.set_cons_zero, List.set_cons_succ, i64_w, i32_w]
                             rfl
                           refine pure_ (i := 45) (N := some 168) (v := ?_) (a' := ?_) #[true, true, true, true, true, true, true, true, true, true, true, true, true, true, true, true, true, true, true, true, true, true, true, true, true, true, true, true, true, true, true, true, true, true, true, true, true, true, true, true, true, true, true, true, true, true, false, false] rfl rfl (any_of HT_.out (by kernel_rfl)) (fun _ _ _ h => h) (Or.inl ⟨by rfl, ?_⟩) ?_ ?_
                           rotate_left
                           · intro w'
                             go_simp
                             with_reducible rfl
                           rotate_left
                           · simp only [Act.put, List.setIfInBounds_toArray, List.set_cons_zero, List.set_cons_succ, i64_w, i32_w]
                             rfl
                           refine pure_ (i := 46) (N := some 169) (v := ?_) (a' := ?_) #[true, true, true, true, true, true, true, true, true, true, true, true, true, true, true, true, true, true, true, true, true, true, true, true, true, true, true, true, true, true, true, true, true, true, true, true, true, true, true, true, true, true, true, true, true, true, true, false] rfl rfl (any_of HT_.out (by kernel_rfl)) (fun _ _ _ h => h) (Or.inl ⟨by rfl, ?_⟩) ?_ ?_
                           rotate_left
                           · intro w'
                             go_simp
                             with_reducible rfl
                           rotate_left
                           · simp only [Act.put, List.setIfInBounds_toArray, List.set_cons_zero, List.set_cons_succ, i64_w, i32_w]
                             rfl
                           refine pure_ (i := 47) (N := some 2) (v := ?_) (a' := ?_) #[true, true, true, true, true, true, true, true, true, true, true, true, true, true, true, true, true, true, true, true, true, true, true, true, true, true, true, true, true, true, true, true, true, true, true, true, true, true, true, true, true, true, true, true, true, true, true, true] rfl rfl (any_of HT_.out (by kernel_rfl)) (fun _ _ _ h => h) (Or.inl ⟨by rfl, ?_⟩) ?_ ?_
                           rotate_left
                           · intro w'
                             go_simp
                             with_reducible rfl
                           rotate_left
                           · simp only [Act.put, List.setIfInBounds_toArray, List.set_cons_zero, List.set_cons_succ, i64_w, i32_w]
                             rfl
                           refine done_ (done_of HT_.out (by kernel_rfl)) ?_
                           try go_wp2
                           go_ret
                           exact ⟨by first | rfl | (simp [errW_none, errW_some] <;> rfl) | (simp [*, errW_none, errW_some] <;> rfl), by repeat (first | (with_reducible first | exact HB.out | apply below_alloc | apply pw_below_drewN | apply below_drew1 | refine below_set ?_ GE193.out | refine below_set ?_ GE196.out | refine below_set ?_ GE214.out | refine below_set ?_ GE219.out) | exact HB.out)⟩
                         · rw [if_neg c190] at H
                           exact absurd H (by simp)
                     · rw [if_neg c168] at H
                       exact absurd H (by simp)
                   · rw [if_neg c167] at H
                     have c167b0 : (false == t227) = false := by simpa using c167
                     (try (have c167b1 : decide (false = t227) = false := by simpa using c167))
                     (try (have c167b2 : (false == t227) = false := by simpa using c167))
                     (try (have c167b3 : ¬ (false = t227) := by simpa using c167))
                     clear c167
                     exact Bool.noConfusion ((Option.some.inj H).trans hr_.out)
               · rw [if_neg c77] at H
                 have c77b0 : (t213 == t195) = false := beq_eq_false_iff_ne.mpr c77
                 have c77b1 : (t213 != t195) = true := bne_iff_ne.mpr c77
                 exact Bool.noConfusion ((Option.some.inj H).trans hr_.out)
             · replace c76 := Bool.eq_false_iff.mpr c76
               subst c76
               have H1 : (some false) = some r := by rw [if_neg (show ¬ (false = true) by decide)] at H; exact H
               clear H
               have H := H1
               clear H1
               exact Bool.noConfusion ((Option.some.inj H).trans hr_.out)
           · rw [if_neg c70] at H
             have c70b0 : (t208 == t210) = false := beq_eq_false_iff_ne.mpr c70
             have c70b1 : (t208 != t210) = true := bne_iff_ne.mpr c70
             exact Bool.noConfusion ((Option.some.inj H).trans hr_.out)

/-- THE ONE PURE STATEMENT of laws_FnCasts: yours. -/
def laws_FnCasts.Pure : Prop := ∀ (l0 : List Int), l0.length ≤ maxLen → l0.length * 1 ≤ 140737488351232 → (∀ x ∈ l0, (Lit.int .u8 x).wf = true) → ∃ k, laws_FnCasts.f k l0 = some true
end Go.Proofs.YtkohjiajbdkcbaaDoor.All


/- Plain laws of the printed functions: eventually (Ev), step by step; loops over a list. -/
namespace Go.Proofs.YtkohjiajbdkcbaaDoor.All
open Go.RowKit Go.Proofs.YtkohjiajbdkcbaaDoorW.PrintWords Go.Proofs.YtkohjiajbdkcbaaDoorW.PrintLast Go.Proofs.YtkohjiajbdkcbaaDoorW.PrintMore
set_option linter.unusedVariables false
set_option linter.unusedSimpArgs false
theorem Ev.succ {α : Type} {g : Nat → Option α} {r : α} (h : Ev (fun k => g (k + 1)) r) : Ev g r := by
  obtain ⟨K, hK⟩ := h
  refine ⟨K + 1, fun k hk => ?_⟩
  obtain ⟨m, rfl⟩ : ∃ m, k = m + 1 := ⟨k - 1, by omega⟩
  exact hK m (by omega)
theorem Ev.pos {α : Type} {c : Prop} [Decidable c] {g h : Nat → Option α} {r : α} (hc : c) (k : Ev g r) : Ev (fun n => if c then g n else h n) r := Ev.congr (fun n => if_pos hc) k
theorem Ev.neg {α : Type} {c : Prop} [Decidable c] {g h : Nat → Option α} {r : α} (hc : ¬ c) (k : Ev h r) : Ev (fun n => if c then g n else h n) r := Ev.congr (fun n => if_neg hc) k
theorem Ev.some_bind {α β : Type} {a : α} {f : Nat → α → Option β} {r : β} (k : Ev (fun n => f n a) r) : Ev (fun n => (some a).bind (f n)) r := k
theorem Ev.eq_bind {α β : Type} {o : Option α} {a : α} {f : Nat → α → Option β} {r : β} (h : o = some a) (k : Ev (fun n => f n a) r) : Ev (fun n => o.bind (f n)) r := by subst h; exact k
theorem Ev.some {α : Type} {a r : α} (h : a = r) : Ev (fun _ => some a) r := h ▸ Ev.now a
theorem wrap64_id {x : Int} (h1 : -9223372036854775808 ≤ x) (h2 : x ≤ 9223372036854775807) : wrap64 x = x := by unfold wrap64; omega
theorem wrap64_nat {i : Nat} (h : i < 9223372036854775807) : wrap64 ((i : Int) + 1) = ((i + 1 : Nat) : Int) := by rw [wrap64_id (by omega) (by omega)]; rfl
theorem getD_eq {α : Type} {xs : List α} {i : Nat} (h : i < xs.length) (z : α) : xs.getD i z = xs[i] := by rw [List.getD_eq_getElem?_getD, List.getElem?_eq_getElem h]; rfl
end Go.Proofs.YtkohjiajbdkcbaaDoor.All


/- Plain laws of words: widths, cuts, signs. -/
namespace Go.Proofs.YtkohjiajbdkcbaaDoor.All
open Go.RowKit Go.Proofs.YtkohjiajbdkcbaaDoorW.PrintWords Go.Proofs.YtkohjiajbdkcbaaDoorW.PrintLast Go.Proofs.YtkohjiajbdkcbaaDoorW.PrintMore
set_option linter.unusedVariables false
set_option linter.unusedSimpArgs false
def VW (w : Int) : Prop := w = 1 ∨ w = 8 ∨ w = 16 ∨ w = 32 ∨ w = 64
instance (w : Int) : Decidable (VW w) := by unfold VW; exact inferInstance
def pw (w : Int) : Int := if w = 1 then 2 else if w = 8 then 256 else if w = 16 then 65536 else if w = 32 then 4294967296 else 18446744073709551616
def cutW (w v : Int) : Int := v % pw w
def sgnW (w v : Int) : Int := if pw w ≤ 2 * v then v - pw w else v
theorem validI_f (w : Int) : impl_ValidWidth.f w = some (decide (VW w)) := by
  by_cases h : VW w
  · rw [decide_eq_true h]
    rcases h with rfl | rfl | rfl | rfl | rfl <;> rfl
  · rw [decide_eq_false h]
    unfold VW at h
    unfold impl_ValidWidth.f
    rw [if_neg (by omega), if_neg (by omega), if_neg (by omega), if_neg (by omega), beq_eq_false_iff_ne.mpr (by omega)]
theorem validS_f (w : Int) : spec_ValidWidth.f w = some (decide (VW w)) := by
  by_cases h : VW w
  · rw [decide_eq_true h]
    rcases h with rfl | rfl | rfl | rfl | rfl <;> rfl
  · rw [decide_eq_false h]
    unfold VW at h
    unfold spec_ValidWidth.f
    rw [if_neg (by omega), if_neg (by omega), if_neg (by omega), if_neg (by omega), beq_eq_false_iff_ne.mpr (by omega)]
theorem maskI_f {w : Int} (h : VW w) : impl_mask.f w = some (pw w - 1) := by
  rcases h with rfl | rfl | rfl | rfl | rfl <;> kernel_rfl
theorem maskS_f {w : Int} (h : VW w) : spec_l1Mask.f w = some (pw w - 1) := by
  rcases h with rfl | rfl | rfl | rfl | rfl <;> kernel_rfl
theorem and_mask {w v : Int} (h : VW w) (h0 : 0 ≤ v) (h1 : v < 18446744073709551616) : Go.bits .and .u64 v (pw w - 1) = cutW w v := by
  obtain ⟨n, rfl⟩ : ∃ n : Nat, v = (n : Int) := ⟨v.toNat, by omega⟩
  have key : ∀ k : Nat, n &&& (2 ^ k - 1) = n % 2 ^ k := fun k => Nat.and_two_pow_sub_one_eq_mod n k
  rcases h with rfl | rfl | rfl | rfl | rfl
  · rw [show pw 1 - 1 = ((2 ^ 1 - 1 : Nat) : Int) from rfl, u64_and_nat _ _ (by omega) (by decide), key 1]; rfl
  · rw [show pw 8 - 1 = ((2 ^ 8 - 1 : Nat) : Int) from rfl, u64_and_nat _ _ (by omega) (by decide), key 8]; rfl
  · rw [show pw 16 - 1 = ((2 ^ 16 - 1 : Nat) : Int) from rfl, u64_and_nat _ _ (by omega) (by decide), key 16]; rfl
  · rw [show pw 32 - 1 = ((2 ^ 32 - 1 : Nat) : Int) from rfl, u64_and_nat _ _ (by omega) (by decide), key 32]; rfl
  · rw [show pw 64 - 1 = ((2 ^ 64 - 1 : Nat) : Int) from rfl, u64_and_nat _ _ (by omega) (by decide), key 64]; rfl
theorem hi_zero {n k : Nat} (hk : k ≤ 64) (hn : n < 18446744073709551616) : n &&& (2 ^ 64 - ((2 ^ k - 1) + 1)) = 0 ↔ n < 2 ^ k := by
  have hp : 2 ^ k - 1 < 2 ^ 64 := Nat.lt_of_lt_of_le (Nat.sub_lt (Nat.two_pow_pos k) (by decide)) (Nat.pow_le_pow_right (by decide) hk)
  constructor
  · intro h
    rcases Nat.lt_or_ge n (2 ^ k) with hl | hl
    · exact hl
    · obtain ⟨i, hi, hb⟩ := Nat.exists_ge_and_testBit_of_ge_two_pow hl
      have hi64 : i < 64 := by
        rcases Nat.lt_or_ge i 64 with h2 | h2
        · exact h2
        · have := Nat.testBit_lt_two_pow (x := n) (i := i) (Nat.lt_of_lt_of_le hn (Nat.pow_le_pow_right (n := 2) (by decide) h2))
          rw [this] at hb; cases hb
      have h3 : (n &&& (2 ^ 64 - ((2 ^ k - 1) + 1))).testBit i = true := by
        rw [Nat.testBit_and, hb, Nat.testBit_two_pow_sub_succ hp, Nat.testBit_two_pow_sub_one]
        simp only [Bool.true_and, Bool.and_eq_true, decide_eq_true_eq, Bool.not_eq_true', decide_eq_false_iff_not]
        omega
      rw [h] at h3
      simp at h3
  · intro h
    apply Nat.eq_of_testBit_eq
    intro i
    rw [Nat.testBit_and, Nat.testBit_two_pow_sub_succ hp, Nat.testBit_two_pow_sub_one, Nat.zero_testBit]
    by_cases hi : i < k
    · simp [hi]
    · have := Nat.testBit_lt_two_pow (x := n) (i := i) (Nat.lt_of_lt_of_le h (Nat.pow_le_pow_right (n := 2) (by decide) (by omega)))
      simp [this]
theorem not_mask {w v : Int} (h : VW w) (h0 : 0 ≤ v) (h1 : v < 18446744073709551616) : (Go.bits .andNot .u64 v (pw w - 1) == 0) = decide (v < pw w) := by
  obtain ⟨n, rfl⟩ : ∃ n : Nat, v = (n : Int) := ⟨v.toNat, by omega⟩
  have hn : n < 18446744073709551616 := by omega
  rw [Bool.eq_iff_iff, beq_iff_eq, decide_eq_true_eq]
  rcases h with rfl | rfl | rfl | rfl | rfl
  · rw [show pw 1 - 1 = ((2 ^ 1 - 1 : Nat) : Int) from rfl, u64_andNot_nat _ _ hn (by decide)]
    have := hi_zero (k := 1) (n := n) (by decide) hn
    rw [show (18446744073709551615 - (2 ^ 1 - 1) : Nat) = 2 ^ 64 - ((2 ^ 1 - 1) + 1) from rfl]
    rw [show pw 1 = ((2 ^ 1 : Nat) : Int) from rfl]
    omega
  · rw [show pw 8 - 1 = ((2 ^ 8 - 1 : Nat) : Int) from rfl, u64_andNot_nat _ _ hn (by decide)]
    have := hi_zero (k := 8) (n := n) (by decide) hn
    rw [show (18446744073709551615 - (2 ^ 8 - 1) : Nat) = 2 ^ 64 - ((2 ^ 8 - 1) + 1) from rfl]
    rw [show pw 8 = ((2 ^ 8 : Nat) : Int) from rfl]
    omega
  · rw [show pw 16 - 1 = ((2 ^ 16 - 1 : Nat) : Int) from rfl, u64_andNot_nat _ _ hn (by decide)]
    have := hi_zero (k := 16) (n := n) (by decide) hn
    rw [show (18446744073709551615 - (2 ^ 16 - 1) : Nat) = 2 ^ 64 - ((2 ^ 16 - 1) + 1) from rfl]
    rw [show pw 16 = ((2 ^ 16 : Nat) : Int) from rfl]
    omega
  · rw [show pw 32 - 1 = ((2 ^ 32 - 1 : Nat) : Int) from rfl, u64_andNot_nat _ _ hn (by decide)]
    have := hi_zero (k := 32) (n := n) (by decide) hn
    rw [show (18446744073709551615 - (2 ^ 32 - 1) : Nat) = 2 ^ 64 - ((2 ^ 32 - 1) + 1) from rfl]
    rw [show pw 32 = ((2 ^ 32 : Nat) : Int) from rfl]
    omega
  · rw [show pw 64 - 1 = ((2 ^ 64 - 1 : Nat) : Int) from rfl, u64_andNot_nat _ _ hn (by decide)]
    have := hi_zero (k := 64) (n := n) (by decide) hn
    rw [show (18446744073709551615 - (2 ^ 64 - 1) : Nat) = 2 ^ 64 - ((2 ^ 64 - 1) + 1) from rfl]
    rw [show pw 64 = ((2 ^ 64 : Nat) : Int) from rfl]
    omega
theorem pw_pos (w : Int) : 2 ≤ pw w ∧ pw w ≤ 18446744073709551616 := by unfold pw; repeat' split <;> omega
theorem cutW_range (w v : Int) : 0 ≤ cutW w v ∧ cutW w v < pw w := by have := pw_pos w; unfold cutW; exact ⟨Int.emod_nonneg _ (by omega), Int.emod_lt_of_pos _ (by omega)⟩
theorem cutI_f {w v : Int} (h : VW w) (h0 : 0 ≤ v) (h1 : v < 18446744073709551616) : impl_Cut.f w v = some (cutW w v) := by
  unfold impl_Cut.f
  rw [validI_f, decide_eq_true h]; simp only [Option.bind_some, if_true]
  rw [maskI_f h]; simp only [Option.bind_some]
  rw [and_mask h h0 h1]
theorem cutS_f {w v : Int} (h : VW w) (h0 : 0 ≤ v) (h1 : v < 18446744073709551616) : spec_Cut.f w v = some (cutW w v) := by
  unfold spec_Cut.f
  rw [validS_f, decide_eq_true h]; simp only [Option.bind_some, if_true]
  rw [maskS_f h]; simp only [Option.bind_some]
  rw [and_mask h h0 h1]
theorem cutW_self {w v : Int} (h0 : 0 ≤ v) : v = cutW w v ↔ v < pw w := by
  have := cutW_range w v
  constructor
  · intro e; omega
  · intro h; unfold cutW; rw [Int.emod_eq_of_lt h0 h]
theorem isI_f {w v : Int} (h0 : 0 ≤ v) (h1 : v < 18446744073709551616) : impl_isWord.f w v = some (decide (VW w ∧ v < pw w)) := by
  unfold impl_isWord.f
  rw [validI_f]
  by_cases h : VW w
  · rw [decide_eq_true h]; simp only [Option.bind_some, if_true]
    rw [maskI_f h]; simp only [Option.bind_some]
    rw [not_mask h h0 h1]
    congr 1
    simp [h]
  · rw [decide_eq_false h]
    simp [h]
theorem isS_f {w v : Int} (h0 : 0 ≤ v) (h1 : v < 18446744073709551616) : spec_l1Is.f w v = some (decide (VW w ∧ v < pw w)) := by
  unfold spec_l1Is.f
  rw [validS_f]
  by_cases h : VW w
  · rw [decide_eq_true h]; simp only [Option.bind_some, if_true]
    rw [cutS_f h h0 h1]; simp only [Option.bind_some]
    congr 1
    rw [Bool.eq_iff_iff, beq_iff_eq, decide_eq_true_eq, cutW_self h0]
    simp [h]
  · rw [decide_eq_false h]
    simp [h]
theorem sgnI_f {w v : Int} (h : VW w) (h0 : 0 ≤ v) (h1 : v < pw w) : impl_Signed.f w v = some (sgnW w v) := by
  have hp := pw_pos w
  unfold impl_Signed.f
  rw [isI_f h0 (by omega), decide_eq_true ⟨h, h1⟩]; simp only [Option.bind_some, if_true]
  unfold sgnW
  rcases h with rfl | rfl | rfl | rfl | rfl
  · rw [show wrap64 (64 - 1) = 63 from by kernel_rfl, if_pos (by decide)]
    rw [show pw 1 = 2 from rfl] at h1 ⊢
    congr 1
    unfold shr shl
    rw [show min (63 : Int).toNat IntKind.i64.bits = 63 from rfl, show min (63 : Int).toNat IntKind.u64.bits = 63 from rfl, IntKind.wrap_u64, show (2 : Int) ^ 63 = 9223372036854775808 from by decide]
    unfold wrap64
    split <;> omega
  · rw [show wrap64 (64 - 8) = 56 from by kernel_rfl, if_pos (by decide)]
    rw [show pw 8 = 256 from rfl] at h1 ⊢
    congr 1
    unfold shr shl
    rw [show min (56 : Int).toNat IntKind.i64.bits = 56 from rfl, show min (56 : Int).toNat IntKind.u64.bits = 56 from rfl, IntKind.wrap_u64, show (2 : Int) ^ 56 = 72057594037927936 from by decide]
    unfold wrap64
    split <;> omega
  · rw [show wrap64 (64 - 16) = 48 from by kernel_rfl, if_pos (by decide)]
    rw [show pw 16 = 65536 from rfl] at h1 ⊢
    congr 1
    unfold shr shl
    rw [show min (48 : Int).toNat IntKind.i64.bits = 48 from rfl, show min (48 : Int).toNat IntKind.u64.bits = 48 from rfl, IntKind.wrap_u64, show (2 : Int) ^ 48 = 281474976710656 from by decide]
    unfold wrap64
    split <;> omega
  · rw [show wrap64 (64 - 32) = 32 from by kernel_rfl, if_pos (by decide)]
    rw [show pw 32 = 4294967296 from rfl] at h1 ⊢
    congr 1
    unfold shr shl
    rw [show min (32 : Int).toNat IntKind.i64.bits = 32 from rfl, show min (32 : Int).toNat IntKind.u64.bits = 32 from rfl, IntKind.wrap_u64, show (2 : Int) ^ 32 = 4294967296 from by decide]
    unfold wrap64
    split <;> omega
  · rw [show wrap64 (64 - 64) = 0 from by kernel_rfl, if_pos (by decide)]
    rw [show pw 64 = 18446744073709551616 from rfl] at h1 ⊢
    congr 1
    unfold shr shl
    rw [show min (0 : Int).toNat IntKind.i64.bits = 0 from rfl, show min (0 : Int).toNat IntKind.u64.bits = 0 from rfl, IntKind.wrap_u64, show (2 : Int) ^ 0 = 1 from by decide]
    unfold wrap64
    split <;> omega
theorem topS_f {w v : Int} (h : VW w) (h0 : 0 ≤ v) (h1 : v < pw w) : spec_l1Top.f w v = some (decide (pw w ≤ 2 * v)) := by
  unfold spec_l1Top.f
  rcases h with rfl | rfl | rfl | rfl | rfl
  · rw [show IntKind.u64.wrap (wrap64 (1 - 1)) = 0 from by kernel_rfl, if_pos (by decide)]
    rw [show pw 1 = 2 from rfl] at h1 ⊢
    congr 1
    unfold shr
    rw [show min (0 : Int).toNat IntKind.u64.bits = 0 from rfl, show (2 : Int) ^ 0 = 1 from by decide, Bool.eq_iff_iff, beq_iff_eq, decide_eq_true_eq]
    omega
  · rw [show IntKind.u64.wrap (wrap64 (8 - 1)) = 7 from by kernel_rfl, if_pos (by decide)]
    rw [show pw 8 = 256 from rfl] at h1 ⊢
    congr 1
    unfold shr
    rw [show min (7 : Int).toNat IntKind.u64.bits = 7 from rfl, show (2 : Int) ^ 7 = 128 from by decide, Bool.eq_iff_iff, beq_iff_eq, decide_eq_true_eq]
    omega
  · rw [show IntKind.u64.wrap (wrap64 (16 - 1)) = 15 from by kernel_rfl, if_pos (by decide)]
    rw [show pw 16 = 65536 from rfl] at h1 ⊢
    congr 1
    unfold shr
    rw [show min (15 : Int).toNat IntKind.u64.bits = 15 from rfl, show (2 : Int) ^ 15 = 32768 from by decide, Bool.eq_iff_iff, beq_iff_eq, decide_eq_true_eq]
    omega
  · rw [show IntKind.u64.wrap (wrap64 (32 - 1)) = 31 from by kernel_rfl, if_pos (by decide)]
    rw [show pw 32 = 4294967296 from rfl] at h1 ⊢
    congr 1
    unfold shr
    rw [show min (31 : Int).toNat IntKind.u64.bits = 31 from rfl, show (2 : Int) ^ 31 = 2147483648 from by decide, Bool.eq_iff_iff, beq_iff_eq, decide_eq_true_eq]
    omega
  · rw [show IntKind.u64.wrap (wrap64 (64 - 1)) = 63 from by kernel_rfl, if_pos (by decide)]
    rw [show pw 64 = 18446744073709551616 from rfl] at h1 ⊢
    congr 1
    unfold shr
    rw [show min (63 : Int).toNat IntKind.u64.bits = 63 from rfl, show (2 : Int) ^ 63 = 9223372036854775808 from by decide, Bool.eq_iff_iff, beq_iff_eq, decide_eq_true_eq]
    omega
theorem or_hi {n k : Nat} (hk : k ≤ 64) (hn : n < 2 ^ k) : n ||| (2 ^ 64 - 2 ^ k) = n + (2 ^ 64 - 2 ^ k) := by
  have h := Nat.two_pow_add_eq_or_of_lt hn (2 ^ (64 - k) - 1)
  have e : 2 ^ k * (2 ^ (64 - k) - 1) = 2 ^ 64 - 2 ^ k := by
    rw [Nat.mul_sub, ← Nat.pow_add, Nat.mul_one, show k + (64 - k) = 64 by omega]
  rw [e] at h
  rw [Nat.or_comm, ← h, Nat.add_comm]
theorem sgnS_f {w v : Int} (h : VW w) (h0 : 0 ≤ v) (h1 : v < pw w) : spec_Signed.f w v = some (sgnW w v) := by
  have hp := pw_pos w
  unfold spec_Signed.f
  rw [isS_f h0 (by omega), decide_eq_true ⟨h, h1⟩]; simp only [Option.bind_some, if_true]
  rw [topS_f h h0 h1]; simp only [Option.bind_some]
  unfold sgnW
  by_cases c : pw w ≤ 2 * v
  · rw [decide_eq_true c, if_pos rfl, if_pos c, maskS_f h]; simp only [Option.bind_some]
    congr 1
    obtain ⟨n, rfl⟩ : ∃ n : Nat, v = (n : Int) := ⟨v.toNat, by omega⟩
    rcases h with rfl | rfl | rfl | rfl | rfl
    · rw [show pw 1 = ((2 ^ 1 : Nat) : Int) from rfl] at h1 c ⊢
      have hn : n < 2 ^ 1 := by omega
      rw [show (((2 ^ 1 : Nat) : Int) - 1) = ((2 ^ 1 - 1 : Nat) : Int) from rfl, show (18446744073709551615 : Int) = ((18446744073709551615 : Nat) : Int) from rfl, u64_xor_nat _ _ (by decide) (by decide), show (18446744073709551615 ^^^ (2 ^ 1 - 1) : Nat) = 2 ^ 64 - 2 ^ 1 from rfl, u64_or_nat _ _ (by omega) (by decide), or_hi (by decide) hn]
      unfold wrap64
      omega
    · rw [show pw 8 = ((2 ^ 8 : Nat) : Int) from rfl] at h1 c ⊢
      have hn : n < 2 ^ 8 := by omega
      rw [show (((2 ^ 8 : Nat) : Int) - 1) = ((2 ^ 8 - 1 : Nat) : Int) from rfl, show (18446744073709551615 : Int) = ((18446744073709551615 : Nat) : Int) from rfl, u64_xor_nat _ _ (by decide) (by decide), show (18446744073709551615 ^^^ (2 ^ 8 - 1) : Nat) = 2 ^ 64 - 2 ^ 8 from rfl, u64_or_nat _ _ (by omega) (by decide), or_hi (by decide) hn]
      unfold wrap64
      omega
    · rw [show pw 16 = ((2 ^ 16 : Nat) : Int) from rfl] at h1 c ⊢
      have hn : n < 2 ^ 16 := by omega
      rw [show (((2 ^ 16 : Nat) : Int) - 1) = ((2 ^ 16 - 1 : Nat) : Int) from rfl, show (18446744073709551615 : Int) = ((18446744073709551615 : Nat) : Int) from rfl, u64_xor_nat _ _ (by decide) (by decide), show (18446744073709551615 ^^^ (2 ^ 16 - 1) : Nat) = 2 ^ 64 - 2 ^ 16 from rfl, u64_or_nat _ _ (by omega) (by decide), or_hi (by decide) hn]
      unfold wrap64
      omega
    · rw [show pw 32 = ((2 ^ 32 : Nat) : Int) from rfl] at h1 c ⊢
      have hn : n < 2 ^ 32 := by omega
      rw [show (((2 ^ 32 : Nat) : Int) - 1) = ((2 ^ 32 - 1 : Nat) : Int) from rfl, show (18446744073709551615 : Int) = ((18446744073709551615 : Nat) : Int) from rfl, u64_xor_nat _ _ (by decide) (by decide), show (18446744073709551615 ^^^ (2 ^ 32 - 1) : Nat) = 2 ^ 64 - 2 ^ 32 from rfl, u64_or_nat _ _ (by omega) (by decide), or_hi (by decide) hn]
      unfold wrap64
      omega
    · rw [show pw 64 = ((2 ^ 64 : Nat) : Int) from rfl] at h1 c ⊢
      have hn : n < 2 ^ 64 := by omega
      rw [show (((2 ^ 64 : Nat) : Int) - 1) = ((2 ^ 64 - 1 : Nat) : Int) from rfl, show (18446744073709551615 : Int) = ((18446744073709551615 : Nat) : Int) from rfl, u64_xor_nat _ _ (by decide) (by decide), show (18446744073709551615 ^^^ (2 ^ 64 - 1) : Nat) = 2 ^ 64 - 2 ^ 64 from rfl, u64_or_nat _ _ (by omega) (by decide), or_hi (by decide) hn]
      unfold wrap64
      omega
  · rw [decide_eq_false c, if_neg (by decide), if_neg c]
    congr 1
    unfold wrap64
    omega
theorem sgnW_range {w v : Int} (h0 : 0 ≤ v) (h1 : v < pw w) : -9223372036854775808 ≤ sgnW w v ∧ sgnW w v ≤ 9223372036854775807 := by
  have hp := pw_pos w
  unfold sgnW
  split <;> omega
theorem sgnW_mod {w v : Int} (h0 : 0 ≤ v) (h1 : v < pw w) : sgnW w v % pw w = v := by
  have hp := pw_pos w
  unfold sgnW
  split
  · rw [Int.sub_emod_right]; exact Int.emod_eq_of_lt h0 h1
  · exact Int.emod_eq_of_lt h0 h1
theorem size_f {n : Int} (h0 : -9223372036854775808 ≤ n) (h1 : n ≤ 9223372036854775807) : spec_l1Size.f n = some (n.natAbs : Int) := by
  unfold spec_l1Size.f
  rw [IntKind.wrap_u64, IntKind.wrap_u64, IntKind.wrap_u64]
  unfold wrap64
  split <;> (congr 1; omega)
end Go.Proofs.YtkohjiajbdkcbaaDoor.All


namespace Go.Proofs.YtkohjiajbdkcbaaDoor.All
open Go.RowKit Go.Proofs.YtkohjiajbdkcbaaDoorW.PrintWords Go.Proofs.YtkohjiajbdkcbaaDoorW.PrintLast Go.Proofs.YtkohjiajbdkcbaaDoorW.PrintMore
attribute [local go_sem] max2_int min2_int max_two min_two max_three min_three max_four min_four   -- for this text's walks alone
set_option linter.unusedVariables false
set_option linter.unusedSimpArgs false

/-! ### spec_l3Int: function 60 -/
end Go.Proofs.YtkohjiajbdkcbaaDoor.All


/- A text out of its bytes; the texts of an outcome. -/
namespace Go.Proofs.YtkohjiajbdkcbaaDoor.All
open Go.RowKit Go.Proofs.YtkohjiajbdkcbaaDoorW.PrintWords Go.Proofs.YtkohjiajbdkcbaaDoorW.PrintLast Go.Proofs.YtkohjiajbdkcbaaDoorW.PrintMore
set_option linter.unusedVariables false
set_option linter.unusedSimpArgs false
def bsOf (l : List UInt8) : ByteArray := ⟨l.toArray⟩
theorem bsOf_append (a b : List UInt8) : bsOf a ++ bsOf b = bsOf (a ++ b) := by
  apply ByteArray.ext
  rw [ByteArray.data_append]
  simp [bsOf]
theorem bsOf_size (a : List UInt8) : (bsOf a).size = a.length := by simp [bsOf, ByteArray.size]
end Go.Proofs.YtkohjiajbdkcbaaDoor.All


/- Plain laws of decimal texts: what is written, and what is read. -/
namespace Go.Proofs.YtkohjiajbdkcbaaDoor.All
open Go.RowKit Go.Proofs.YtkohjiajbdkcbaaDoorW.PrintWords Go.Proofs.YtkohjiajbdkcbaaDoorW.PrintLast Go.Proofs.YtkohjiajbdkcbaaDoorW.PrintMore
set_option linter.unusedVariables false
set_option linter.unusedSimpArgs false
theorem bsOf_toList (a : List UInt8) : (bsOf a).toList = a := by rw [ByteArray.toList_eq]; simp [bsOf]
theorem digit_str {d : Int} (h0 : 0 ≤ d) (h1 : d < 10) : strOfNums ([(IntKind.u64.wrap (48 + d)) % 256] : List Int) = bsOf [UInt8.ofNat (48 + d.toNat)] := by
  have e : (IntKind.u64.wrap (48 + d)) % 256 = 48 + d := by rw [IntKind.wrap_u64]; omega
  rw [e]
  unfold strOfNums bsOf
  simp only [List.map_cons, List.map_nil]
  rw [show (48 + d).toNat = 48 + d.toNat by omega]
theorem decDigits_small {u : Nat} (h : u < 10) : Lib.decDigits u = [UInt8.ofNat (48 + u)] := by rw [Lib.decDigits, dif_pos h]
theorem decDigits_big {u : Nat} (h : ¬ u < 10) : Lib.decDigits u = Lib.decDigits (u / 10) ++ [UInt8.ofNat (48 + u % 10)] := by rw [Lib.decDigits, dif_neg h]
theorem decDigits_len {u : Nat} (h : u < 18446744073709551616) : (Lib.decDigits u).length ≤ 20 := by rw [Lib.decDigits_length]; exact Lib.nDigits_le20 u h
theorem l1Decimal_f : ∀ (u : Nat), u < 18446744073709551616 → Ev (fun k => spec_l1Decimal.f k (u : Int)) (bsOf (Lib.decDigits u)) := by
  intro u
  induction u using Nat.strongRecOn with
  | _ u ih =>
    intro h
    refine Ev.succ ?_
    simp only [spec_l1Decimal.f]
    by_cases c : u < 10
    · refine Ev.pos (by omega) (Ev.some ?_)
      rw [digit_str (by omega) (by omega), decDigits_small c]; rfl
    · refine Ev.neg (by omega) ?_
      have e1 : IntKind.u64.wrap (Int.tdiv (u : Int) 10) = ((u / 10 : Nat) : Int) := by
        rw [IntKind.wrap_u64, Int.tdiv_eq_ediv_of_nonneg (by omega)]; omega
      have e2 : Int.tmod (u : Int) 10 = ((u % 10 : Nat) : Int) := by
        rw [Int.tmod_eq_emod_of_nonneg (by omega)]; rfl
      rw [e1, e2]
      refine Ev.bind (ih (u / 10) (by omega) (by omega)) (Ev.some_bind ?_)
      rw [digit_str (by omega) (by omega), Int.toNat_natCast, bsOf_append]
      have hl := decDigits_len (u := u / 10) (by omega)
      refine Ev.pos (by rw [bsOf_size, bsOf_size]; simp; omega) (Ev.some ?_)
      rw [decDigits_big c]
/-- The number that a word of a width says. -/
def numW (w v : Int) : Int := if w = 1 then v else sgnW w v
def fmtW (w v : Int) : ByteArray := bsOf (Lib.itoa (numW w v))
theorem itoa_pos {n : Int} (h : 0 ≤ n) : Lib.itoa n = Lib.decDigits n.toNat := by unfold Lib.itoa; rw [if_neg (by omega)]
theorem itoa_neg {n : Int} (h : n < 0) : Lib.itoa n = 45 :: Lib.decDigits n.natAbs := by unfold Lib.itoa; rw [if_pos h]
theorem numW_range {w v : Int} (h0 : 0 ≤ v) (h1 : v < pw w) : -9223372036854775808 ≤ numW w v ∧ numW w v ≤ 9223372036854775807 := by
  unfold numW
  split
  · rename_i e; subst e; rw [show pw 1 = 2 from rfl] at h1; omega
  · exact sgnW_range h0 h1
theorem numW_mod {w v : Int} (h0 : 0 ≤ v) (h1 : v < pw w) : numW w v % pw w = v := by
  unfold numW
  split
  · exact Int.emod_eq_of_lt h0 h1
  · exact sgnW_mod h0 h1
theorem fmtI_f {w v : Int} (h : VW w) (h0 : 0 ≤ v) (h1 : v < pw w) : impl_FormatWord.f w v = some (fmtW w v) := by
  have hp := pw_pos w
  unfold impl_FormatWord.f
  rw [isI_f h0 (by omega), decide_eq_true ⟨h, h1⟩]; simp only [Option.bind_some, if_true]
  unfold fmtW numW
  by_cases c : w = 1
  · subst c
    rw [show pw 1 = 2 from rfl] at h1
    rw [if_pos rfl, if_pos rfl]
    unfold strconv_FormatUint_50.f
    rw [if_pos h0, if_pos (by omega), if_pos rfl, itoa_pos h0]; rfl
  · have hr := sgnW_range h0 h1
    rw [if_neg c, if_neg c, sgnI_f h h0 h1]; simp only [Option.bind_some]
    unfold strconv_FormatInt_39.f
    rw [if_pos hr.1, if_pos hr.2, if_pos rfl]; rfl
theorem fmtS_f {w v : Int} (h : VW w) (h0 : 0 ≤ v) (h1 : v < pw w) : Ev (fun k => spec_FormatWord.f k w v) (fmtW w v) := by
  have hp := pw_pos w
  have hr := sgnW_range h0 h1
  obtain ⟨n, rfl⟩ : ∃ n : Nat, v = (n : Int) := ⟨v.toNat, by omega⟩
  unfold spec_FormatWord.f
  rw [isS_f h0 (by omega), decide_eq_true ⟨h, h1⟩]; simp only [Option.bind_some, if_true]
  rw [sgnS_f h h0 h1]; simp only [Option.bind_some]
  unfold fmtW numW
  have plain : Ev (fun k => spec_FormatWord.j0 k (n : Int) (sgnW w n) false) (bsOf (Lib.decDigits n)) := by
    refine Ev.succ ?_
    simp only [spec_FormatWord.j0]
    exact Ev.neg (by decide) (Ev.bind (l1Decimal_f n (by omega)) (Ev.now _))
  by_cases c : w = 1
  · subst c
    rw [if_pos rfl, itoa_pos h0, Int.toNat_natCast]
    exact Ev.neg (by decide) plain
  · have hw : 1 < w := by unfold VW at h; omega
    rw [if_neg c]
    refine Ev.pos hw ?_
    by_cases cn : sgnW w n < 0
    · rw [decide_eq_true cn, itoa_neg cn]
      refine Ev.succ ?_
      simp only [spec_FormatWord.j0]
      refine Ev.pos trivial ?_
      rw [size_f hr.1 hr.2]
      refine Ev.some_bind (Ev.bind (l1Decimal_f _ (by omega)) ?_)
      have hl := decDigits_len (u := (sgnW w n).natAbs) (by omega)
      refine Ev.pos (by rw [bsOf_size]; omega) (Ev.some ?_)
      exact bsOf_append [45] _
    · have e : sgnW w n = n := by unfold sgnW at cn ⊢; split <;> omega
      rw [decide_eq_false cn]
      rw [show Lib.itoa (sgnW w n) = Lib.decDigits n by rw [e, itoa_pos h0, Int.toNat_natCast]]
      exact plain
theorem fmtW_len {w v : Int} (h0 : 0 ≤ v) (h1 : v < pw w) : (Lib.itoa (numW w v)).length ≤ 21 := by
  have := numW_range h0 h1
  exact Lib.itoa_length_le _ this.1 this.2
end Go.Proofs.YtkohjiajbdkcbaaDoor.All

