/- Part 5 of the proof of FnExactDisassemble: functions of the translation with what they return, and plain laws of these. Written by programs of this session over the kit's print, and by hand. -/
import Derived.Test.YtkohjiajbdkcbaaDoorProg
import Derived.Test.YtkohjiajbdkcbaaDoorCFnExactDisassembleWApart
import Derived.Test.YtkohjiajbdkcbaaDoorCFnExactDisassembleWArr
import Derived.Test.YtkohjiajbdkcbaaDoorCFnExactDisassembleWFoot
import Derived.Test.YtkohjiajbdkcbaaDoorCFnExactDisassembleWGuard
import Derived.Test.YtkohjiajbdkcbaaDoorCFnExactDisassembleWKept
import Derived.Test.YtkohjiajbdkcbaaDoorCFnExactDisassembleWLast
import Derived.Test.YtkohjiajbdkcbaaDoorCFnExactDisassembleWMore
import Derived.Test.YtkohjiajbdkcbaaDoorCFnExactDisassembleWN
import Derived.Test.YtkohjiajbdkcbaaDoorCFnExactDisassembleWNEv
import Derived.Test.YtkohjiajbdkcbaaDoorCFnExactDisassembleWQPut
import Derived.Test.YtkohjiajbdkcbaaDoorCFnExactDisassembleWRepsOne
import Derived.Test.YtkohjiajbdkcbaaDoorCFnExactDisassembleWShare
import Derived.Test.YtkohjiajbdkcbaaDoorCFnExactDisassembleWTab
import Derived.Test.YtkohjiajbdkcbaaDoorCFnExactDisassembleWWords
import Derived.Test.YtkohjiajbdkcbaaDoorCFnExactDisassembleWZeros
import Derived.Below
import Derived.Deep.Draws
import Derived.Deep.AppendLies
import Derived.Maps.AppendAt
import Derived.OwnWalk
import Derived.Laws.BytesArg
import Derived.Laws.MakeOwn
import Derived.Laws.OwnMore
import Derived.Deep.OwnRows
import Derived.Tactics
import Derived.Lib.ConvBytes
import Derived.Laws.Slices
import Derived.WalkKit
import Derived.KernelRfl
import Derived.RowKit3
import Derived.Deep.LoopGhost
import Derived.Deep.QuietTactic
import Derived.BigQuiet
import Derived.WideLaws
import Derived.Deep.DeepCutAuto
import Derived.Deep.CutBlock
import Derived.Deep.RegionHeld3
import Derived.Laws.Rows
import Derived.Lib.AppendStr
import Derived.ArgAppend
import Derived.Laws.IdiomCopy
import Derived.OrdersHeld
import Derived.Laws.BitsLemmas
import Derived.RowKit
import Derived.Lib.LaidTab
import Derived.Lib.ItoaNum
import Derived.Sort.Grow
import Derived.Lib.ItoaLen
import Derived.Shelf.Strings.Builder1
import Derived.Lib.Builder
import Derived.Shelf.LaysM
import Derived.Shelf.LaysC
import Derived.Shelf.Strconv.Itoa4
import Derived.Shelf.Strconv.Itoa3
import Derived.Shelf.Strconv.Itoa1
import Derived.Laws.BitsAllLaws
import Derived.Lib.ParseIntBCases
import Derived.Deep.Slices
import Derived.ChangeArms
import Derived.OpenShut
import Derived.Stop.LaidErr
import Derived.LaidMore
import Derived.ProofKit
import Derived.ShutString
import Derived.ChangeOld
import Derived.SizedLaws
import Derived.Deep.DeepHandedRow
import Derived.Deep.DeepWitnessRowRef
import Derived.SevenTiedAt
import Derived.Test.YtkohjiajbdkcbaaDoorCFnExactDisassemble1
import Derived.Test.YtkohjiajbdkcbaaDoorCFnExactDisassemble2
import Derived.Test.YtkohjiajbdkcbaaDoorCFnExactDisassemble3
import Derived.Test.YtkohjiajbdkcbaaDoorCFnExactDisassemble4
namespace Go.Proofs.YtkohjiajbdkcbaaDoor.All
open Go.RowKit Go.Proofs.YtkohjiajbdkcbaaDoorW.PrintWords Go.Proofs.YtkohjiajbdkcbaaDoorW.PrintLast Go.Proofs.YtkohjiajbdkcbaaDoorW.PrintMore
attribute [local go_sem] max2_int min2_int max_two min_two max_three min_three max_four min_four   -- for this text's walks alone
set_option linter.unusedVariables false
set_option linter.unusedSimpArgs false

/-! ### laws_FnExactDisassemble: function 6 -/
def laws_FnExactDisassemble.f (k : Nat) (l0_0 : List Int) (l0_1 : List Int) (a0_2 : Int) (l0_3 : List Int) (a0_4 : Int) (l0_5 : List (S135)) : Option (Bool) := (laws_szImage.f k l0_0 l0_1 a0_2 l0_3 a0_4 l0_5 1048576).bind fun t375 => (if t375 < 0 then (some true) else ((laws_toImage.f k l0_0 l0_1 a0_2 l0_3 a0_4 l0_5).bind fun bt376 => ((spec_Disassemble.f k bt376.1 bt376.2.1 bt376.2.2.1 bt376.2.2.2.1 bt376.2.2.2.2.1 bt376.2.2.2.2.2).bind fun t390 => ((laws_toImage.f k l0_0 l0_1 a0_2 l0_3 a0_4 l0_5).bind fun bt391 => ((impl_Disassemble.f k bt391.1 bt391.2.1 bt391.2.2.1 bt391.2.2.2.1 bt391.2.2.2.2.1 bt391.2.2.2.2.2).bind fun t406 => (if t406.toList = t390.toList then ((laws_toImage.f k l0_0 l0_1 a0_2 l0_3 a0_4 l0_5).bind fun bt407 => ((laws_eqImage.f k bt391.1 bt391.2.1 bt391.2.2.1 bt391.2.2.2.1 bt391.2.2.2.2.1 bt391.2.2.2.2.2 bt407.1 bt407.2.1 bt407.2.2.1 bt407.2.2.2.1 bt407.2.2.2.2.1 bt407.2.2.2.2.2).bind fun t421 => (if t421 = true then (some true) else (some false)))) else (some false)))))))
set_option maxHeartbeats 8000000 in
set_option maxRecDepth 100000 in
theorem laws_FnExactDisassemble.calls (k : Nat) (A0_0 : Option Addr) (c0_0 : Nat) (l0_0 : List Int) (A0_1 : Option Addr) (c0_1 : Nat) (l0_1 : List Int) (a0_2 : Int) (A0_3 : Option Addr) (c0_3 : Nat) (l0_3 : List Int) (a0_4 : Int) (A0_5 : Option Addr) (c0_5 : Nat) (l0_5 : List (S135)) (r : Bool) (w : World) (hLtTab : LtTab w) (hr0_0 : Kd.C (Kd.int .u8) w A0_0 l0_0.length l0_0) (hc0_0 : l0_0.length ≤ c0_0) (hr0_1 : Kd.C (Kd.int .u8) w A0_1 l0_1.length l0_1) (hc0_1 : l0_1.length ≤ c0_1) (hr0_3 : Kd.C (Kd.int .i64) w A0_3 l0_3.length l0_3) (hc0_3 : l0_3.length ≤ c0_3) (hr0_5 : Kd.C k135 w A0_5 l0_5.length l0_5) (hc0_5 : l0_5.length ≤ c0_5) (h : laws_FnExactDisassemble.f k l0_0 l0_1 a0_2 l0_3 a0_4 l0_5 = some r) :
 Calls Tryd.prog 6 #[.agg #[.slice A0_0 l0_0.length c0_0, .slice A0_1 l0_1.length c0_1, .int .i64 a0_2, .slice A0_3 l0_3.length c0_3, .int .i64 a0_4, .slice A0_5 l0_5.length c0_5]] w fun e w' => e = .returned (.bool r) ∧ Below w.heap.size w w' := by
 have HLtTab := Aside0.mk hLtTab
 clear hLtTab
 have hu55 := Tryd.underlying55
 have hu60 := Tryd.underlying60
 have HR0_0 := Aside0.mk hr0_0
 have HC0_0 := Aside0.mk hc0_0
 clear hr0_0 hc0_0
 have HR0_1 := Aside0.mk hr0_1
 have HC0_1 := Aside0.mk hc0_1
 clear hr0_1 hc0_1
 have HR0_3 := Aside0.mk hr0_3
 have HC0_3 := Aside0.mk hc0_3
 clear hr0_3 hc0_3
 have HR0_5 := Aside0.mk hr0_5
 have HC0_5 := Aside0.mk hc0_5
 clear hr0_5 hc0_5
 have HB := Aside0.mk (Below.refl w.heap.size w)
 have H : ((laws_szImage.f k l0_0 l0_1 a0_2 l0_3 a0_4 l0_5 1048576).bind fun t375 => (if t375 < 0 then (some true) else ((laws_toImage.f k l0_0 l0_1 a0_2 l0_3 a0_4 l0_5).bind fun bt376 => ((spec_Disassemble.f k bt376.1 bt376.2.1 bt376.2.2.1 bt376.2.2.2.1 bt376.2.2.2.2.1 bt376.2.2.2.2.2).bind fun t390 => ((laws_toImage.f k l0_0 l0_1 a0_2 l0_3 a0_4 l0_5).bind fun bt391 => ((impl_Disassemble.f k bt391.1 bt391.2.1 bt391.2.2.1 bt391.2.2.2.1 bt391.2.2.2.2.1 bt391.2.2.2.2.2).bind fun t406 => (if t406.toList = t390.toList then ((laws_toImage.f k l0_0 l0_1 a0_2 l0_3 a0_4 l0_5).bind fun bt407 => ((laws_eqImage.f k bt391.1 bt391.2.1 bt391.2.2.1 bt391.2.2.2.1 bt391.2.2.2.2.1 bt391.2.2.2.2.2 bt407.1 bt407.2.1 bt407.2.2.1 bt407.2.2.2.1 bt407.2.2.2.2.1 bt407.2.2.2.2.2).bind fun t421 => (if t421 = true then (some true) else (some false)))) else (some false)))))))) = some r := h
 clear h
 replace H := Option.bind_eq_some_iff.mp H
 obtain ⟨t375, A20, H⟩ := H
 replace H : (if t375 < 0 then (some true) else ((laws_toImage.f k l0_0 l0_1 a0_2 l0_3 a0_4 l0_5).bind fun bt376 => ((spec_Disassemble.f k bt376.1 bt376.2.1 bt376.2.2.1 bt376.2.2.2.1 bt376.2.2.2.2.1 bt376.2.2.2.2.2).bind fun t390 => ((laws_toImage.f k l0_0 l0_1 a0_2 l0_3 a0_4 l0_5).bind fun bt391 => ((impl_Disassemble.f k bt391.1 bt391.2.1 bt391.2.2.1 bt391.2.2.2.1 bt391.2.2.2.2.1 bt391.2.2.2.2.2).bind fun t406 => (if t406.toList = t390.toList then ((laws_toImage.f k l0_0 l0_1 a0_2 l0_3 a0_4 l0_5).bind fun bt407 => ((laws_eqImage.f k bt391.1 bt391.2.1 bt391.2.2.1 bt391.2.2.2.1 bt391.2.2.2.2.1 bt391.2.2.2.2.2 bt407.1 bt407.2.1 bt407.2.2.1 bt407.2.2.2.1 bt407.2.2.2.2.1 bt407.2.2.2.2.2).bind fun t421 => (if t421 = true then (some true) else (some false)))) else (some false))))))) = some r := H
 have A2 := Aside0.mk A20
 clear A20
 by_cases c3 : t375 < 0
 · rw [if_pos c3] at H
   have c3b0 : decide (t375 < 0) = true := decide_eq_true c3
   clear c3
   obtain rfl := Option.some.inj H
   go_enter Tryd.func6, Tryd.ntmps6
   go_wp2_with (first | ((with_reducible refine gate_dst (N := 1) rfl ?_); refine box_event ?hg (N := 1) ?hd (cs := #[.slice A0_0 l0_0.length c0_0, .slice A0_1 l0_1.length c0_1, .int .i64 a0_2, .slice A0_3 l0_3.length c0_3, .int .i64 a0_4, .slice A0_5 l0_5.length c0_5]) (t := 55) ?hr ?_; (case hd => rfl); (case hg => rfl); (case hr => first | (go_simp; done) | (go_simp; rfl)); intro gb374 hg w4 hbox hb; have n0_ := Aside0.mk (below_step (by repeat (first | (with_reducible first | exact HB.out | apply below_alloc | apply pw_below_drewN | apply below_drew1) | exact HB.out)) hb); have n1_ := Aside0.mk (hbox); have n2_ := Aside0.mk ((by rw [hg]; exact (below_size (by repeat (first | (with_reducible first | exact HB.out | apply below_alloc | apply pw_below_drewN | apply below_drew1) | exact HB.out))) : w.heap.size ≤ gb374)); have n3_ := Aside0.mk ((by rw [hg]; exact (below_size (by repeat (first | (with_reducible first | exact HB.out | apply below_alloc | apply pw_below_drewN | apply below_drew1) | exact HB.out))) : w.heap.size ≤ gb374)); clear HB; have HB := n0_; have BK374 := n1_; have GW374 := n2_; have GE374 := n3_; clear n0_ n1_ n2_ n3_; clear hb hbox hg; have hcz5_0 : w4.cell? ⟨gb374, 0, none⟩ = some (.slice A0_0 l0_0.length c0_0) := (blk_cell BK374.out 0).trans rfl; have hcz5_1 : w4.cell? ⟨gb374, 1, none⟩ = some (.slice A0_1 l0_1.length c0_1) := (blk_cell BK374.out 1).trans rfl; have hcz5_2 : w4.cell? ⟨gb374, 2, none⟩ = some (.int .i64 a0_2) := (blk_cell BK374.out 2).trans rfl; have hcz5_3 : w4.cell? ⟨gb374, 3, none⟩ = some (.slice A0_3 l0_3.length c0_3) := (blk_cell BK374.out 3).trans rfl; have hcz5_4 : w4.cell? ⟨gb374, 4, none⟩ = some (.int .i64 a0_4) := (blk_cell BK374.out 4).trans rfl; have hcz5_5 : w4.cell? ⟨gb374, 5, none⟩ = some (.slice A0_5 l0_5.length c0_5) := (blk_cell BK374.out 5).trans rfl; have hfz5_0 := blk_frozen BK374.out 0; have hfz5_1 := blk_frozen BK374.out 1; have hfz5_2 := blk_frozen BK374.out 2; have hfz5_3 := blk_frozen BK374.out 3; have hfz5_4 := blk_frozen BK374.out 4; have hfz5_5 := blk_frozen BK374.out 5) | ((with_reducible refine gate_callee (f := 24) rfl ?_); refine goesL_ (some 9) rfl rfl Tryd.func24 (by kernel_rfl) rfl #[.agg #[.slice A0_0 l0_0.length c0_0, .slice A0_1 l0_1.length c0_1, .int .i64 a0_2, .slice A0_3 l0_3.length c0_3, .int .i64 a0_4, .slice A0_5 l0_5.length c0_5], .int .i64 1048576] rfl (by (try simp only [List.map_toArray, List.map_cons, List.map_nil]); first | done | rfl | (simp only [List.length_drop, List.length_take]; rfl)) ?_; (with_reducible refine (laws_szImage.calls k _ _ l0_0 _ _ l0_1 a0_2 _ _ l0_3 a0_4 _ _ l0_5 1048576 t375 _ ?side1 ?side2 ?side3 ?side4 ?side5 ?side6 ?side7 ?side8 A2.out).mono ?_); (case side1 => repeat (first | exact (Kd.C_below HR0_0.out HB.out) | (with_reducible refine Kd.C_alloc ?_ _) | (with_reducible refine Kd.C_drewN ?_ _) | (with_reducible refine Kd.C_drew ?_))); (case side2 => exact HC0_0.out); (case side3 => repeat (first | exact (Kd.C_below HR0_1.out HB.out) | (with_reducible refine Kd.C_alloc ?_ _) | (with_reducible refine Kd.C_drewN ?_ _) | (with_reducible refine Kd.C_drew ?_))); (case side4 => exact HC0_1.out); (case side5 => repeat (first | exact (Kd.C_below HR0_3.out HB.out) | (with_reducible refine Kd.C_alloc ?_ _) | (with_reducible refine Kd.C_drewN ?_ _) | (with_reducible refine Kd.C_drew ?_))); (case side6 => exact HC0_3.out); (case side7 => repeat (first | exact (Kd.C_below HR0_5.out HB.out) | (with_reducible refine Kd.C_alloc ?_ _) | (with_reducible refine Kd.C_drewN ?_ _) | (with_reducible refine Kd.C_drew ?_))); (case side8 => exact HC0_5.out); rintro e w6 ⟨rfl, hb⟩; refine ⟨_, rfl, ?_⟩; have n0_ := Aside0.mk (blk_below (g := gb374) (o := .cells #[.slice A0_0 l0_0.length c0_0, .slice A0_1 l0_1.length c0_1, .int .i64 a0_2, .slice A0_3 l0_3.length c0_3, .int .i64 a0_4, .slice A0_5 l0_5.length c0_5] 55 (0, 0)) (by (with_reducible repeat (first | refine blk_drewN ?_ _ | refine blk_drew ?_ | refine blk_alloc ?_ _)); exact BK374.out) hb); have n1_ := Aside0.mk (below_step (by repeat (first | (with_reducible first | exact HB.out | apply below_alloc | apply pw_below_drewN | apply below_drew1 | refine below_set ?_ GE374.out) | exact HB.out)) hb); clear BK374; clear HB; have BK374 := n0_; have HB := n1_; clear n0_ n1_; (try clear hb); (try clear hb2); (try clear hk); (try clear hi)))
   go_ret
   exact ⟨by first | rfl | (simp [errW_none, errW_some] <;> rfl) | (simp [*, errW_none, errW_some] <;> rfl), by repeat (first | (with_reducible first | exact HB.out | apply below_alloc | apply pw_below_drewN | apply below_drew1 | refine below_set ?_ GE374.out) | exact HB.out)⟩
 · rw [if_neg c3] at H
   have c3b0 : decide (t375 < 0) = false := decide_eq_false c3
   clear c3
   replace H := Option.bind_eq_some_iff.mp H
   obtain ⟨⟨t376, t379, t382, t383, t386, t387⟩, A70, H⟩ := H
   replace H : ((spec_Disassemble.f k t376 t379 t382 t383 t386 t387).bind fun t390 => ((laws_toImage.f k l0_0 l0_1 a0_2 l0_3 a0_4 l0_5).bind fun bt391 => ((impl_Disassemble.f k bt391.1 bt391.2.1 bt391.2.2.1 bt391.2.2.2.1 bt391.2.2.2.2.1 bt391.2.2.2.2.2).bind fun t406 => (if t406.toList = t390.toList then ((laws_toImage.f k l0_0 l0_1 a0_2 l0_3 a0_4 l0_5).bind fun bt407 => ((laws_eqImage.f k bt391.1 bt391.2.1 bt391.2.2.1 bt391.2.2.2.1 bt391.2.2.2.2.1 bt391.2.2.2.2.2 bt407.1 bt407.2.1 bt407.2.2.1 bt407.2.2.2.1 bt407.2.2.2.2.1 bt407.2.2.2.2.2).bind fun t421 => (if t421 = true then (some true) else (some false)))) else (some false))))) = some r := H
   have A7 := Aside0.mk A70
   clear A70
   replace H := Option.bind_eq_some_iff.mp H
   obtain ⟨t390, A80, H⟩ := H
   replace H : ((laws_toImage.f k l0_0 l0_1 a0_2 l0_3 a0_4 l0_5).bind fun bt391 => ((impl_Disassemble.f k bt391.1 bt391.2.1 bt391.2.2.1 bt391.2.2.2.1 bt391.2.2.2.2.1 bt391.2.2.2.2.2).bind fun t406 => (if t406.toList = t390.toList then ((laws_toImage.f k l0_0 l0_1 a0_2 l0_3 a0_4 l0_5).bind fun bt407 => ((laws_eqImage.f k bt391.1 bt391.2.1 bt391.2.2.1 bt391.2.2.2.1 bt391.2.2.2.2.1 bt391.2.2.2.2.2 bt407.1 bt407.2.1 bt407.2.2.1 bt407.2.2.2.1 bt407.2.2.2.2.1 bt407.2.2.2.2.2).bind fun t421 => (if t421 = true then (some true) else (some false)))) else (some false)))) = some r := H
   have A8 := Aside0.mk A80
   clear A80
   replace H := Option.bind_eq_some_iff.mp H
   obtain ⟨⟨t391, t394, t397, t398, t401, t402⟩, A90, H⟩ := H
   replace H : ((impl_Disassemble.f k t391 t394 t397 t398 t401 t402).bind fun t406 => (if t406.toList = t390.toList then ((laws_toImage.f k l0_0 l0_1 a0_2 l0_3 a0_4 l0_5).bind fun bt407 => ((laws_eqImage.f k t391 t394 t397 t398 t401 t402 bt407.1 bt407.2.1 bt407.2.2.1 bt407.2.2.2.1 bt407.2.2.2.2.1 bt407.2.2.2.2.2).bind fun t421 => (if t421 = true then (some true) else (some false)))) else (some false))) = some r := H
   have A9 := Aside0.mk A90
   clear A90
   replace H := Option.bind_eq_some_iff.mp H
   obtain ⟨t406, A100, H⟩ := H
   replace H : (if t406.toList = t390.toList then ((laws_toImage.f k l0_0 l0_1 a0_2 l0_3 a0_4 l0_5).bind fun bt407 => ((laws_eqImage.f k t391 t394 t397 t398 t401 t402 bt407.1 bt407.2.1 bt407.2.2.1 bt407.2.2.2.1 bt407.2.2.2.2.1 bt407.2.2.2.2.2).bind fun t421 => (if t421 = true then (some true) else (some false)))) else (some false)) = some r := H
   have A10 := Aside0.mk A100
   clear A100
   by_cases c11 : t406.toList = t390.toList
   · rw [if_pos c11] at H
     have c11b0 : (t406.toList == t390.toList) = true := beq_iff_eq.mpr c11
     have c11b1 : (t406.toList != t390.toList) = false := bne_eq_false_iff_eq.mpr c11
     clear c11
     replace H := Option.bind_eq_some_iff.mp H
     obtain ⟨⟨t407, t410, t413, t414, t417, t418⟩, A120, H⟩ := H
     replace H : ((laws_eqImage.f k t391 t394 t397 t398 t401 t402 t407 t410 t413 t414 t417 t418).bind fun t421 => (if t421 = true then (some true) else (some false))) = some r := H
     have A12 := Aside0.mk A120
     clear A120
     replace H := Option.bind_eq_some_iff.mp H
     obtain ⟨t421, A130, H⟩ := H
     replace H : (if t421 = true then (some true) else (some false)) = some r := H
     have A13 := Aside0.mk A130
     clear A130
     by_cases c14 : t421 = true
     · subst c14
       have H1 : (some true) = some r := by rw [if_pos rfl] at H; exact H
       clear H
       have H := H1
       clear H1
       obtain rfl := Option.some.inj H
       go_enter Tryd.func6, Tryd.ntmps6
       try go_wp2_with (first | ((with_reducible refine gate_dst (N := 1) rfl ?_); refine box_event ?hg (N := 1) ?hd (cs := #[.slice A0_0 l0_0.length c0_0, .slice A0_1 l0_1.length c0_1, .int .i64 a0_2, .slice A0_3 l0_3.length c0_3, .int .i64 a0_4, .slice A0_5 l0_5.length c0_5]) (t := 55) ?hr ?_; (case hd => rfl); (case hg => rfl); (case hr => first | (go_simp; done) | (go_simp; rfl)); intro gb374 hg w15 hbox hb; have n0_ := Aside0.mk (below_step (by repeat (first | (with_reducible first | exact HB.out | apply below_alloc | apply pw_below_drewN | apply below_drew1) | exact HB.out)) hb); have n1_ := Aside0.mk (hbox); have n2_ := Aside0.mk ((by rw [hg]; exact (below_size (by repeat (first | (with_reducible first | exact HB.out | apply below_alloc | apply pw_below_drewN | apply below_drew1) | exact HB.out))) : w.heap.size ≤ gb374)); have n3_ := Aside0.mk ((by rw [hg]; exact (below_size (by repeat (first | (with_reducible first | exact HB.out | apply below_alloc | apply pw_below_drewN | apply below_drew1) | exact HB.out))) : w.heap.size ≤ gb374)); clear HB; have HB := n0_; have BK374 := n1_; have GW374 := n2_; have GE374 := n3_; clear n0_ n1_ n2_ n3_; clear hb hbox hg; have hcz16_0 : w15.cell? ⟨gb374, 0, none⟩ = some (.slice A0_0 l0_0.length c0_0) := (blk_cell BK374.out 0).trans rfl; have hcz16_1 : w15.cell? ⟨gb374, 1, none⟩ = some (.slice A0_1 l0_1.length c0_1) := (blk_cell BK374.out 1).trans rfl; have hcz16_2 : w15.cell? ⟨gb374, 2, none⟩ = some (.int .i64 a0_2) := (blk_cell BK374.out 2).trans rfl; have hcz16_3 : w15.cell? ⟨gb374, 3, none⟩ = some (.slice A0_3 l0_3.length c0_3) := (blk_cell BK374.out 3).trans rfl; have hcz16_4 : w15.cell? ⟨gb374, 4, none⟩ = some (.int .i64 a0_4) := (blk_cell BK374.out 4).trans rfl; have hcz16_5 : w15.cell? ⟨gb374, 5, none⟩ = some (.slice A0_5 l0_5.length c0_5) := (blk_cell BK374.out 5).trans rfl; have hfz16_0 := blk_frozen BK374.out 0; have hfz16_1 := blk_frozen BK374.out 1; have hfz16_2 := blk_frozen BK374.out 2; have hfz16_3 := blk_frozen BK374.out 3; have hfz16_4 := blk_frozen BK374.out 4; have hfz16_5 := blk_frozen BK374.out 5) | ((with_reducible refine gate_callee (f := 24) rfl ?_); refine goesL_ (some 9) rfl rfl Tryd.func24 (by kernel_rfl) rfl #[.agg #[.slice A0_0 l0_0.length c0_0, .slice A0_1 l0_1.length c0_1, .int .i64 a0_2, .slice A0_3 l0_3.length c0_3, .int .i64 a0_4, .slice A0_5 l0_5.length c0_5], .int .i64 1048576] rfl (by (try simp only [List.map_toArray, List.map_cons, List.map_nil]); first | done | rfl | (simp only [List.length_drop, List.length_take]; rfl)) ?_; (with_reducible refine (laws_szImage.calls k _ _ l0_0 _ _ l0_1 a0_2 _ _ l0_3 a0_4 _ _ l0_5 1048576 t375 _ ?side1 ?side2 ?side3 ?side4 ?side5 ?side6 ?side7 ?side8 A2.out).mono ?_); (case side1 => repeat (first | exact (Kd.C_below HR0_0.out HB.out) | (with_reducible refine Kd.C_alloc ?_ _) | (with_reducible refine Kd.C_drewN ?_ _) | (with_reducible refine Kd.C_drew ?_))); (case side2 => exact HC0_0.out); (case side3 => repeat (first | exact (Kd.C_below HR0_1.out HB.out) | (with_reducible refine Kd.C_alloc ?_ _) | (with_reducible refine Kd.C_drewN ?_ _) | (with_reducible refine Kd.C_drew ?_))); (case side4 => exact HC0_1.out); (case side5 => repeat (first | exact (Kd.C_below HR0_3.out HB.out) | (with_reducible refine Kd.C_alloc ?_ _) | (with_reducible refine Kd.C_drewN ?_ _) | (with_reducible refine Kd.C_drew ?_))); (case side6 => exact HC0_3.out); (case side7 => repeat (first | exact (Kd.C_below HR0_5.out HB.out) | (with_reducible refine Kd.C_alloc ?_ _) | (with_reducible refine Kd.C_drewN ?_ _) | (with_reducible refine Kd.C_drew ?_))); (case side8 => exact HC0_5.out); rintro e w17 ⟨rfl, hb⟩; refine ⟨_, rfl, ?_⟩; have n0_ := Aside0.mk (blk_below (g := gb374) (o := .cells #[.slice A0_0 l0_0.length c0_0, .slice A0_1 l0_1.length c0_1, .int .i64 a0_2, .slice A0_3 l0_3.length c0_3, .int .i64 a0_4, .slice A0_5 l0_5.length c0_5] 55 (0, 0)) (by (with_reducible repeat (first | refine blk_drewN ?_ _ | refine blk_drew ?_ | refine blk_alloc ?_ _)); exact BK374.out) hb); have n1_ := Aside0.mk (below_step (by repeat (first | (with_reducible first | exact HB.out | apply below_alloc | apply pw_below_drewN | apply below_drew1 | refine below_set ?_ GE374.out) | exact HB.out)) hb); clear BK374; clear HB; have BK374 := n0_; have HB := n1_; clear n0_ n1_; (try clear hb); (try clear hb2); (try clear hk); (try clear hi); have hcz18_0 : w17.cell? ⟨gb374, 0, none⟩ = some (.slice A0_0 l0_0.length c0_0) := (blk_cell BK374.out 0).trans rfl; have hcz18_1 : w17.cell? ⟨gb374, 1, none⟩ = some (.slice A0_1 l0_1.length c0_1) := (blk_cell BK374.out 1).trans rfl; have hcz18_2 : w17.cell? ⟨gb374, 2, none⟩ = some (.int .i64 a0_2) := (blk_cell BK374.out 2).trans rfl; have hcz18_3 : w17.cell? ⟨gb374, 3, none⟩ = some (.slice A0_3 l0_3.length c0_3) := (blk_cell BK374.out 3).trans rfl; have hcz18_4 : w17.cell? ⟨gb374, 4, none⟩ = some (.int .i64 a0_4) := (blk_cell BK374.out 4).trans rfl; have hcz18_5 : w17.cell? ⟨gb374, 5, none⟩ = some (.slice A0_5 l0_5.length c0_5) := (blk_cell BK374.out 5).trans rfl; have hfz18_0 := blk_frozen BK374.out 0; have hfz18_1 := blk_frozen BK374.out 1; have hfz18_2 := blk_frozen BK374.out 2; have hfz18_3 := blk_frozen BK374.out 3; have hfz18_4 := blk_frozen BK374.out 4; have hfz18_5 := blk_frozen BK374.out 5) | ((with_reducible refine gate_callee (f := 26) rfl ?_); refine goesL_ (some 13) rfl rfl Tryd.func26 (by kernel_rfl) rfl #[.agg #[.slice A0_0 l0_0.length c0_0, .slice A0_1 l0_1.length c0_1, .int .i64 a0_2, .slice A0_3 l0_3.length c0_3, .int .i64 a0_4, .slice A0_5 l0_5.length c0_5]] rfl (by (try simp only [List.map_toArray, List.map_cons, List.map_nil]); first | done | rfl | (simp only [List.length_drop, List.length_take]; rfl)) ?_; (with_reducible refine (laws_toImage.calls k _ _ l0_0 _ _ l0_1 a0_2 _ _ l0_3 a0_4 _ _ l0_5 t376 t379 t382 t383 t386 t387 _ ?side1 ?side2 ?side3 ?side4 ?side5 ?side6 ?side7 ?side8 A7.out).mono ?_); (case side1 => repeat (first | exact (Kd.C_below HR0_0.out HB.out) | (with_reducible refine Kd.C_alloc ?_ _) | (with_reducible refine Kd.C_drewN ?_ _) | (with_reducible refine Kd.C_drew ?_))); (case side2 => exact HC0_0.out); (case side3 => repeat (first | exact (Kd.C_below HR0_1.out HB.out) | (with_reducible refine Kd.C_alloc ?_ _) | (with_reducible refine Kd.C_drewN ?_ _) | (with_reducible refine Kd.C_drew ?_))); (case side4 => exact HC0_1.out); (case side5 => repeat (first | exact (Kd.C_below HR0_3.out HB.out) | (with_reducible refine Kd.C_alloc ?_ _) | (with_reducible refine Kd.C_drewN ?_ _) | (with_reducible refine Kd.C_drew ?_))); (case side6 => exact HC0_3.out); (case side7 => repeat (first | exact (Kd.C_below HR0_5.out HB.out) | (with_reducible refine Kd.C_alloc ?_ _) | (with_reducible refine Kd.C_drewN ?_ _) | (with_reducible refine Kd.C_drew ?_))); (case side8 => exact HC0_5.out); rintro e w19 ⟨v377, v380, v384, v388, rfl, ho0, ho1, ho2, ho3, hb⟩; refine ⟨_, rfl, ?_⟩; have n0_ := Aside0.mk (Kd.R_lower ho0 (below_size (by repeat (first | (with_reducible first | exact HB.out | apply below_alloc | apply pw_below_drewN | apply below_drew1 | refine below_set ?_ GE374.out) | exact HB.out)))); have n1_ := Aside0.mk (Kd.R_lower ho1 (below_size (by repeat (first | (with_reducible first | exact HB.out | apply below_alloc | apply pw_below_drewN | apply below_drew1 | refine below_set ?_ GE374.out) | exact HB.out)))); have n2_ := Aside0.mk (Kd.R_lower ho2 (below_size (by repeat (first | (with_reducible first | exact HB.out | apply below_alloc | apply pw_below_drewN | apply below_drew1 | refine below_set ?_ GE374.out) | exact HB.out)))); have n3_ := Aside0.mk (Kd.R_lower ho3 (below_size (by repeat (first | (with_reducible first | exact HB.out | apply below_alloc | apply pw_below_drewN | apply below_drew1 | refine below_set ?_ GE374.out) | exact HB.out)))); have n4_ := Aside0.mk (blk_below (g := gb374) (o := .cells #[.slice A0_0 l0_0.length c0_0, .slice A0_1 l0_1.length c0_1, .int .i64 a0_2, .slice A0_3 l0_3.length c0_3, .int .i64 a0_4, .slice A0_5 l0_5.length c0_5] 55 (0, 0)) (by (with_reducible repeat (first | refine blk_drewN ?_ _ | refine blk_drew ?_ | refine blk_alloc ?_ _)); exact BK374.out) hb); have n5_ := Aside0.mk (below_step (by repeat (first | (with_reducible first | exact HB.out | apply below_alloc | apply pw_below_drewN | apply below_drew1 | refine below_set ?_ GE374.out) | exact HB.out)) hb); clear BK374; clear HB; have HO378 := n0_; have HO381 := n1_; have HO385 := n2_; have HO389 := n3_; have BK374 := n4_; have HB := n5_; clear n0_ n1_ n2_ n3_ n4_ n5_; (try clear hb); (try clear hb2); (try clear hk); (try clear hi); (try clear ho0); (try clear ho1); (try clear ho2); (try clear ho3); obtain ⟨Ao20, co20, eo20⟩ := Kd.R_slice HO378.out; subst eo20; obtain ⟨Ao21, co21, eo21⟩ := Kd.R_slice HO381.out; subst eo21; obtain ⟨Ao22, co22, eo22⟩ := Kd.R_slice HO385.out; subst eo22; obtain ⟨Ao23, co23, eo23⟩ := Kd.R_slice HO389.out; subst eo23) | ((with_reducible refine gate_callee (f := 25) rfl ?_); refine goesL_ (some 14) rfl rfl Tryd.func25 (by kernel_rfl) rfl #[.agg #[.slice Ao20 t376.length co20, .slice Ao21 t379.length co21, .int .i64 t382, .slice Ao22 t383.length co22, .int .i64 t386, .slice Ao23 t387.length co23]] rfl (by (try simp only [List.map_toArray, List.map_cons, List.map_nil]); first | done | rfl | (simp only [List.length_drop, List.length_take]; rfl)) ?_; (with_reducible refine (spec_Disassemble.calls k _ _ t376 _ _ t379 t382 _ _ t383 t386 _ _ t387 t390 _ ?side1 ?side2 ?side3 ?side4 ?side5 ?side6 ?side7 ?side8 A8.out).mono ?_); (case side1 => repeat (first | exact (Kd.R_reads' HO378.out).2.2 | (with_reducible refine Kd.C_alloc ?_ _) | (with_reducible refine Kd.C_drewN ?_ _) | (with_reducible refine Kd.C_drew ?_))); (case side2 => exact (Kd.R_reads' HO378.out).2.1); (case side3 => repeat (first | exact (Kd.R_reads' HO381.out).2.2 | (with_reducible refine Kd.C_alloc ?_ _) | (with_reducible refine Kd.C_drewN ?_ _) | (with_reducible refine Kd.C_drew ?_))); (case side4 => exact (Kd.R_reads' HO381.out).2.1); (case side5 => repeat (first | exact (Kd.R_reads' HO385.out).2.2 | (with_reducible refine Kd.C_alloc ?_ _) | (with_reducible refine Kd.C_drewN ?_ _) | (with_reducible refine Kd.C_drew ?_))); (case side6 => exact (Kd.R_reads' HO385.out).2.1); (case side7 => repeat (first | exact (Kd.R_reads' HO389.out).2.2 | (with_reducible refine Kd.C_alloc ?_ _) | (with_reducible refine Kd.C_drewN ?_ _) | (with_reducible refine Kd.C_drew ?_))); (case side8 => exact (Kd.R_reads' HO389.out).2.1); rintro e w24 ⟨rfl, hb⟩; refine ⟨_, rfl, ?_⟩; have n0_ := Aside0.mk (Kd.R_below (by (with_reducible repeat (first | apply Kd.R_alloc | apply Kd.R_drewN | apply Kd.R_drew)); exact HO378.out) hb); have n1_ := Aside0.mk (Kd.R_below (by (with_reducible repeat (first | apply Kd.R_alloc | apply Kd.R_drewN | apply Kd.R_drew)); exact HO381.out) hb); have n2_ := Aside0.mk (Kd.R_below (by (with_reducible repeat (first | apply Kd.R_alloc | apply Kd.R_drewN | apply Kd.R_drew)); exact HO385.out) hb); have n3_ := Aside0.mk (Kd.R_below (by (with_reducible repeat (first | apply Kd.R_alloc | apply Kd.R_drewN | apply Kd.R_drew)); exact HO389.out) hb); have n4_ := Aside0.mk (blk_below (g := gb374) (o := .cells #[.slice A0_0 l0_0.length c0_0, .slice A0_1 l0_1.length c0_1, .int .i64 a0_2, .slice A0_3 l0_3.length c0_3, .int .i64 a0_4, .slice A0_5 l0_5.length c0_5] 55 (0, 0)) (by (with_reducible repeat (first | refine blk_drewN ?_ _ | refine blk_drew ?_ | refine blk_alloc ?_ _)); exact BK374.out) hb); have n5_ := Aside0.mk (below_step (by repeat (first | (with_reducible first | exact HB.out | apply below_alloc | apply pw_below_drewN | apply below_drew1 | refine below_set ?_ GE374.out) | exact HB.out)) hb); clear HO378; clear HO381; clear HO385; clear HO389; clear BK374; clear HB; have HO378 := n0_; have HO381 := n1_; have HO385 := n2_; have HO389 := n3_; have BK374 := n4_; have HB := n5_; clear n0_ n1_ n2_ n3_ n4_ n5_; (try clear hb); (try clear hb2); (try clear hk); (try clear hi); have hcz25_0 : w24.cell? ⟨gb374, 0, none⟩ = some (.slice A0_0 l0_0.length c0_0) := (blk_cell BK374.out 0).trans rfl; have hcz25_1 : w24.cell? ⟨gb374, 1, none⟩ = some (.slice A0_1 l0_1.length c0_1) := (blk_cell BK374.out 1).trans rfl; have hcz25_2 : w24.cell? ⟨gb374, 2, none⟩ = some (.int .i64 a0_2) := (blk_cell BK374.out 2).trans rfl; have hcz25_3 : w24.cell? ⟨gb374, 3, none⟩ = some (.slice A0_3 l0_3.length c0_3) := (blk_cell BK374.out 3).trans rfl; have hcz25_4 : w24.cell? ⟨gb374, 4, none⟩ = some (.int .i64 a0_4) := (blk_cell BK374.out 4).trans rfl; have hcz25_5 : w24.cell? ⟨gb374, 5, none⟩ = some (.slice A0_5 l0_5.length c0_5) := (blk_cell BK374.out 5).trans rfl; have hfz25_0 := blk_frozen BK374.out 0; have hfz25_1 := blk_frozen BK374.out 1; have hfz25_2 := blk_frozen BK374.out 2; have hfz25_3 := blk_frozen BK374.out 3; have hfz25_4 := blk_frozen BK374.out 4; have hfz25_5 := blk_frozen BK374.out 5) | ((with_reducible refine gate_callee (f := 26) rfl ?_); refine goesL_ (some 16) rfl rfl Tryd.func26 (by kernel_rfl) rfl #[.agg #[.slice A0_0 l0_0.length c0_0, .slice A0_1 l0_1.length c0_1, .int .i64 a0_2, .slice A0_3 l0_3.length c0_3, .int .i64 a0_4, .slice A0_5 l0_5.length c0_5]] rfl (by (try simp only [List.map_toArray, List.map_cons, List.map_nil]); first | done | rfl | (simp only [List.length_drop, List.length_take]; rfl)) ?_; (with_reducible refine (laws_toImage.calls k _ _ l0_0 _ _ l0_1 a0_2 _ _ l0_3 a0_4 _ _ l0_5 t391 t394 t397 t398 t401 t402 _ ?side1 ?side2 ?side3 ?side4 ?side5 ?side6 ?side7 ?side8 A9.out).mono ?_); (case side1 => repeat (first | exact (Kd.C_below HR0_0.out HB.out) | (with_reducible refine Kd.C_alloc ?_ _) | (with_reducible refine Kd.C_drewN ?_ _) | (with_reducible refine Kd.C_drew ?_))); (case side2 => exact HC0_0.out); (case side3 => repeat (first | exact (Kd.C_below HR0_1.out HB.out) | (with_reducible refine Kd.C_alloc ?_ _) | (with_reducible refine Kd.C_drewN ?_ _) | (with_reducible refine Kd.C_drew ?_))); (case side4 => exact HC0_1.out); (case side5 => repeat (first | exact (Kd.C_below HR0_3.out HB.out) | (with_reducible refine Kd.C_alloc ?_ _) | (with_reducible refine Kd.C_drewN ?_ _) | (with_reducible refine Kd.C_drew ?_))); (case side6 => exact HC0_3.out); (case side7 => repeat (first | exact (Kd.C_below HR0_5.out HB.out) | (with_reducible refine Kd.C_alloc ?_ _) | (with_reducible refine Kd.C_drewN ?_ _) | (with_reducible refine Kd.C_drew ?_))); (case side8 => exact HC0_5.out); rintro e w26 ⟨v392, v395, v399, v403, rfl, ho0, ho1, ho2, ho3, hb⟩; refine ⟨_, rfl, ?_⟩; have n0_ := Aside0.mk (Kd.R_mono (Kd.R_told (Kd.R_told (Kd.R_old (by (with_reducible repeat (first | apply Kd.R_alloc | apply Kd.R_drewN | apply Kd.R_drew)); exact HO378.out) hb) (Kd.R_base ho0)) (Kd.R_base ho1)) (fun _ h_ => h_.1)); have n1_ := Aside0.mk (Kd.R_mono (Kd.R_told (Kd.R_told (Kd.R_old (by (with_reducible repeat (first | apply Kd.R_alloc | apply Kd.R_drewN | apply Kd.R_drew)); exact HO381.out) hb) (Kd.R_base ho0)) (Kd.R_base ho1)) (fun _ h_ => h_.1)); have n2_ := Aside0.mk (Kd.R_elder' (by (with_reducible repeat (first | apply Kd.R_alloc | apply Kd.R_drewN | apply Kd.R_drew)); exact HO385.out) (Kd.R_base ho2) hb); have n3_ := Aside0.mk (Kd.R_elder' (by (with_reducible repeat (first | apply Kd.R_alloc | apply Kd.R_drewN | apply Kd.R_drew)); exact HO389.out) (Kd.R_base ho3) hb); have n4_ := Aside0.mk (Kd.R_lower (Kd.R_new' (Kd.R_new' ho0 (Kd.R_lt (by (with_reducible repeat (first | apply Kd.R_alloc | apply Kd.R_drewN | apply Kd.R_drew)); exact HO378.out))) (Kd.R_lt (by (with_reducible repeat (first | apply Kd.R_alloc | apply Kd.R_drewN | apply Kd.R_drew)); exact HO381.out))) (below_size (by repeat (first | (with_reducible first | exact HB.out | apply below_alloc | apply pw_below_drewN | apply below_drew1 | refine below_set ?_ GE374.out) | exact HB.out)))); have n5_ := Aside0.mk (Kd.R_lower (Kd.R_new' (Kd.R_new' ho1 (Kd.R_lt (by (with_reducible repeat (first | apply Kd.R_alloc | apply Kd.R_drewN | apply Kd.R_drew)); exact HO378.out))) (Kd.R_lt (by (with_reducible repeat (first | apply Kd.R_alloc | apply Kd.R_drewN | apply Kd.R_drew)); exact HO381.out))) (below_size (by repeat (first | (with_reducible first | exact HB.out | apply below_alloc | apply pw_below_drewN | apply below_drew1 | refine below_set ?_ GE374.out) | exact HB.out)))); have n6_ := Aside0.mk (Kd.R_lower (Kd.R_new' ho2 (Kd.R_lt (by (with_reducible repeat (first | apply Kd.R_alloc | apply Kd.R_drewN | apply Kd.R_drew)); exact HO385.out))) (below_size (by repeat (first | (with_reducible first | exact HB.out | apply below_alloc | apply pw_below_drewN | apply below_drew1 | refine below_set ?_ GE374.out) | exact HB.out)))); have n7_ := Aside0.mk (Kd.R_lower (Kd.R_new' ho3 (Kd.R_lt (by (with_reducible repeat (first | apply Kd.R_alloc | apply Kd.R_drewN | apply Kd.R_drew)); exact HO389.out))) (below_size (by repeat (first | (with_reducible first | exact HB.out | apply below_alloc | apply pw_below_drewN | apply below_drew1 | refine below_set ?_ GE374.out) | exact HB.out)))); have n8_ := Aside0.mk (blk_below (g := gb374) (o := .cells #[.slice A0_0 l0_0.length c0_0, .slice A0_1 l0_1.length c0_1, .int .i64 a0_2, .slice A0_3 l0_3.length c0_3, .int .i64 a0_4, .slice A0_5 l0_5.length c0_5] 55 (0, 0)) (by (with_reducible repeat (first | refine blk_drewN ?_ _ | refine blk_drew ?_ | refine blk_alloc ?_ _)); exact BK374.out) hb); have n9_ := Aside0.mk (below_step (by repeat (first | (with_reducible first | exact HB.out | apply below_alloc | apply pw_below_drewN | apply below_drew1 | refine below_set ?_ GE374.out) | exact HB.out)) hb); clear HO378; clear HO381; clear HO385; clear HO389; clear BK374; clear HB; have HO378 := n0_; have HO381 := n1_; have HO385 := n2_; have HO389 := n3_; have HO393 := n4_; have HO396 := n5_; have HO400 := n6_; have HO404 := n7_; have BK374 := n8_; have HB := n9_; clear n0_ n1_ n2_ n3_ n4_ n5_ n6_ n7_ n8_ n9_; (try clear hb); (try clear hb2); (try clear hk); (try clear hi); (try clear ho0); (try clear ho1); (try clear ho2); (try clear ho3)) | ((with_reducible refine gate_dst (N := 5) rfl ?_); refine box_event ?hg (N := 5) ?hd (cs := #[.slice none 0 0, .slice none 0 0, .int .i64 0, .slice none 0 0, .int .i64 0, .slice none 0 0]) (t := 60) ?hr ?_; (case hd => rfl); (case hg => rfl); (case hr => first | (go_simp; done) | (go_simp; rfl)); intro gb405 hg w27 hbox hb; have n0_ := Aside0.mk (Kd.R_below (by (with_reducible repeat (first | apply Kd.R_alloc | apply Kd.R_drewN | apply Kd.R_drew)); exact HO378.out) hb); have n1_ := Aside0.mk (Kd.R_below (by (with_reducible repeat (first | apply Kd.R_alloc | apply Kd.R_drewN | apply Kd.R_drew)); exact HO381.out) hb); have n2_ := Aside0.mk (Kd.R_below (by (with_reducible repeat (first | apply Kd.R_alloc | apply Kd.R_drewN | apply Kd.R_drew)); exact HO385.out) hb); have n3_ := Aside0.mk (Kd.R_below (by (with_reducible repeat (first | apply Kd.R_alloc | apply Kd.R_drewN | apply Kd.R_drew)); exact HO389.out) hb); have n4_ := Aside0.mk (Kd.R_below (by (with_reducible repeat (first | apply Kd.R_alloc | apply Kd.R_drewN | apply Kd.R_drew)); exact HO393.out) hb); have n5_ := Aside0.mk (Kd.R_below (by (with_reducible repeat (first | apply Kd.R_alloc | apply Kd.R_drewN | apply Kd.R_drew)); exact HO396.out) hb); have n6_ := Aside0.mk (Kd.R_below (by (with_reducible repeat (first | apply Kd.R_alloc | apply Kd.R_drewN | apply Kd.R_drew)); exact HO400.out) hb); have n7_ := Aside0.mk (Kd.R_below (by (with_reducible repeat (first | apply Kd.R_alloc | apply Kd.R_drewN | apply Kd.R_drew)); exact HO404.out) hb); have n8_ := Aside0.mk (blk_below (g := gb374) (o := .cells #[.slice A0_0 l0_0.length c0_0, .slice A0_1 l0_1.length c0_1, .int .i64 a0_2, .slice A0_3 l0_3.length c0_3, .int .i64 a0_4, .slice A0_5 l0_5.length c0_5] 55 (0, 0)) (by (with_reducible repeat (first | refine blk_drewN ?_ _ | refine blk_drew ?_ | refine blk_alloc ?_ _)); exact BK374.out) hb); have n9_ := Aside0.mk (below_step (by repeat (first | (with_reducible first | exact HB.out | apply below_alloc | apply pw_below_drewN | apply below_drew1 | refine below_set ?_ GE374.out) | exact HB.out)) hb); have n10_ := Aside0.mk (hbox); have n11_ := Aside0.mk ((by rw [hg]; exact (below_size (by repeat (first | (with_reducible first | exact HB.out | apply below_alloc | apply pw_below_drewN | apply below_drew1 | refine below_set ?_ GE374.out) | exact HB.out))) : w.heap.size ≤ gb405)); have n12_ := Aside0.mk ((by rw [hg]; exact (below_size (by repeat (first | (with_reducible first | exact HB.out | apply below_alloc | apply pw_below_drewN | apply below_drew1 | refine below_set ?_ GE374.out) | exact HB.out))) : w.heap.size ≤ gb405)); have n13_ := Aside0.mk ((by rw [hg]; exact Nat.ne_of_lt (blk_lt (g := gb374) (o := .cells #[.slice A0_0 l0_0.length c0_0, .slice A0_1 l0_1.length c0_1, .int .i64 a0_2, .slice A0_3 l0_3.length c0_3, .int .i64 a0_4, .slice A0_5 l0_5.length c0_5] 55 (0, 0)) (by (with_reducible repeat (first | refine blk_drewN ?_ _ | refine blk_drew ?_ | refine blk_alloc ?_ _)); exact BK374.out)) : gb374 ≠ gb405)); have n14_ := Aside0.mk ((by rw [hg]; exact Nat.ne_of_gt (blk_lt (g := gb374) (o := .cells #[.slice A0_0 l0_0.length c0_0, .slice A0_1 l0_1.length c0_1, .int .i64 a0_2, .slice A0_3 l0_3.length c0_3, .int .i64 a0_4, .slice A0_5 l0_5.length c0_5] 55 (0, 0)) (by (with_reducible repeat (first | refine blk_drewN ?_ _ | refine blk_drew ?_ | refine blk_alloc ?_ _)); exact BK374.out)) : gb405 ≠ gb374)); clear HO378; clear HO381; clear HO385; clear HO389; clear HO393; clear HO396; clear HO400; clear HO404; clear BK374; clear HB; have HO378 := n0_; have HO381 := n1_; have HO385 := n2_; have HO389 := n3_; have HO393 := n4_; have HO396 := n5_; have HO400 := n6_; have HO404 := n7_; have BK374 := n8_; have HB := n9_; have BK405 := n10_; have GW405 := n11_; have GE405 := n12_; have NB374_405 := n13_; have NB405_374 := n14_; clear n0_ n1_ n2_ n3_ n4_ n5_ n6_ n7_ n8_ n9_ n10_ n11_ n12_ n13_ n14_; clear hb hbox hg; obtain ⟨Ao28, co28, eo28⟩ := Kd.R_slice HO393.out; subst eo28; have hnb29 := NB405_374.out; have hnc29 := NB374_405.out; have hcz30_0 : w27.cell? ⟨gb405, 0, none⟩ = some (.slice none 0 0) := (blk_cell BK405.out 0).trans rfl; have hcz30_1 : w27.cell? ⟨gb405, 1, none⟩ = some (.slice none 0 0) := (blk_cell BK405.out 1).trans rfl; have hcz30_2 : w27.cell? ⟨gb405, 2, none⟩ = some (.int .i64 0) := (blk_cell BK405.out 2).trans rfl; have hcz30_3 : w27.cell? ⟨gb405, 3, none⟩ = some (.slice none 0 0) := (blk_cell BK405.out 3).trans rfl; have hcz30_4 : w27.cell? ⟨gb405, 4, none⟩ = some (.int .i64 0) := (blk_cell BK405.out 4).trans rfl; have hcz30_5 : w27.cell? ⟨gb405, 5, none⟩ = some (.slice none 0 0) := (blk_cell BK405.out 5).trans rfl; have hfz30_0 := blk_frozen BK405.out 0; have hfz30_1 := blk_frozen BK405.out 1; have hfz30_2 := blk_frozen BK405.out 2; have hfz30_3 := blk_frozen BK405.out 3; have hfz30_4 := blk_frozen BK405.out 4; have hfz30_5 := blk_frozen BK405.out 5; obtain ⟨Ao31, co31, eo31⟩ := Kd.R_slice HO396.out; subst eo31; obtain ⟨Ao32, co32, eo32⟩ := Kd.R_slice HO400.out; subst eo32; obtain ⟨Ao33, co33, eo33⟩ := Kd.R_slice HO404.out; subst eo33) | ((with_reducible refine gate_callee (f := 27) rfl ?_); refine goesL_ (some 18) rfl rfl Tryd.func27 (by kernel_rfl) rfl #[.agg #[.slice Ao28 t391.length co28, .slice Ao31 t394.length co31, .int .i64 t397, .slice Ao32 t398.length co32, .int .i64 t401, .slice Ao33 t402.length co33]] rfl (by (try simp only [List.map_toArray, List.map_cons, List.map_nil]); first | done | rfl | (simp only [List.length_drop, List.length_take]; rfl)) ?_; (with_reducible refine (impl_Disassemble.calls k _ _ t391 _ _ t394 t397 _ _ t398 t401 _ _ t402 t406 _ ?tLtTab ?side1 ?side2 ?side3 ?side4 ?side5 ?side6 ?side7 ?side8 A10.out).mono ?_); (case tLtTab => exact HLtTab.out.on (by repeat (first | (with_reducible first | exact HB.out | apply below_alloc | apply pw_below_drewN | apply below_drew1 | refine below_set ?_ GE374.out | refine below_set ?_ GE405.out) | exact HB.out))); (case side1 => refine (Kd.R_reads' (e := 5) (base := w.heap.size) (ok := fun k_ => ((some k_ ≠ (.slice Ao31 t394.length co31 : Value).ownBlock ∧ some k_ ≠ (.slice Ao20 t376.length co20 : Value).ownBlock) ∧ some k_ ≠ (.slice Ao21 t379.length co21 : Value).ownBlock)) (n := t391.length) (c := co28) ?_).2.2; exact (by (with_reducible repeat (first | apply Kd.R_alloc | apply Kd.R_drewN | apply Kd.R_drew)); exact (Kd.R_mono (Kd.R_far (p := ⟨gb405, 5, none⟩) (Kd.R_far (p := ⟨gb405, 4, none⟩) (Kd.R_far (p := ⟨gb405, 3, none⟩) (Kd.R_far (p := ⟨gb405, 2, none⟩) (Kd.R_far (p := ⟨gb405, 1, none⟩) (Kd.R_far (p := ⟨gb405, 0, none⟩) (Kd.R_types HO393.out BK405.out (by decide)) (fun _ hk => hk.2) (.slice Ao28 t391.length co28)) (fun _ hk => hk.2) (.slice Ao31 t394.length co31)) (fun _ hk => hk.2) (.int .i64 t397)) (fun _ hk => hk.2) (.slice Ao32 t398.length co32)) (fun _ hk => hk.2) (.int .i64 t401)) (fun _ hk => hk.2) (.slice Ao33 t402.length co33)) (fun _ h_ => h_.1)))); (case side2 => exact (Kd.R_reads' HO393.out).2.1); (case side3 => refine (Kd.R_reads' (e := 5) (base := w.heap.size) (ok := fun k_ => ((some k_ ≠ (.slice Ao28 t391.length co28 : Value).ownBlock ∧ some k_ ≠ (.slice Ao20 t376.length co20 : Value).ownBlock) ∧ some k_ ≠ (.slice Ao21 t379.length co21 : Value).ownBlock)) (n := t394.length) (c := co31) ?_).2.2; exact (by (with_reducible repeat (first | apply Kd.R_alloc | apply Kd.R_drewN | apply Kd.R_drew)); exact (Kd.R_mono (Kd.R_far (p := ⟨gb405, 5, none⟩) (Kd.R_far (p := ⟨gb405, 4, none⟩) (Kd.R_far (p := ⟨gb405, 3, none⟩) (Kd.R_far (p := ⟨gb405, 2, none⟩) (Kd.R_far (p := ⟨gb405, 1, none⟩) (Kd.R_far (p := ⟨gb405, 0, none⟩) (Kd.R_types HO396.out BK405.out (by decide)) (fun _ hk => hk.2) (.slice Ao28 t391.length co28)) (fun _ hk => hk.2) (.slice Ao31 t394.length co31)) (fun _ hk => hk.2) (.int .i64 t397)) (fun _ hk => hk.2) (.slice Ao32 t398.length co32)) (fun _ hk => hk.2) (.int .i64 t401)) (fun _ hk => hk.2) (.slice Ao33 t402.length co33)) (fun _ h_ => h_.1)))); (case side4 => exact (Kd.R_reads' HO396.out).2.1); (case side5 => refine (Kd.R_reads' (e := 2) (base := w.heap.size) (ok := fun k_ => (True ∧ some k_ ≠ (.slice Ao22 t383.length co22 : Value).ownBlock)) (n := t398.length) (c := co32) ?_).2.2; exact (by (with_reducible repeat (first | apply Kd.R_alloc | apply Kd.R_drewN | apply Kd.R_drew)); exact (Kd.R_mono (Kd.R_far (p := ⟨gb405, 5, none⟩) (Kd.R_far (p := ⟨gb405, 4, none⟩) (Kd.R_far (p := ⟨gb405, 3, none⟩) (Kd.R_far (p := ⟨gb405, 2, none⟩) (Kd.R_far (p := ⟨gb405, 1, none⟩) (Kd.R_far (p := ⟨gb405, 0, none⟩) (Kd.R_types HO400.out BK405.out (by decide)) (fun _ hk => hk.2) (.slice Ao28 t391.length co28)) (fun _ hk => hk.2) (.slice Ao31 t394.length co31)) (fun _ hk => hk.2) (.int .i64 t397)) (fun _ hk => hk.2) (.slice Ao32 t398.length co32)) (fun _ hk => hk.2) (.int .i64 t401)) (fun _ hk => hk.2) (.slice Ao33 t402.length co33)) (fun _ h_ => h_.1)))); (case side6 => exact (Kd.R_reads' HO400.out).2.1); (case side7 => refine (Kd.R_reads' (e := 109) (base := w.heap.size) (ok := fun k_ => (True ∧ some k_ ≠ (.slice Ao23 t387.length co23 : Value).ownBlock)) (n := t402.length) (c := co33) ?_).2.2; exact (by (with_reducible repeat (first | apply Kd.R_alloc | apply Kd.R_drewN | apply Kd.R_drew)); exact (Kd.R_mono (Kd.R_far (p := ⟨gb405, 5, none⟩) (Kd.R_far (p := ⟨gb405, 4, none⟩) (Kd.R_far (p := ⟨gb405, 3, none⟩) (Kd.R_far (p := ⟨gb405, 2, none⟩) (Kd.R_far (p := ⟨gb405, 1, none⟩) (Kd.R_far (p := ⟨gb405, 0, none⟩) (Kd.R_types HO404.out BK405.out (by decide)) (fun _ hk => hk.2) (.slice Ao28 t391.length co28)) (fun _ hk => hk.2) (.slice Ao31 t394.length co31)) (fun _ hk => hk.2) (.int .i64 t397)) (fun _ hk => hk.2) (.slice Ao32 t398.length co32)) (fun _ hk => hk.2) (.int .i64 t401)) (fun _ hk => hk.2) (.slice Ao33 t402.length co33)) (fun _ h_ => h_.1)))); (case side8 => exact (Kd.R_reads' HO404.out).2.1); rintro e w34 ⟨rfl, hb⟩; refine ⟨_, rfl, ?_⟩; have n0_ := Aside0.mk (Kd.R_below (by (with_reducible repeat (first | apply Kd.R_alloc | apply Kd.R_drewN | apply Kd.R_drew)); exact (Kd.R_mono (Kd.R_far (p := ⟨gb405, 5, none⟩) (Kd.R_far (p := ⟨gb405, 4, none⟩) (Kd.R_far (p := ⟨gb405, 3, none⟩) (Kd.R_far (p := ⟨gb405, 2, none⟩) (Kd.R_far (p := ⟨gb405, 1, none⟩) (Kd.R_far (p := ⟨gb405, 0, none⟩) (Kd.R_types HO378.out BK405.out (by decide)) (fun _ hk => hk.2) (.slice Ao28 t391.length co28)) (fun _ hk => hk.2) (.slice Ao31 t394.length co31)) (fun _ hk => hk.2) (.int .i64 t397)) (fun _ hk => hk.2) (.slice Ao32 t398.length co32)) (fun _ hk => hk.2) (.int .i64 t401)) (fun _ hk => hk.2) (.slice Ao33 t402.length co33)) (fun _ h_ => h_.1))) hb); have n1_ := Aside0.mk (Kd.R_below (by (with_reducible repeat (first | apply Kd.R_alloc | apply Kd.R_drewN | apply Kd.R_drew)); exact (Kd.R_mono (Kd.R_far (p := ⟨gb405, 5, none⟩) (Kd.R_far (p := ⟨gb405, 4, none⟩) (Kd.R_far (p := ⟨gb405, 3, none⟩) (Kd.R_far (p := ⟨gb405, 2, none⟩) (Kd.R_far (p := ⟨gb405, 1, none⟩) (Kd.R_far (p := ⟨gb405, 0, none⟩) (Kd.R_types HO381.out BK405.out (by decide)) (fun _ hk => hk.2) (.slice Ao28 t391.length co28)) (fun _ hk => hk.2) (.slice Ao31 t394.length co31)) (fun _ hk => hk.2) (.int .i64 t397)) (fun _ hk => hk.2) (.slice Ao32 t398.length co32)) (fun _ hk => hk.2) (.int .i64 t401)) (fun _ hk => hk.2) (.slice Ao33 t402.length co33)) (fun _ h_ => h_.1))) hb); have n2_ := Aside0.mk (Kd.R_below (by (with_reducible repeat (first | apply Kd.R_alloc | apply Kd.R_drewN | apply Kd.R_drew)); exact (Kd.R_mono (Kd.R_far (p := ⟨gb405, 5, none⟩) (Kd.R_far (p := ⟨gb405, 4, none⟩) (Kd.R_far (p := ⟨gb405, 3, none⟩) (Kd.R_far (p := ⟨gb405, 2, none⟩) (Kd.R_far (p := ⟨gb405, 1, none⟩) (Kd.R_far (p := ⟨gb405, 0, none⟩) (Kd.R_types HO385.out BK405.out (by decide)) (fun _ hk => hk.2) (.slice Ao28 t391.length co28)) (fun _ hk => hk.2) (.slice Ao31 t394.length co31)) (fun _ hk => hk.2) (.int .i64 t397)) (fun _ hk => hk.2) (.slice Ao32 t398.length co32)) (fun _ hk => hk.2) (.int .i64 t401)) (fun _ hk => hk.2) (.slice Ao33 t402.length co33)) (fun _ h_ => h_.1))) hb); have n3_ := Aside0.mk (Kd.R_below (by (with_reducible repeat (first | apply Kd.R_alloc | apply Kd.R_drewN | apply Kd.R_drew)); exact (Kd.R_mono (Kd.R_far (p := ⟨gb405, 5, none⟩) (Kd.R_far (p := ⟨gb405, 4, none⟩) (Kd.R_far (p := ⟨gb405, 3, none⟩) (Kd.R_far (p := ⟨gb405, 2, none⟩) (Kd.R_far (p := ⟨gb405, 1, none⟩) (Kd.R_far (p := ⟨gb405, 0, none⟩) (Kd.R_types HO389.out BK405.out (by decide)) (fun _ hk => hk.2) (.slice Ao28 t391.length co28)) (fun _ hk => hk.2) (.slice Ao31 t394.length co31)) (fun _ hk => hk.2) (.int .i64 t397)) (fun _ hk => hk.2) (.slice Ao32 t398.length co32)) (fun _ hk => hk.2) (.int .i64 t401)) (fun _ hk => hk.2) (.slice Ao33 t402.length co33)) (fun _ h_ => h_.1))) hb); have n4_ := Aside0.mk (Kd.R_below (by (with_reducible repeat (first | apply Kd.R_alloc | apply Kd.R_drewN | apply Kd.R_drew)); exact (Kd.R_mono (Kd.R_far (p := ⟨gb405, 5, none⟩) (Kd.R_far (p := ⟨gb405, 4, none⟩) (Kd.R_far (p := ⟨gb405, 3, none⟩) (Kd.R_far (p := ⟨gb405, 2, none⟩) (Kd.R_far (p := ⟨gb405, 1, none⟩) (Kd.R_far (p := ⟨gb405, 0, none⟩) (Kd.R_types HO393.out BK405.out (by decide)) (fun _ hk => hk.2) (.slice Ao28 t391.length co28)) (fun _ hk => hk.2) (.slice Ao31 t394.length co31)) (fun _ hk => hk.2) (.int .i64 t397)) (fun _ hk => hk.2) (.slice Ao32 t398.length co32)) (fun _ hk => hk.2) (.int .i64 t401)) (fun _ hk => hk.2) (.slice Ao33 t402.length co33)) (fun _ h_ => h_.1))) hb); have n5_ := Aside0.mk (Kd.R_below (by (with_reducible repeat (first | apply Kd.R_alloc | apply Kd.R_drewN | apply Kd.R_drew)); exact (Kd.R_mono (Kd.R_far (p := ⟨gb405, 5, none⟩) (Kd.R_far (p := ⟨gb405, 4, none⟩) (Kd.R_far (p := ⟨gb405, 3, none⟩) (Kd.R_far (p := ⟨gb405, 2, none⟩) (Kd.R_far (p := ⟨gb405, 1, none⟩) (Kd.R_far (p := ⟨gb405, 0, none⟩) (Kd.R_types HO396.out BK405.out (by decide)) (fun _ hk => hk.2) (.slice Ao28 t391.length co28)) (fun _ hk => hk.2) (.slice Ao31 t394.length co31)) (fun _ hk => hk.2) (.int .i64 t397)) (fun _ hk => hk.2) (.slice Ao32 t398.length co32)) (fun _ hk => hk.2) (.int .i64 t401)) (fun _ hk => hk.2) (.slice Ao33 t402.length co33)) (fun _ h_ => h_.1))) hb); have n6_ := Aside0.mk (Kd.R_below (by (with_reducible repeat (first | apply Kd.R_alloc | apply Kd.R_drewN | apply Kd.R_drew)); exact (Kd.R_mono (Kd.R_far (p := ⟨gb405, 5, none⟩) (Kd.R_far (p := ⟨gb405, 4, none⟩) (Kd.R_far (p := ⟨gb405, 3, none⟩) (Kd.R_far (p := ⟨gb405, 2, none⟩) (Kd.R_far (p := ⟨gb405, 1, none⟩) (Kd.R_far (p := ⟨gb405, 0, none⟩) (Kd.R_types HO400.out BK405.out (by decide)) (fun _ hk => hk.2) (.slice Ao28 t391.length co28)) (fun _ hk => hk.2) (.slice Ao31 t394.length co31)) (fun _ hk => hk.2) (.int .i64 t397)) (fun _ hk => hk.2) (.slice Ao32 t398.length co32)) (fun _ hk => hk.2) (.int .i64 t401)) (fun _ hk => hk.2) (.slice Ao33 t402.length co33)) (fun _ h_ => h_.1))) hb); have n7_ := Aside0.mk (Kd.R_below (by (with_reducible repeat (first | apply Kd.R_alloc | apply Kd.R_drewN | apply Kd.R_drew)); exact (Kd.R_mono (Kd.R_far (p := ⟨gb405, 5, none⟩) (Kd.R_far (p := ⟨gb405, 4, none⟩) (Kd.R_far (p := ⟨gb405, 3, none⟩) (Kd.R_far (p := ⟨gb405, 2, none⟩) (Kd.R_far (p := ⟨gb405, 1, none⟩) (Kd.R_far (p := ⟨gb405, 0, none⟩) (Kd.R_types HO404.out BK405.out (by decide)) (fun _ hk => hk.2) (.slice Ao28 t391.length co28)) (fun _ hk => hk.2) (.slice Ao31 t394.length co31)) (fun _ hk => hk.2) (.int .i64 t397)) (fun _ hk => hk.2) (.slice Ao32 t398.length co32)) (fun _ hk => hk.2) (.int .i64 t401)) (fun _ hk => hk.2) (.slice Ao33 t402.length co33)) (fun _ h_ => h_.1))) hb); have n8_ := Aside0.mk (blk_below (g := gb374) (o := .cells #[.slice A0_0 l0_0.length c0_0, .slice A0_1 l0_1.length c0_1, .int .i64 a0_2, .slice A0_3 l0_3.length c0_3, .int .i64 a0_4, .slice A0_5 l0_5.length c0_5] 55 (0, 0)) (by (with_reducible repeat (first | refine blk_drewN ?_ _ | refine blk_drew ?_ | refine blk_alloc ?_ _)); refine blk_far ?_ NB374_405.out _; (with_reducible repeat (first | refine blk_drewN ?_ _ | refine blk_drew ?_ | refine blk_alloc ?_ _)); refine blk_far ?_ NB374_405.out _; (with_reducible repeat (first | refine blk_drewN ?_ _ | refine blk_drew ?_ | refine blk_alloc ?_ _)); refine blk_far ?_ NB374_405.out _; (with_reducible repeat (first | refine blk_drewN ?_ _ | refine blk_drew ?_ | refine blk_alloc ?_ _)); refine blk_far ?_ NB374_405.out _; (with_reducible repeat (first | refine blk_drewN ?_ _ | refine blk_drew ?_ | refine blk_alloc ?_ _)); refine blk_far ?_ NB374_405.out _; (with_reducible repeat (first | refine blk_drewN ?_ _ | refine blk_drew ?_ | refine blk_alloc ?_ _)); refine blk_far ?_ NB374_405.out _; (with_reducible repeat (first | refine blk_drewN ?_ _ | refine blk_drew ?_ | refine blk_alloc ?_ _)); exact BK374.out) hb); have n9_ := Aside0.mk (blk_below (g := gb405) (o := .cells #[.slice Ao28 t391.length co28, .slice Ao31 t394.length co31, .int .i64 t397, .slice Ao32 t398.length co32, .int .i64 t401, .slice Ao33 t402.length co33] 60 (0, 0)) (by (with_reducible repeat (first | refine blk_drewN ?_ _ | refine blk_drew ?_ | refine blk_alloc ?_ _)); refine blk_put (cs := #[.slice Ao28 t391.length co28, .slice Ao31 t394.length co31, .int .i64 t397, .slice Ao32 t398.length co32, .int .i64 t401, .slice none 0 0]) ?_ 5 _ rfl; (with_reducible repeat (first | refine blk_drewN ?_ _ | refine blk_drew ?_ | refine blk_alloc ?_ _)); refine blk_put (cs := #[.slice Ao28 t391.length co28, .slice Ao31 t394.length co31, .int .i64 t397, .slice Ao32 t398.length co32, .int .i64 0, .slice none 0 0]) ?_ 4 _ rfl; (with_reducible repeat (first | refine blk_drewN ?_ _ | refine blk_drew ?_ | refine blk_alloc ?_ _)); refine blk_put (cs := #[.slice Ao28 t391.length co28, .slice Ao31 t394.length co31, .int .i64 t397, .slice none 0 0, .int .i64 0, .slice none 0 0]) ?_ 3 _ rfl; (with_reducible repeat (first | refine blk_drewN ?_ _ | refine blk_drew ?_ | refine blk_alloc ?_ _)); refine blk_put (cs := #[.slice Ao28 t391.length co28, .slice Ao31 t394.length co31, .int .i64 0, .slice none 0 0, .int .i64 0, .slice none 0 0]) ?_ 2 _ rfl; (with_reducible repeat (first | refine blk_drewN ?_ _ | refine blk_drew ?_ | refine blk_alloc ?_ _)); refine blk_put (cs := #[.slice Ao28 t391.length co28, .slice none 0 0, .int .i64 0, .slice none 0 0, .int .i64 0, .slice none 0 0]) ?_ 1 _ rfl; (with_reducible repeat (first | refine blk_drewN ?_ _ | refine blk_drew ?_ | refine blk_alloc ?_ _)); refine blk_put (cs := #[.slice none 0 0, .slice none 0 0, .int .i64 0, .slice none 0 0, .int .i64 0, .slice none 0 0]) ?_ 0 _ rfl; (with_reducible repeat (first | refine blk_drewN ?_ _ | refine blk_drew ?_ | refine blk_alloc ?_ _)); exact BK405.out) hb); have n10_ := Aside0.mk (below_step (by repeat (first | (with_reducible first | exact HB.out | apply below_alloc | apply pw_below_drewN | apply below_drew1 | refine below_set ?_ GE374.out | refine below_set ?_ GE405.out) | exact HB.out)) hb); clear HO378; clear HO381; clear HO385; clear HO389; clear HO393; clear HO396; clear HO400; clear HO404; clear BK374; clear BK405; clear HB; have HO378 := n0_; have HO381 := n1_; have HO385 := n2_; have HO389 := n3_; have HO393 := n4_; have HO396 := n5_; have HO400 := n6_; have HO404 := n7_; have BK374 := n8_; have BK405 := n9_; have HB := n10_; clear n0_ n1_ n2_ n3_ n4_ n5_ n6_ n7_ n8_ n9_ n10_; (try clear hb); (try clear hb2); (try clear hk); (try clear hi)))
       have n0_ := Aside0.mk (Kd.R_drew HO378.out)
       have n1_ := Aside0.mk (Kd.R_drew HO381.out)
       have n2_ := Aside0.mk (Kd.R_drew HO385.out)
       have n3_ := Aside0.mk (Kd.R_drew HO389.out)
       have n4_ := Aside0.mk (Kd.R_drew HO393.out)
       have n5_ := Aside0.mk (Kd.R_drew HO396.out)
       have n6_ := Aside0.mk (Kd.R_drew HO400.out)
       have n7_ := Aside0.mk (Kd.R_drew HO404.out)
       have n8_ := Aside0.mk (blk_drew BK374.out)
       have n9_ := Aside0.mk (blk_drew BK405.out)
       have n10_ := Aside0.mk (below_drew1 HB.out)
       clear HO378
       clear HO381
       clear HO385
       clear HO389
       clear HO393
       clear HO396
       clear HO400
       clear HO404
       clear BK374
       clear BK405
       clear HB
       have HO378 := n0_
       have HO381 := n1_
       have HO385 := n2_
       have HO389 := n3_
       have HO393 := n4_
       have HO396 := n5_
       have HO400 := n6_
       have HO404 := n7_
       have BK374 := n8_
       have BK405 := n9_
       have HB := n10_
       clear n0_ n1_ n2_ n3_ n4_ n5_ n6_ n7_ n8_ n9_ n10_
       refine start_ (n := 5) (S := fun w' => w'.cell? ⟨gb405, 0, none⟩ = some (.slice Ao28 t391.length co28) ∧ w'.cell? ⟨gb405, 1, none⟩ = some (.slice Ao31 t394.length co31) ∧ w'.cell? ⟨gb405, 2, none⟩ = some (.int .i64 t397) ∧ w'.cell? ⟨gb405, 3, none⟩ = some (.slice Ao32 t398.length co32) ∧ w'.cell? ⟨gb405, 4, none⟩ = some (.int .i64 t401) ∧ w'.cell? ⟨gb405, 5, none⟩ = some (.slice Ao33 t402.length co33) ∧ w'.cell? ⟨gb374, 0, none⟩ = some (.slice A0_0 l0_0.length c0_0) ∧ w'.cell? ⟨gb374, 1, none⟩ = some (.slice A0_1 l0_1.length c0_1) ∧ w'.cell? ⟨gb374, 2, none⟩ = some (.int .i64 a0_2) ∧ w'.cell? ⟨gb374, 3, none⟩ = some (.slice A0_3 l0_3.length c0_3) ∧ w'.cell? ⟨gb374, 4, none⟩ = some (.int .i64 a0_4) ∧ w'.cell? ⟨gb374, 5, none⟩ = some (.slice A0_5 l0_5.length c0_5)) (ds := []) #[false, false, false, false, false] (by kernel_rfl) rfl rfl ⟨(blk_cell BK405.out 0).trans rfl, (blk_cell BK405.out 1).trans rfl, (blk_cell BK405.out 2).trans rfl, (blk_cell BK405.out 3).trans rfl, (blk_cell BK405.out 4).trans rfl, (blk_cell BK405.out 5).trans rfl, (blk_cell BK374.out 0).trans rfl, (blk_cell BK374.out 1).trans rfl, (blk_cell BK374.out 2).trans rfl, (blk_cell BK374.out 3).trans rfl, (blk_cell BK374.out 4).trans rfl, (blk_cell BK374.out 5).trans rfl⟩ (fun hHeld => ?_)
       generalize w34.drew = w35 at HO378 HO381 HO385 HO389 HO393 HO396 HO400 HO404 BK374 BK405 HB hHeld ⊢
       refine take_ (i := 0) (N := some 22) (v := ?_) (a' := ?_) #[true, false, false, false, false] rfl rfl (by kernel_rfl) (fun _ _ _ h => h) (Or.inl ⟨by rfl, ?_⟩) hHeld ?_ ?_
       rotate_left
       · rintro w' ⟨s0, s1, s2, s3, s4, s5, s6, s7, s8, s9, s10, s11⟩
         go_simp
         with_reducible rfl
       rotate_left
       · simp only [Act.put, List.setIfInBounds_toArray, List.set_cons_zero, List.set_cons_succ, i64_w, i32_w]
         rfl
       refine take_ (i := 1) (N := some 23) (v := ?_) (a' := ?_) #[true, true, false, false, false] rfl rfl (by kernel_rfl) (fun _ _ _ h => h) (Or.inl ⟨by rfl, ?_⟩) hHeld ?_ ?_
       rotate_left
       · rintro w' ⟨s0, s1, s2, s3, s4, s5, s6, s7, s8, s9, s10, s11⟩
         go_simp
         with_reducible rfl
       rotate_left
       · simp only [Act.put, List.setIfInBounds_toArray, List.set_cons_zero, List.set_cons_succ, i64_w, i32_w]
         rfl
       refine one_ (i := 2) (N := some 24) #[true, true, true, false, false] rfl rfl (by kernel_rfl) (by decide) (fun K hK => ?_)
       refine goes_ Tryd.func26 (by kernel_rfl) rfl #[.agg #[.slice A0_0 l0_0.length c0_0, .slice A0_1 l0_1.length c0_1, .int .i64 a0_2, .slice A0_3 l0_3.length c0_3, .int .i64 a0_4, .slice A0_5 l0_5.length c0_5]] (by rfl) rfl rfl (by (try simp only [List.map_toArray, List.map_cons, List.map_nil]); first | done | rfl | (simp only [List.length_drop, List.length_take]; rfl)) ?_
       with_reducible refine (laws_toImage.calls k _ _ l0_0 _ _ l0_1 a0_2 _ _ l0_3 a0_4 _ _ l0_5 t407 t410 t413 t414 t417 t418 _ ?side1 ?side2 ?side3 ?side4 ?side5 ?side6 ?side7 ?side8 A12.out).mono ?_
       (case side1 => repeat (first | exact (Kd.C_below HR0_0.out HB.out) | (with_reducible refine Kd.C_alloc ?_ _) | (with_reducible refine Kd.C_drewN ?_ _) | (with_reducible refine Kd.C_drew ?_)))
       (case side2 => exact HC0_0.out)
       (case side3 => repeat (first | exact (Kd.C_below HR0_1.out HB.out) | (with_reducible refine Kd.C_alloc ?_ _) | (with_reducible refine Kd.C_drewN ?_ _) | (with_reducible refine Kd.C_drew ?_)))
       (case side4 => exact HC0_1.out)
       (case side5 => repeat (first | exact (Kd.C_below HR0_3.out HB.out) | (with_reducible refine Kd.C_alloc ?_ _) | (with_reducible refine Kd.C_drewN ?_ _) | (with_reducible refine Kd.C_drew ?_)))
       (case side6 => exact HC0_3.out)
       (case side7 => repeat (first | exact (Kd.C_below HR0_5.out HB.out) | (with_reducible refine Kd.C_alloc ?_ _) | (with_reducible refine Kd.C_drewN ?_ _) | (with_reducible refine Kd.C_drew ?_)))
       (case side8 => exact HC0_5.out)
       rintro e w36 ⟨v408, v411, v415, v419, rfl, ho0, ho1, ho2, ho3, hb⟩
       refine ⟨_, rfl, ?_⟩
       have n0_ := Aside0.mk (Kd.R_mono (Kd.R_told (Kd.R_told (Kd.R_old (by (with_reducible repeat (first | apply Kd.R_alloc | apply Kd.R_drewN | apply Kd.R_drew)); exact HO378.out) hb) (Kd.R_base ho0)) (Kd.R_base ho1)) (fun _ h_ => h_.1))
       have n1_ := Aside0.mk (Kd.R_mono (Kd.R_told (Kd.R_told (Kd.R_old (by (with_reducible repeat (first | apply Kd.R_alloc | apply Kd.R_drewN | apply Kd.R_drew)); exact HO381.out) hb) (Kd.R_base ho0)) (Kd.R_base ho1)) (fun _ h_ => h_.1))
       have n2_ := Aside0.mk (Kd.R_elder' (by (with_reducible repeat (first | apply Kd.R_alloc | apply Kd.R_drewN | apply Kd.R_drew)); exact HO385.out) (Kd.R_base ho2) hb)
       have n3_ := Aside0.mk (Kd.R_elder' (by (with_reducible repeat (first | apply Kd.R_alloc | apply Kd.R_drewN | apply Kd.R_drew)); exact HO389.out) (Kd.R_base ho3) hb)
       have n4_ := Aside0.mk (Kd.R_mono (Kd.R_told (Kd.R_told (Kd.R_old (by (with_reducible repeat (first | apply Kd.R_alloc | apply Kd.R_drewN | apply Kd.R_drew)); exact HO393.out) hb) (Kd.R_base ho0)) (Kd.R_base ho1)) (fun _ h_ => h_.1))
       have n5_ := Aside0.mk (Kd.R_mono (Kd.R_told (Kd.R_told (Kd.R_old (by (with_reducible repeat (first | apply Kd.R_alloc | apply Kd.R_drewN | apply Kd.R_drew)); exact HO396.out) hb) (Kd.R_base ho0)) (Kd.R_base ho1)) (fun _ h_ => h_.1))
       have n6_ := Aside0.mk (Kd.R_elder' (by (with_reducible repeat (first | apply Kd.R_alloc | apply Kd.R_drewN | apply Kd.R_drew)); exact HO400.out) (Kd.R_base ho2) hb)
       have n7_ := Aside0.mk (Kd.R_elder' (by (with_reducible repeat (first | apply Kd.R_alloc | apply Kd.R_drewN | apply Kd.R_drew)); exact HO404.out) (Kd.R_base ho3) hb)
       have n8_ := Aside0.mk (Kd.R_lower (Kd.R_new' (Kd.R_new' (Kd.R_new' (Kd.R_new' ho0 (Kd.R_lt (by (with_reducible repeat (first | apply Kd.R_alloc | apply Kd.R_drewN | apply Kd.R_drew)); exact HO378.out))) (Kd.R_lt (by (with_reducible repeat (first | apply Kd.R_alloc | apply Kd.R_drewN | apply Kd.R_drew)); exact HO381.out))) (Kd.R_lt (by (with_reducible repeat (first | apply Kd.R_alloc | apply Kd.R_drewN | apply Kd.R_drew)); exact HO393.out))) (Kd.R_lt (by (with_reducible repeat (first | apply Kd.R_alloc | apply Kd.R_drewN | apply Kd.R_drew)); exact HO396.out))) (below_size (by repeat (first | (with_reducible first | exact HB.out | apply below_alloc | apply pw_below_drewN | apply below_drew1 | refine below_set ?_ GE374.out | refine below_set ?_ GE405.out) | exact HB.out))))
       have n9_ := Aside0.mk (Kd.R_lower (Kd.R_new' (Kd.R_new' (Kd.R_new' (Kd.R_new' ho1 (Kd.R_lt (by (with_reducible repeat (first | apply Kd.R_alloc | apply Kd.R_drewN | apply Kd.R_drew)); exact HO378.out))) (Kd.R_lt (by (with_reducible repeat (first | apply Kd.R_alloc | apply Kd.R_drewN | apply Kd.R_drew)); exact HO381.out))) (Kd.R_lt (by (with_reducible repeat (first | apply Kd.R_alloc | apply Kd.R_drewN | apply Kd.R_drew)); exact HO393.out))) (Kd.R_lt (by (with_reducible repeat (first | apply Kd.R_alloc | apply Kd.R_drewN | apply Kd.R_drew)); exact HO396.out))) (below_size (by repeat (first | (with_reducible first | exact HB.out | apply below_alloc | apply pw_below_drewN | apply below_drew1 | refine below_set ?_ GE374.out | refine below_set ?_ GE405.out) | exact HB.out))))
       have n10_ := Aside0.mk (Kd.R_lower (Kd.R_new' (Kd.R_new' ho2 (Kd.R_lt (by (with_reducible repeat (first | apply Kd.R_alloc | apply Kd.R_drewN | apply Kd.R_drew)); exact HO385.out))) (Kd.R_lt (by (with_reducible repeat (first | apply Kd.R_alloc | apply Kd.R_drewN | apply Kd.R_drew)); exact HO400.out))) (below_size (by repeat (first | (with_reducible first | exact HB.out | apply below_alloc | apply pw_below_drewN | apply below_drew1 | refine below_set ?_ GE374.out | refine below_set ?_ GE405.out) | exact HB.out))))
       have n11_ := Aside0.mk (Kd.R_lower (Kd.R_new' (Kd.R_new' ho3 (Kd.R_lt (by (with_reducible repeat (first | apply Kd.R_alloc | apply Kd.R_drewN | apply Kd.R_drew)); exact HO389.out))) (Kd.R_lt (by (with_reducible repeat (first | apply Kd.R_alloc | apply Kd.R_drewN | apply Kd.R_drew)); exact HO404.out))) (below_size (by repeat (first | (with_reducible first | exact HB.out | apply below_alloc | apply pw_below_drewN | apply below_drew1 | refine below_set ?_ GE374.out | refine below_set ?_ GE405.out) | exact HB.out))))
       have n12_ := Aside0.mk (blk_below (g := gb374) (o := .cells #[.slice A0_0 l0_0.length c0_0, .slice A0_1 l0_1.length c0_1, .int .i64 a0_2, .slice A0_3 l0_3.length c0_3, .int .i64 a0_4, .slice A0_5 l0_5.length c0_5] 55 (0, 0)) (by (with_reducible repeat (first | refine blk_drewN ?_ _ | refine blk_drew ?_ | refine blk_alloc ?_ _)); exact BK374.out) hb)
       have n13_ := Aside0.mk (blk_below (g := gb405) (o := .cells #[.slice Ao28 t391.length co28, .slice Ao31 t394.length co31, .int .i64 t397, .slice Ao32 t398.length co32, .int .i64 t401, .slice Ao33 t402.length co33] 60 (0, 0)) (by (with_reducible repeat (first | refine blk_drewN ?_ _ | refine blk_drew ?_ | refine blk_alloc ?_ _)); exact BK405.out) hb)
       have n14_ := Aside0.mk (below_step (by repeat (first | (with_reducible first | exact HB.out | apply below_alloc | apply pw_below_drewN | apply below_drew1 | refine below_set ?_ GE374.out | refine below_set ?_ GE405.out) | exact HB.out)) hb)
       clear HO378
       clear HO381
       clear HO385
       clear HO389
       clear HO393
       clear HO396
       clear HO400
       clear HO404
       clear BK374
       clear BK405
       clear HB
       have HO378 := n0_
       have HO381 := n1_
       have HO385 := n2_
       have HO389 := n3_
       have HO393 := n4_
       have HO396 := n5_
       have HO400 := n6_
       have HO404 := n7_
       have HO409 := n8_
       have HO412 := n9_
       have HO416 := n10_
       have HO420 := n11_
       have BK374 := n12_
       have BK405 := n13_
       have HB := n14_
       clear n0_ n1_ n2_ n3_ n4_ n5_ n6_ n7_ n8_ n9_ n10_ n11_ n12_ n13_ n14_
       (try clear hb)
       (try clear hb2)
       (try clear hk)
       (try clear hi)
       (try clear ho0)
       (try clear ho1)
       (try clear ho2)
       (try clear ho3)
       obtain ⟨Ao37, co37, eo37⟩ := Kd.R_slice HO409.out
       (first | subst eo37 | (injection eo37 with f1_ f2_ f3_; have f4_ := f1_.symm; have f5_ := f3_.symm; clear f1_ f2_ f3_; subst f4_; subst f5_))
       obtain ⟨Ao38, co38, eo38⟩ := Kd.R_slice HO412.out
       (first | subst eo38 | (injection eo38 with f1_ f2_ f3_; have f4_ := f1_.symm; have f5_ := f3_.symm; clear f1_ f2_ f3_; subst f4_; subst f5_))
       obtain ⟨Ao39, co39, eo39⟩ := Kd.R_slice HO416.out
       (first | subst eo39 | (injection eo39 with f1_ f2_ f3_; have f4_ := f1_.symm; have f5_ := f3_.symm; clear f1_ f2_ f3_; subst f4_; subst f5_))
       obtain ⟨Ao40, co40, eo40⟩ := Kd.R_slice HO420.out
       (first | subst eo40 | (injection eo40 with f1_ f2_ f3_; have f4_ := f1_.symm; have f5_ := f3_.symm; clear f1_ f2_ f3_; subst f4_; subst f5_))
       refine hK.out _ _ ⟨(blk_cell BK405.out 0).trans rfl, (blk_cell BK405.out 1).trans rfl, (blk_cell BK405.out 2).trans rfl, (blk_cell BK405.out 3).trans rfl, (blk_cell BK405.out 4).trans rfl, (blk_cell BK405.out 5).trans rfl, (blk_cell BK374.out 0).trans rfl, (blk_cell BK374.out 1).trans rfl, (blk_cell BK374.out 2).trans rfl, (blk_cell BK374.out 3).trans rfl, (blk_cell BK374.out 4).trans rfl, (blk_cell BK374.out 5).trans rfl⟩ (fun hHeld => ?_)
       clear hK K
       refine norm_ (a' := ?_) ?_ ?_
       rotate_left
       · show Act.put _ (some 24) _ = _
         simp only [Act.put, List.setIfInBounds_toArray, List.set_cons_zero, List.set_cons_succ, i64_w, i32_w]
         rfl
       refine one_ (i := 3) (N := some 25) #[true, true, true, true, false] rfl rfl (by kernel_rfl) (by decide) (fun K hK => ?_)
       refine goes_ Tryd.func28 (by kernel_rfl) rfl #[.agg #[.slice Ao28 t391.length co28, .slice Ao31 t394.length co31, .int .i64 t397, .slice Ao32 t398.length co32, .int .i64 t401, .slice Ao33 t402.length co33], .agg #[.slice Ao37 t407.length co37, .slice Ao38 t410.length co38, .int .i64 t413, .slice Ao39 t414.length co39, .int .i64 t417, .slice Ao40 t418.length co40]] (by rfl) rfl rfl (by (try simp only [List.map_toArray, List.map_cons, List.map_nil]); first | done | rfl | (simp only [List.length_drop, List.length_take]; rfl)) ?_
       with_reducible refine (laws_eqImage.calls k _ _ t391 _ _ t394 t397 _ _ t398 t401 _ _ t402 _ _ t407 _ _ t410 t413 _ _ t414 t417 _ _ t418 true _ ?side1 ?side2 ?side3 ?side4 ?side5 ?side6 ?side7 ?side8 ?side9 ?side10 ?side11 ?side12 ?side13 ?side14 ?side15 ?side16 A13.out).mono ?_
       (case side1 => repeat (first | exact (Kd.R_reads' HO393.out).2.2 | (with_reducible refine Kd.C_alloc ?_ _) | (with_reducible refine Kd.C_drewN ?_ _) | (with_reducible refine Kd.C_drew ?_)))
       (case side2 => exact (Kd.R_reads' HO393.out).2.1)
       (case side3 => repeat (first | exact (Kd.R_reads' HO396.out).2.2 | (with_reducible refine Kd.C_alloc ?_ _) | (with_reducible refine Kd.C_drewN ?_ _) | (with_reducible refine Kd.C_drew ?_)))
       (case side4 => exact (Kd.R_reads' HO396.out).2.1)
       (case side5 => repeat (first | exact (Kd.R_reads' HO400.out).2.2 | (with_reducible refine Kd.C_alloc ?_ _) | (with_reducible refine Kd.C_drewN ?_ _) | (with_reducible refine Kd.C_drew ?_)))
       (case side6 => exact (Kd.R_reads' HO400.out).2.1)
       (case side7 => repeat (first | exact (Kd.R_reads' HO404.out).2.2 | (with_reducible refine Kd.C_alloc ?_ _) | (with_reducible refine Kd.C_drewN ?_ _) | (with_reducible refine Kd.C_drew ?_)))
       (case side8 => exact (Kd.R_reads' HO404.out).2.1)
       (case side9 => repeat (first | exact (Kd.R_reads' HO409.out).2.2 | (with_reducible refine Kd.C_alloc ?_ _) | (with_reducible refine Kd.C_drewN ?_ _) | (with_reducible refine Kd.C_drew ?_)))
       (case side10 => exact (Kd.R_reads' HO409.out).2.1)
       (case side11 => repeat (first | exact (Kd.R_reads' HO412.out).2.2 | (with_reducible refine Kd.C_alloc ?_ _) | (with_reducible refine Kd.C_drewN ?_ _) | (with_reducible refine Kd.C_drew ?_)))
       (case side12 => exact (Kd.R_reads' HO412.out).2.1)
       (case side13 => repeat (first | exact (Kd.R_reads' HO416.out).2.2 | (with_reducible refine Kd.C_alloc ?_ _) | (with_reducible refine Kd.C_drewN ?_ _) | (with_reducible refine Kd.C_drew ?_)))
       (case side14 => exact (Kd.R_reads' HO416.out).2.1)
       (case side15 => repeat (first | exact (Kd.R_reads' HO420.out).2.2 | (with_reducible refine Kd.C_alloc ?_ _) | (with_reducible refine Kd.C_drewN ?_ _) | (with_reducible refine Kd.C_drew ?_)))
       (case side16 => exact (Kd.R_reads' HO420.out).2.1)
       rintro e w41 ⟨rfl, hb⟩
       refine ⟨_, rfl, ?_⟩
       have n0_ := Aside0.mk (Kd.R_below (by (with_reducible repeat (first | apply Kd.R_alloc | apply Kd.R_drewN | apply Kd.R_drew)); exact HO378.out) hb)
       have n1_ := Aside0.mk (Kd.R_below (by (with_reducible repeat (first | apply Kd.R_alloc | apply Kd.R_drewN | apply Kd.R_drew)); exact HO381.out) hb)
       have n2_ := Aside0.mk (Kd.R_below (by (with_reducible repeat (first | apply Kd.R_alloc | apply Kd.R_drewN | apply Kd.R_drew)); exact HO385.out) hb)
       have n3_ := Aside0.mk (Kd.R_below (by (with_reducible repeat (first | apply Kd.R_alloc | apply Kd.R_drewN | apply Kd.R_drew)); exact HO389.out) hb)
       have n4_ := Aside0.mk (Kd.R_below (by (with_reducible repeat (first | apply Kd.R_alloc | apply Kd.R_drewN | apply Kd.R_drew)); exact HO393.out) hb)
       have n5_ := Aside0.mk (Kd.R_below (by (with_reducible repeat (first | apply Kd.R_alloc | apply Kd.R_drewN | apply Kd.R_drew)); exact HO396.out) hb)
       have n6_ := Aside0.mk (Kd.R_below (by (with_reducible repeat (first | apply Kd.R_alloc | apply Kd.R_drewN | apply Kd.R_drew)); exact HO400.out) hb)
       have n7_ := Aside0.mk (Kd.R_below (by (with_reducible repeat (first | apply Kd.R_alloc | apply Kd.R_drewN | apply Kd.R_drew)); exact HO404.out) hb)
       have n8_ := Aside0.mk (Kd.R_below (by (with_reducible repeat (first | apply Kd.R_alloc | apply Kd.R_drewN | apply Kd.R_drew)); exact HO409.out) hb)
       have n9_ := Aside0.mk (Kd.R_below (by (with_reducible repeat (first | apply Kd.R_alloc | apply Kd.R_drewN | apply Kd.R_drew)); exact HO412.out) hb)
       have n10_ := Aside0.mk (Kd.R_below (by (with_reducible repeat (first | apply Kd.R_alloc | apply Kd.R_drewN | apply Kd.R_drew)); exact HO416.out) hb)
       have n11_ := Aside0.mk (Kd.R_below (by (with_reducible repeat (first | apply Kd.R_alloc | apply Kd.R_drewN | apply Kd.R_drew)); exact HO420.out) hb)
       have n12_ := Aside0.mk (blk_below (g := gb374) (o := .cells #[.slice A0_0 l0_0.length c0_0, .slice A0_1 l0_1.length c0_1, .int .i64 a0_2, .slice A0_3 l0_3.length c0_3, .int .i64 a0_4, .slice A0_5 l0_5.length c0_5] 55 (0, 0)) (by (with_reducible repeat (first | refine blk_drewN ?_ _ | refine blk_drew ?_ | refine blk_alloc ?_ _)); exact BK374.out) hb)
       have n13_ := Aside0.mk (blk_below (g := gb405) (o := .cells #[.slice Ao28 t391.length co28, .slice Ao31 t394.length co31, .int .i64 t397, .slice Ao32 t398.length co32, .int .i64 t401, .slice Ao33 t402.length co33] 60 (0, 0)) (by (with_reducible repeat (first | refine blk_drewN ?_ _ | refine blk_drew ?_ | refine blk_alloc ?_ _)); exact BK405.out) hb)
       have n14_ := Aside0.mk (below_step (by repeat (first | (with_reducible first | exact HB.out | apply below_alloc | apply pw_below_drewN | apply below_drew1 | refine below_set ?_ GE374.out | refine below_set ?_ GE405.out) | exact HB.out)) hb)
       clear HO378
       clear HO381
       clear HO385
       clear HO389
       clear HO393
       clear HO396
       clear HO400
       clear HO404
       clear HO409
       clear HO412
       clear HO416
       clear HO420
       clear BK374
       clear BK405
       clear HB
       have HO378 := n0_
       have HO381 := n1_
       have HO385 := n2_
       have HO389 := n3_
       have HO393 := n4_
       have HO396 := n5_
       have HO400 := n6_
       have HO404 := n7_
       have HO409 := n8_
       have HO412 := n9_
       have HO416 := n10_
       have HO420 := n11_
       have BK374 := n12_
       have BK405 := n13_
       have HB := n14_
       clear n0_ n1_ n2_ n3_ n4_ n5_ n6_ n7_ n8_ n9_ n10_ n11_ n12_ n13_ n14_
       (try clear hb)
       (try clear hb2)
       (try clear hk)
       (try clear hi)
       refine hK.out _ _ ⟨(blk_cell BK405.out 0).trans rfl, (blk_cell BK405.out 1).trans rfl, (blk_cell BK405.out 2).trans rfl, (blk_cell BK405.out 3).trans rfl, (blk_cell BK405.out 4).trans rfl, (blk_cell BK405.out 5).trans rfl, (blk_cell BK374.out 0).trans rfl, (blk_cell BK374.out 1).trans rfl, (blk_cell BK374.out 2).trans rfl, (blk_cell BK374.out 3).trans rfl, (blk_cell BK374.out 4).trans rfl, (blk_cell BK374.out 5).trans rfl⟩ (fun hHeld => ?_)
       clear hK K
       refine norm_ (a' := ?_) ?_ ?_
       rotate_left
       · show Act.put _ (some 25) _ = _
         simp only [Act.put, List.setIfInBounds_toArray, List.set_cons_zero, List.set_cons_succ, i64_w, i32_w]
         rfl
       refine pure_ (i := 4) (N := some 26) (v := ?_) (a' := ?_) #[true, true, true, true, true] rfl rfl (by kernel_rfl) (fun _ _ _ h => h) (Or.inl ⟨by rfl, ?_⟩) ?_ ?_
       rotate_left
       · intro w'
         go_simp
         with_reducible rfl
       rotate_left
       · simp only [Act.put, List.setIfInBounds_toArray, List.set_cons_zero, List.set_cons_succ, i64_w, i32_w]
         rfl
       refine done_ (by kernel_rfl) ?_
       try go_wp2
       go_ret
       exact ⟨by first | rfl | (simp [errW_none, errW_some] <;> rfl) | (simp [*, errW_none, errW_some] <;> rfl), by repeat (first | (with_reducible first | exact HB.out | apply below_alloc | apply pw_below_drewN | apply below_drew1 | refine below_set ?_ GE374.out | refine below_set ?_ GE405.out) | exact HB.out)⟩
     · replace c14 := Bool.eq_false_iff.mpr c14
       subst c14
       have H1 : (some false) = some r := by rw [if_neg (show ¬ (false = true) by decide)] at H; exact H
       clear H
       have H := H1
       clear H1
       obtain rfl := Option.some.inj H
       go_enter Tryd.func6, Tryd.ntmps6
       try go_wp2_with (first | ((with_reducible refine gate_dst (N := 1) rfl ?_); refine box_event ?hg (N := 1) ?hd (cs := #[.slice A0_0 l0_0.length c0_0, .slice A0_1 l0_1.length c0_1, .int .i64 a0_2, .slice A0_3 l0_3.length c0_3, .int .i64 a0_4, .slice A0_5 l0_5.length c0_5]) (t := 55) ?hr ?_; (case hd => rfl); (case hg => rfl); (case hr => first | (go_simp; done) | (go_simp; rfl)); intro gb374 hg w42 hbox hb; have n0_ := Aside0.mk (below_step (by repeat (first | (with_reducible first | exact HB.out | apply below_alloc | apply pw_below_drewN | apply below_drew1) | exact HB.out)) hb); have n1_ := Aside0.mk (hbox); have n2_ := Aside0.mk ((by rw [hg]; exact (below_size (by repeat (first | (with_reducible first | exact HB.out | apply below_alloc | apply pw_below_drewN | apply below_drew1) | exact HB.out))) : w.heap.size ≤ gb374)); have n3_ := Aside0.mk ((by rw [hg]; exact (below_size (by repeat (first | (with_reducible first | exact HB.out | apply below_alloc | apply pw_below_drewN | apply below_drew1) | exact HB.out))) : w.heap.size ≤ gb374)); clear HB; have HB := n0_; have BK374 := n1_; have GW374 := n2_; have GE374 := n3_; clear n0_ n1_ n2_ n3_; clear hb hbox hg; have hcz43_0 : w42.cell? ⟨gb374, 0, none⟩ = some (.slice A0_0 l0_0.length c0_0) := (blk_cell BK374.out 0).trans rfl; have hcz43_1 : w42.cell? ⟨gb374, 1, none⟩ = some (.slice A0_1 l0_1.length c0_1) := (blk_cell BK374.out 1).trans rfl; have hcz43_2 : w42.cell? ⟨gb374, 2, none⟩ = some (.int .i64 a0_2) := (blk_cell BK374.out 2).trans rfl; have hcz43_3 : w42.cell? ⟨gb374, 3, none⟩ = some (.slice A0_3 l0_3.length c0_3) := (blk_cell BK374.out 3).trans rfl; have hcz43_4 : w42.cell? ⟨gb374, 4, none⟩ = some (.int .i64 a0_4) := (blk_cell BK374.out 4).trans rfl; have hcz43_5 : w42.cell? ⟨gb374, 5, none⟩ = some (.slice A0_5 l0_5.length c0_5) := (blk_cell BK374.out 5).trans rfl; have hfz43_0 := blk_frozen BK374.out 0; have hfz43_1 := blk_frozen BK374.out 1; have hfz43_2 := blk_frozen BK374.out 2; have hfz43_3 := blk_frozen BK374.out 3; have hfz43_4 := blk_frozen BK374.out 4; have hfz43_5 := blk_frozen BK374.out 5) | ((with_reducible refine gate_callee (f := 24) rfl ?_); refine goesL_ (some 9) rfl rfl Tryd.func24 (by kernel_rfl) rfl #[.agg #[.slice A0_0 l0_0.length c0_0, .slice A0_1 l0_1.length c0_1, .int .i64 a0_2, .slice A0_3 l0_3.length c0_3, .int .i64 a0_4, .slice A0_5 l0_5.length c0_5], .int .i64 1048576] rfl (by (try simp only [List.map_toArray, List.map_cons, List.map_nil]); first | done | rfl | (simp only [List.length_drop, List.length_take]; rfl)) ?_; (with_reducible refine (laws_szImage.calls k _ _ l0_0 _ _ l0_1 a0_2 _ _ l0_3 a0_4 _ _ l0_5 1048576 t375 _ ?side1 ?side2 ?side3 ?side4 ?side5 ?side6 ?side7 ?side8 A2.out).mono ?_); (case side1 => repeat (first | exact (Kd.C_below HR0_0.out HB.out) | (with_reducible refine Kd.C_alloc ?_ _) | (with_reducible refine Kd.C_drewN ?_ _) | (with_reducible refine Kd.C_drew ?_))); (case side2 => exact HC0_0.out); (case side3 => repeat (first | exact (Kd.C_below HR0_1.out HB.out) | (with_reducible refine Kd.C_alloc ?_ _) | (with_reducible refine Kd.C_drewN ?_ _) | (with_reducible refine Kd.C_drew ?_))); (case side4 => exact HC0_1.out); (case side5 => repeat (first | exact (Kd.C_below HR0_3.out HB.out) | (with_reducible refine Kd.C_alloc ?_ _) | (with_reducible refine Kd.C_drewN ?_ _) | (with_reducible refine Kd.C_drew ?_))); (case side6 => exact HC0_3.out); (case side7 => repeat (first | exact (Kd.C_below HR0_5.out HB.out) | (with_reducible refine Kd.C_alloc ?_ _) | (with_reducible refine Kd.C_drewN ?_ _) | (with_reducible refine Kd.C_drew ?_))); (case side8 => exact HC0_5.out); rintro e w44 ⟨rfl, hb⟩; refine ⟨_, rfl, ?_⟩; have n0_ := Aside0.mk (blk_below (g := gb374) (o := .cells #[.slice A0_0 l0_0.length c0_0, .slice A0_1 l0_1.length c0_1, .int .i64 a0_2, .slice A0_3 l0_3.length c0_3, .int .i64 a0_4, .slice A0_5 l0_5.length c0_5] 55 (0, 0)) (by (with_reducible repeat (first | refine blk_drewN ?_ _ | refine blk_drew ?_ | refine blk_alloc ?_ _)); exact BK374.out) hb); have n1_ := Aside0.mk (below_step (by repeat (first | (with_reducible first | exact HB.out | apply below_alloc | apply pw_below_drewN | apply below_drew1 | refine below_set ?_ GE374.out) | exact HB.out)) hb); clear BK374; clear HB; have BK374 := n0_; have HB := n1_; clear n0_ n1_; (try clear hb); (try clear hb2); (try clear hk); (try clear hi); have hcz45_0 : w44.cell? ⟨gb374, 0, none⟩ = some (.slice A0_0 l0_0.length c0_0) := (blk_cell BK374.out 0).trans rfl; have hcz45_1 : w44.cell? ⟨gb374, 1, none⟩ = some (.slice A0_1 l0_1.length c0_1) := (blk_cell BK374.out 1).trans rfl; have hcz45_2 : w44.cell? ⟨gb374, 2, none⟩ = some (.int .i64 a0_2) := (blk_cell BK374.out 2).trans rfl; have hcz45_3 : w44.cell? ⟨gb374, 3, none⟩ = some (.slice A0_3 l0_3.length c0_3) := (blk_cell BK374.out 3).trans rfl; have hcz45_4 : w44.cell? ⟨gb374, 4, none⟩ = some (.int .i64 a0_4) := (blk_cell BK374.out 4).trans rfl; have hcz45_5 : w44.cell? ⟨gb374, 5, none⟩ = some (.slice A0_5 l0_5.length c0_5) := (blk_cell BK374.out 5).trans rfl; have hfz45_0 := blk_frozen BK374.out 0; have hfz45_1 := blk_frozen BK374.out 1; have hfz45_2 := blk_frozen BK374.out 2; have hfz45_3 := blk_frozen BK374.out 3; have hfz45_4 := blk_frozen BK374.out 4; have hfz45_5 := blk_frozen BK374.out 5) | ((with_reducible refine gate_callee (f := 26) rfl ?_); refine goesL_ (some 13) rfl rfl Tryd.func26 (by kernel_rfl) rfl #[.agg #[.slice A0_0 l0_0.length c0_0, .slice A0_1 l0_1.length c0_1, .int .i64 a0_2, .slice A0_3 l0_3.length c0_3, .int .i64 a0_4, .slice A0_5 l0_5.length c0_5]] rfl (by (try simp only [List.map_toArray, List.map_cons, List.map_nil]); first | done | rfl | (simp only [List.length_drop, List.length_take]; rfl)) ?_; (with_reducible refine (laws_toImage.calls k _ _ l0_0 _ _ l0_1 a0_2 _ _ l0_3 a0_4 _ _ l0_5 t376 t379 t382 t383 t386 t387 _ ?side1 ?side2 ?side3 ?side4 ?side5 ?side6 ?side7 ?side8 A7.out).mono ?_); (case side1 => repeat (first | exact (Kd.C_below HR0_0.out HB.out) | (with_reducible refine Kd.C_alloc ?_ _) | (with_reducible refine Kd.C_drewN ?_ _) | (with_reducible refine Kd.C_drew ?_))); (case side2 => exact HC0_0.out); (case side3 => repeat (first | exact (Kd.C_below HR0_1.out HB.out) | (with_reducible refine Kd.C_alloc ?_ _) | (with_reducible refine Kd.C_drewN ?_ _) | (with_reducible refine Kd.C_drew ?_))); (case side4 => exact HC0_1.out); (case side5 => repeat (first | exact (Kd.C_below HR0_3.out HB.out) | (with_reducible refine Kd.C_alloc ?_ _) | (with_reducible refine Kd.C_drewN ?_ _) | (with_reducible refine Kd.C_drew ?_))); (case side6 => exact HC0_3.out); (case side7 => repeat (first | exact (Kd.C_below HR0_5.out HB.out) | (with_reducible refine Kd.C_alloc ?_ _) | (with_reducible refine Kd.C_drewN ?_ _) | (with_reducible refine Kd.C_drew ?_))); (case side8 => exact HC0_5.out); rintro e w46 ⟨v377, v380, v384, v388, rfl, ho0, ho1, ho2, ho3, hb⟩; refine ⟨_, rfl, ?_⟩; have n0_ := Aside0.mk (Kd.R_lower ho0 (below_size (by repeat (first | (with_reducible first | exact HB.out | apply below_alloc | apply pw_below_drewN | apply below_drew1 | refine below_set ?_ GE374.out) | exact HB.out)))); have n1_ := Aside0.mk (Kd.R_lower ho1 (below_size (by repeat (first | (with_reducible first | exact HB.out | apply below_alloc | apply pw_below_drewN | apply below_drew1 | refine below_set ?_ GE374.out) | exact HB.out)))); have n2_ := Aside0.mk (Kd.R_lower ho2 (below_size (by repeat (first | (with_reducible first | exact HB.out | apply below_alloc | apply pw_below_drewN | apply below_drew1 | refine below_set ?_ GE374.out) | exact HB.out)))); have n3_ := Aside0.mk (Kd.R_lower ho3 (below_size (by repeat (first | (with_reducible first | exact HB.out | apply below_alloc | apply pw_below_drewN | apply below_drew1 | refine below_set ?_ GE374.out) | exact HB.out)))); have n4_ := Aside0.mk (blk_below (g := gb374) (o := .cells #[.slice A0_0 l0_0.length c0_0, .slice A0_1 l0_1.length c0_1, .int .i64 a0_2, .slice A0_3 l0_3.length c0_3, .int .i64 a0_4, .slice A0_5 l0_5.length c0_5] 55 (0, 0)) (by (with_reducible repeat (first | refine blk_drewN ?_ _ | refine blk_drew ?_ | refine blk_alloc ?_ _)); exact BK374.out) hb); have n5_ := Aside0.mk (below_step (by repeat (first | (with_reducible first | exact HB.out | apply below_alloc | apply pw_below_drewN | apply below_drew1 | refine below_set ?_ GE374.out) | exact HB.out)) hb); clear BK374; clear HB; have HO378 := n0_; have HO381 := n1_; have HO385 := n2_; have HO389 := n3_; have BK374 := n4_; have HB := n5_; clear n0_ n1_ n2_ n3_ n4_ n5_; (try clear hb); (try clear hb2); (try clear hk); (try clear hi); (try clear ho0); (try clear ho1); (try clear ho2); (try clear ho3); obtain ⟨Ao47, co47, eo47⟩ := Kd.R_slice HO378.out; subst eo47; obtain ⟨Ao48, co48, eo48⟩ := Kd.R_slice HO381.out; subst eo48; obtain ⟨Ao49, co49, eo49⟩ := Kd.R_slice HO385.out; subst eo49; obtain ⟨Ao50, co50, eo50⟩ := Kd.R_slice HO389.out; subst eo50) | ((with_reducible refine gate_callee (f := 25) rfl ?_); refine goesL_ (some 14) rfl rfl Tryd.func25 (by kernel_rfl) rfl #[.agg #[.slice Ao47 t376.length co47, .slice Ao48 t379.length co48, .int .i64 t382, .slice Ao49 t383.length co49, .int .i64 t386, .slice Ao50 t387.length co50]] rfl (by (try simp only [List.map_toArray, List.map_cons, List.map_nil]); first | done | rfl | (simp only [List.length_drop, List.length_take]; rfl)) ?_; (with_reducible refine (spec_Disassemble.calls k _ _ t376 _ _ t379 t382 _ _ t383 t386 _ _ t387 t390 _ ?side1 ?side2 ?side3 ?side4 ?side5 ?side6 ?side7 ?side8 A8.out).mono ?_); (case side1 => repeat (first | exact (Kd.R_reads' HO378.out).2.2 | (with_reducible refine Kd.C_alloc ?_ _) | (with_reducible refine Kd.C_drewN ?_ _) | (with_reducible refine Kd.C_drew ?_))); (case side2 => exact (Kd.R_reads' HO378.out).2.1); (case side3 => repeat (first | exact (Kd.R_reads' HO381.out).2.2 | (with_reducible refine Kd.C_alloc ?_ _) | (with_reducible refine Kd.C_drewN ?_ _) | (with_reducible refine Kd.C_drew ?_))); (case side4 => exact (Kd.R_reads' HO381.out).2.1); (case side5 => repeat (first | exact (Kd.R_reads' HO385.out).2.2 | (with_reducible refine Kd.C_alloc ?_ _) | (with_reducible refine Kd.C_drewN ?_ _) | (with_reducible refine Kd.C_drew ?_))); (case side6 => exact (Kd.R_reads' HO385.out).2.1); (case side7 => repeat (first | exact (Kd.R_reads' HO389.out).2.2 | (with_reducible refine Kd.C_alloc ?_ _) | (with_reducible refine Kd.C_drewN ?_ _) | (with_reducible refine Kd.C_drew ?_))); (case side8 => exact (Kd.R_reads' HO389.out).2.1); rintro e w51 ⟨rfl, hb⟩; refine ⟨_, rfl, ?_⟩; have n0_ := Aside0.mk (Kd.R_below (by (with_reducible repeat (first | apply Kd.R_alloc | apply Kd.R_drewN | apply Kd.R_drew)); exact HO378.out) hb); have n1_ := Aside0.mk (Kd.R_below (by (with_reducible repeat (first | apply Kd.R_alloc | apply Kd.R_drewN | apply Kd.R_drew)); exact HO381.out) hb); have n2_ := Aside0.mk (Kd.R_below (by (with_reducible repeat (first | apply Kd.R_alloc | apply Kd.R_drewN | apply Kd.R_drew)); exact HO385.out) hb); have n3_ := Aside0.mk (Kd.R_below (by (with_reducible repeat (first | apply Kd.R_alloc | apply Kd.R_drewN | apply Kd.R_drew)); exact HO389.out) hb); have n4_ := Aside0.mk (blk_below (g := gb374) (o := .cells #[.slice A0_0 l0_0.length c0_0, .slice A0_1 l0_1.length c0_1, .int .i64 a0_2, .slice A0_3 l0_3.length c0_3, .int .i64 a0_4, .slice A0_5 l0_5.length c0_5] 55 (0, 0)) (by (with_reducible repeat (first | refine blk_drewN ?_ _ | refine blk_drew ?_ | refine blk_alloc ?_ _)); exact BK374.out) hb); have n5_ := Aside0.mk (below_step (by repeat (first | (with_reducible first | exact HB.out | apply below_alloc | apply pw_below_drewN | apply below_drew1 | refine below_set ?_ GE374.out) | exact HB.out)) hb); clear HO378; clear HO381; clear HO385; clear HO389; clear BK374; clear HB; have HO378 := n0_; have HO381 := n1_; have HO385 := n2_; have HO389 := n3_; have BK374 := n4_; have HB := n5_; clear n0_ n1_ n2_ n3_ n4_ n5_; (try clear hb); (try clear hb2); (try clear hk); (try clear hi); have hcz52_0 : w51.cell? ⟨gb374, 0, none⟩ = some (.slice A0_0 l0_0.length c0_0) := (blk_cell BK374.out 0).trans rfl; have hcz52_1 : w51.cell? ⟨gb374, 1, none⟩ = some (.slice A0_1 l0_1.length c0_1) := (blk_cell BK374.out 1).trans rfl; have hcz52_2 : w51.cell? ⟨gb374, 2, none⟩ = some (.int .i64 a0_2) := (blk_cell BK374.out 2).trans rfl; have hcz52_3 : w51.cell? ⟨gb374, 3, none⟩ = some (.slice A0_3 l0_3.length c0_3) := (blk_cell BK374.out 3).trans rfl; have hcz52_4 : w51.cell? ⟨gb374, 4, none⟩ = some (.int .i64 a0_4) := (blk_cell BK374.out 4).trans rfl; have hcz52_5 : w51.cell? ⟨gb374, 5, none⟩ = some (.slice A0_5 l0_5.length c0_5) := (blk_cell BK374.out 5).trans rfl; have hfz52_0 := blk_frozen BK374.out 0; have hfz52_1 := blk_frozen BK374.out 1; have hfz52_2 := blk_frozen BK374.out 2; have hfz52_3 := blk_frozen BK374.out 3; have hfz52_4 := blk_frozen BK374.out 4; have hfz52_5 := blk_frozen BK374.out 5) | ((with_reducible refine gate_callee (f := 26) rfl ?_); refine goesL_ (some 16) rfl rfl Tryd.func26 (by kernel_rfl) rfl #[.agg #[.slice A0_0 l0_0.length c0_0, .slice A0_1 l0_1.length c0_1, .int .i64 a0_2, .slice A0_3 l0_3.length c0_3, .int .i64 a0_4, .slice A0_5 l0_5.length c0_5]] rfl (by (try simp only [List.map_toArray, List.map_cons, List.map_nil]); first | done | rfl | (simp only [List.length_drop, List.length_take]; rfl)) ?_; (with_reducible refine (laws_toImage.calls k _ _ l0_0 _ _ l0_1 a0_2 _ _ l0_3 a0_4 _ _ l0_5 t391 t394 t397 t398 t401 t402 _ ?side1 ?side2 ?side3 ?side4 ?side5 ?side6 ?side7 ?side8 A9.out).mono ?_); (case side1 => repeat (first | exact (Kd.C_below HR0_0.out HB.out) | (with_reducible refine Kd.C_alloc ?_ _) | (with_reducible refine Kd.C_drewN ?_ _) | (with_reducible refine Kd.C_drew ?_))); (case side2 => exact HC0_0.out); (case side3 => repeat (first | exact (Kd.C_below HR0_1.out HB.out) | (with_reducible refine Kd.C_alloc ?_ _) | (with_reducible refine Kd.C_drewN ?_ _) | (with_reducible refine Kd.C_drew ?_))); (case side4 => exact HC0_1.out); (case side5 => repeat (first | exact (Kd.C_below HR0_3.out HB.out) | (with_reducible refine Kd.C_alloc ?_ _) | (with_reducible refine Kd.C_drewN ?_ _) | (with_reducible refine Kd.C_drew ?_))); (case side6 => exact HC0_3.out); (case side7 => repeat (first | exact (Kd.C_below HR0_5.out HB.out) | (with_reducible refine Kd.C_alloc ?_ _) | (with_reducible refine Kd.C_drewN ?_ _) | (with_reducible refine Kd.C_drew ?_))); (case side8 => exact HC0_5.out); rintro e w53 ⟨v392, v395, v399, v403, rfl, ho0, ho1, ho2, ho3, hb⟩; refine ⟨_, rfl, ?_⟩; have n0_ := Aside0.mk (Kd.R_mono (Kd.R_told (Kd.R_told (Kd.R_old (by (with_reducible repeat (first | apply Kd.R_alloc | apply Kd.R_drewN | apply Kd.R_drew)); exact HO378.out) hb) (Kd.R_base ho0)) (Kd.R_base ho1)) (fun _ h_ => h_.1)); have n1_ := Aside0.mk (Kd.R_mono (Kd.R_told (Kd.R_told (Kd.R_old (by (with_reducible repeat (first | apply Kd.R_alloc | apply Kd.R_drewN | apply Kd.R_drew)); exact HO381.out) hb) (Kd.R_base ho0)) (Kd.R_base ho1)) (fun _ h_ => h_.1)); have n2_ := Aside0.mk (Kd.R_elder' (by (with_reducible repeat (first | apply Kd.R_alloc | apply Kd.R_drewN | apply Kd.R_drew)); exact HO385.out) (Kd.R_base ho2) hb); have n3_ := Aside0.mk (Kd.R_elder' (by (with_reducible repeat (first | apply Kd.R_alloc | apply Kd.R_drewN | apply Kd.R_drew)); exact HO389.out) (Kd.R_base ho3) hb); have n4_ := Aside0.mk (Kd.R_lower (Kd.R_new' (Kd.R_new' ho0 (Kd.R_lt (by (with_reducible repeat (first | apply Kd.R_alloc | apply Kd.R_drewN | apply Kd.R_drew)); exact HO378.out))) (Kd.R_lt (by (with_reducible repeat (first | apply Kd.R_alloc | apply Kd.R_drewN | apply Kd.R_drew)); exact HO381.out))) (below_size (by repeat (first | (with_reducible first | exact HB.out | apply below_alloc | apply pw_below_drewN | apply below_drew1 | refine below_set ?_ GE374.out) | exact HB.out)))); have n5_ := Aside0.mk (Kd.R_lower (Kd.R_new' (Kd.R_new' ho1 (Kd.R_lt (by (with_reducible repeat (first | apply Kd.R_alloc | apply Kd.R_drewN | apply Kd.R_drew)); exact HO378.out))) (Kd.R_lt (by (with_reducible repeat (first | apply Kd.R_alloc | apply Kd.R_drewN | apply Kd.R_drew)); exact HO381.out))) (below_size (by repeat (first | (with_reducible first | exact HB.out | apply below_alloc | apply pw_below_drewN | apply below_drew1 | refine below_set ?_ GE374.out) | exact HB.out)))); have n6_ := Aside0.mk (Kd.R_lower (Kd.R_new' ho2 (Kd.R_lt (by (with_reducible repeat (first | apply Kd.R_alloc | apply Kd.R_drewN | apply Kd.R_drew)); exact HO385.out))) (below_size (by repeat (first | (with_reducible first | exact HB.out | apply below_alloc | apply pw_below_drewN | apply below_drew1 | refine below_set ?_ GE374.out) | exact HB.out)))); have n7_ := Aside0.mk (Kd.R_lower (Kd.R_new' ho3 (Kd.R_lt (by (with_reducible repeat (first | apply Kd.R_alloc | apply Kd.R_drewN | apply Kd.R_drew)); exact HO389.out))) (below_size (by repeat (first | (with_reducible first | exact HB.out | apply below_alloc | apply pw_below_drewN | apply below_drew1 | refine below_set ?_ GE374.out) | exact HB.out)))); have n8_ := Aside0.mk (blk_below (g := gb374) (o := .cells #[.slice A0_0 l0_0.length c0_0, .slice A0_1 l0_1.length c0_1, .int .i64 a0_2, .slice A0_3 l0_3.length c0_3, .int .i64 a0_4, .slice A0_5 l0_5.length c0_5] 55 (0, 0)) (by (with_reducible repeat (first | refine blk_drewN ?_ _ | refine blk_drew ?_ | refine blk_alloc ?_ _)); exact BK374.out) hb); have n9_ := Aside0.mk (below_step (by repeat (first | (with_reducible first | exact HB.out | apply below_alloc | apply pw_below_drewN | apply below_drew1 | refine below_set ?_ GE374.out) | exact HB.out)) hb); clear HO378; clear HO381; clear HO385; clear HO389; clear BK374; clear HB; have HO378 := n0_; have HO381 := n1_; have HO385 := n2_; have HO389 := n3_; have HO393 := n4_; have HO396 := n5_; have HO400 := n6_; have HO404 := n7_; have BK374 := n8_; have HB := n9_; clear n0_ n1_ n2_ n3_ n4_ n5_ n6_ n7_ n8_ n9_; (try clear hb); (try clear hb2); (try clear hk); (try clear hi); (try clear ho0); (try clear ho1); (try clear ho2); (try clear ho3)) | ((with_reducible refine gate_dst (N := 5) rfl ?_); refine box_event ?hg (N := 5) ?hd (cs := #[.slice none 0 0, .slice none 0 0, .int .i64 0, .slice none 0 0, .int .i64 0, .slice none 0 0]) (t := 60) ?hr ?_; (case hd => rfl); (case hg => rfl); (case hr => first | (go_simp; done) | (go_simp; rfl)); intro gb405 hg w54 hbox hb; have n0_ := Aside0.mk (Kd.R_below (by (with_reducible repeat (first | apply Kd.R_alloc | apply Kd.R_drewN | apply Kd.R_drew)); exact HO378.out) hb); have n1_ := Aside0.mk (Kd.R_below (by (with_reducible repeat (first | apply Kd.R_alloc | apply Kd.R_drewN | apply Kd.R_drew)); exact HO381.out) hb); have n2_ := Aside0.mk (Kd.R_below (by (with_reducible repeat (first | apply Kd.R_alloc | apply Kd.R_drewN | apply Kd.R_drew)); exact HO385.out) hb); have n3_ := Aside0.mk (Kd.R_below (by (with_reducible repeat (first | apply Kd.R_alloc | apply Kd.R_drewN | apply Kd.R_drew)); exact HO389.out) hb); have n4_ := Aside0.mk (Kd.R_below (by (with_reducible repeat (first | apply Kd.R_alloc | apply Kd.R_drewN | apply Kd.R_drew)); exact HO393.out) hb); have n5_ := Aside0.mk (Kd.R_below (by (with_reducible repeat (first | apply Kd.R_alloc | apply Kd.R_drewN | apply Kd.R_drew)); exact HO396.out) hb); have n6_ := Aside0.mk (Kd.R_below (by (with_reducible repeat (first | apply Kd.R_alloc | apply Kd.R_drewN | apply Kd.R_drew)); exact HO400.out) hb); have n7_ := Aside0.mk (Kd.R_below (by (with_reducible repeat (first | apply Kd.R_alloc | apply Kd.R_drewN | apply Kd.R_drew)); exact HO404.out) hb); have n8_ := Aside0.mk (blk_below (g := gb374) (o := .cells #[.slice A0_0 l0_0.length c0_0, .slice A0_1 l0_1.length c0_1, .int .i64 a0_2, .slice A0_3 l0_3.length c0_3, .int .i64 a0_4, .slice A0_5 l0_5.length c0_5] 55 (0, 0)) (by (with_reducible repeat (first | refine blk_drewN ?_ _ | refine blk_drew ?_ | refine blk_alloc ?_ _)); exact BK374.out) hb); have n9_ := Aside0.mk (below_step (by repeat (first | (with_reducible first | exact HB.out | apply below_alloc | apply pw_below_drewN | apply below_drew1 | refine below_set ?_ GE374.out) | exact HB.out)) hb); have n10_ := Aside0.mk (hbox); have n11_ := Aside0.mk ((by rw [hg]; exact (below_size (by repeat (first | (with_reducible first | exact HB.out | apply below_alloc | apply pw_below_drewN | apply below_drew1 | refine below_set ?_ GE374.out) | exact HB.out))) : w.heap.size ≤ gb405)); have n12_ := Aside0.mk ((by rw [hg]; exact (below_size (by repeat (first | (with_reducible first | exact HB.out | apply below_alloc | apply pw_below_drewN | apply below_drew1 | refine below_set ?_ GE374.out) | exact HB.out))) : w.heap.size ≤ gb405)); have n13_ := Aside0.mk ((by rw [hg]; exact Nat.ne_of_lt (blk_lt (g := gb374) (o := .cells #[.slice A0_0 l0_0.length c0_0, .slice A0_1 l0_1.length c0_1, .int .i64 a0_2, .slice A0_3 l0_3.length c0_3, .int .i64 a0_4, .slice A0_5 l0_5.length c0_5] 55 (0, 0)) (by (with_reducible repeat (first | refine blk_drewN ?_ _ | refine blk_drew ?_ | refine blk_alloc ?_ _)); exact BK374.out)) : gb374 ≠ gb405)); have n14_ := Aside0.mk ((by rw [hg]; exact Nat.ne_of_gt (blk_lt (g := gb374) (o := .cells #[.slice A0_0 l0_0.length c0_0, .slice A0_1 l0_1.length c0_1, .int .i64 a0_2, .slice A0_3 l0_3.length c0_3, .int .i64 a0_4, .slice A0_5 l0_5.length c0_5] 55 (0, 0)) (by (with_reducible repeat (first | refine blk_drewN ?_ _ | refine blk_drew ?_ | refine blk_alloc ?_ _)); exact BK374.out)) : gb405 ≠ gb374)); clear HO378; clear HO381; clear HO385; clear HO389; clear HO393; clear HO396; clear HO400; clear HO404; clear BK374; clear HB; have HO378 := n0_; have HO381 := n1_; have HO385 := n2_; have HO389 := n3_; have HO393 := n4_; have HO396 := n5_; have HO400 := n6_; have HO404 := n7_; have BK374 := n8_; have HB := n9_; have BK405 := n10_; have GW405 := n11_; have GE405 := n12_; have NB374_405 := n13_; have NB405_374 := n14_; clear n0_ n1_ n2_ n3_ n4_ n5_ n6_ n7_ n8_ n9_ n10_ n11_ n12_ n13_ n14_; clear hb hbox hg; obtain ⟨Ao55, co55, eo55⟩ := Kd.R_slice HO393.out; subst eo55; have hnb56 := NB405_374.out; have hnc56 := NB374_405.out; have hcz57_0 : w54.cell? ⟨gb405, 0, none⟩ = some (.slice none 0 0) := (blk_cell BK405.out 0).trans rfl; have hcz57_1 : w54.cell? ⟨gb405, 1, none⟩ = some (.slice none 0 0) := (blk_cell BK405.out 1).trans rfl; have hcz57_2 : w54.cell? ⟨gb405, 2, none⟩ = some (.int .i64 0) := (blk_cell BK405.out 2).trans rfl; have hcz57_3 : w54.cell? ⟨gb405, 3, none⟩ = some (.slice none 0 0) := (blk_cell BK405.out 3).trans rfl; have hcz57_4 : w54.cell? ⟨gb405, 4, none⟩ = some (.int .i64 0) := (blk_cell BK405.out 4).trans rfl; have hcz57_5 : w54.cell? ⟨gb405, 5, none⟩ = some (.slice none 0 0) := (blk_cell BK405.out 5).trans rfl; have hfz57_0 := blk_frozen BK405.out 0; have hfz57_1 := blk_frozen BK405.out 1; have hfz57_2 := blk_frozen BK405.out 2; have hfz57_3 := blk_frozen BK405.out 3; have hfz57_4 := blk_frozen BK405.out 4; have hfz57_5 := blk_frozen BK405.out 5; obtain ⟨Ao58, co58, eo58⟩ := Kd.R_slice HO396.out; subst eo58; obtain ⟨Ao59, co59, eo59⟩ := Kd.R_slice HO400.out; subst eo59; obtain ⟨Ao60, co60, eo60⟩ := Kd.R_slice HO404.out; subst eo60) | ((with_reducible refine gate_callee (f := 27) rfl ?_); refine goesL_ (some 18) rfl rfl Tryd.func27 (by kernel_rfl) rfl #[.agg #[.slice Ao55 t391.length co55, .slice Ao58 t394.length co58, .int .i64 t397, .slice Ao59 t398.length co59, .int .i64 t401, .slice Ao60 t402.length co60]] rfl (by (try simp only [List.map_toArray, List.map_cons, List.map_nil]); first | done | rfl | (simp only [List.length_drop, List.length_take]; rfl)) ?_; (with_reducible refine (impl_Disassemble.calls k _ _ t391 _ _ t394 t397 _ _ t398 t401 _ _ t402 t406 _ ?tLtTab ?side1 ?side2 ?side3 ?side4 ?side5 ?side6 ?side7 ?side8 A10.out).mono ?_); (case tLtTab => exact HLtTab.out.on (by repeat (first | (with_reducible first | exact HB.out | apply below_alloc | apply pw_below_drewN | apply below_drew1 | refine below_set ?_ GE374.out | refine below_set ?_ GE405.out) | exact HB.out))); (case side1 => refine (Kd.R_reads' (e := 5) (base := w.heap.size) (ok := fun k_ => ((some k_ ≠ (.slice Ao58 t394.length co58 : Value).ownBlock ∧ some k_ ≠ (.slice Ao47 t376.length co47 : Value).ownBlock) ∧ some k_ ≠ (.slice Ao48 t379.length co48 : Value).ownBlock)) (n := t391.length) (c := co55) ?_).2.2; exact (by (with_reducible repeat (first | apply Kd.R_alloc | apply Kd.R_drewN | apply Kd.R_drew)); exact (Kd.R_mono (Kd.R_far (p := ⟨gb405, 5, none⟩) (Kd.R_far (p := ⟨gb405, 4, none⟩) (Kd.R_far (p := ⟨gb405, 3, none⟩) (Kd.R_far (p := ⟨gb405, 2, none⟩) (Kd.R_far (p := ⟨gb405, 1, none⟩) (Kd.R_far (p := ⟨gb405, 0, none⟩) (Kd.R_types HO393.out BK405.out (by decide)) (fun _ hk => hk.2) (.slice Ao55 t391.length co55)) (fun _ hk => hk.2) (.slice Ao58 t394.length co58)) (fun _ hk => hk.2) (.int .i64 t397)) (fun _ hk => hk.2) (.slice Ao59 t398.length co59)) (fun _ hk => hk.2) (.int .i64 t401)) (fun _ hk => hk.2) (.slice Ao60 t402.length co60)) (fun _ h_ => h_.1)))); (case side2 => exact (Kd.R_reads' HO393.out).2.1); (case side3 => refine (Kd.R_reads' (e := 5) (base := w.heap.size) (ok := fun k_ => ((some k_ ≠ (.slice Ao55 t391.length co55 : Value).ownBlock ∧ some k_ ≠ (.slice Ao47 t376.length co47 : Value).ownBlock) ∧ some k_ ≠ (.slice Ao48 t379.length co48 : Value).ownBlock)) (n := t394.length) (c := co58) ?_).2.2; exact (by (with_reducible repeat (first | apply Kd.R_alloc | apply Kd.R_drewN | apply Kd.R_drew)); exact (Kd.R_mono (Kd.R_far (p := ⟨gb405, 5, none⟩) (Kd.R_far (p := ⟨gb405, 4, none⟩) (Kd.R_far (p := ⟨gb405, 3, none⟩) (Kd.R_far (p := ⟨gb405, 2, none⟩) (Kd.R_far (p := ⟨gb405, 1, none⟩) (Kd.R_far (p := ⟨gb405, 0, none⟩) (Kd.R_types HO396.out BK405.out (by decide)) (fun _ hk => hk.2) (.slice Ao55 t391.length co55)) (fun _ hk => hk.2) (.slice Ao58 t394.length co58)) (fun _ hk => hk.2) (.int .i64 t397)) (fun _ hk => hk.2) (.slice Ao59 t398.length co59)) (fun _ hk => hk.2) (.int .i64 t401)) (fun _ hk => hk.2) (.slice Ao60 t402.length co60)) (fun _ h_ => h_.1)))); (case side4 => exact (Kd.R_reads' HO396.out).2.1); (case side5 => refine (Kd.R_reads' (e := 2) (base := w.heap.size) (ok := fun k_ => (True ∧ some k_ ≠ (.slice Ao49 t383.length co49 : Value).ownBlock)) (n := t398.length) (c := co59) ?_).2.2; exact (by (with_reducible repeat (first | apply Kd.R_alloc | apply Kd.R_drewN | apply Kd.R_drew)); exact (Kd.R_mono (Kd.R_far (p := ⟨gb405, 5, none⟩) (Kd.R_far (p := ⟨gb405, 4, none⟩) (Kd.R_far (p := ⟨gb405, 3, none⟩) (Kd.R_far (p := ⟨gb405, 2, none⟩) (Kd.R_far (p := ⟨gb405, 1, none⟩) (Kd.R_far (p := ⟨gb405, 0, none⟩) (Kd.R_types HO400.out BK405.out (by decide)) (fun _ hk => hk.2) (.slice Ao55 t391.length co55)) (fun _ hk => hk.2) (.slice Ao58 t394.length co58)) (fun _ hk => hk.2) (.int .i64 t397)) (fun _ hk => hk.2) (.slice Ao59 t398.length co59)) (fun _ hk => hk.2) (.int .i64 t401)) (fun _ hk => hk.2) (.slice Ao60 t402.length co60)) (fun _ h_ => h_.1)))); (case side6 => exact (Kd.R_reads' HO400.out).2.1); (case side7 => refine (Kd.R_reads' (e := 109) (base := w.heap.size) (ok := fun k_ => (True ∧ some k_ ≠ (.slice Ao50 t387.length co50 : Value).ownBlock)) (n := t402.length) (c := co60) ?_).2.2; exact (by (with_reducible repeat (first | apply Kd.R_alloc | apply Kd.R_drewN | apply Kd.R_drew)); exact (Kd.R_mono (Kd.R_far (p := ⟨gb405, 5, none⟩) (Kd.R_far (p := ⟨gb405, 4, none⟩) (Kd.R_far (p := ⟨gb405, 3, none⟩) (Kd.R_far (p := ⟨gb405, 2, none⟩) (Kd.R_far (p := ⟨gb405, 1, none⟩) (Kd.R_far (p := ⟨gb405, 0, none⟩) (Kd.R_types HO404.out BK405.out (by decide)) (fun _ hk => hk.2) (.slice Ao55 t391.length co55)) (fun _ hk => hk.2) (.slice Ao58 t394.length co58)) (fun _ hk => hk.2) (.int .i64 t397)) (fun _ hk => hk.2) (.slice Ao59 t398.length co59)) (fun _ hk => hk.2) (.int .i64 t401)) (fun _ hk => hk.2) (.slice Ao60 t402.length co60)) (fun _ h_ => h_.1)))); (case side8 => exact (Kd.R_reads' HO404.out).2.1); rintro e w61 ⟨rfl, hb⟩; refine ⟨_, rfl, ?_⟩; have n0_ := Aside0.mk (Kd.R_below (by (with_reducible repeat (first | apply Kd.R_alloc | apply Kd.R_drewN | apply Kd.R_drew)); exact (Kd.R_mono (Kd.R_far (p := ⟨gb405, 5, none⟩) (Kd.R_far (p := ⟨gb405, 4, none⟩) (Kd.R_far (p := ⟨gb405, 3, none⟩) (Kd.R_far (p := ⟨gb405, 2, none⟩) (Kd.R_far (p := ⟨gb405, 1, none⟩) (Kd.R_far (p := ⟨gb405, 0, none⟩) (Kd.R_types HO378.out BK405.out (by decide)) (fun _ hk => hk.2) (.slice Ao55 t391.length co55)) (fun _ hk => hk.2) (.slice Ao58 t394.length co58)) (fun _ hk => hk.2) (.int .i64 t397)) (fun _ hk => hk.2) (.slice Ao59 t398.length co59)) (fun _ hk => hk.2) (.int .i64 t401)) (fun _ hk => hk.2) (.slice Ao60 t402.length co60)) (fun _ h_ => h_.1))) hb); have n1_ := Aside0.mk (Kd.R_below (by (with_reducible repeat (first | apply Kd.R_alloc | apply Kd.R_drewN | apply Kd.R_drew)); exact (Kd.R_mono (Kd.R_far (p := ⟨gb405, 5, none⟩) (Kd.R_far (p := ⟨gb405, 4, none⟩) (Kd.R_far (p := ⟨gb405, 3, none⟩) (Kd.R_far (p := ⟨gb405, 2, none⟩) (Kd.R_far (p := ⟨gb405, 1, none⟩) (Kd.R_far (p := ⟨gb405, 0, none⟩) (Kd.R_types HO381.out BK405.out (by decide)) (fun _ hk => hk.2) (.slice Ao55 t391.length co55)) (fun _ hk => hk.2) (.slice Ao58 t394.length co58)) (fun _ hk => hk.2) (.int .i64 t397)) (fun _ hk => hk.2) (.slice Ao59 t398.length co59)) (fun _ hk => hk.2) (.int .i64 t401)) (fun _ hk => hk.2) (.slice Ao60 t402.length co60)) (fun _ h_ => h_.1))) hb); have n2_ := Aside0.mk (Kd.R_below (by (with_reducible repeat (first | apply Kd.R_alloc | apply Kd.R_drewN | apply Kd.R_drew)); exact (Kd.R_mono (Kd.R_far (p := ⟨gb405, 5, none⟩) (Kd.R_far (p := ⟨gb405, 4, none⟩) (Kd.R_far (p := ⟨gb405, 3, none⟩) (Kd.R_far (p := ⟨gb405, 2, none⟩) (Kd.R_far (p := ⟨gb405, 1, none⟩) (Kd.R_far (p := ⟨gb405, 0, none⟩) (Kd.R_types HO385.out BK405.out (by decide)) (fun _ hk => hk.2) (.slice Ao55 t391.length co55)) (fun _ hk => hk.2) (.slice Ao58 t394.length co58)) (fun _ hk => hk.2) (.int .i64 t397)) (fun _ hk => hk.2) (.slice Ao59 t398.length co59)) (fun _ hk => hk.2) (.int .i64 t401)) (fun _ hk => hk.2) (.slice Ao60 t402.length co60)) (fun _ h_ => h_.1))) hb); have n3_ := Aside0.mk (Kd.R_below (by (with_reducible repeat (first | apply Kd.R_alloc | apply Kd.R_drewN | apply Kd.R_drew)); exact (Kd.R_mono (Kd.R_far (p := ⟨gb405, 5, none⟩) (Kd.R_far (p := ⟨gb405, 4, none⟩) (Kd.R_far (p := ⟨gb405, 3, none⟩) (Kd.R_far (p := ⟨gb405, 2, none⟩) (Kd.R_far (p := ⟨gb405, 1, none⟩) (Kd.R_far (p := ⟨gb405, 0, none⟩) (Kd.R_types HO389.out BK405.out (by decide)) (fun _ hk => hk.2) (.slice Ao55 t391.length co55)) (fun _ hk => hk.2) (.slice Ao58 t394.length co58)) (fun _ hk => hk.2) (.int .i64 t397)) (fun _ hk => hk.2) (.slice Ao59 t398.length co59)) (fun _ hk => hk.2) (.int .i64 t401)) (fun _ hk => hk.2) (.slice Ao60 t402.length co60)) (fun _ h_ => h_.1))) hb); have n4_ := Aside0.mk (Kd.R_below (by (with_reducible repeat (first | apply Kd.R_alloc | apply Kd.R_drewN | apply Kd.R_drew)); exact (Kd.R_mono (Kd.R_far (p := ⟨gb405, 5, none⟩) (Kd.R_far (p := ⟨gb405, 4, none⟩) (Kd.R_far (p := ⟨gb405, 3, none⟩) (Kd.R_far (p := ⟨gb405, 2, none⟩) (Kd.R_far (p := ⟨gb405, 1, none⟩) (Kd.R_far (p := ⟨gb405, 0, none⟩) (Kd.R_types HO393.out BK405.out (by decide)) (fun _ hk => hk.2) (.slice Ao55 t391.length co55)) (fun _ hk => hk.2) (.slice Ao58 t394.length co58)) (fun _ hk => hk.2) (.int .i64 t397)) (fun _ hk => hk.2) (.slice Ao59 t398.length co59)) (fun _ hk => hk.2) (.int .i64 t401)) (fun _ hk => hk.2) (.slice Ao60 t402.length co60)) (fun _ h_ => h_.1))) hb); have n5_ := Aside0.mk (Kd.R_below (by (with_reducible repeat (first | apply Kd.R_alloc | apply Kd.R_drewN | apply Kd.R_drew)); exact (Kd.R_mono (Kd.R_far (p := ⟨gb405, 5, none⟩) (Kd.R_far (p := ⟨gb405, 4, none⟩) (Kd.R_far (p := ⟨gb405, 3, none⟩) (Kd.R_far (p := ⟨gb405, 2, none⟩) (Kd.R_far (p := ⟨gb405, 1, none⟩) (Kd.R_far (p := ⟨gb405, 0, none⟩) (Kd.R_types HO396.out BK405.out (by decide)) (fun _ hk => hk.2) (.slice Ao55 t391.length co55)) (fun _ hk => hk.2) (.slice Ao58 t394.length co58)) (fun _ hk => hk.2) (.int .i64 t397)) (fun _ hk => hk.2) (.slice Ao59 t398.length co59)) (fun _ hk => hk.2) (.int .i64 t401)) (fun _ hk => hk.2) (.slice Ao60 t402.length co60)) (fun _ h_ => h_.1))) hb); have n6_ := Aside0.mk (Kd.R_below (by (with_reducible repeat (first | apply Kd.R_alloc | apply Kd.R_drewN | apply Kd.R_drew)); exact (Kd.R_mono (Kd.R_far (p := ⟨gb405, 5, none⟩) (Kd.R_far (p := ⟨gb405, 4, none⟩) (Kd.R_far (p := ⟨gb405, 3, none⟩) (Kd.R_far (p := ⟨gb405, 2, none⟩) (Kd.R_far (p := ⟨gb405, 1, none⟩) (Kd.R_far (p := ⟨gb405, 0, none⟩) (Kd.R_types HO400.out BK405.out (by decide)) (fun _ hk => hk.2) (.slice Ao55 t391.length co55)) (fun _ hk => hk.2) (.slice Ao58 t394.length co58)) (fun _ hk => hk.2) (.int .i64 t397)) (fun _ hk => hk.2) (.slice Ao59 t398.length co59)) (fun _ hk => hk.2) (.int .i64 t401)) (fun _ hk => hk.2) (.slice Ao60 t402.length co60)) (fun _ h_ => h_.1))) hb); have n7_ := Aside0.mk (Kd.R_below (by (with_reducible repeat (first | apply Kd.R_alloc | apply Kd.R_drewN | apply Kd.R_drew)); exact (Kd.R_mono (Kd.R_far (p := ⟨gb405, 5, none⟩) (Kd.R_far (p := ⟨gb405, 4, none⟩) (Kd.R_far (p := ⟨gb405, 3, none⟩) (Kd.R_far (p := ⟨gb405, 2, none⟩) (Kd.R_far (p := ⟨gb405, 1, none⟩) (Kd.R_far (p := ⟨gb405, 0, none⟩) (Kd.R_types HO404.out BK405.out (by decide)) (fun _ hk => hk.2) (.slice Ao55 t391.length co55)) (fun _ hk => hk.2) (.slice Ao58 t394.length co58)) (fun _ hk => hk.2) (.int .i64 t397)) (fun _ hk => hk.2) (.slice Ao59 t398.length co59)) (fun _ hk => hk.2) (.int .i64 t401)) (fun _ hk => hk.2) (.slice Ao60 t402.length co60)) (fun _ h_ => h_.1))) hb); have n8_ := Aside0.mk (blk_below (g := gb374) (o := .cells #[.slice A0_0 l0_0.length c0_0, .slice A0_1 l0_1.length c0_1, .int .i64 a0_2, .slice A0_3 l0_3.length c0_3, .int .i64 a0_4, .slice A0_5 l0_5.length c0_5] 55 (0, 0)) (by (with_reducible repeat (first | refine blk_drewN ?_ _ | refine blk_drew ?_ | refine blk_alloc ?_ _)); refine blk_far ?_ NB374_405.out _; (with_reducible repeat (first | refine blk_drewN ?_ _ | refine blk_drew ?_ | refine blk_alloc ?_ _)); refine blk_far ?_ NB374_405.out _; (with_reducible repeat (first | refine blk_drewN ?_ _ | refine blk_drew ?_ | refine blk_alloc ?_ _)); refine blk_far ?_ NB374_405.out _; (with_reducible repeat (first | refine blk_drewN ?_ _ | refine blk_drew ?_ | refine blk_alloc ?_ _)); refine blk_far ?_ NB374_405.out _; (with_reducible repeat (first | refine blk_drewN ?_ _ | refine blk_drew ?_ | refine blk_alloc ?_ _)); refine blk_far ?_ NB374_405.out _; (with_reducible repeat (first | refine blk_drewN ?_ _ | refine blk_drew ?_ | refine blk_alloc ?_ _)); refine blk_far ?_ NB374_405.out _; (with_reducible repeat (first | refine blk_drewN ?_ _ | refine blk_drew ?_ | refine blk_alloc ?_ _)); exact BK374.out) hb); have n9_ := Aside0.mk (blk_below (g := gb405) (o := .cells #[.slice Ao55 t391.length co55, .slice Ao58 t394.length co58, .int .i64 t397, .slice Ao59 t398.length co59, .int .i64 t401, .slice Ao60 t402.length co60] 60 (0, 0)) (by (with_reducible repeat (first | refine blk_drewN ?_ _ | refine blk_drew ?_ | refine blk_alloc ?_ _)); refine blk_put (cs := #[.slice Ao55 t391.length co55, .slice Ao58 t394.length co58, .int .i64 t397, .slice Ao59 t398.length co59, .int .i64 t401, .slice none 0 0]) ?_ 5 _ rfl; (with_reducible repeat (first | refine blk_drewN ?_ _ | refine blk_drew ?_ | refine blk_alloc ?_ _)); refine blk_put (cs := #[.slice Ao55 t391.length co55, .slice Ao58 t394.length co58, .int .i64 t397, .slice Ao59 t398.length co59, .int .i64 0, .slice none 0 0]) ?_ 4 _ rfl; (with_reducible repeat (first | refine blk_drewN ?_ _ | refine blk_drew ?_ | refine blk_alloc ?_ _)); refine blk_put (cs := #[.slice Ao55 t391.length co55, .slice Ao58 t394.length co58, .int .i64 t397, .slice none 0 0, .int .i64 0, .slice none 0 0]) ?_ 3 _ rfl; (with_reducible repeat (first | refine blk_drewN ?_ _ | refine blk_drew ?_ | refine blk_alloc ?_ _)); refine blk_put (cs := #[.slice Ao55 t391.length co55, .slice Ao58 t394.length co58, .int .i64 0, .slice none 0 0, .int .i64 0, .slice none 0 0]) ?_ 2 _ rfl; (with_reducible repeat (first | refine blk_drewN ?_ _ | refine blk_drew ?_ | refine blk_alloc ?_ _)); refine blk_put (cs := #[.slice Ao55 t391.length co55, .slice none 0 0, .int .i64 0, .slice none 0 0, .int .i64 0, .slice none 0 0]) ?_ 1 _ rfl; (with_reducible repeat (first | refine blk_drewN ?_ _ | refine blk_drew ?_ | refine blk_alloc ?_ _)); refine blk_put (cs := #[.slice none 0 0, .slice none 0 0, .int .i64 0, .slice none 0 0, .int .i64 0, .slice none 0 0]) ?_ 0 _ rfl; (with_reducible repeat (first | refine blk_drewN ?_ _ | refine blk_drew ?_ | refine blk_alloc ?_ _)); exact BK405.out) hb); have n10_ := Aside0.mk (below_step (by repeat (first | (with_reducible first | exact HB.out | apply below_alloc | apply pw_below_drewN | apply below_drew1 | refine below_set ?_ GE374.out | refine below_set ?_ GE405.out) | exact HB.out)) hb); clear HO378; clear HO381; clear HO385; clear HO389; clear HO393; clear HO396; clear HO400; clear HO404; clear BK374; clear BK405; clear HB; have HO378 := n0_; have HO381 := n1_; have HO385 := n2_; have HO389 := n3_; have HO393 := n4_; have HO396 := n5_; have HO400 := n6_; have HO404 := n7_; have BK374 := n8_; have BK405 := n9_; have HB := n10_; clear n0_ n1_ n2_ n3_ n4_ n5_ n6_ n7_ n8_ n9_ n10_; (try clear hb); (try clear hb2); (try clear hk); (try clear hi)))
       have n0_ := Aside0.mk (Kd.R_drew HO378.out)
       have n1_ := Aside0.mk (Kd.R_drew HO381.out)
       have n2_ := Aside0.mk (Kd.R_drew HO385.out)
       have n3_ := Aside0.mk (Kd.R_drew HO389.out)
       have n4_ := Aside0.mk (Kd.R_drew HO393.out)
       have n5_ := Aside0.mk (Kd.R_drew HO396.out)
       have n6_ := Aside0.mk (Kd.R_drew HO400.out)
       have n7_ := Aside0.mk (Kd.R_drew HO404.out)
       have n8_ := Aside0.mk (blk_drew BK374.out)
       have n9_ := Aside0.mk (blk_drew BK405.out)
       have n10_ := Aside0.mk (below_drew1 HB.out)
       clear HO378
       clear HO381
       clear HO385
       clear HO389
       clear HO393
       clear HO396
       clear HO400
       clear HO404
       clear BK374
       clear BK405
       clear HB
       have HO378 := n0_
       have HO381 := n1_
       have HO385 := n2_
       have HO389 := n3_
       have HO393 := n4_
       have HO396 := n5_
       have HO400 := n6_
       have HO404 := n7_
       have BK374 := n8_
       have BK405 := n9_
       have HB := n10_
       clear n0_ n1_ n2_ n3_ n4_ n5_ n6_ n7_ n8_ n9_ n10_
       refine start_ (n := 5) (S := fun w' => w'.cell? ⟨gb405, 0, none⟩ = some (.slice Ao55 t391.length co55) ∧ w'.cell? ⟨gb405, 1, none⟩ = some (.slice Ao58 t394.length co58) ∧ w'.cell? ⟨gb405, 2, none⟩ = some (.int .i64 t397) ∧ w'.cell? ⟨gb405, 3, none⟩ = some (.slice Ao59 t398.length co59) ∧ w'.cell? ⟨gb405, 4, none⟩ = some (.int .i64 t401) ∧ w'.cell? ⟨gb405, 5, none⟩ = some (.slice Ao60 t402.length co60) ∧ w'.cell? ⟨gb374, 0, none⟩ = some (.slice A0_0 l0_0.length c0_0) ∧ w'.cell? ⟨gb374, 1, none⟩ = some (.slice A0_1 l0_1.length c0_1) ∧ w'.cell? ⟨gb374, 2, none⟩ = some (.int .i64 a0_2) ∧ w'.cell? ⟨gb374, 3, none⟩ = some (.slice A0_3 l0_3.length c0_3) ∧ w'.cell? ⟨gb374, 4, none⟩ = some (.int .i64 a0_4) ∧ w'.cell? ⟨gb374, 5, none⟩ = some (.slice A0_5 l0_5.length c0_5)) (ds := []) #[false, false, false, false, false] (by kernel_rfl) rfl rfl ⟨(blk_cell BK405.out 0).trans rfl, (blk_cell BK405.out 1).trans rfl, (blk_cell BK405.out 2).trans rfl, (blk_cell BK405.out 3).trans rfl, (blk_cell BK405.out 4).trans rfl, (blk_cell BK405.out 5).trans rfl, (blk_cell BK374.out 0).trans rfl, (blk_cell BK374.out 1).trans rfl, (blk_cell BK374.out 2).trans rfl, (blk_cell BK374.out 3).trans rfl, (blk_cell BK374.out 4).trans rfl, (blk_cell BK374.out 5).trans rfl⟩ (fun hHeld => ?_)
       generalize w61.drew = w62 at HO378 HO381 HO385 HO389 HO393 HO396 HO400 HO404 BK374 BK405 HB hHeld ⊢
       refine take_ (i := 0) (N := some 22) (v := ?_) (a' := ?_) #[true, false, false, false, false] rfl rfl (by kernel_rfl) (fun _ _ _ h => h) (Or.inl ⟨by rfl, ?_⟩) hHeld ?_ ?_
       rotate_left
       · rintro w' ⟨s0, s1, s2, s3, s4, s5, s6, s7, s8, s9, s10, s11⟩
         go_simp
         with_reducible rfl
       rotate_left
       · simp only [Act.put, List.setIfInBounds_toArray, List.set_cons_zero, List.set_cons_succ, i64_w, i32_w]
         rfl
       refine take_ (i := 1) (N := some 23) (v := ?_) (a' := ?_) #[true, true, false, false, false] rfl rfl (by kernel_rfl) (fun _ _ _ h => h) (Or.inl ⟨by rfl, ?_⟩) hHeld ?_ ?_
       rotate_left
       · rintro w' ⟨s0, s1, s2, s3, s4, s5, s6, s7, s8, s9, s10, s11⟩
         go_simp
         with_reducible rfl
       rotate_left
       · simp only [Act.put, List.setIfInBounds_toArray, List.set_cons_zero, List.set_cons_succ, i64_w, i32_w]
         rfl
       refine one_ (i := 2) (N := some 24) #[true, true, true, false, false] rfl rfl (by kernel_rfl) (by decide) (fun K hK => ?_)
       refine goes_ Tryd.func26 (by kernel_rfl) rfl #[.agg #[.slice A0_0 l0_0.length c0_0, .slice A0_1 l0_1.length c0_1, .int .i64 a0_2, .slice A0_3 l0_3.length c0_3, .int .i64 a0_4, .slice A0_5 l0_5.length c0_5]] (by rfl) rfl rfl (by (try simp only [List.map_toArray, List.map_cons, List.map_nil]); first | done | rfl | (simp only [List.length_drop, List.length_take]; rfl)) ?_
       with_reducible refine (laws_toImage.calls k _ _ l0_0 _ _ l0_1 a0_2 _ _ l0_3 a0_4 _ _ l0_5 t407 t410 t413 t414 t417 t418 _ ?side1 ?side2 ?side3 ?side4 ?side5 ?side6 ?side7 ?side8 A12.out).mono ?_
       (case side1 => repeat (first | exact (Kd.C_below HR0_0.out HB.out) | (with_reducible refine Kd.C_alloc ?_ _) | (with_reducible refine Kd.C_drewN ?_ _) | (with_reducible refine Kd.C_drew ?_)))
       (case side2 => exact HC0_0.out)
       (case side3 => repeat (first | exact (Kd.C_below HR0_1.out HB.out) | (with_reducible refine Kd.C_alloc ?_ _) | (with_reducible refine Kd.C_drewN ?_ _) | (with_reducible refine Kd.C_drew ?_)))
       (case side4 => exact HC0_1.out)
       (case side5 => repeat (first | exact (Kd.C_below HR0_3.out HB.out) | (with_reducible refine Kd.C_alloc ?_ _) | (with_reducible refine Kd.C_drewN ?_ _) | (with_reducible refine Kd.C_drew ?_)))
       (case side6 => exact HC0_3.out)
       (case side7 => repeat (first | exact (Kd.C_below HR0_5.out HB.out) | (with_reducible refine Kd.C_alloc ?_ _) | (with_reducible refine Kd.C_drewN ?_ _) | (with_reducible refine Kd.C_drew ?_)))
       (case side8 => exact HC0_5.out)
       rintro e w63 ⟨v408, v411, v415, v419, rfl, ho0, ho1, ho2, ho3, hb⟩
       refine ⟨_, rfl, ?_⟩
       have n0_ := Aside0.mk (Kd.R_mono (Kd.R_told (Kd.R_told (Kd.R_old (by (with_reducible repeat (first | apply Kd.R_alloc | apply Kd.R_drewN | apply Kd.R_drew)); exact HO378.out) hb) (Kd.R_base ho0)) (Kd.R_base ho1)) (fun _ h_ => h_.1))
       have n1_ := Aside0.mk (Kd.R_mono (Kd.R_told (Kd.R_told (Kd.R_old (by (with_reducible repeat (first | apply Kd.R_alloc | apply Kd.R_drewN | apply Kd.R_drew)); exact HO381.out) hb) (Kd.R_base ho0)) (Kd.R_base ho1)) (fun _ h_ => h_.1))
       have n2_ := Aside0.mk (Kd.R_elder' (by (with_reducible repeat (first | apply Kd.R_alloc | apply Kd.R_drewN | apply Kd.R_drew)); exact HO385.out) (Kd.R_base ho2) hb)
       have n3_ := Aside0.mk (Kd.R_elder' (by (with_reducible repeat (first | apply Kd.R_alloc | apply Kd.R_drewN | apply Kd.R_drew)); exact HO389.out) (Kd.R_base ho3) hb)
       have n4_ := Aside0.mk (Kd.R_mono (Kd.R_told (Kd.R_told (Kd.R_old (by (with_reducible repeat (first | apply Kd.R_alloc | apply Kd.R_drewN | apply Kd.R_drew)); exact HO393.out) hb) (Kd.R_base ho0)) (Kd.R_base ho1)) (fun _ h_ => h_.1))
       have n5_ := Aside0.mk (Kd.R_mono (Kd.R_told (Kd.R_told (Kd.R_old (by (with_reducible repeat (first | apply Kd.R_alloc | apply Kd.R_drewN | apply Kd.R_drew)); exact HO396.out) hb) (Kd.R_base ho0)) (Kd.R_base ho1)) (fun _ h_ => h_.1))
       have n6_ := Aside0.mk (Kd.R_elder' (by (with_reducible repeat (first | apply Kd.R_alloc | apply Kd.R_drewN | apply Kd.R_drew)); exact HO400.out) (Kd.R_base ho2) hb)
       have n7_ := Aside0.mk (Kd.R_elder' (by (with_reducible repeat (first | apply Kd.R_alloc | apply Kd.R_drewN | apply Kd.R_drew)); exact HO404.out) (Kd.R_base ho3) hb)
       have n8_ := Aside0.mk (Kd.R_lower (Kd.R_new' (Kd.R_new' (Kd.R_new' (Kd.R_new' ho0 (Kd.R_lt (by (with_reducible repeat (first | apply Kd.R_alloc | apply Kd.R_drewN | apply Kd.R_drew)); exact HO378.out))) (Kd.R_lt (by (with_reducible repeat (first | apply Kd.R_alloc | apply Kd.R_drewN | apply Kd.R_drew)); exact HO381.out))) (Kd.R_lt (by (with_reducible repeat (first | apply Kd.R_alloc | apply Kd.R_drewN | apply Kd.R_drew)); exact HO393.out))) (Kd.R_lt (by (with_reducible repeat (first | apply Kd.R_alloc | apply Kd.R_drewN | apply Kd.R_drew)); exact HO396.out))) (below_size (by repeat (first | (with_reducible first | exact HB.out | apply below_alloc | apply pw_below_drewN | apply below_drew1 | refine below_set ?_ GE374.out | refine below_set ?_ GE405.out) | exact HB.out))))
       have n9_ := Aside0.mk (Kd.R_lower (Kd.R_new' (Kd.R_new' (Kd.R_new' (Kd.R_new' ho1 (Kd.R_lt (by (with_reducible repeat (first | apply Kd.R_alloc | apply Kd.R_drewN | apply Kd.R_drew)); exact HO378.out))) (Kd.R_lt (by (with_reducible repeat (first | apply Kd.R_alloc | apply Kd.R_drewN | apply Kd.R_drew)); exact HO381.out))) (Kd.R_lt (by (with_reducible repeat (first | apply Kd.R_alloc | apply Kd.R_drewN | apply Kd.R_drew)); exact HO393.out))) (Kd.R_lt (by (with_reducible repeat (first | apply Kd.R_alloc | apply Kd.R_drewN | apply Kd.R_drew)); exact HO396.out))) (below_size (by repeat (first | (with_reducible first | exact HB.out | apply below_alloc | apply pw_below_drewN | apply below_drew1 | refine below_set ?_ GE374.out | refine below_set ?_ GE405.out) | exact HB.out))))
       have n10_ := Aside0.mk (Kd.R_lower (Kd.R_new' (Kd.R_new' ho2 (Kd.R_lt (by (with_reducible repeat (first | apply Kd.R_alloc | apply Kd.R_drewN | apply Kd.R_drew)); exact HO385.out))) (Kd.R_lt (by (with_reducible repeat (first | apply Kd.R_alloc | apply Kd.R_drewN | apply Kd.R_drew)); exact HO400.out))) (below_size (by repeat (first | (with_reducible first | exact HB.out | apply below_alloc | apply pw_below_drewN | apply below_drew1 | refine below_set ?_ GE374.out | refine below_set ?_ GE405.out) | exact HB.out))))
       have n11_ := Aside0.mk (Kd.R_lower (Kd.R_new' (Kd.R_new' ho3 (Kd.R_lt (by (with_reducible repeat (first | apply Kd.R_alloc | apply Kd.R_drewN | apply Kd.R_drew)); exact HO389.out))) (Kd.R_lt (by (with_reducible repeat (first | apply Kd.R_alloc | apply Kd.R_drewN | apply Kd.R_drew)); exact HO404.out))) (below_size (by repeat (first | (with_reducible first | exact HB.out | apply below_alloc | apply pw_below_drewN | apply below_drew1 | refine below_set ?_ GE374.out | refine below_set ?_ GE405.out) | exact HB.out))))
       have n12_ := Aside0.mk (blk_below (g := gb374) (o := .cells #[.slice A0_0 l0_0.length c0_0, .slice A0_1 l0_1.length c0_1, .int .i64 a0_2, .slice A0_3 l0_3.length c0_3, .int .i64 a0_4, .slice A0_5 l0_5.length c0_5] 55 (0, 0)) (by (with_reducible repeat (first | refine blk_drewN ?_ _ | refine blk_drew ?_ | refine blk_alloc ?_ _)); exact BK374.out) hb)
       have n13_ := Aside0.mk (blk_below (g := gb405) (o := .cells #[.slice Ao55 t391.length co55, .slice Ao58 t394.length co58, .int .i64 t397, .slice Ao59 t398.length co59, .int .i64 t401, .slice Ao60 t402.length co60] 60 (0, 0)) (by (with_reducible repeat (first | refine blk_drewN ?_ _ | refine blk_drew ?_ | refine blk_alloc ?_ _)); exact BK405.out) hb)
       have n14_ := Aside0.mk (below_step (by repeat (first | (with_reducible first | exact HB.out | apply below_alloc | apply pw_below_drewN | apply below_drew1 | refine below_set ?_ GE374.out | refine below_set ?_ GE405.out) | exact HB.out)) hb)
       clear HO378
       clear HO381
       clear HO385
       clear HO389
       clear HO393
       clear HO396
       clear HO400
       clear HO404
       clear BK374
       clear BK405
       clear HB
       have HO378 := n0_
       have HO381 := n1_
       have HO385 := n2_
       have HO389 := n3_
       have HO393 := n4_
       have HO396 := n5_
       have HO400 := n6_
       have HO404 := n7_
       have HO409 := n8_
       have HO412 := n9_
       have HO416 := n10_
       have HO420 := n11_
       have BK374 := n12_
       have BK405 := n13_
       have HB := n14_
       clear n0_ n1_ n2_ n3_ n4_ n5_ n6_ n7_ n8_ n9_ n10_ n11_ n12_ n13_ n14_
       (try clear hb)
       (try clear hb2)
       (try clear hk)
       (try clear hi)
       (try clear ho0)
       (try clear ho1)
       (try clear ho2)
       (try clear ho3)
       obtain ⟨Ao64, co64, eo64⟩ := Kd.R_slice HO409.out
       (first | subst eo64 | (injection eo64 with f1_ f2_ f3_; have f4_ := f1_.symm; have f5_ := f3_.symm; clear f1_ f2_ f3_; subst f4_; subst f5_))
       obtain ⟨Ao65, co65, eo65⟩ := Kd.R_slice HO412.out
       (first | subst eo65 | (injection eo65 with f1_ f2_ f3_; have f4_ := f1_.symm; have f5_ := f3_.symm; clear f1_ f2_ f3_; subst f4_; subst f5_))
       obtain ⟨Ao66, co66, eo66⟩ := Kd.R_slice HO416.out
       (first | subst eo66 | (injection eo66 with f1_ f2_ f3_; have f4_ := f1_.symm; have f5_ := f3_.symm; clear f1_ f2_ f3_; subst f4_; subst f5_))
       obtain ⟨Ao67, co67, eo67⟩ := Kd.R_slice HO420.out
       (first | subst eo67 | (injection eo67 with f1_ f2_ f3_; have f4_ := f1_.symm; have f5_ := f3_.symm; clear f1_ f2_ f3_; subst f4_; subst f5_))
       refine hK.out _ _ ⟨(blk_cell BK405.out 0).trans rfl, (blk_cell BK405.out 1).trans rfl, (blk_cell BK405.out 2).trans rfl, (blk_cell BK405.out 3).trans rfl, (blk_cell BK405.out 4).trans rfl, (blk_cell BK405.out 5).trans rfl, (blk_cell BK374.out 0).trans rfl, (blk_cell BK374.out 1).trans rfl, (blk_cell BK374.out 2).trans rfl, (blk_cell BK374.out 3).trans rfl, (blk_cell BK374.out 4).trans rfl, (blk_cell BK374.out 5).trans rfl⟩ (fun hHeld => ?_)
       clear hK K
       refine norm_ (a' := ?_) ?_ ?_
       rotate_left
       · show Act.put _ (some 24) _ = _
         simp only [Act.put, List.setIfInBounds_toArray, List.set_cons_zero, List.set_cons_succ, i64_w, i32_w]
         rfl
       refine one_ (i := 3) (N := some 25) #[true, true, true, true, false] rfl rfl (by kernel_rfl) (by decide) (fun K hK => ?_)
       refine goes_ Tryd.func28 (by kernel_rfl) rfl #[.agg #[.slice Ao55 t391.length co55, .slice Ao58 t394.length co58, .int .i64 t397, .slice Ao59 t398.length co59, .int .i64 t401, .slice Ao60 t402.length co60], .agg #[.slice Ao64 t407.length co64, .slice Ao65 t410.length co65, .int .i64 t413, .slice Ao66 t414.length co66, .int .i64 t417, .slice Ao67 t418.length co67]] (by rfl) rfl rfl (by (try simp only [List.map_toArray, List.map_cons, List.map_nil]); first | done | rfl | (simp only [List.length_drop, List.length_take]; rfl)) ?_
       with_reducible refine (laws_eqImage.calls k _ _ t391 _ _ t394 t397 _ _ t398 t401 _ _ t402 _ _ t407 _ _ t410 t413 _ _ t414 t417 _ _ t418 false _ ?side1 ?side2 ?side3 ?side4 ?side5 ?side6 ?side7 ?side8 ?side9 ?side10 ?side11 ?side12 ?side13 ?side14 ?side15 ?side16 A13.out).mono ?_
       (case side1 => repeat (first | exact (Kd.R_reads' HO393.out).2.2 | (with_reducible refine Kd.C_alloc ?_ _) | (with_reducible refine Kd.C_drewN ?_ _) | (with_reducible refine Kd.C_drew ?_)))
       (case side2 => exact (Kd.R_reads' HO393.out).2.1)
       (case side3 => repeat (first | exact (Kd.R_reads' HO396.out).2.2 | (with_reducible refine Kd.C_alloc ?_ _) | (with_reducible refine Kd.C_drewN ?_ _) | (with_reducible refine Kd.C_drew ?_)))
       (case side4 => exact (Kd.R_reads' HO396.out).2.1)
       (case side5 => repeat (first | exact (Kd.R_reads' HO400.out).2.2 | (with_reducible refine Kd.C_alloc ?_ _) | (with_reducible refine Kd.C_drewN ?_ _) | (with_reducible refine Kd.C_drew ?_)))
       (case side6 => exact (Kd.R_reads' HO400.out).2.1)
       (case side7 => repeat (first | exact (Kd.R_reads' HO404.out).2.2 | (with_reducible refine Kd.C_alloc ?_ _) | (with_reducible refine Kd.C_drewN ?_ _) | (with_reducible refine Kd.C_drew ?_)))
       (case side8 => exact (Kd.R_reads' HO404.out).2.1)
       (case side9 => repeat (first | exact (Kd.R_reads' HO409.out).2.2 | (with_reducible refine Kd.C_alloc ?_ _) | (with_reducible refine Kd.C_drewN ?_ _) | (with_reducible refine Kd.C_drew ?_)))
       (case side10 => exact (Kd.R_reads' HO409.out).2.1)
       (case side11 => repeat (first | exact (Kd.R_reads' HO412.out).2.2 | (with_reducible refine Kd.C_alloc ?_ _) | (with_reducible refine Kd.C_drewN ?_ _) | (with_reducible refine Kd.C_drew ?_)))
       (case side12 => exact (Kd.R_reads' HO412.out).2.1)
       (case side13 => repeat (first | exact (Kd.R_reads' HO416.out).2.2 | (with_reducible refine Kd.C_alloc ?_ _) | (with_reducible refine Kd.C_drewN ?_ _) | (with_reducible refine Kd.C_drew ?_)))
       (case side14 => exact (Kd.R_reads' HO416.out).2.1)
       (case side15 => repeat (first | exact (Kd.R_reads' HO420.out).2.2 | (with_reducible refine Kd.C_alloc ?_ _) | (with_reducible refine Kd.C_drewN ?_ _) | (with_reducible refine Kd.C_drew ?_)))
       (case side16 => exact (Kd.R_reads' HO420.out).2.1)
       rintro e w68 ⟨rfl, hb⟩
       refine ⟨_, rfl, ?_⟩
       have n0_ := Aside0.mk (Kd.R_below (by (with_reducible repeat (first | apply Kd.R_alloc | apply Kd.R_drewN | apply Kd.R_drew)); exact HO378.out) hb)
       have n1_ := Aside0.mk (Kd.R_below (by (with_reducible repeat (first | apply Kd.R_alloc | apply Kd.R_drewN | apply Kd.R_drew)); exact HO381.out) hb)
       have n2_ := Aside0.mk (Kd.R_below (by (with_reducible repeat (first | apply Kd.R_alloc | apply Kd.R_drewN | apply Kd.R_drew)); exact HO385.out) hb)
       have n3_ := Aside0.mk (Kd.R_below (by (with_reducible repeat (first | apply Kd.R_alloc | apply Kd.R_drewN | apply Kd.R_drew)); exact HO389.out) hb)
       have n4_ := Aside0.mk (Kd.R_below (by (with_reducible repeat (first | apply Kd.R_alloc | apply Kd.R_drewN | apply Kd.R_drew)); exact HO393.out) hb)
       have n5_ := Aside0.mk (Kd.R_below (by (with_reducible repeat (first | apply Kd.R_alloc | apply Kd.R_drewN | apply Kd.R_drew)); exact HO396.out) hb)
       have n6_ := Aside0.mk (Kd.R_below (by (with_reducible repeat (first | apply Kd.R_alloc | apply Kd.R_drewN | apply Kd.R_drew)); exact HO400.out) hb)
       have n7_ := Aside0.mk (Kd.R_below (by (with_reducible repeat (first | apply Kd.R_alloc | apply Kd.R_drewN | apply Kd.R_drew)); exact HO404.out) hb)
       have n8_ := Aside0.mk (Kd.R_below (by (with_reducible repeat (first | apply Kd.R_alloc | apply Kd.R_drewN | apply Kd.R_drew)); exact HO409.out) hb)
       have n9_ := Aside0.mk (Kd.R_below (by (with_reducible repeat (first | apply Kd.R_alloc | apply Kd.R_drewN | apply Kd.R_drew)); exact HO412.out) hb)
       have n10_ := Aside0.mk (Kd.R_below (by (with_reducible repeat (first | apply Kd.R_alloc | apply Kd.R_drewN | apply Kd.R_drew)); exact HO416.out) hb)
       have n11_ := Aside0.mk (Kd.R_below (by (with_reducible repeat (first | apply Kd.R_alloc | apply Kd.R_drewN | apply Kd.R_drew)); exact HO420.out) hb)
       have n12_ := Aside0.mk (blk_below (g := gb374) (o := .cells #[.slice A0_0 l0_0.length c0_0, .slice A0_1 l0_1.length c0_1, .int .i64 a0_2, .slice A0_3 l0_3.length c0_3, .int .i64 a0_4, .slice A0_5 l0_5.length c0_5] 55 (0, 0)) (by (with_reducible repeat (first | refine blk_drewN ?_ _ | refine blk_drew ?_ | refine blk_alloc ?_ _)); exact BK374.out) hb)
       have n13_ := Aside0.mk (blk_below (g := gb405) (o := .cells #[.slice Ao55 t391.length co55, .slice Ao58 t394.length co58, .int .i64 t397, .slice Ao59 t398.length co59, .int .i64 t401, .slice Ao60 t402.length co60] 60 (0, 0)) (by (with_reducible repeat (first | refine blk_drewN ?_ _ | refine blk_drew ?_ | refine blk_alloc ?_ _)); exact BK405.out) hb)
       have n14_ := Aside0.mk (below_step (by repeat (first | (with_reducible first | exact HB.out | apply below_alloc | apply pw_below_drewN | apply below_drew1 | refine below_set ?_ GE374.out | refine below_set ?_ GE405.out) | exact HB.out)) hb)
       clear HO378
       clear HO381
       clear HO385
       clear HO389
       clear HO393
       clear HO396
       clear HO400
       clear HO404
       clear HO409
       clear HO412
       clear HO416
       clear HO420
       clear BK374
       clear BK405
       clear HB
       have HO378 := n0_
       have HO381 := n1_
       have HO385 := n2_
       have HO389 := n3_
       have HO393 := n4_
       have HO396 := n5_
       have HO400 := n6_
       have HO404 := n7_
       have HO409 := n8_
       have HO412 := n9_
       have HO416 := n10_
       have HO420 := n11_
       have BK374 := n12_
       have BK405 := n13_
       have HB := n14_
       clear n0_ n1_ n2_ n3_ n4_ n5_ n6_ n7_ n8_ n9_ n10_ n11_ n12_ n13_ n14_
       (try clear hb)
       (try clear hb2)
       (try clear hk)
       (try clear hi)
       refine hK.out _ _ ⟨(blk_cell BK405.out 0).trans rfl, (blk_cell BK405.out 1).trans rfl, (blk_cell BK405.out 2).trans rfl, (blk_cell BK405.out 3).trans rfl, (blk_cell BK405.out 4).trans rfl, (blk_cell BK405.out 5).trans rfl, (blk_cell BK374.out 0).trans rfl, (blk_cell BK374.out 1).trans rfl, (blk_cell BK374.out 2).trans rfl, (blk_cell BK374.out 3).trans rfl, (blk_cell BK374.out 4).trans rfl, (blk_cell BK374.out 5).trans rfl⟩ (fun hHeld => ?_)
       clear hK K
       refine norm_ (a' := ?_) ?_ ?_
       rotate_left
       · show Act.put _ (some 25) _ = _
         simp only [Act.put, List.setIfInBounds_toArray, List.set_cons_zero, List.set_cons_succ, i64_w, i32_w]
         rfl
       refine pure_ (i := 4) (N := some 26) (v := ?_) (a' := ?_) #[true, true, true, true, true] rfl rfl (by kernel_rfl) (fun _ _ _ h => h) (Or.inl ⟨by rfl, ?_⟩) ?_ ?_
       rotate_left
       · intro w'
         go_simp
         with_reducible rfl
       rotate_left
       · simp only [Act.put, List.setIfInBounds_toArray, List.set_cons_zero, List.set_cons_succ, i64_w, i32_w]
         rfl
       refine done_ (by kernel_rfl) ?_
       try go_wp2
       go_ret
       exact ⟨by first | rfl | (simp [errW_none, errW_some] <;> rfl) | (simp [*, errW_none, errW_some] <;> rfl), by repeat (first | (with_reducible first | exact HB.out | apply below_alloc | apply pw_below_drewN | apply below_drew1 | refine below_set ?_ GE374.out | refine below_set ?_ GE405.out) | exact HB.out)⟩
   · rw [if_neg c11] at H
     have c11b0 : (t406.toList == t390.toList) = false := beq_eq_false_iff_ne.mpr c11
     have c11b1 : (t406.toList != t390.toList) = true := bne_iff_ne.mpr c11
     obtain rfl := Option.some.inj H
     go_enter Tryd.func6, Tryd.ntmps6
     go_wp2_with (first | ((with_reducible refine gate_dst (N := 1) rfl ?_); refine box_event ?hg (N := 1) ?hd (cs := #[.slice A0_0 l0_0.length c0_0, .slice A0_1 l0_1.length c0_1, .int .i64 a0_2, .slice A0_3 l0_3.length c0_3, .int .i64 a0_4, .slice A0_5 l0_5.length c0_5]) (t := 55) ?hr ?_; (case hd => rfl); (case hg => rfl); (case hr => first | (go_simp; done) | (go_simp; rfl)); intro gb374 hg w69 hbox hb; have n0_ := Aside0.mk (below_step (by repeat (first | (with_reducible first | exact HB.out | apply below_alloc | apply pw_below_drewN | apply below_drew1) | exact HB.out)) hb); have n1_ := Aside0.mk (hbox); have n2_ := Aside0.mk ((by rw [hg]; exact (below_size (by repeat (first | (with_reducible first | exact HB.out | apply below_alloc | apply pw_below_drewN | apply below_drew1) | exact HB.out))) : w.heap.size ≤ gb374)); have n3_ := Aside0.mk ((by rw [hg]; exact (below_size (by repeat (first | (with_reducible first | exact HB.out | apply below_alloc | apply pw_below_drewN | apply below_drew1) | exact HB.out))) : w.heap.size ≤ gb374)); clear HB; have HB := n0_; have BK374 := n1_; have GW374 := n2_; have GE374 := n3_; clear n0_ n1_ n2_ n3_; clear hb hbox hg; have hcz70_0 : w69.cell? ⟨gb374, 0, none⟩ = some (.slice A0_0 l0_0.length c0_0) := (blk_cell BK374.out 0).trans rfl; have hcz70_1 : w69.cell? ⟨gb374, 1, none⟩ = some (.slice A0_1 l0_1.length c0_1) := (blk_cell BK374.out 1).trans rfl; have hcz70_2 : w69.cell? ⟨gb374, 2, none⟩ = some (.int .i64 a0_2) := (blk_cell BK374.out 2).trans rfl; have hcz70_3 : w69.cell? ⟨gb374, 3, none⟩ = some (.slice A0_3 l0_3.length c0_3) := (blk_cell BK374.out 3).trans rfl; have hcz70_4 : w69.cell? ⟨gb374, 4, none⟩ = some (.int .i64 a0_4) := (blk_cell BK374.out 4).trans rfl; have hcz70_5 : w69.cell? ⟨gb374, 5, none⟩ = some (.slice A0_5 l0_5.length c0_5) := (blk_cell BK374.out 5).trans rfl; have hfz70_0 := blk_frozen BK374.out 0; have hfz70_1 := blk_frozen BK374.out 1; have hfz70_2 := blk_frozen BK374.out 2; have hfz70_3 := blk_frozen BK374.out 3; have hfz70_4 := blk_frozen BK374.out 4; have hfz70_5 := blk_frozen BK374.out 5) | ((with_reducible refine gate_callee (f := 24) rfl ?_); refine goesL_ (some 9) rfl rfl Tryd.func24 (by kernel_rfl) rfl #[.agg #[.slice A0_0 l0_0.length c0_0, .slice A0_1 l0_1.length c0_1, .int .i64 a0_2, .slice A0_3 l0_3.length c0_3, .int .i64 a0_4, .slice A0_5 l0_5.length c0_5], .int .i64 1048576] rfl (by (try simp only [List.map_toArray, List.map_cons, List.map_nil]); first | done | rfl | (simp only [List.length_drop, List.length_take]; rfl)) ?_; (with_reducible refine (laws_szImage.calls k _ _ l0_0 _ _ l0_1 a0_2 _ _ l0_3 a0_4 _ _ l0_5 1048576 t375 _ ?side1 ?side2 ?side3 ?side4 ?side5 ?side6 ?side7 ?side8 A2.out).mono ?_); (case side1 => repeat (first | exact (Kd.C_below HR0_0.out HB.out) | (with_reducible refine Kd.C_alloc ?_ _) | (with_reducible refine Kd.C_drewN ?_ _) | (with_reducible refine Kd.C_drew ?_))); (case side2 => exact HC0_0.out); (case side3 => repeat (first | exact (Kd.C_below HR0_1.out HB.out) | (with_reducible refine Kd.C_alloc ?_ _) | (with_reducible refine Kd.C_drewN ?_ _) | (with_reducible refine Kd.C_drew ?_))); (case side4 => exact HC0_1.out); (case side5 => repeat (first | exact (Kd.C_below HR0_3.out HB.out) | (with_reducible refine Kd.C_alloc ?_ _) | (with_reducible refine Kd.C_drewN ?_ _) | (with_reducible refine Kd.C_drew ?_))); (case side6 => exact HC0_3.out); (case side7 => repeat (first | exact (Kd.C_below HR0_5.out HB.out) | (with_reducible refine Kd.C_alloc ?_ _) | (with_reducible refine Kd.C_drewN ?_ _) | (with_reducible refine Kd.C_drew ?_))); (case side8 => exact HC0_5.out); rintro e w71 ⟨rfl, hb⟩; refine ⟨_, rfl, ?_⟩; have n0_ := Aside0.mk (blk_below (g := gb374) (o := .cells #[.slice A0_0 l0_0.length c0_0, .slice A0_1 l0_1.length c0_1, .int .i64 a0_2, .slice A0_3 l0_3.length c0_3, .int .i64 a0_4, .slice A0_5 l0_5.length c0_5] 55 (0, 0)) (by (with_reducible repeat (first | refine blk_drewN ?_ _ | refine blk_drew ?_ | refine blk_alloc ?_ _)); exact BK374.out) hb); have n1_ := Aside0.mk (below_step (by repeat (first | (with_reducible first | exact HB.out | apply below_alloc | apply pw_below_drewN | apply below_drew1 | refine below_set ?_ GE374.out) | exact HB.out)) hb); clear BK374; clear HB; have BK374 := n0_; have HB := n1_; clear n0_ n1_; (try clear hb); (try clear hb2); (try clear hk); (try clear hi); have hcz72_0 : w71.cell? ⟨gb374, 0, none⟩ = some (.slice A0_0 l0_0.length c0_0) := (blk_cell BK374.out 0).trans rfl; have hcz72_1 : w71.cell? ⟨gb374, 1, none⟩ = some (.slice A0_1 l0_1.length c0_1) := (blk_cell BK374.out 1).trans rfl; have hcz72_2 : w71.cell? ⟨gb374, 2, none⟩ = some (.int .i64 a0_2) := (blk_cell BK374.out 2).trans rfl; have hcz72_3 : w71.cell? ⟨gb374, 3, none⟩ = some (.slice A0_3 l0_3.length c0_3) := (blk_cell BK374.out 3).trans rfl; have hcz72_4 : w71.cell? ⟨gb374, 4, none⟩ = some (.int .i64 a0_4) := (blk_cell BK374.out 4).trans rfl; have hcz72_5 : w71.cell? ⟨gb374, 5, none⟩ = some (.slice A0_5 l0_5.length c0_5) := (blk_cell BK374.out 5).trans rfl; have hfz72_0 := blk_frozen BK374.out 0; have hfz72_1 := blk_frozen BK374.out 1; have hfz72_2 := blk_frozen BK374.out 2; have hfz72_3 := blk_frozen BK374.out 3; have hfz72_4 := blk_frozen BK374.out 4; have hfz72_5 := blk_frozen BK374.out 5) | ((with_reducible refine gate_callee (f := 26) rfl ?_); refine goesL_ (some 13) rfl rfl Tryd.func26 (by kernel_rfl) rfl #[.agg #[.slice A0_0 l0_0.length c0_0, .slice A0_1 l0_1.length c0_1, .int .i64 a0_2, .slice A0_3 l0_3.length c0_3, .int .i64 a0_4, .slice A0_5 l0_5.length c0_5]] rfl (by (try simp only [List.map_toArray, List.map_cons, List.map_nil]); first | done | rfl | (simp only [List.length_drop, List.length_take]; rfl)) ?_; (with_reducible refine (laws_toImage.calls k _ _ l0_0 _ _ l0_1 a0_2 _ _ l0_3 a0_4 _ _ l0_5 t376 t379 t382 t383 t386 t387 _ ?side1 ?side2 ?side3 ?side4 ?side5 ?side6 ?side7 ?side8 A7.out).mono ?_); (case side1 => repeat (first | exact (Kd.C_below HR0_0.out HB.out) | (with_reducible refine Kd.C_alloc ?_ _) | (with_reducible refine Kd.C_drewN ?_ _) | (with_reducible refine Kd.C_drew ?_))); (case side2 => exact HC0_0.out); (case side3 => repeat (first | exact (Kd.C_below HR0_1.out HB.out) | (with_reducible refine Kd.C_alloc ?_ _) | (with_reducible refine Kd.C_drewN ?_ _) | (with_reducible refine Kd.C_drew ?_))); (case side4 => exact HC0_1.out); (case side5 => repeat (first | exact (Kd.C_below HR0_3.out HB.out) | (with_reducible refine Kd.C_alloc ?_ _) | (with_reducible refine Kd.C_drewN ?_ _) | (with_reducible refine Kd.C_drew ?_))); (case side6 => exact HC0_3.out); (case side7 => repeat (first | exact (Kd.C_below HR0_5.out HB.out) | (with_reducible refine Kd.C_alloc ?_ _) | (with_reducible refine Kd.C_drewN ?_ _) | (with_reducible refine Kd.C_drew ?_))); (case side8 => exact HC0_5.out); rintro e w73 ⟨v377, v380, v384, v388, rfl, ho0, ho1, ho2, ho3, hb⟩; refine ⟨_, rfl, ?_⟩; have n0_ := Aside0.mk (Kd.R_lower ho0 (below_size (by repeat (first | (with_reducible first | exact HB.out | apply below_alloc | apply pw_below_drewN | apply below_drew1 | refine below_set ?_ GE374.out) | exact HB.out)))); have n1_ := Aside0.mk (Kd.R_lower ho1 (below_size (by repeat (first | (with_reducible first | exact HB.out | apply below_alloc | apply pw_below_drewN | apply below_drew1 | refine below_set ?_ GE374.out) | exact HB.out)))); have n2_ := Aside0.mk (Kd.R_lower ho2 (below_size (by repeat (first | (with_reducible first | exact HB.out | apply below_alloc | apply pw_below_drewN | apply below_drew1 | refine below_set ?_ GE374.out) | exact HB.out)))); have n3_ := Aside0.mk (Kd.R_lower ho3 (below_size (by repeat (first | (with_reducible first | exact HB.out | apply below_alloc | apply pw_below_drewN | apply below_drew1 | refine below_set ?_ GE374.out) | exact HB.out)))); have n4_ := Aside0.mk (blk_below (g := gb374) (o := .cells #[.slice A0_0 l0_0.length c0_0, .slice A0_1 l0_1.length c0_1, .int .i64 a0_2, .slice A0_3 l0_3.length c0_3, .int .i64 a0_4, .slice A0_5 l0_5.length c0_5] 55 (0, 0)) (by (with_reducible repeat (first | refine blk_drewN ?_ _ | refine blk_drew ?_ | refine blk_alloc ?_ _)); exact BK374.out) hb); have n5_ := Aside0.mk (below_step (by repeat (first | (with_reducible first | exact HB.out | apply below_alloc | apply pw_below_drewN | apply below_drew1 | refine below_set ?_ GE374.out) | exact HB.out)) hb); clear BK374; clear HB; have HO378 := n0_; have HO381 := n1_; have HO385 := n2_; have HO389 := n3_; have BK374 := n4_; have HB := n5_; clear n0_ n1_ n2_ n3_ n4_ n5_; (try clear hb); (try clear hb2); (try clear hk); (try clear hi); (try clear ho0); (try clear ho1); (try clear ho2); (try clear ho3); obtain ⟨Ao74, co74, eo74⟩ := Kd.R_slice HO378.out; subst eo74; obtain ⟨Ao75, co75, eo75⟩ := Kd.R_slice HO381.out; subst eo75; obtain ⟨Ao76, co76, eo76⟩ := Kd.R_slice HO385.out; subst eo76; obtain ⟨Ao77, co77, eo77⟩ := Kd.R_slice HO389.out; subst eo77) | ((with_reducible refine gate_callee (f := 25) rfl ?_); refine goesL_ (some 14) rfl rfl Tryd.func25 (by kernel_rfl) rfl #[.agg #[.slice Ao74 t376.length co74, .slice Ao75 t379.length co75, .int .i64 t382, .slice Ao76 t383.length co76, .int .i64 t386, .slice Ao77 t387.length co77]] rfl (by (try simp only [List.map_toArray, List.map_cons, List.map_nil]); first | done | rfl | (simp only [List.length_drop, List.length_take]; rfl)) ?_; (with_reducible refine (spec_Disassemble.calls k _ _ t376 _ _ t379 t382 _ _ t383 t386 _ _ t387 t390 _ ?side1 ?side2 ?side3 ?side4 ?side5 ?side6 ?side7 ?side8 A8.out).mono ?_); (case side1 => repeat (first | exact (Kd.R_reads' HO378.out).2.2 | (with_reducible refine Kd.C_alloc ?_ _) | (with_reducible refine Kd.C_drewN ?_ _) | (with_reducible refine Kd.C_drew ?_))); (case side2 => exact (Kd.R_reads' HO378.out).2.1); (case side3 => repeat (first | exact (Kd.R_reads' HO381.out).2.2 | (with_reducible refine Kd.C_alloc ?_ _) | (with_reducible refine Kd.C_drewN ?_ _) | (with_reducible refine Kd.C_drew ?_))); (case side4 => exact (Kd.R_reads' HO381.out).2.1); (case side5 => repeat (first | exact (Kd.R_reads' HO385.out).2.2 | (with_reducible refine Kd.C_alloc ?_ _) | (with_reducible refine Kd.C_drewN ?_ _) | (with_reducible refine Kd.C_drew ?_))); (case side6 => exact (Kd.R_reads' HO385.out).2.1); (case side7 => repeat (first | exact (Kd.R_reads' HO389.out).2.2 | (with_reducible refine Kd.C_alloc ?_ _) | (with_reducible refine Kd.C_drewN ?_ _) | (with_reducible refine Kd.C_drew ?_))); (case side8 => exact (Kd.R_reads' HO389.out).2.1); rintro e w78 ⟨rfl, hb⟩; refine ⟨_, rfl, ?_⟩; have n0_ := Aside0.mk (Kd.R_below (by (with_reducible repeat (first | apply Kd.R_alloc | apply Kd.R_drewN | apply Kd.R_drew)); exact HO378.out) hb); have n1_ := Aside0.mk (Kd.R_below (by (with_reducible repeat (first | apply Kd.R_alloc | apply Kd.R_drewN | apply Kd.R_drew)); exact HO381.out) hb); have n2_ := Aside0.mk (Kd.R_below (by (with_reducible repeat (first | apply Kd.R_alloc | apply Kd.R_drewN | apply Kd.R_drew)); exact HO385.out) hb); have n3_ := Aside0.mk (Kd.R_below (by (with_reducible repeat (first | apply Kd.R_alloc | apply Kd.R_drewN | apply Kd.R_drew)); exact HO389.out) hb); have n4_ := Aside0.mk (blk_below (g := gb374) (o := .cells #[.slice A0_0 l0_0.length c0_0, .slice A0_1 l0_1.length c0_1, .int .i64 a0_2, .slice A0_3 l0_3.length c0_3, .int .i64 a0_4, .slice A0_5 l0_5.length c0_5] 55 (0, 0)) (by (with_reducible repeat (first | refine blk_drewN ?_ _ | refine blk_drew ?_ | refine blk_alloc ?_ _)); exact BK374.out) hb); have n5_ := Aside0.mk (below_step (by repeat (first | (with_reducible first | exact HB.out | apply below_alloc | apply pw_below_drewN | apply below_drew1 | refine below_set ?_ GE374.out) | exact HB.out)) hb); clear HO378; clear HO381; clear HO385; clear HO389; clear BK374; clear HB; have HO378 := n0_; have HO381 := n1_; have HO385 := n2_; have HO389 := n3_; have BK374 := n4_; have HB := n5_; clear n0_ n1_ n2_ n3_ n4_ n5_; (try clear hb); (try clear hb2); (try clear hk); (try clear hi); have hcz79_0 : w78.cell? ⟨gb374, 0, none⟩ = some (.slice A0_0 l0_0.length c0_0) := (blk_cell BK374.out 0).trans rfl; have hcz79_1 : w78.cell? ⟨gb374, 1, none⟩ = some (.slice A0_1 l0_1.length c0_1) := (blk_cell BK374.out 1).trans rfl; have hcz79_2 : w78.cell? ⟨gb374, 2, none⟩ = some (.int .i64 a0_2) := (blk_cell BK374.out 2).trans rfl; have hcz79_3 : w78.cell? ⟨gb374, 3, none⟩ = some (.slice A0_3 l0_3.length c0_3) := (blk_cell BK374.out 3).trans rfl; have hcz79_4 : w78.cell? ⟨gb374, 4, none⟩ = some (.int .i64 a0_4) := (blk_cell BK374.out 4).trans rfl; have hcz79_5 : w78.cell? ⟨gb374, 5, none⟩ = some (.slice A0_5 l0_5.length c0_5) := (blk_cell BK374.out 5).trans rfl; have hfz79_0 := blk_frozen BK374.out 0; have hfz79_1 := blk_frozen BK374.out 1; have hfz79_2 := blk_frozen BK374.out 2; have hfz79_3 := blk_frozen BK374.out 3; have hfz79_4 := blk_frozen BK374.out 4; have hfz79_5 := blk_frozen BK374.out 5) | ((with_reducible refine gate_callee (f := 26) rfl ?_); refine goesL_ (some 16) rfl rfl Tryd.func26 (by kernel_rfl) rfl #[.agg #[.slice A0_0 l0_0.length c0_0, .slice A0_1 l0_1.length c0_1, .int .i64 a0_2, .slice A0_3 l0_3.length c0_3, .int .i64 a0_4, .slice A0_5 l0_5.length c0_5]] rfl (by (try simp only [List.map_toArray, List.map_cons, List.map_nil]); first | done | rfl | (simp only [List.length_drop, List.length_take]; rfl)) ?_; (with_reducible refine (laws_toImage.calls k _ _ l0_0 _ _ l0_1 a0_2 _ _ l0_3 a0_4 _ _ l0_5 t391 t394 t397 t398 t401 t402 _ ?side1 ?side2 ?side3 ?side4 ?side5 ?side6 ?side7 ?side8 A9.out).mono ?_); (case side1 => repeat (first | exact (Kd.C_below HR0_0.out HB.out) | (with_reducible refine Kd.C_alloc ?_ _) | (with_reducible refine Kd.C_drewN ?_ _) | (with_reducible refine Kd.C_drew ?_))); (case side2 => exact HC0_0.out); (case side3 => repeat (first | exact (Kd.C_below HR0_1.out HB.out) | (with_reducible refine Kd.C_alloc ?_ _) | (with_reducible refine Kd.C_drewN ?_ _) | (with_reducible refine Kd.C_drew ?_))); (case side4 => exact HC0_1.out); (case side5 => repeat (first | exact (Kd.C_below HR0_3.out HB.out) | (with_reducible refine Kd.C_alloc ?_ _) | (with_reducible refine Kd.C_drewN ?_ _) | (with_reducible refine Kd.C_drew ?_))); (case side6 => exact HC0_3.out); (case side7 => repeat (first | exact (Kd.C_below HR0_5.out HB.out) | (with_reducible refine Kd.C_alloc ?_ _) | (with_reducible refine Kd.C_drewN ?_ _) | (with_reducible refine Kd.C_drew ?_))); (case side8 => exact HC0_5.out); rintro e w80 ⟨v392, v395, v399, v403, rfl, ho0, ho1, ho2, ho3, hb⟩; refine ⟨_, rfl, ?_⟩; have n0_ := Aside0.mk (Kd.R_mono (Kd.R_told (Kd.R_told (Kd.R_old (by (with_reducible repeat (first | apply Kd.R_alloc | apply Kd.R_drewN | apply Kd.R_drew)); exact HO378.out) hb) (Kd.R_base ho0)) (Kd.R_base ho1)) (fun _ h_ => h_.1)); have n1_ := Aside0.mk (Kd.R_mono (Kd.R_told (Kd.R_told (Kd.R_old (by (with_reducible repeat (first | apply Kd.R_alloc | apply Kd.R_drewN | apply Kd.R_drew)); exact HO381.out) hb) (Kd.R_base ho0)) (Kd.R_base ho1)) (fun _ h_ => h_.1)); have n2_ := Aside0.mk (Kd.R_elder' (by (with_reducible repeat (first | apply Kd.R_alloc | apply Kd.R_drewN | apply Kd.R_drew)); exact HO385.out) (Kd.R_base ho2) hb); have n3_ := Aside0.mk (Kd.R_elder' (by (with_reducible repeat (first | apply Kd.R_alloc | apply Kd.R_drewN | apply Kd.R_drew)); exact HO389.out) (Kd.R_base ho3) hb); have n4_ := Aside0.mk (Kd.R_lower (Kd.R_new' (Kd.R_new' ho0 (Kd.R_lt (by (with_reducible repeat (first | apply Kd.R_alloc | apply Kd.R_drewN | apply Kd.R_drew)); exact HO378.out))) (Kd.R_lt (by (with_reducible repeat (first | apply Kd.R_alloc | apply Kd.R_drewN | apply Kd.R_drew)); exact HO381.out))) (below_size (by repeat (first | (with_reducible first | exact HB.out | apply below_alloc | apply pw_below_drewN | apply below_drew1 | refine below_set ?_ GE374.out) | exact HB.out)))); have n5_ := Aside0.mk (Kd.R_lower (Kd.R_new' (Kd.R_new' ho1 (Kd.R_lt (by (with_reducible repeat (first | apply Kd.R_alloc | apply Kd.R_drewN | apply Kd.R_drew)); exact HO378.out))) (Kd.R_lt (by (with_reducible repeat (first | apply Kd.R_alloc | apply Kd.R_drewN | apply Kd.R_drew)); exact HO381.out))) (below_size (by repeat (first | (with_reducible first | exact HB.out | apply below_alloc | apply pw_below_drewN | apply below_drew1 | refine below_set ?_ GE374.out) | exact HB.out)))); have n6_ := Aside0.mk (Kd.R_lower (Kd.R_new' ho2 (Kd.R_lt (by (with_reducible repeat (first | apply Kd.R_alloc | apply Kd.R_drewN | apply Kd.R_drew)); exact HO385.out))) (below_size (by repeat (first | (with_reducible first | exact HB.out | apply below_alloc | apply pw_below_drewN | apply below_drew1 | refine below_set ?_ GE374.out) | exact HB.out)))); have n7_ := Aside0.mk (Kd.R_lower (Kd.R_new' ho3 (Kd.R_lt (by (with_reducible repeat (first | apply Kd.R_alloc | apply Kd.R_drewN | apply Kd.R_drew)); exact HO389.out))) (below_size (by repeat (first | (with_reducible first | exact HB.out | apply below_alloc | apply pw_below_drewN | apply below_drew1 | refine below_set ?_ GE374.out) | exact HB.out)))); have n8_ := Aside0.mk (blk_below (g := gb374) (o := .cells #[.slice A0_0 l0_0.length c0_0, .slice A0_1 l0_1.length c0_1, .int .i64 a0_2, .slice A0_3 l0_3.length c0_3, .int .i64 a0_4, .slice A0_5 l0_5.length c0_5] 55 (0, 0)) (by (with_reducible repeat (first | refine blk_drewN ?_ _ | refine blk_drew ?_ | refine blk_alloc ?_ _)); exact BK374.out) hb); have n9_ := Aside0.mk (below_step (by repeat (first | (with_reducible first | exact HB.out | apply below_alloc | apply pw_below_drewN | apply below_drew1 | refine below_set ?_ GE374.out) | exact HB.out)) hb); clear HO378; clear HO381; clear HO385; clear HO389; clear BK374; clear HB; have HO378 := n0_; have HO381 := n1_; have HO385 := n2_; have HO389 := n3_; have HO393 := n4_; have HO396 := n5_; have HO400 := n6_; have HO404 := n7_; have BK374 := n8_; have HB := n9_; clear n0_ n1_ n2_ n3_ n4_ n5_ n6_ n7_ n8_ n9_; (try clear hb); (try clear hb2); (try clear hk); (try clear hi); (try clear ho0); (try clear ho1); (try clear ho2); (try clear ho3)) | ((with_reducible refine gate_dst (N := 5) rfl ?_); refine box_event ?hg (N := 5) ?hd (cs := #[.slice none 0 0, .slice none 0 0, .int .i64 0, .slice none 0 0, .int .i64 0, .slice none 0 0]) (t := 60) ?hr ?_; (case hd => rfl); (case hg => rfl); (case hr => first | (go_simp; done) | (go_simp; rfl)); intro gb405 hg w81 hbox hb; have n0_ := Aside0.mk (Kd.R_below (by (with_reducible repeat (first | apply Kd.R_alloc | apply Kd.R_drewN | apply Kd.R_drew)); exact HO378.out) hb); have n1_ := Aside0.mk (Kd.R_below (by (with_reducible repeat (first | apply Kd.R_alloc | apply Kd.R_drewN | apply Kd.R_drew)); exact HO381.out) hb); have n2_ := Aside0.mk (Kd.R_below (by (with_reducible repeat (first | apply Kd.R_alloc | apply Kd.R_drewN | apply Kd.R_drew)); exact HO385.out) hb); have n3_ := Aside0.mk (Kd.R_below (by (with_reducible repeat (first | apply Kd.R_alloc | apply Kd.R_drewN | apply Kd.R_drew)); exact HO389.out) hb); have n4_ := Aside0.mk (Kd.R_below (by (with_reducible repeat (first | apply Kd.R_alloc | apply Kd.R_drewN | apply Kd.R_drew)); exact HO393.out) hb); have n5_ := Aside0.mk (Kd.R_below (by (with_reducible repeat (first | apply Kd.R_alloc | apply Kd.R_drewN | apply Kd.R_drew)); exact HO396.out) hb); have n6_ := Aside0.mk (Kd.R_below (by (with_reducible repeat (first | apply Kd.R_alloc | apply Kd.R_drewN | apply Kd.R_drew)); exact HO400.out) hb); have n7_ := Aside0.mk (Kd.R_below (by (with_reducible repeat (first | apply Kd.R_alloc | apply Kd.R_drewN | apply Kd.R_drew)); exact HO404.out) hb); have n8_ := Aside0.mk (blk_below (g := gb374) (o := .cells #[.slice A0_0 l0_0.length c0_0, .slice A0_1 l0_1.length c0_1, .int .i64 a0_2, .slice A0_3 l0_3.length c0_3, .int .i64 a0_4, .slice A0_5 l0_5.length c0_5] 55 (0, 0)) (by (with_reducible repeat (first | refine blk_drewN ?_ _ | refine blk_drew ?_ | refine blk_alloc ?_ _)); exact BK374.out) hb); have n9_ := Aside0.mk (below_step (by repeat (first | (with_reducible first | exact HB.out | apply below_alloc | apply pw_below_drewN | apply below_drew1 | refine below_set ?_ GE374.out) | exact HB.out)) hb); have n10_ := Aside0.mk (hbox); have n11_ := Aside0.mk ((by rw [hg]; exact (below_size (by repeat (first | (with_reducible first | exact HB.out | apply below_alloc | apply pw_below_drewN | apply below_drew1 | refine below_set ?_ GE374.out) | exact HB.out))) : w.heap.size ≤ gb405)); have n12_ := Aside0.mk ((by rw [hg]; exact (below_size (by repeat (first | (with_reducible first | exact HB.out | apply below_alloc | apply pw_below_drewN | apply below_drew1 | refine below_set ?_ GE374.out) | exact HB.out))) : w.heap.size ≤ gb405)); have n13_ := Aside0.mk ((by rw [hg]; exact Nat.ne_of_lt (blk_lt (g := gb374) (o := .cells #[.slice A0_0 l0_0.length c0_0, .slice A0_1 l0_1.length c0_1, .int .i64 a0_2, .slice A0_3 l0_3.length c0_3, .int .i64 a0_4, .slice A0_5 l0_5.length c0_5] 55 (0, 0)) (by (with_reducible repeat (first | refine blk_drewN ?_ _ | refine blk_drew ?_ | refine blk_alloc ?_ _)); exact BK374.out)) : gb374 ≠ gb405)); have n14_ := Aside0.mk ((by rw [hg]; exact Nat.ne_of_gt (blk_lt (g := gb374) (o := .cells #[.slice A0_0 l0_0.length c0_0, .slice A0_1 l0_1.length c0_1, .int .i64 a0_2, .slice A0_3 l0_3.length c0_3, .int .i64 a0_4, .slice A0_5 l0_5.length c0_5] 55 (0, 0)) (by (with_reducible repeat (first | refine blk_drewN ?_ _ | refine blk_drew ?_ | refine blk_alloc ?_ _)); exact BK374.out)) : gb405 ≠ gb374)); clear HO378; clear HO381; clear HO385; clear HO389; clear HO393; clear HO396; clear HO400; clear HO404; clear BK374; clear HB; have HO378 := n0_; have HO381 := n1_; have HO385 := n2_; have HO389 := n3_; have HO393 := n4_; have HO396 := n5_; have HO400 := n6_; have HO404 := n7_; have BK374 := n8_; have HB := n9_; have BK405 := n10_; have GW405 := n11_; have GE405 := n12_; have NB374_405 := n13_; have NB405_374 := n14_; clear n0_ n1_ n2_ n3_ n4_ n5_ n6_ n7_ n8_ n9_ n10_ n11_ n12_ n13_ n14_; clear hb hbox hg; obtain ⟨Ao82, co82, eo82⟩ := Kd.R_slice HO393.out; subst eo82; have hnb83 := NB405_374.out; have hnc83 := NB374_405.out; have hcz84_0 : w81.cell? ⟨gb405, 0, none⟩ = some (.slice none 0 0) := (blk_cell BK405.out 0).trans rfl; have hcz84_1 : w81.cell? ⟨gb405, 1, none⟩ = some (.slice none 0 0) := (blk_cell BK405.out 1).trans rfl; have hcz84_2 : w81.cell? ⟨gb405, 2, none⟩ = some (.int .i64 0) := (blk_cell BK405.out 2).trans rfl; have hcz84_3 : w81.cell? ⟨gb405, 3, none⟩ = some (.slice none 0 0) := (blk_cell BK405.out 3).trans rfl; have hcz84_4 : w81.cell? ⟨gb405, 4, none⟩ = some (.int .i64 0) := (blk_cell BK405.out 4).trans rfl; have hcz84_5 : w81.cell? ⟨gb405, 5, none⟩ = some (.slice none 0 0) := (blk_cell BK405.out 5).trans rfl; have hfz84_0 := blk_frozen BK405.out 0; have hfz84_1 := blk_frozen BK405.out 1; have hfz84_2 := blk_frozen BK405.out 2; have hfz84_3 := blk_frozen BK405.out 3; have hfz84_4 := blk_frozen BK405.out 4; have hfz84_5 := blk_frozen BK405.out 5; obtain ⟨Ao85, co85, eo85⟩ := Kd.R_slice HO396.out; subst eo85; obtain ⟨Ao86, co86, eo86⟩ := Kd.R_slice HO400.out; subst eo86; obtain ⟨Ao87, co87, eo87⟩ := Kd.R_slice HO404.out; subst eo87) | ((with_reducible refine gate_callee (f := 27) rfl ?_); refine goesL_ (some 18) rfl rfl Tryd.func27 (by kernel_rfl) rfl #[.agg #[.slice Ao82 t391.length co82, .slice Ao85 t394.length co85, .int .i64 t397, .slice Ao86 t398.length co86, .int .i64 t401, .slice Ao87 t402.length co87]] rfl (by (try simp only [List.map_toArray, List.map_cons, List.map_nil]); first | done | rfl | (simp only [List.length_drop, List.length_take]; rfl)) ?_; (with_reducible refine (impl_Disassemble.calls k _ _ t391 _ _ t394 t397 _ _ t398 t401 _ _ t402 t406 _ ?tLtTab ?side1 ?side2 ?side3 ?side4 ?side5 ?side6 ?side7 ?side8 A10.out).mono ?_); (case tLtTab => exact HLtTab.out.on (by repeat (first | (with_reducible first | exact HB.out | apply below_alloc | apply pw_below_drewN | apply below_drew1 | refine below_set ?_ GE374.out | refine below_set ?_ GE405.out) | exact HB.out))); (case side1 => refine (Kd.R_reads' (e := 5) (base := w.heap.size) (ok := fun k_ => ((some k_ ≠ (.slice Ao85 t394.length co85 : Value).ownBlock ∧ some k_ ≠ (.slice Ao74 t376.length co74 : Value).ownBlock) ∧ some k_ ≠ (.slice Ao75 t379.length co75 : Value).ownBlock)) (n := t391.length) (c := co82) ?_).2.2; exact (by (with_reducible repeat (first | apply Kd.R_alloc | apply Kd.R_drewN | apply Kd.R_drew)); exact (Kd.R_mono (Kd.R_far (p := ⟨gb405, 5, none⟩) (Kd.R_far (p := ⟨gb405, 4, none⟩) (Kd.R_far (p := ⟨gb405, 3, none⟩) (Kd.R_far (p := ⟨gb405, 2, none⟩) (Kd.R_far (p := ⟨gb405, 1, none⟩) (Kd.R_far (p := ⟨gb405, 0, none⟩) (Kd.R_types HO393.out BK405.out (by decide)) (fun _ hk => hk.2) (.slice Ao82 t391.length co82)) (fun _ hk => hk.2) (.slice Ao85 t394.length co85)) (fun _ hk => hk.2) (.int .i64 t397)) (fun _ hk => hk.2) (.slice Ao86 t398.length co86)) (fun _ hk => hk.2) (.int .i64 t401)) (fun _ hk => hk.2) (.slice Ao87 t402.length co87)) (fun _ h_ => h_.1)))); (case side2 => exact (Kd.R_reads' HO393.out).2.1); (case side3 => refine (Kd.R_reads' (e := 5) (base := w.heap.size) (ok := fun k_ => ((some k_ ≠ (.slice Ao82 t391.length co82 : Value).ownBlock ∧ some k_ ≠ (.slice Ao74 t376.length co74 : Value).ownBlock) ∧ some k_ ≠ (.slice Ao75 t379.length co75 : Value).ownBlock)) (n := t394.length) (c := co85) ?_).2.2; exact (by (with_reducible repeat (first | apply Kd.R_alloc | apply Kd.R_drewN | apply Kd.R_drew)); exact (Kd.R_mono (Kd.R_far (p := ⟨gb405, 5, none⟩) (Kd.R_far (p := ⟨gb405, 4, none⟩) (Kd.R_far (p := ⟨gb405, 3, none⟩) (Kd.R_far (p := ⟨gb405, 2, none⟩) (Kd.R_far (p := ⟨gb405, 1, none⟩) (Kd.R_far (p := ⟨gb405, 0, none⟩) (Kd.R_types HO396.out BK405.out (by decide)) (fun _ hk => hk.2) (.slice Ao82 t391.length co82)) (fun _ hk => hk.2) (.slice Ao85 t394.length co85)) (fun _ hk => hk.2) (.int .i64 t397)) (fun _ hk => hk.2) (.slice Ao86 t398.length co86)) (fun _ hk => hk.2) (.int .i64 t401)) (fun _ hk => hk.2) (.slice Ao87 t402.length co87)) (fun _ h_ => h_.1)))); (case side4 => exact (Kd.R_reads' HO396.out).2.1); (case side5 => refine (Kd.R_reads' (e := 2) (base := w.heap.size) (ok := fun k_ => (True ∧ some k_ ≠ (.slice Ao76 t383.length co76 : Value).ownBlock)) (n := t398.length) (c := co86) ?_).2.2; exact (by (with_reducible repeat (first | apply Kd.R_alloc | apply Kd.R_drewN | apply Kd.R_drew)); exact (Kd.R_mono (Kd.R_far (p := ⟨gb405, 5, none⟩) (Kd.R_far (p := ⟨gb405, 4, none⟩) (Kd.R_far (p := ⟨gb405, 3, none⟩) (Kd.R_far (p := ⟨gb405, 2, none⟩) (Kd.R_far (p := ⟨gb405, 1, none⟩) (Kd.R_far (p := ⟨gb405, 0, none⟩) (Kd.R_types HO400.out BK405.out (by decide)) (fun _ hk => hk.2) (.slice Ao82 t391.length co82)) (fun _ hk => hk.2) (.slice Ao85 t394.length co85)) (fun _ hk => hk.2) (.int .i64 t397)) (fun _ hk => hk.2) (.slice Ao86 t398.length co86)) (fun _ hk => hk.2) (.int .i64 t401)) (fun _ hk => hk.2) (.slice Ao87 t402.length co87)) (fun _ h_ => h_.1)))); (case side6 => exact (Kd.R_reads' HO400.out).2.1); (case side7 => refine (Kd.R_reads' (e := 109) (base := w.heap.size) (ok := fun k_ => (True ∧ some k_ ≠ (.slice Ao77 t387.length co77 : Value).ownBlock)) (n := t402.length) (c := co87) ?_).2.2; exact (by (with_reducible repeat (first | apply Kd.R_alloc | apply Kd.R_drewN | apply Kd.R_drew)); exact (Kd.R_mono (Kd.R_far (p := ⟨gb405, 5, none⟩) (Kd.R_far (p := ⟨gb405, 4, none⟩) (Kd.R_far (p := ⟨gb405, 3, none⟩) (Kd.R_far (p := ⟨gb405, 2, none⟩) (Kd.R_far (p := ⟨gb405, 1, none⟩) (Kd.R_far (p := ⟨gb405, 0, none⟩) (Kd.R_types HO404.out BK405.out (by decide)) (fun _ hk => hk.2) (.slice Ao82 t391.length co82)) (fun _ hk => hk.2) (.slice Ao85 t394.length co85)) (fun _ hk => hk.2) (.int .i64 t397)) (fun _ hk => hk.2) (.slice Ao86 t398.length co86)) (fun _ hk => hk.2) (.int .i64 t401)) (fun _ hk => hk.2) (.slice Ao87 t402.length co87)) (fun _ h_ => h_.1)))); (case side8 => exact (Kd.R_reads' HO404.out).2.1); rintro e w88 ⟨rfl, hb⟩; refine ⟨_, rfl, ?_⟩; have n0_ := Aside0.mk (Kd.R_below (by (with_reducible repeat (first | apply Kd.R_alloc | apply Kd.R_drewN | apply Kd.R_drew)); exact (Kd.R_mono (Kd.R_far (p := ⟨gb405, 5, none⟩) (Kd.R_far (p := ⟨gb405, 4, none⟩) (Kd.R_far (p := ⟨gb405, 3, none⟩) (Kd.R_far (p := ⟨gb405, 2, none⟩) (Kd.R_far (p := ⟨gb405, 1, none⟩) (Kd.R_far (p := ⟨gb405, 0, none⟩) (Kd.R_types HO378.out BK405.out (by decide)) (fun _ hk => hk.2) (.slice Ao82 t391.length co82)) (fun _ hk => hk.2) (.slice Ao85 t394.length co85)) (fun _ hk => hk.2) (.int .i64 t397)) (fun _ hk => hk.2) (.slice Ao86 t398.length co86)) (fun _ hk => hk.2) (.int .i64 t401)) (fun _ hk => hk.2) (.slice Ao87 t402.length co87)) (fun _ h_ => h_.1))) hb); have n1_ := Aside0.mk (Kd.R_below (by (with_reducible repeat (first | apply Kd.R_alloc | apply Kd.R_drewN | apply Kd.R_drew)); exact (Kd.R_mono (Kd.R_far (p := ⟨gb405, 5, none⟩) (Kd.R_far (p := ⟨gb405, 4, none⟩) (Kd.R_far (p := ⟨gb405, 3, none⟩) (Kd.R_far (p := ⟨gb405, 2, none⟩) (Kd.R_far (p := ⟨gb405, 1, none⟩) (Kd.R_far (p := ⟨gb405, 0, none⟩) (Kd.R_types HO381.out BK405.out (by decide)) (fun _ hk => hk.2) (.slice Ao82 t391.length co82)) (fun _ hk => hk.2) (.slice Ao85 t394.length co85)) (fun _ hk => hk.2) (.int .i64 t397)) (fun _ hk => hk.2) (.slice Ao86 t398.length co86)) (fun _ hk => hk.2) (.int .i64 t401)) (fun _ hk => hk.2) (.slice Ao87 t402.length co87)) (fun _ h_ => h_.1))) hb); have n2_ := Aside0.mk (Kd.R_below (by (with_reducible repeat (first | apply Kd.R_alloc | apply Kd.R_drewN | apply Kd.R_drew)); exact (Kd.R_mono (Kd.R_far (p := ⟨gb405, 5, none⟩) (Kd.R_far (p := ⟨gb405, 4, none⟩) (Kd.R_far (p := ⟨gb405, 3, none⟩) (Kd.R_far (p := ⟨gb405, 2, none⟩) (Kd.R_far (p := ⟨gb405, 1, none⟩) (Kd.R_far (p := ⟨gb405, 0, none⟩) (Kd.R_types HO385.out BK405.out (by decide)) (fun _ hk => hk.2) (.slice Ao82 t391.length co82)) (fun _ hk => hk.2) (.slice Ao85 t394.length co85)) (fun _ hk => hk.2) (.int .i64 t397)) (fun _ hk => hk.2) (.slice Ao86 t398.length co86)) (fun _ hk => hk.2) (.int .i64 t401)) (fun _ hk => hk.2) (.slice Ao87 t402.length co87)) (fun _ h_ => h_.1))) hb); have n3_ := Aside0.mk (Kd.R_below (by (with_reducible repeat (first | apply Kd.R_alloc | apply Kd.R_drewN | apply Kd.R_drew)); exact (Kd.R_mono (Kd.R_far (p := ⟨gb405, 5, none⟩) (Kd.R_far (p := ⟨gb405, 4, none⟩) (Kd.R_far (p := ⟨gb405, 3, none⟩) (Kd.R_far (p := ⟨gb405, 2, none⟩) (Kd.R_far (p := ⟨gb405, 1, none⟩) (Kd.R_far (p := ⟨gb405, 0, none⟩) (Kd.R_types HO389.out BK405.out (by decide)) (fun _ hk => hk.2) (.slice Ao82 t391.length co82)) (fun _ hk => hk.2) (.slice Ao85 t394.length co85)) (fun _ hk => hk.2) (.int .i64 t397)) (fun _ hk => hk.2) (.slice Ao86 t398.length co86)) (fun _ hk => hk.2) (.int .i64 t401)) (fun _ hk => hk.2) (.slice Ao87 t402.length co87)) (fun _ h_ => h_.1))) hb); have n4_ := Aside0.mk (Kd.R_below (by (with_reducible repeat (first | apply Kd.R_alloc | apply Kd.R_drewN | apply Kd.R_drew)); exact (Kd.R_mono (Kd.R_far (p := ⟨gb405, 5, none⟩) (Kd.R_far (p := ⟨gb405, 4, none⟩) (Kd.R_far (p := ⟨gb405, 3, none⟩) (Kd.R_far (p := ⟨gb405, 2, none⟩) (Kd.R_far (p := ⟨gb405, 1, none⟩) (Kd.R_far (p := ⟨gb405, 0, none⟩) (Kd.R_types HO393.out BK405.out (by decide)) (fun _ hk => hk.2) (.slice Ao82 t391.length co82)) (fun _ hk => hk.2) (.slice Ao85 t394.length co85)) (fun _ hk => hk.2) (.int .i64 t397)) (fun _ hk => hk.2) (.slice Ao86 t398.length co86)) (fun _ hk => hk.2) (.int .i64 t401)) (fun _ hk => hk.2) (.slice Ao87 t402.length co87)) (fun _ h_ => h_.1))) hb); have n5_ := Aside0.mk (Kd.R_below (by (with_reducible repeat (first | apply Kd.R_alloc | apply Kd.R_drewN | apply Kd.R_drew)); exact (Kd.R_mono (Kd.R_far (p := ⟨gb405, 5, none⟩) (Kd.R_far (p := ⟨gb405, 4, none⟩) (Kd.R_far (p := ⟨gb405, 3, none⟩) (Kd.R_far (p := ⟨gb405, 2, none⟩) (Kd.R_far (p := ⟨gb405, 1, none⟩) (Kd.R_far (p := ⟨gb405, 0, none⟩) (Kd.R_types HO396.out BK405.out (by decide)) (fun _ hk => hk.2) (.slice Ao82 t391.length co82)) (fun _ hk => hk.2) (.slice Ao85 t394.length co85)) (fun _ hk => hk.2) (.int .i64 t397)) (fun _ hk => hk.2) (.slice Ao86 t398.length co86)) (fun _ hk => hk.2) (.int .i64 t401)) (fun _ hk => hk.2) (.slice Ao87 t402.length co87)) (fun _ h_ => h_.1))) hb); have n6_ := Aside0.mk (Kd.R_below (by (with_reducible repeat (first | apply Kd.R_alloc | apply Kd.R_drewN | apply Kd.R_drew)); exact (Kd.R_mono (Kd.R_far (p := ⟨gb405, 5, none⟩) (Kd.R_far (p := ⟨gb405, 4, none⟩) (Kd.R_far (p := ⟨gb405, 3, none⟩) (Kd.R_far (p := ⟨gb405, 2, none⟩) (Kd.R_far (p := ⟨gb405, 1, none⟩) (Kd.R_far (p := ⟨gb405, 0, none⟩) (Kd.R_types HO400.out BK405.out (by decide)) (fun _ hk => hk.2) (.slice Ao82 t391.length co82)) (fun _ hk => hk.2) (.slice Ao85 t394.length co85)) (fun _ hk => hk.2) (.int .i64 t397)) (fun _ hk => hk.2) (.slice Ao86 t398.length co86)) (fun _ hk => hk.2) (.int .i64 t401)) (fun _ hk => hk.2) (.slice Ao87 t402.length co87)) (fun _ h_ => h_.1))) hb); have n7_ := Aside0.mk (Kd.R_below (by (with_reducible repeat (first | apply Kd.R_alloc | apply Kd.R_drewN | apply Kd.R_drew)); exact (Kd.R_mono (Kd.R_far (p := ⟨gb405, 5, none⟩) (Kd.R_far (p := ⟨gb405, 4, none⟩) (Kd.R_far (p := ⟨gb405, 3, none⟩) (Kd.R_far (p := ⟨gb405, 2, none⟩) (Kd.R_far (p := ⟨gb405, 1, none⟩) (Kd.R_far (p := ⟨gb405, 0, none⟩) (Kd.R_types HO404.out BK405.out (by decide)) (fun _ hk => hk.2) (.slice Ao82 t391.length co82)) (fun _ hk => hk.2) (.slice Ao85 t394.length co85)) (fun _ hk => hk.2) (.int .i64 t397)) (fun _ hk => hk.2) (.slice Ao86 t398.length co86)) (fun _ hk => hk.2) (.int .i64 t401)) (fun _ hk => hk.2) (.slice Ao87 t402.length co87)) (fun _ h_ => h_.1))) hb); have n8_ := Aside0.mk (blk_below (g := gb374) (o := .cells #[.slice A0_0 l0_0.length c0_0, .slice A0_1 l0_1.length c0_1, .int .i64 a0_2, .slice A0_3 l0_3.length c0_3, .int .i64 a0_4, .slice A0_5 l0_5.length c0_5] 55 (0, 0)) (by (with_reducible repeat (first | refine blk_drewN ?_ _ | refine blk_drew ?_ | refine blk_alloc ?_ _)); refine blk_far ?_ NB374_405.out _; (with_reducible repeat (first | refine blk_drewN ?_ _ | refine blk_drew ?_ | refine blk_alloc ?_ _)); refine blk_far ?_ NB374_405.out _; (with_reducible repeat (first | refine blk_drewN ?_ _ | refine blk_drew ?_ | refine blk_alloc ?_ _)); refine blk_far ?_ NB374_405.out _; (with_reducible repeat (first | refine blk_drewN ?_ _ | refine blk_drew ?_ | refine blk_alloc ?_ _)); refine blk_far ?_ NB374_405.out _; (with_reducible repeat (first | refine blk_drewN ?_ _ | refine blk_drew ?_ | refine blk_alloc ?_ _)); refine blk_far ?_ NB374_405.out _; (with_reducible repeat (first | refine blk_drewN ?_ _ | refine blk_drew ?_ | refine blk_alloc ?_ _)); refine blk_far ?_ NB374_405.out _; (with_reducible repeat (first | refine blk_drewN ?_ _ | refine blk_drew ?_ | refine blk_alloc ?_ _)); exact BK374.out) hb); have n9_ := Aside0.mk (blk_below (g := gb405) (o := .cells #[.slice Ao82 t391.length co82, .slice Ao85 t394.length co85, .int .i64 t397, .slice Ao86 t398.length co86, .int .i64 t401, .slice Ao87 t402.length co87] 60 (0, 0)) (by (with_reducible repeat (first | refine blk_drewN ?_ _ | refine blk_drew ?_ | refine blk_alloc ?_ _)); refine blk_put (cs := #[.slice Ao82 t391.length co82, .slice Ao85 t394.length co85, .int .i64 t397, .slice Ao86 t398.length co86, .int .i64 t401, .slice none 0 0]) ?_ 5 _ rfl; (with_reducible repeat (first | refine blk_drewN ?_ _ | refine blk_drew ?_ | refine blk_alloc ?_ _)); refine blk_put (cs := #[.slice Ao82 t391.length co82, .slice Ao85 t394.length co85, .int .i64 t397, .slice Ao86 t398.length co86, .int .i64 0, .slice none 0 0]) ?_ 4 _ rfl; (with_reducible repeat (first | refine blk_drewN ?_ _ | refine blk_drew ?_ | refine blk_alloc ?_ _)); refine blk_put (cs := #[.slice Ao82 t391.length co82, .slice Ao85 t394.length co85, .int .i64 t397, .slice none 0 0, .int .i64 0, .slice none 0 0]) ?_ 3 _ rfl; (with_reducible repeat (first | refine blk_drewN ?_ _ | refine blk_drew ?_ | refine blk_alloc ?_ _)); refine blk_put (cs := #[.slice Ao82 t391.length co82, .slice Ao85 t394.length co85, .int .i64 0, .slice none 0 0, .int .i64 0, .slice none 0 0]) ?_ 2 _ rfl; (with_reducible repeat (first | refine blk_drewN ?_ _ | refine blk_drew ?_ | refine blk_alloc ?_ _)); refine blk_put (cs := #[.slice Ao82 t391.length co82, .slice none 0 0, .int .i64 0, .slice none 0 0, .int .i64 0, .slice none 0 0]) ?_ 1 _ rfl; (with_reducible repeat (first | refine blk_drewN ?_ _ | refine blk_drew ?_ | refine blk_alloc ?_ _)); refine blk_put (cs := #[.slice none 0 0, .slice none 0 0, .int .i64 0, .slice none 0 0, .int .i64 0, .slice none 0 0]) ?_ 0 _ rfl; (with_reducible repeat (first | refine blk_drewN ?_ _ | refine blk_drew ?_ | refine blk_alloc ?_ _)); exact BK405.out) hb); have n10_ := Aside0.mk (below_step (by repeat (first | (with_reducible first | exact HB.out | apply below_alloc | apply pw_below_drewN | apply below_drew1 | refine below_set ?_ GE374.out | refine below_set ?_ GE405.out) | exact HB.out)) hb); clear HO378; clear HO381; clear HO385; clear HO389; clear HO393; clear HO396; clear HO400; clear HO404; clear BK374; clear BK405; clear HB; have HO378 := n0_; have HO381 := n1_; have HO385 := n2_; have HO389 := n3_; have HO393 := n4_; have HO396 := n5_; have HO400 := n6_; have HO404 := n7_; have BK374 := n8_; have BK405 := n9_; have HB := n10_; clear n0_ n1_ n2_ n3_ n4_ n5_ n6_ n7_ n8_ n9_ n10_; (try clear hb); (try clear hb2); (try clear hk); (try clear hi)))
     go_ret
     exact ⟨by first | rfl | (simp [errW_none, errW_some] <;> rfl) | (simp [*, errW_none, errW_some] <;> rfl), by repeat (first | (with_reducible first | exact HB.out | apply below_alloc | apply pw_below_drewN | apply below_drew1 | refine below_set ?_ GE374.out | refine below_set ?_ GE405.out) | exact HB.out)⟩

end Go.Proofs.YtkohjiajbdkcbaaDoor.All


namespace Go.Proofs.YtkohjiajbdkcbaaDoor.All
open Go.RowKit Go.Proofs.YtkohjiajbdkcbaaDoorW.PrintWords Go.Proofs.YtkohjiajbdkcbaaDoorW.PrintLast Go.Proofs.YtkohjiajbdkcbaaDoorW.PrintMore
attribute [local go_sem] max2_int min2_int max_two min_two max_three min_three max_four min_four   -- for this text's walks alone
set_option linter.unusedVariables false
set_option linter.unusedSimpArgs false

/-! ### spec_FormatWord: function 23 -/
end Go.Proofs.YtkohjiajbdkcbaaDoor.All


namespace Go.Proofs.YtkohjiajbdkcbaaDoor.All
open Go.RowKit Go.Proofs.YtkohjiajbdkcbaaDoorW.PrintWords Go.Proofs.YtkohjiajbdkcbaaDoorW.PrintLast Go.Proofs.YtkohjiajbdkcbaaDoorW.PrintMore
attribute [local go_sem] max2_int min2_int max_two min_two max_three min_three max_four min_four   -- for this text's walks alone
set_option linter.unusedVariables false
set_option linter.unusedSimpArgs false

/-! ### impl_mask: function 49 -/
end Go.Proofs.YtkohjiajbdkcbaaDoor.All


namespace Go.Proofs.YtkohjiajbdkcbaaDoor.All
open Go.RowKit Go.Proofs.YtkohjiajbdkcbaaDoorW.PrintWords Go.Proofs.YtkohjiajbdkcbaaDoorW.PrintLast Go.Proofs.YtkohjiajbdkcbaaDoorW.PrintMore
attribute [local go_sem] max2_int min2_int max_two min_two max_three min_three max_four min_four   -- for this text's walks alone
set_option linter.unusedVariables false
set_option linter.unusedSimpArgs false

/-! ### impl_isWord: function 48 -/
end Go.Proofs.YtkohjiajbdkcbaaDoor.All


namespace Go.Proofs.YtkohjiajbdkcbaaDoor.All
open Go.RowKit Go.Proofs.YtkohjiajbdkcbaaDoorW.PrintWords Go.Proofs.YtkohjiajbdkcbaaDoorW.PrintLast Go.Proofs.YtkohjiajbdkcbaaDoorW.PrintMore
attribute [local go_sem] max2_int min2_int max_two min_two max_three min_three max_four min_four   -- for this text's walks alone
set_option linter.unusedVariables false
set_option linter.unusedSimpArgs false

/-! ### impl_Signed: function 20 -/
end Go.Proofs.YtkohjiajbdkcbaaDoor.All


namespace Go.Proofs.YtkohjiajbdkcbaaDoor.All
open Go.RowKit Go.Proofs.YtkohjiajbdkcbaaDoorW.PrintWords Go.Proofs.YtkohjiajbdkcbaaDoorW.PrintLast Go.Proofs.YtkohjiajbdkcbaaDoorW.PrintMore
attribute [local go_sem] max2_int min2_int max_two min_two max_three min_three max_four min_four   -- for this text's walks alone
set_option linter.unusedVariables false
set_option linter.unusedSimpArgs false

/-! ### strconv_FormatInt_39: function 39 -/
def strconv_FormatInt_39.f (a0 : Int) (a1 : Int) : Option (ByteArray) := if -9223372036854775808 ≤ a0 then (if a0 ≤ 9223372036854775807 then (if a1 = 10 then some (⟨(Lib.itoa a0).toArray⟩ : ByteArray) else none) else none) else none
theorem strconv_FormatInt_39.calls (a0 : Int) (a1 : Int) (r : ByteArray) (w : World) (ht : LtTab w) (h : strconv_FormatInt_39.f a0 a1 = some r) :
 Calls Tryd.prog 39 #[.int .i64 a0, .int .i64 a1] w fun e w' => e = .returned (.string r) ∧ Below w.heap.size w w' := by
 unfold strconv_FormatInt_39.f at h
 by_cases h0 : -9223372036854775808 ≤ a0
 · by_cases h1 : a0 ≤ 9223372036854775807
   · by_cases h2 : a1 = 10
     · subst h2
       rw [if_pos h0, if_pos h1, if_pos rfl] at h
       obtain rfl := Option.some.inj h
       refine (Tryd.strconv_FormatInt_10 a0 h0 h1 w ht.here).mono ?_
       rintro e w' ⟨he, q, os, rfl⟩
       exact ⟨he, below_grow w q os⟩
     · rw [if_pos h0, if_pos h1, if_neg h2] at h
       cases h
   · rw [if_pos h0, if_neg h1] at h
     cases h
 · rw [if_neg h0] at h
   cases h

end Go.Proofs.YtkohjiajbdkcbaaDoor.All


/- Contracts of Go's library at this translation: laid by the shelf's lay-shelf.mjs and lay-plain.mjs, those that this session's claims use. -/
namespace Go.Proofs
open Go.Shelf
set_option linter.unusedVariables false
def Tryd.lays283_ren : Go.Shelf.Ren := ⟨fun | 283 => 97 | n => n, fun | 3 => 3 | 9 => 9 | 4 => 4 | n => n, fun | n => n⟩
theorem Tryd.lays283 : Go.Proofs.Lays.n283 Tryd.prog Tryd.lays283_ren := {
  mixed := by kernel_rfl
  f283 := Tryd.func97.trans (congrArg some (by kernel_rfl))
  t3 := Tryd.underlying3
  a3 := Tryd.isAgg3
  z3 := Tryd.sizeOf3
  v3 := Tryd.zeroValue3
  t4 := Tryd.underlying4
  a4 := Tryd.isAgg4
  z4 := Tryd.sizeOf4
  v4 := Tryd.zeroValue4
  t9 := Tryd.underlying9
  a9 := Tryd.isAgg9
  z9 := Tryd.sizeOf9
  v9 := Tryd.zeroValue9 }
open Go.Lib in
theorem Tryd.internal_strconv_small (i : Nat) (h : i < 100) (w : World) :
    Calls Tryd.prog 97 #[.int .i64 i] w fun e w' => e = .returned (.string ⟨(Lib.decDigits i).toArray⟩) ∧ w' = w := Any.internal_strconv_small Tryd.lays283 i h w
end Go.Proofs


namespace Go.Proofs.YtkohjiajbdkcbaaDoor.All
open Go.RowKit Go.Proofs.YtkohjiajbdkcbaaDoorW.PrintWords Go.Proofs.YtkohjiajbdkcbaaDoorW.PrintLast Go.Proofs.YtkohjiajbdkcbaaDoorW.PrintMore
attribute [local go_sem] max2_int min2_int max_two min_two max_three min_three max_four min_four   -- for this text's walks alone
set_option linter.unusedVariables false
set_option linter.unusedSimpArgs false

/-! ### strconv_FormatUint_50: function 50 -/
def strconv_FormatUint_50.f (a0 : Int) (a1 : Int) : Option (ByteArray) := if 0 ≤ a0 then (if a0 < 100 then (if a1 = 10 then some (⟨(Lib.decDigits a0.toNat).toArray⟩ : ByteArray) else none) else none) else none
set_option maxRecDepth 100000 in
theorem strconv_FormatUint_50.inner (i : Nat) (hi : i < 100) (w : World) :
 Calls Tryd.prog 81 #[.int .u64 (i : Int), .int .i64 10] w fun e w' => e = .returned (.string (⟨(Lib.decDigits i).toArray⟩ : ByteArray)) ∧ w' = w := by
 have c1 : decide ((i : Int) < 100) = true := decide_eq_true (by omega)
 have hw : IntKind.i64.wrap (i : Int) = (i : Int) := IntWalk.i64_in _ (by omega)
 go_enter Tryd.func81, Tryd.ntmps81
 go_wp2_with (go_at_call 97; refine (Tryd.internal_strconv_small i hi _).mono ?_; rintro e w' ⟨rfl, rfl⟩)
 go_ret
 exact ⟨rfl, rfl⟩
set_option maxRecDepth 100000 in
theorem strconv_FormatUint_50.calls (a0 : Int) (a1 : Int) (r : ByteArray) (w : World) (h : strconv_FormatUint_50.f a0 a1 = some r) :
 Calls Tryd.prog 50 #[.int .u64 a0, .int .i64 a1] w fun e w' => e = .returned (.string r) ∧ Drawn0 w w' := by
 unfold strconv_FormatUint_50.f at h
 by_cases h0 : 0 ≤ a0
 · by_cases h1 : a0 < 100
   · by_cases h2 : a1 = 10
     · subst h2
       rw [if_pos h0, if_pos h1, if_pos rfl] at h
       obtain rfl := Option.some.inj h
       obtain ⟨i, rfl⟩ : ∃ i : Nat, a0 = (i : Int) := ⟨a0.toNat, by omega⟩
       have hi : i < 100 := by omega
       clear h h0 h1
       go_enter Tryd.func50, Tryd.ntmps50
       go_wp2_with (go_at_call 81; refine (strconv_FormatUint_50.inner i hi _).mono ?_; rintro e w' ⟨rfl, rfl⟩)
       go_ret
       exact ⟨rfl, Drawn0.refl _⟩
     · rw [if_pos h0, if_pos h1, if_neg h2] at h
       cases h
   · rw [if_pos h0, if_neg h1] at h
     cases h
 · rw [if_neg h0] at h
   cases h

end Go.Proofs.YtkohjiajbdkcbaaDoor.All


namespace Go.Proofs.YtkohjiajbdkcbaaDoor.All
open Go.RowKit Go.Proofs.YtkohjiajbdkcbaaDoorW.PrintWords Go.Proofs.YtkohjiajbdkcbaaDoorW.PrintLast Go.Proofs.YtkohjiajbdkcbaaDoorW.PrintMore
attribute [local go_sem] max2_int min2_int max_two min_two max_three min_three max_four min_four   -- for this text's walks alone
set_option linter.unusedVariables false
set_option linter.unusedSimpArgs false

/-! ### impl_FormatWord: function 22 -/
end Go.Proofs.YtkohjiajbdkcbaaDoor.All


/- Plain laws of the printed functions: eventually (Ev), step by step; loops over a list. -/
namespace Go.Proofs.YtkohjiajbdkcbaaDoor.All
open Go.RowKit Go.Proofs.YtkohjiajbdkcbaaDoorW.PrintWords Go.Proofs.YtkohjiajbdkcbaaDoorW.PrintLast Go.Proofs.YtkohjiajbdkcbaaDoorW.PrintMore
set_option linter.unusedVariables false
set_option linter.unusedSimpArgs false
theorem Ev.succ {α : Type} {g : Nat → Option α} {r : α} (h : Ev (fun k => g (k + 1)) r) : Ev g r := by
  obtain ⟨K, hK⟩ := h
  refine ⟨K + 1, fun k hk => ?_⟩
  obtain ⟨m, rfl⟩ : ∃ m, k = m + 1 := ⟨k - 1, by omega⟩
  exact hK m (by omega)
theorem Ev.pos {α : Type} {c : Prop} [Decidable c] {g h : Nat → Option α} {r : α} (hc : c) (k : Ev g r) : Ev (fun n => if c then g n else h n) r := Ev.congr (fun n => if_pos hc) k
theorem Ev.neg {α : Type} {c : Prop} [Decidable c] {g h : Nat → Option α} {r : α} (hc : ¬ c) (k : Ev h r) : Ev (fun n => if c then g n else h n) r := Ev.congr (fun n => if_neg hc) k
theorem Ev.some_bind {α β : Type} {a : α} {f : Nat → α → Option β} {r : β} (k : Ev (fun n => f n a) r) : Ev (fun n => (some a).bind (f n)) r := k
theorem Ev.eq_bind {α β : Type} {o : Option α} {a : α} {f : Nat → α → Option β} {r : β} (h : o = some a) (k : Ev (fun n => f n a) r) : Ev (fun n => o.bind (f n)) r := by subst h; exact k
theorem Ev.some {α : Type} {a r : α} (h : a = r) : Ev (fun _ => some a) r := h ▸ Ev.now a
theorem wrap64_id {x : Int} (h1 : -9223372036854775808 ≤ x) (h2 : x ≤ 9223372036854775807) : wrap64 x = x := by unfold wrap64; omega
theorem wrap64_nat {i : Nat} (h : i < 9223372036854775807) : wrap64 ((i : Int) + 1) = ((i + 1 : Nat) : Int) := by rw [wrap64_id (by omega) (by omega)]; rfl
theorem getD_eq {α : Type} {xs : List α} {i : Nat} (h : i < xs.length) (z : α) : xs.getD i z = xs[i] := by rw [List.getD_eq_getElem?_getD, List.getElem?_eq_getElem h]; rfl
/-- A loop that fills a list of the same length. -/
theorem to_gen {α β : Type} (f : α → β) (z : β) (za : α) (xs : List α) (g : Nat → List β → Int → Option (List β))
    (hstep : ∀ (i : Nat) (out : List β) (r : List β), i < xs.length → out.length = xs.length → Ev (fun k => g k (out.set i (f (xs.getD i za))) ((i + 1 : Nat) : Int)) r → Ev (fun k => g k out (i : Int)) r)
    (hend : ∀ out : List β, out.length = xs.length → Ev (fun k => g k out (xs.length : Int)) out) : Ev (fun k => g k (List.replicate xs.length z) 0) (xs.map f) := by
  have key : ∀ d i : Nat, i + d = xs.length → Ev (fun k => g k ((xs.map f).take i ++ List.replicate (xs.length - i) z) (i : Int)) (xs.map f) := by
    intro d
    induction d with
    | zero =>
      intro i hi
      obtain rfl : i = xs.length := by omega
      rw [Nat.sub_self, List.replicate_zero, List.append_nil, List.take_of_length_le (by simp)]
      exact hend _ (by simp)
    | succ d ih =>
      intro i hi
      have h1 := ih (i + 1) (by omega)
      refine hstep i _ _ (by omega) (by simp; omega) ?_
      have e : ((xs.map f).take i ++ List.replicate (xs.length - i) z).set i (f (xs.getD i za)) = (xs.map f).take (i + 1) ++ List.replicate (xs.length - (i + 1)) z := by
        have hl : ((xs.map f).take i).length = i := by simp; omega
        rw [List.set_append_right _ _ (by omega), hl, Nat.sub_self]
        obtain ⟨m, hm⟩ : ∃ m, xs.length - i = m + 1 := ⟨xs.length - i - 1, by omega⟩
        rw [hm, List.replicate_succ, List.set_cons_zero, List.take_succ_eq_append_getElem (by simp; omega), show xs.length - (i + 1) = m by omega, List.append_assoc]
        congr 1
        simp [List.getElem?_eq_getElem (show i < xs.length by omega)]
      rw [e]
      exact h1
  have h0 := key xs.length 0 (by omega)
  simpa using h0
/-- A loop whose end is r, whatever happens on the way. -/
theorem for_gen {ρ : Type} (r : ρ) (n : Nat) (g : Nat → Int → Option ρ) (hstep : ∀ i : Nat, i < n → Ev (fun k => g k ((i + 1 : Nat) : Int)) r → Ev (fun k => g k (i : Int)) r) (hend : Ev (fun k => g k (n : Int)) r) : Ev (fun k => g k 0) r := by
  have key : ∀ d i : Nat, i + d = n → Ev (fun k => g k (i : Int)) r := by
    intro d
    induction d with
    | zero => intro i hi; obtain rfl : i = n := by omega
              exact hend
    | succ d ih => intro i hi; exact hstep i (by omega) (ih (i + 1) (by omega))
  exact key n 0 (by omega)
/-- A loop that says yes at each step. -/
theorem all_gen (n : Nat) (g : Nat → Int → Option Bool) (hstep : ∀ i : Nat, i < n → Ev (fun k => g k ((i + 1 : Nat) : Int)) true → Ev (fun k => g k (i : Int)) true) (hend : Ev (fun k => g k (n : Int)) true) : Ev (fun k => g k 0) true := for_gen true n g hstep hend
/-- A loop that takes sizes off; below 0 it ends with -1. -/
theorem sz_gen {α : Type} (s : α → Nat) (za : α) (xs : List α) (g : Nat → Int → Int → Option Int)
    (hstep : ∀ (i : Nat) (a r : Int), i < xs.length → 0 ≤ a → a ≤ 1048576 → (if (s (xs.getD i za) : Int) ≤ a then Ev (fun k => g k (a - s (xs.getD i za)) ((i + 1 : Nat) : Int)) r else r = -1) → Ev (fun k => g k a (i : Int)) r)
    (hend : ∀ a : Int, Ev (fun k => g k a (xs.length : Int)) a) (a : Int) (h0 : 0 ≤ a) (h1 : a ≤ 1048576) : Ev (fun k => g k a 0) (if ((xs.map s).sum : Int) ≤ a then a - (xs.map s).sum else -1) := by
  have key : ∀ d i : Nat, i + d = xs.length → ∀ a : Int, 0 ≤ a → a ≤ 1048576 → Ev (fun k => g k a (i : Int)) (if ((((xs.drop i).map s).sum : Nat) : Int) ≤ a then a - (((xs.drop i).map s).sum : Nat) else -1) := by
    intro d
    induction d with
    | zero =>
      intro i hi a h0 h1
      obtain rfl : i = xs.length := by omega
      rw [List.drop_length]
      simp [h0]
      exact hend a
    | succ d ih =>
      intro i hi a h0 h1
      have hlt : i < xs.length := by omega
      refine hstep i a _ hlt h0 h1 ?_
      rw [List.drop_eq_getElem_cons hlt, List.map_cons, List.sum_cons, getD_eq hlt]
      split
      · rename_i hc
        have h2 := ih (i + 1) (by omega) (a - (s xs[i] : Nat)) (by omega) (by omega)
        have e : (if ((((xs.drop (i + 1)).map s).sum : Nat) : Int) ≤ a - (s xs[i] : Nat) then a - (s xs[i] : Nat) - (((xs.drop (i + 1)).map s).sum : Nat) else -1) = (if ((s xs[i] + ((xs.drop (i + 1)).map s).sum : Nat) : Int) ≤ a then a - (s xs[i] + ((xs.drop (i + 1)).map s).sum : Nat) else -1) := by
          split <;> split <;> omega
        rw [← e]
        exact h2
      · rename_i hc
        rw [if_neg (by omega)]
  have h2 := key xs.length 0 (by omega) a h0 h1
  simpa using h2
theorem sum_getD_le {α : Type} (s : α → Nat) (z : α) : ∀ (xs : List α) (i : Nat), i < xs.length → s (xs.getD i z) ≤ (xs.map s).sum
  | x :: xs, 0, _ => by simp
  | x :: xs, i + 1, h => by
    have := sum_getD_le s z xs i (by simpa using h)
    simp only [List.getD_cons_succ, List.map_cons, List.sum_cons] at this ⊢
    omega
end Go.Proofs.YtkohjiajbdkcbaaDoor.All


namespace Go.Proofs.YtkohjiajbdkcbaaDoor.All
open Go.RowKit Go.Proofs.YtkohjiajbdkcbaaDoorW.PrintWords Go.Proofs.YtkohjiajbdkcbaaDoorW.PrintLast Go.Proofs.YtkohjiajbdkcbaaDoorW.PrintMore
attribute [local go_sem] max2_int min2_int max_two min_two max_three min_three max_four min_four   -- for this text's walks alone
set_option linter.unusedVariables false
set_option linter.unusedSimpArgs false

/-! ### impl_Cut: function 21 -/
end Go.Proofs.YtkohjiajbdkcbaaDoor.All


/- Plain laws of words: widths, cuts, signs. -/
namespace Go.Proofs.YtkohjiajbdkcbaaDoor.All
open Go.RowKit Go.Proofs.YtkohjiajbdkcbaaDoorW.PrintWords Go.Proofs.YtkohjiajbdkcbaaDoorW.PrintLast Go.Proofs.YtkohjiajbdkcbaaDoorW.PrintMore
set_option linter.unusedVariables false
set_option linter.unusedSimpArgs false
def VW (w : Int) : Prop := w = 1 ∨ w = 8 ∨ w = 16 ∨ w = 32 ∨ w = 64
instance (w : Int) : Decidable (VW w) := by unfold VW; exact inferInstance
def pw (w : Int) : Int := if w = 1 then 2 else if w = 8 then 256 else if w = 16 then 65536 else if w = 32 then 4294967296 else 18446744073709551616
def cutW (w v : Int) : Int := v % pw w
def sgnW (w v : Int) : Int := if pw w ≤ 2 * v then v - pw w else v
theorem validI_f (w : Int) : impl_ValidWidth.f w = some (decide (VW w)) := by
  by_cases h : VW w
  · rw [decide_eq_true h]
    rcases h with rfl | rfl | rfl | rfl | rfl <;> rfl
  · rw [decide_eq_false h]
    unfold VW at h
    unfold impl_ValidWidth.f
    rw [if_neg (by omega), if_neg (by omega), if_neg (by omega), if_neg (by omega), beq_eq_false_iff_ne.mpr (by omega)]
theorem validS_f (w : Int) : spec_ValidWidth.f w = some (decide (VW w)) := by
  by_cases h : VW w
  · rw [decide_eq_true h]
    rcases h with rfl | rfl | rfl | rfl | rfl <;> rfl
  · rw [decide_eq_false h]
    unfold VW at h
    unfold spec_ValidWidth.f
    rw [if_neg (by omega), if_neg (by omega), if_neg (by omega), if_neg (by omega), beq_eq_false_iff_ne.mpr (by omega)]
theorem maskS_f {w : Int} (h : VW w) : spec_l1Mask.f w = some (pw w - 1) := by
  rcases h with rfl | rfl | rfl | rfl | rfl <;> kernel_rfl
theorem and_mask {w v : Int} (h : VW w) (h0 : 0 ≤ v) (h1 : v < 18446744073709551616) : Go.bits .and .u64 v (pw w - 1) = cutW w v := by
  obtain ⟨n, rfl⟩ : ∃ n : Nat, v = (n : Int) := ⟨v.toNat, by omega⟩
  have key : ∀ k : Nat, n &&& (2 ^ k - 1) = n % 2 ^ k := fun k => Nat.and_two_pow_sub_one_eq_mod n k
  rcases h with rfl | rfl | rfl | rfl | rfl
  · rw [show pw 1 - 1 = ((2 ^ 1 - 1 : Nat) : Int) from rfl, u64_and_nat _ _ (by omega) (by decide), key 1]; rfl
  · rw [show pw 8 - 1 = ((2 ^ 8 - 1 : Nat) : Int) from rfl, u64_and_nat _ _ (by omega) (by decide), key 8]; rfl
  · rw [show pw 16 - 1 = ((2 ^ 16 - 1 : Nat) : Int) from rfl, u64_and_nat _ _ (by omega) (by decide), key 16]; rfl
  · rw [show pw 32 - 1 = ((2 ^ 32 - 1 : Nat) : Int) from rfl, u64_and_nat _ _ (by omega) (by decide), key 32]; rfl
  · rw [show pw 64 - 1 = ((2 ^ 64 - 1 : Nat) : Int) from rfl, u64_and_nat _ _ (by omega) (by decide), key 64]; rfl
theorem pw_pos (w : Int) : 2 ≤ pw w ∧ pw w ≤ 18446744073709551616 := by unfold pw; repeat' split <;> omega
theorem cutW_range (w v : Int) : 0 ≤ cutW w v ∧ cutW w v < pw w := by have := pw_pos w; unfold cutW; exact ⟨Int.emod_nonneg _ (by omega), Int.emod_lt_of_pos _ (by omega)⟩
theorem cutS_f {w v : Int} (h : VW w) (h0 : 0 ≤ v) (h1 : v < 18446744073709551616) : spec_Cut.f w v = some (cutW w v) := by
  unfold spec_Cut.f
  rw [validS_f, decide_eq_true h]; simp only [Option.bind_some, if_true]
  rw [maskS_f h]; simp only [Option.bind_some]
  rw [and_mask h h0 h1]
theorem cutW_self {w v : Int} (h0 : 0 ≤ v) : v = cutW w v ↔ v < pw w := by
  have := cutW_range w v
  constructor
  · intro e; omega
  · intro h; unfold cutW; rw [Int.emod_eq_of_lt h0 h]
theorem isS_f {w v : Int} (h0 : 0 ≤ v) (h1 : v < 18446744073709551616) : spec_l1Is.f w v = some (decide (VW w ∧ v < pw w)) := by
  unfold spec_l1Is.f
  rw [validS_f]
  by_cases h : VW w
  · rw [decide_eq_true h]; simp only [Option.bind_some, if_true]
    rw [cutS_f h h0 h1]; simp only [Option.bind_some]
    congr 1
    rw [Bool.eq_iff_iff, beq_iff_eq, decide_eq_true_eq, cutW_self h0]
    simp [h]
  · rw [decide_eq_false h]
    simp [h]
theorem topS_f {w v : Int} (h : VW w) (h0 : 0 ≤ v) (h1 : v < pw w) : spec_l1Top.f w v = some (decide (pw w ≤ 2 * v)) := by
  unfold spec_l1Top.f
  rcases h with rfl | rfl | rfl | rfl | rfl
  · rw [show IntKind.u64.wrap (wrap64 (1 - 1)) = 0 from by kernel_rfl, if_pos (by decide)]
    rw [show pw 1 = 2 from rfl] at h1 ⊢
    congr 1
    unfold shr
    rw [show min (0 : Int).toNat IntKind.u64.bits = 0 from rfl, show (2 : Int) ^ 0 = 1 from by decide, Bool.eq_iff_iff, beq_iff_eq, decide_eq_true_eq]
    omega
  · rw [show IntKind.u64.wrap (wrap64 (8 - 1)) = 7 from by kernel_rfl, if_pos (by decide)]
    rw [show pw 8 = 256 from rfl] at h1 ⊢
    congr 1
    unfold shr
    rw [show min (7 : Int).toNat IntKind.u64.bits = 7 from rfl, show (2 : Int) ^ 7 = 128 from by decide, Bool.eq_iff_iff, beq_iff_eq, decide_eq_true_eq]
    omega
  · rw [show IntKind.u64.wrap (wrap64 (16 - 1)) = 15 from by kernel_rfl, if_pos (by decide)]
    rw [show pw 16 = 65536 from rfl] at h1 ⊢
    congr 1
    unfold shr
    rw [show min (15 : Int).toNat IntKind.u64.bits = 15 from rfl, show (2 : Int) ^ 15 = 32768 from by decide, Bool.eq_iff_iff, beq_iff_eq, decide_eq_true_eq]
    omega
  · rw [show IntKind.u64.wrap (wrap64 (32 - 1)) = 31 from by kernel_rfl, if_pos (by decide)]
    rw [show pw 32 = 4294967296 from rfl] at h1 ⊢
    congr 1
    unfold shr
    rw [show min (31 : Int).toNat IntKind.u64.bits = 31 from rfl, show (2 : Int) ^ 31 = 2147483648 from by decide, Bool.eq_iff_iff, beq_iff_eq, decide_eq_true_eq]
    omega
  · rw [show IntKind.u64.wrap (wrap64 (64 - 1)) = 63 from by kernel_rfl, if_pos (by decide)]
    rw [show pw 64 = 18446744073709551616 from rfl] at h1 ⊢
    congr 1
    unfold shr
    rw [show min (63 : Int).toNat IntKind.u64.bits = 63 from rfl, show (2 : Int) ^ 63 = 9223372036854775808 from by decide, Bool.eq_iff_iff, beq_iff_eq, decide_eq_true_eq]
    omega
theorem or_hi {n k : Nat} (hk : k ≤ 64) (hn : n < 2 ^ k) : n ||| (2 ^ 64 - 2 ^ k) = n + (2 ^ 64 - 2 ^ k) := by
  have h := Nat.two_pow_add_eq_or_of_lt hn (2 ^ (64 - k) - 1)
  have e : 2 ^ k * (2 ^ (64 - k) - 1) = 2 ^ 64 - 2 ^ k := by
    rw [Nat.mul_sub, ← Nat.pow_add, Nat.mul_one, show k + (64 - k) = 64 by omega]
  rw [e] at h
  rw [Nat.or_comm, ← h, Nat.add_comm]
theorem sgnS_f {w v : Int} (h : VW w) (h0 : 0 ≤ v) (h1 : v < pw w) : spec_Signed.f w v = some (sgnW w v) := by
  have hp := pw_pos w
  unfold spec_Signed.f
  rw [isS_f h0 (by omega), decide_eq_true ⟨h, h1⟩]; simp only [Option.bind_some, if_true]
  rw [topS_f h h0 h1]; simp only [Option.bind_some]
  unfold sgnW
  by_cases c : pw w ≤ 2 * v
  · rw [decide_eq_true c, if_pos rfl, if_pos c, maskS_f h]; simp only [Option.bind_some]
    congr 1
    obtain ⟨n, rfl⟩ : ∃ n : Nat, v = (n : Int) := ⟨v.toNat, by omega⟩
    rcases h with rfl | rfl | rfl | rfl | rfl
    · rw [show pw 1 = ((2 ^ 1 : Nat) : Int) from rfl] at h1 c ⊢
      have hn : n < 2 ^ 1 := by omega
      rw [show (((2 ^ 1 : Nat) : Int) - 1) = ((2 ^ 1 - 1 : Nat) : Int) from rfl, show (18446744073709551615 : Int) = ((18446744073709551615 : Nat) : Int) from rfl, u64_xor_nat _ _ (by decide) (by decide), show (18446744073709551615 ^^^ (2 ^ 1 - 1) : Nat) = 2 ^ 64 - 2 ^ 1 from rfl, u64_or_nat _ _ (by omega) (by decide), or_hi (by decide) hn]
      unfold wrap64
      omega
    · rw [show pw 8 = ((2 ^ 8 : Nat) : Int) from rfl] at h1 c ⊢
      have hn : n < 2 ^ 8 := by omega
      rw [show (((2 ^ 8 : Nat) : Int) - 1) = ((2 ^ 8 - 1 : Nat) : Int) from rfl, show (18446744073709551615 : Int) = ((18446744073709551615 : Nat) : Int) from rfl, u64_xor_nat _ _ (by decide) (by decide), show (18446744073709551615 ^^^ (2 ^ 8 - 1) : Nat) = 2 ^ 64 - 2 ^ 8 from rfl, u64_or_nat _ _ (by omega) (by decide), or_hi (by decide) hn]
      unfold wrap64
      omega
    · rw [show pw 16 = ((2 ^ 16 : Nat) : Int) from rfl] at h1 c ⊢
      have hn : n < 2 ^ 16 := by omega
      rw [show (((2 ^ 16 : Nat) : Int) - 1) = ((2 ^ 16 - 1 : Nat) : Int) from rfl, show (18446744073709551615 : Int) = ((18446744073709551615 : Nat) : Int) from rfl, u64_xor_nat _ _ (by decide) (by decide), show (18446744073709551615 ^^^ (2 ^ 16 - 1) : Nat) = 2 ^ 64 - 2 ^ 16 from rfl, u64_or_nat _ _ (by omega) (by decide), or_hi (by decide) hn]
      unfold wrap64
      omega
    · rw [show pw 32 = ((2 ^ 32 : Nat) : Int) from rfl] at h1 c ⊢
      have hn : n < 2 ^ 32 := by omega
      rw [show (((2 ^ 32 : Nat) : Int) - 1) = ((2 ^ 32 - 1 : Nat) : Int) from rfl, show (18446744073709551615 : Int) = ((18446744073709551615 : Nat) : Int) from rfl, u64_xor_nat _ _ (by decide) (by decide), show (18446744073709551615 ^^^ (2 ^ 32 - 1) : Nat) = 2 ^ 64 - 2 ^ 32 from rfl, u64_or_nat _ _ (by omega) (by decide), or_hi (by decide) hn]
      unfold wrap64
      omega
    · rw [show pw 64 = ((2 ^ 64 : Nat) : Int) from rfl] at h1 c ⊢
      have hn : n < 2 ^ 64 := by omega
      rw [show (((2 ^ 64 : Nat) : Int) - 1) = ((2 ^ 64 - 1 : Nat) : Int) from rfl, show (18446744073709551615 : Int) = ((18446744073709551615 : Nat) : Int) from rfl, u64_xor_nat _ _ (by decide) (by decide), show (18446744073709551615 ^^^ (2 ^ 64 - 1) : Nat) = 2 ^ 64 - 2 ^ 64 from rfl, u64_or_nat _ _ (by omega) (by decide), or_hi (by decide) hn]
      unfold wrap64
      omega
  · rw [decide_eq_false c, if_neg (by decide), if_neg c]
    congr 1
    unfold wrap64
    omega
theorem sgnW_range {w v : Int} (h0 : 0 ≤ v) (h1 : v < pw w) : -9223372036854775808 ≤ sgnW w v ∧ sgnW w v ≤ 9223372036854775807 := by
  have hp := pw_pos w
  unfold sgnW
  split <;> omega
theorem size_f {n : Int} (h0 : -9223372036854775808 ≤ n) (h1 : n ≤ 9223372036854775807) : spec_l1Size.f n = some (n.natAbs : Int) := by
  unfold spec_l1Size.f
  rw [IntKind.wrap_u64, IntKind.wrap_u64, IntKind.wrap_u64]
  unfold wrap64
  split <;> (congr 1; omega)
end Go.Proofs.YtkohjiajbdkcbaaDoor.All


/- Plain laws of decimal texts: what is written, and what is read. -/
namespace Go.Proofs.YtkohjiajbdkcbaaDoor.All
open Go.RowKit Go.Proofs.YtkohjiajbdkcbaaDoorW.PrintWords Go.Proofs.YtkohjiajbdkcbaaDoorW.PrintLast Go.Proofs.YtkohjiajbdkcbaaDoorW.PrintMore
set_option linter.unusedVariables false
set_option linter.unusedSimpArgs false
theorem digit_str {d : Int} (h0 : 0 ≤ d) (h1 : d < 10) : strOfNums ([(IntKind.u64.wrap (48 + d)) % 256] : List Int) = bsOf [UInt8.ofNat (48 + d.toNat)] := by
  have e : (IntKind.u64.wrap (48 + d)) % 256 = 48 + d := by rw [IntKind.wrap_u64]; omega
  rw [e]
  unfold strOfNums bsOf
  simp only [List.map_cons, List.map_nil]
  rw [show (48 + d).toNat = 48 + d.toNat by omega]
theorem decDigits_small {u : Nat} (h : u < 10) : Lib.decDigits u = [UInt8.ofNat (48 + u)] := by rw [Lib.decDigits, dif_pos h]
theorem decDigits_big {u : Nat} (h : ¬ u < 10) : Lib.decDigits u = Lib.decDigits (u / 10) ++ [UInt8.ofNat (48 + u % 10)] := by rw [Lib.decDigits, dif_neg h]
theorem decDigits_len {u : Nat} (h : u < 18446744073709551616) : (Lib.decDigits u).length ≤ 20 := by rw [Lib.decDigits_length]; exact Lib.nDigits_le20 u h
theorem l1Decimal_f : ∀ (u : Nat), u < 18446744073709551616 → Ev (fun k => spec_l1Decimal.f k (u : Int)) (bsOf (Lib.decDigits u)) := by
  intro u
  induction u using Nat.strongRecOn with
  | _ u ih =>
    intro h
    refine Ev.succ ?_
    simp only [spec_l1Decimal.f]
    by_cases c : u < 10
    · refine Ev.pos (by omega) (Ev.some ?_)
      rw [digit_str (by omega) (by omega), decDigits_small c]; rfl
    · refine Ev.neg (by omega) ?_
      have e1 : IntKind.u64.wrap (Int.tdiv (u : Int) 10) = ((u / 10 : Nat) : Int) := by
        rw [IntKind.wrap_u64, Int.tdiv_eq_ediv_of_nonneg (by omega)]; omega
      have e2 : Int.tmod (u : Int) 10 = ((u % 10 : Nat) : Int) := by
        rw [Int.tmod_eq_emod_of_nonneg (by omega)]; rfl
      rw [e1, e2]
      refine Ev.bind (ih (u / 10) (by omega) (by omega)) (Ev.some_bind ?_)
      rw [digit_str (by omega) (by omega), Int.toNat_natCast, bsOf_append]
      have hl := decDigits_len (u := u / 10) (by omega)
      refine Ev.pos (by rw [bsOf_size, bsOf_size]; simp; omega) (Ev.some ?_)
      rw [decDigits_big c]
theorem itoa_pos {n : Int} (h : 0 ≤ n) : Lib.itoa n = Lib.decDigits n.toNat := by unfold Lib.itoa; rw [if_neg (by omega)]
theorem itoa_neg {n : Int} (h : n < 0) : Lib.itoa n = 45 :: Lib.decDigits n.natAbs := by unfold Lib.itoa; rw [if_pos h]
theorem l3Int_f {n : Int} (h0 : -9223372036854775808 ≤ n) (h1 : n ≤ 9223372036854775807) : Ev (fun k => spec_l3Int.f k n) (bsOf (Lib.itoa n)) := by
  unfold spec_l3Int.f
  by_cases c : n < 0
  · refine Ev.pos c ?_
    rw [size_f h0 h1, itoa_neg c]
    refine Ev.some_bind (Ev.bind (l1Decimal_f _ (by omega)) ?_)
    have hl := decDigits_len (u := n.natAbs) (by omega)
    refine Ev.pos (by rw [bsOf_size]; omega) (Ev.some ?_)
    exact bsOf_append [45] _
  · refine Ev.neg c ?_
    have e : IntKind.u64.wrap n = ((n.toNat : Nat) : Int) := by rw [IntKind.wrap_u64]; omega
    rw [e, itoa_pos (by omega)]
    exact Ev.bind (l1Decimal_f _ (by omega)) (Ev.now _)
end Go.Proofs.YtkohjiajbdkcbaaDoor.All


/- Plain laws of instructions: what is faulty, and what eight bytes say. -/
namespace Go.Proofs.YtkohjiajbdkcbaaDoor.All
open Go.RowKit Go.Proofs.YtkohjiajbdkcbaaDoorW.PrintWords Go.Proofs.YtkohjiajbdkcbaaDoorW.PrintLast Go.Proofs.YtkohjiajbdkcbaaDoorW.PrintMore
set_option linter.unusedVariables false
set_option linter.unusedSimpArgs false
def usesB (op : Int) : ByteArray :=
  if 1 ≤ op ∧ op ≤ 13 then ⟨#[114, 114, 114, 45]⟩ else if 33 ≤ op ∧ op ≤ 45 then ⟨#[114, 114, 45, 105]⟩ else if op = 14 then ⟨#[114, 114, 114, 112]⟩ else if op = 46 then ⟨#[114, 114, 112, 105]⟩ else if op = 15 then ⟨#[114, 114, 114, 114]⟩ else
  if op = 16 ∨ op = 17 then ⟨#[114, 114, 45, 119]⟩ else if op = 18 ∨ op = 30 then ⟨#[114, 45, 45, 105]⟩ else if op = 19 then ⟨#[114, 114, 45, 105]⟩ else if op = 20 ∨ op = 21 then ⟨#[114, 114, 110, 105]⟩ else if op = 22 then ⟨#[114, 114, 45, 45]⟩ else
  if op = 23 ∨ op = 26 then ⟨#[45, 45, 45, 105]⟩ else if op = 24 ∨ op = 25 then ⟨#[114, 45, 45, 105]⟩ else if op = 27 ∨ op = 29 then ⟨#[45, 45, 45, 45]⟩ else if op = 28 then ⟨#[114, 45, 45, 45]⟩ else ⟨#[]⟩
theorem uses_f (op : Int) : Ev (fun k => impl_uses.f k op) (usesB op) := by
  refine ⟨9, fun k hk => ?_⟩
  obtain ⟨k, rfl⟩ : ∃ m, k = m + 9 := ⟨k - 9, by omega⟩
  by_cases h1 : 1 ≤ op ∧ op ≤ 13
  · simp only [impl_uses.f, impl_uses.j0, usesB, ge_iff_le, h1.1, h1.2, and_self, if_true, decide_true]
  by_cases h2 : 33 ≤ op ∧ op ≤ 45
  · have h3 : 1 ≤ op := by omega
    have h4 : ¬ op ≤ 13 := by omega
    simp only [impl_uses.f, impl_uses.j0, usesB, ge_iff_le, h2.1, h2.2, h3, h4, and_self, and_false, if_true, if_false, decide_false, Bool.false_eq_true]
  by_cases e : op = 14; · subst e; rfl
  by_cases e : op = 46; · subst e; rfl
  by_cases e : op = 15; · subst e; rfl
  by_cases e : op = 16; · subst e; rfl
  by_cases e : op = 17; · subst e; rfl
  by_cases e : op = 18; · subst e; rfl
  by_cases e : op = 30; · subst e; rfl
  by_cases e : op = 19; · subst e; rfl
  by_cases e : op = 20; · subst e; rfl
  by_cases e : op = 21; · subst e; rfl
  by_cases e : op = 22; · subst e; rfl
  by_cases e : op = 23; · subst e; rfl
  by_cases e : op = 26; · subst e; rfl
  by_cases e : op = 24; · subst e; rfl
  by_cases e : op = 25; · subst e; rfl
  by_cases e : op = 27; · subst e; rfl
  by_cases e : op = 29; · subst e; rfl
  by_cases e : op = 28; · subst e; rfl
  have hj1 : ∀ m, impl_uses.j1 (m + 8) op = some ⟨#[]⟩ := fun m => by
    simp only [impl_uses.j1, impl_uses.j2, impl_uses.j3, impl_uses.j4, impl_uses.j5, impl_uses.j6, impl_uses.j7, *, if_false, beq_iff_eq, beq_eq_false_iff_ne]
  have hu : usesB op = ⟨#[]⟩ := by simp only [usesB, *, if_false, or_self]
  rw [hu]
  have hj0 : impl_uses.j0 (k + 9) op false = some ⟨#[]⟩ := by
    simp only [impl_uses.j0]
    rw [if_neg (by decide)]
    by_cases h3 : op ≥ 33
    · rw [if_pos h3, if_neg (fun h => h2 ⟨h3, h⟩)]; exact hj1 k
    · rw [if_neg h3]; exact hj1 k
  show impl_uses.f (k + 9) op = _
  unfold impl_uses.f
  by_cases h3 : op ≥ 1
  · rw [if_pos h3, decide_eq_false (fun h => h1 ⟨h3, h⟩)]; exact hj0
  · rw [if_neg h3]; exact hj0
def okC (ch v : Int) : Bool := if ch = 114 then regB v else if ch = 112 then predB v else if ch = 110 then sizeB v else if ch = 119 then (v == 1 || v == 8 || v == 16 || v == 32) else if ch = 45 then v == 0 else true
theorem regI (x : Int) : impl_reg.f x = some (regB x) := by unfold impl_reg.f regB; split <;> rfl
theorem predI (x : Int) : impl_pred.f x = some (predB x) := by unfold impl_pred.f predB; split <;> rfl
theorem fitsI (x : Int) : impl_Fits.f x = some (fitsB x) := by unfold impl_Fits.f fitsB; split <;> rfl
theorem sizeI (x : Int) : impl_bytesCount.f x = some (sizeB x) := size_e x
theorem fault_step (u : ByteArray) (vs : List Int) (i : Nat) (r : Bool) (hu : u.size = 4) (hv : vs.length = 4) (hi : i < 4) (h : Ev (fun k => impl_InsFault.l0 k u vs 4 ((i + 1 : Nat) : Int)) r) : Ev (fun k => impl_InsFault.l0 k u vs 4 (i : Int)) (!okC (bt u i) (rd vs i) || r) := by
  refine Ev.succ ?_
  simp only [impl_InsFault.l0]
  refine Ev.pos (by omega) (Ev.pos (by omega) (Ev.pos (by omega) (Ev.pos (by omega) ?_)))
  rw [wrap64_nat (by omega), regI, predI, sizeI]
  generalize bt u (i : Int) = ch
  generalize rd vs (i : Int) = v
  unfold okC
  by_cases c1 : ch = 114
  · rw [if_pos c1]
    refine Ev.pos c1 (Ev.some_bind ?_)
    cases hb : regB v
    · exact Ev.neg (by decide) (Ev.now _)
    · exact Ev.pos rfl h
  rw [if_neg c1]
  refine Ev.neg c1 ?_
  by_cases c2 : ch = 112
  · rw [if_pos c2]
    refine Ev.pos c2 (Ev.some_bind ?_)
    cases hb : predB v
    · exact Ev.neg (by decide) (Ev.now _)
    · exact Ev.pos rfl h
  rw [if_neg c2]
  refine Ev.neg c2 ?_
  by_cases c3 : ch = 110
  · rw [if_pos c3]
    refine Ev.pos c3 (Ev.some_bind ?_)
    cases hb : sizeB v
    · exact Ev.neg (by decide) (Ev.now _)
    · exact Ev.pos rfl h
  rw [if_neg c3]
  refine Ev.neg c3 ?_
  by_cases c4 : ch = 119
  · rw [if_pos c4]
    refine Ev.pos c4 ?_
    by_cases d1 : v = 1
    · subst d1; exact Ev.pos rfl h
    refine Ev.neg d1 ?_
    by_cases d2 : v = 8
    · subst d2; exact Ev.pos rfl h
    refine Ev.neg d2 ?_
    by_cases d3 : v = 16
    · subst d3; exact Ev.pos rfl h
    refine Ev.neg d3 ?_
    by_cases d4 : v = 32
    · subst d4; exact Ev.pos rfl h
    refine Ev.neg d4 (Ev.some ?_)
    simp [d1, d2, d3, d4]
  rw [if_neg c4]
  refine Ev.neg c4 ?_
  by_cases c5 : ch = 45
  · rw [if_pos c5]
    refine Ev.pos c5 ?_
    by_cases d1 : v = 0
    · subst d1; exact Ev.pos rfl h
    · refine Ev.neg d1 (Ev.some ?_)
      simp [d1]
  · rw [if_neg c5]
    exact Ev.neg c5 h
def faultI (op a b c imm : Int) : Bool := if (usesB op).toList = [] then true else if (!fitsB imm) = true then true else (!okC (bt (usesB op) 0) a || (!okC (bt (usesB op) 1) b || (!okC (bt (usesB op) 2) c || (!okC (bt (usesB op) 3) imm || false))))
theorem uses_size (op : Int) : usesB op = ⟨#[]⟩ ∨ (usesB op).size = 4 := by
  unfold usesB
  by_cases h0 : 1 ≤ op ∧ op ≤ 13
  · rw [if_pos h0]; exact Or.inr rfl
  rw [if_neg h0]
  by_cases h1 : 33 ≤ op ∧ op ≤ 45
  · rw [if_pos h1]; exact Or.inr rfl
  rw [if_neg h1]
  by_cases h2 : op = 14
  · rw [if_pos h2]; exact Or.inr rfl
  rw [if_neg h2]
  by_cases h3 : op = 46
  · rw [if_pos h3]; exact Or.inr rfl
  rw [if_neg h3]
  by_cases h4 : op = 15
  · rw [if_pos h4]; exact Or.inr rfl
  rw [if_neg h4]
  by_cases h5 : op = 16 ∨ op = 17
  · rw [if_pos h5]; exact Or.inr rfl
  rw [if_neg h5]
  by_cases h6 : op = 18 ∨ op = 30
  · rw [if_pos h6]; exact Or.inr rfl
  rw [if_neg h6]
  by_cases h7 : op = 19
  · rw [if_pos h7]; exact Or.inr rfl
  rw [if_neg h7]
  by_cases h8 : op = 20 ∨ op = 21
  · rw [if_pos h8]; exact Or.inr rfl
  rw [if_neg h8]
  by_cases h9 : op = 22
  · rw [if_pos h9]; exact Or.inr rfl
  rw [if_neg h9]
  by_cases h10 : op = 23 ∨ op = 26
  · rw [if_pos h10]; exact Or.inr rfl
  rw [if_neg h10]
  by_cases h11 : op = 24 ∨ op = 25
  · rw [if_pos h11]; exact Or.inr rfl
  rw [if_neg h11]
  by_cases h12 : op = 27 ∨ op = 29
  · rw [if_pos h12]; exact Or.inr rfl
  rw [if_neg h12]
  by_cases h13 : op = 28
  · rw [if_pos h13]; exact Or.inr rfl
  rw [if_neg h13]
  exact Or.inl rfl
theorem faultI_f (op a b c imm : Int) : Ev (fun k => impl_InsFault.f k op a b c imm) (faultI op a b c imm) := by
  unfold impl_InsFault.f faultI
  refine Ev.bind (uses_f op) ?_
  by_cases e : (usesB op).toList = []
  · rw [if_pos e]
    refine Ev.pos e (Ev.succ ?_)
    simp only [impl_InsFault.j0]
    exact Ev.pos trivial (Ev.now _)
  · rw [if_neg e]
    refine Ev.neg e ?_
    rw [fitsI]
    refine Ev.some_bind (Ev.succ ?_)
    simp only [impl_InsFault.j0]
    cases hf : fitsB imm
    · exact Ev.pos rfl (Ev.now _)
    · refine Ev.neg (by decide) (Ev.some_bind ?_)
      have hs : (usesB op).size = 4 := by
        rcases uses_size op with h | h
        · exact absurd (by rw [h, ByteArray.toList_eq]) e
        · exact h
      have h4 : Ev (fun k => impl_InsFault.l0 k (usesB op) [a, b, c, imm] 4 4) false := by
        refine Ev.succ ?_
        simp only [impl_InsFault.l0]
        exact Ev.neg (by decide) (Ev.now _)
      exact fault_step (usesB op) [a, b, c, imm] 0 _ hs rfl (by decide) (fault_step (usesB op) [a, b, c, imm] 1 _ hs rfl (by decide) (fault_step (usesB op) [a, b, c, imm] 2 _ hs rfl (by decide) (fault_step (usesB op) [a, b, c, imm] 3 _ hs rfl (by decide) h4)))
theorem aluB_pos {x : Int} (h0 : 1 ≤ x) (h1 : x ≤ 13) : aluB x = true := by unfold aluB; rw [if_pos (show x ≥ 1 from h0), decide_eq_true h1]
theorem aluB_neg {x : Int} (h : ¬ (1 ≤ x ∧ x ≤ 13)) : aluB x = false := by
  unfold aluB
  by_cases h0 : x ≥ 1
  · rw [if_pos h0, decide_eq_false (fun h1 => h ⟨h0, h1⟩)]
  · rw [if_neg h0]
theorem fault_eq {op a b c imm : Int} (h0 : 0 ≤ op) (h1 : op ≤ 255) : faultI op a b c imm = insB op a b c imm := by
  have hw : wrap64 (op - 32) = op - 32 := wrap64_id (by omega) (by omega)
  have key : ∀ (x0 x1 x2 x3 : UInt8), usesB op = ⟨#[x0, x1, x2, x3]⟩ → faultI op a b c imm = if (!fitsB imm) = true then true else (!okC x0.toNat a || (!okC x1.toNat b || (!okC x2.toNat c || (!okC x3.toNat imm || false)))) := by
    intro x0 x1 x2 x3 e
    unfold faultI
    rw [e, if_neg (by intro h; have h2 := congrArg List.length h; rw [ByteArray.toList_eq] at h2; simp at h2)]
    rfl
  unfold insB
  rw [hw]
  by_cases c1 : 1 ≤ op ∧ op ≤ 13
  · rw [key 114 114 114 45 (by unfold usesB; rw [if_pos c1]), aluB_pos c1.1 c1.2, if_pos rfl]
    show (if (!fitsB imm) = true then true else (!regB a || (!regB b || (!regB c || (!(imm == 0) || false))))) = _
    rw [Bool.or_false, Bool.or_assoc, Bool.or_assoc]; rfl
  rw [aluB_neg c1, if_neg (by decide : ¬ (false = true))]
  by_cases c2 : 33 ≤ op ∧ op ≤ 45
  · rw [key 114 114 45 105 (by unfold usesB; rw [if_neg c1, if_pos c2]), aluB_pos (by omega) (by omega), if_pos rfl]
    show (if (!fitsB imm) = true then true else (!regB a || (!regB b || (!(c == 0) || (!true || false))))) = _
    rw [show (!true || false) = false from rfl, Bool.or_false, Bool.or_assoc]; rfl
  rw [aluB_neg (by omega : ¬ (1 ≤ op - 32 ∧ op - 32 ≤ 13)), if_neg (by decide : ¬ (false = true))]
  by_cases e14 : op = 14
  · subst e14
    rw [key 114 114 114 112 rfl]
    show (if (!fitsB imm) = true then true else (!regB a || (!regB b || (!regB c || (!predB imm || false))))) = _
    simp only [bne]
    generalize fitsB imm = g_5
    generalize regB a = g_6
    generalize regB b = g_7
    generalize regB c = g_8
    generalize predB imm = g_9
    clear key
    cases g_5 <;> cases g_6 <;> cases g_7 <;> cases g_8 <;> cases g_9 <;> rfl
  by_cases e46 : op = 46
  · subst e46
    rw [key 114 114 112 105 rfl]
    show (if (!fitsB imm) = true then true else (!regB a || (!regB b || (!predB c || (!true || false))))) = _
    simp only [bne]
    generalize fitsB imm = g_18
    generalize regB a = g_19
    generalize regB b = g_20
    generalize predB c = g_21
    clear key
    cases g_18 <;> cases g_19 <;> cases g_20 <;> cases g_21 <;> rfl
  by_cases e15 : op = 15
  · subst e15
    rw [key 114 114 114 114 rfl]
    show (if (!fitsB imm) = true then true else (!regB a || (!regB b || (!regB c || (!regB imm || false))))) = _
    simp only [bne]
    generalize fitsB imm = g_30
    generalize regB a = g_31
    generalize regB b = g_32
    generalize regB c = g_33
    generalize regB imm = g_34
    clear key
    cases g_30 <;> cases g_31 <;> cases g_32 <;> cases g_33 <;> cases g_34 <;> rfl
  by_cases e16 : op = 16
  · subst e16
    rw [key 114 114 45 119 rfl]
    show (if (!fitsB imm) = true then true else (!regB a || (!regB b || (!(c == 0) || (!(imm == 1 || imm == 8 || imm == 16 || imm == 32) || false))))) = _
    simp only [bne]
    generalize fitsB imm = g_43
    generalize regB a = g_44
    generalize regB b = g_45
    generalize (c == 0) = g_46
    generalize (imm == 1) = g_47
    generalize (imm == 8) = g_48
    generalize (imm == 16) = g_49
    generalize (imm == 32) = g_50
    clear key
    cases g_43 <;> cases g_44 <;> cases g_45 <;> cases g_46 <;> cases g_47 <;> cases g_48 <;> cases g_49 <;> cases g_50 <;> rfl
  by_cases e17 : op = 17
  · subst e17
    rw [key 114 114 45 119 rfl]
    show (if (!fitsB imm) = true then true else (!regB a || (!regB b || (!(c == 0) || (!(imm == 1 || imm == 8 || imm == 16 || imm == 32) || false))))) = _
    simp only [bne]
    generalize fitsB imm = g_59
    generalize regB a = g_60
    generalize regB b = g_61
    generalize (c == 0) = g_62
    generalize (imm == 1) = g_63
    generalize (imm == 8) = g_64
    generalize (imm == 16) = g_65
    generalize (imm == 32) = g_66
    clear key
    cases g_59 <;> cases g_60 <;> cases g_61 <;> cases g_62 <;> cases g_63 <;> cases g_64 <;> cases g_65 <;> cases g_66 <;> rfl
  by_cases e18 : op = 18
  · subst e18
    rw [key 114 45 45 105 rfl]
    show (if (!fitsB imm) = true then true else (!regB a || (!(b == 0) || (!(c == 0) || (!true || false))))) = _
    simp only [bne]
    generalize fitsB imm = g_75
    generalize regB a = g_76
    generalize (b == 0) = g_77
    generalize (c == 0) = g_78
    clear key
    cases g_75 <;> cases g_76 <;> cases g_77 <;> cases g_78 <;> rfl
  by_cases e30 : op = 30
  · subst e30
    rw [key 114 45 45 105 rfl]
    show (if (!fitsB imm) = true then true else (!regB a || (!(b == 0) || (!(c == 0) || (!true || false))))) = _
    simp only [bne]
    generalize fitsB imm = g_87
    generalize regB a = g_88
    generalize (b == 0) = g_89
    generalize (c == 0) = g_90
    clear key
    cases g_87 <;> cases g_88 <;> cases g_89 <;> cases g_90 <;> rfl
  by_cases e19 : op = 19
  · subst e19
    rw [key 114 114 45 105 rfl]
    show (if (!fitsB imm) = true then true else (!regB a || (!regB b || (!(c == 0) || (!true || false))))) = _
    simp only [bne]
    generalize fitsB imm = g_99
    generalize regB a = g_100
    generalize regB b = g_101
    generalize (c == 0) = g_102
    clear key
    cases g_99 <;> cases g_100 <;> cases g_101 <;> cases g_102 <;> rfl
  by_cases e20 : op = 20
  · subst e20
    rw [key 114 114 110 105 rfl]
    show (if (!fitsB imm) = true then true else (!regB a || (!regB b || (!sizeB c || (!true || false))))) = _
    simp only [bne]
    generalize fitsB imm = g_111
    generalize regB a = g_112
    generalize regB b = g_113
    generalize sizeB c = g_114
    clear key
    cases g_111 <;> cases g_112 <;> cases g_113 <;> cases g_114 <;> rfl
  by_cases e21 : op = 21
  · subst e21
    rw [key 114 114 110 105 rfl]
    show (if (!fitsB imm) = true then true else (!regB a || (!regB b || (!sizeB c || (!true || false))))) = _
    simp only [bne]
    generalize fitsB imm = g_123
    generalize regB a = g_124
    generalize regB b = g_125
    generalize sizeB c = g_126
    clear key
    cases g_123 <;> cases g_124 <;> cases g_125 <;> cases g_126 <;> rfl
  by_cases e22 : op = 22
  · subst e22
    rw [key 114 114 45 45 rfl]
    show (if (!fitsB imm) = true then true else (!regB a || (!regB b || (!(c == 0) || (!(imm == 0) || false))))) = _
    simp only [bne]
    generalize fitsB imm = g_135
    generalize regB a = g_136
    generalize regB b = g_137
    generalize (c == 0) = g_138
    generalize (imm == 0) = g_139
    clear key
    cases g_135 <;> cases g_136 <;> cases g_137 <;> cases g_138 <;> cases g_139 <;> rfl
  by_cases e23 : op = 23
  · subst e23
    rw [key 45 45 45 105 rfl]
    show (if (!fitsB imm) = true then true else (!(a == 0) || (!(b == 0) || (!(c == 0) || (!true || false))))) = _
    simp only [bne]
    generalize fitsB imm = g_148
    generalize (a == 0) = g_149
    generalize (b == 0) = g_150
    generalize (c == 0) = g_151
    clear key
    cases g_148 <;> cases g_149 <;> cases g_150 <;> cases g_151 <;> rfl
  by_cases e26 : op = 26
  · subst e26
    rw [key 45 45 45 105 rfl]
    show (if (!fitsB imm) = true then true else (!(a == 0) || (!(b == 0) || (!(c == 0) || (!true || false))))) = _
    simp only [bne]
    generalize fitsB imm = g_160
    generalize (a == 0) = g_161
    generalize (b == 0) = g_162
    generalize (c == 0) = g_163
    clear key
    cases g_160 <;> cases g_161 <;> cases g_162 <;> cases g_163 <;> rfl
  by_cases e24 : op = 24
  · subst e24
    rw [key 114 45 45 105 rfl]
    show (if (!fitsB imm) = true then true else (!regB a || (!(b == 0) || (!(c == 0) || (!true || false))))) = _
    simp only [bne]
    generalize fitsB imm = g_172
    generalize regB a = g_173
    generalize (b == 0) = g_174
    generalize (c == 0) = g_175
    clear key
    cases g_172 <;> cases g_173 <;> cases g_174 <;> cases g_175 <;> rfl
  by_cases e25 : op = 25
  · subst e25
    rw [key 114 45 45 105 rfl]
    show (if (!fitsB imm) = true then true else (!regB a || (!(b == 0) || (!(c == 0) || (!true || false))))) = _
    simp only [bne]
    generalize fitsB imm = g_184
    generalize regB a = g_185
    generalize (b == 0) = g_186
    generalize (c == 0) = g_187
    clear key
    cases g_184 <;> cases g_185 <;> cases g_186 <;> cases g_187 <;> rfl
  by_cases e27 : op = 27
  · subst e27
    rw [key 45 45 45 45 rfl]
    show (if (!fitsB imm) = true then true else (!(a == 0) || (!(b == 0) || (!(c == 0) || (!(imm == 0) || false))))) = _
    simp only [bne]
    generalize fitsB imm = g_196
    generalize (a == 0) = g_197
    generalize (b == 0) = g_198
    generalize (c == 0) = g_199
    generalize (imm == 0) = g_200
    clear key
    cases g_196 <;> cases g_197 <;> cases g_198 <;> cases g_199 <;> cases g_200 <;> rfl
  by_cases e29 : op = 29
  · subst e29
    rw [key 45 45 45 45 rfl]
    show (if (!fitsB imm) = true then true else (!(a == 0) || (!(b == 0) || (!(c == 0) || (!(imm == 0) || false))))) = _
    simp only [bne]
    generalize fitsB imm = g_209
    generalize (a == 0) = g_210
    generalize (b == 0) = g_211
    generalize (c == 0) = g_212
    generalize (imm == 0) = g_213
    clear key
    cases g_209 <;> cases g_210 <;> cases g_211 <;> cases g_212 <;> cases g_213 <;> rfl
  by_cases e28 : op = 28
  · subst e28
    rw [key 114 45 45 45 rfl]
    show (if (!fitsB imm) = true then true else (!regB a || (!(b == 0) || (!(c == 0) || (!(imm == 0) || false))))) = _
    simp only [bne]
    generalize fitsB imm = g_222
    generalize regB a = g_223
    generalize (b == 0) = g_224
    generalize (c == 0) = g_225
    generalize (imm == 0) = g_226
    clear key
    cases g_222 <;> cases g_223 <;> cases g_224 <;> cases g_225 <;> cases g_226 <;> rfl
  have hu : usesB op = ⟨#[]⟩ := by simp only [usesB, *, if_false, or_self]
  have hf : faultI op a b c imm = true := by unfold faultI; rw [hu, if_pos (by rw [ByteArray.toList_eq])]
  rw [hf]
  simp only [beq_iff_eq, Bool.or_eq_true, e14, e46, e15, e16, e17, e18, e30, e19, e20, e21, e22, e23, e26, e24, e25, e27, e29, e28, or_self, if_false, if_true, ite_self]
theorem orAdd {a b s : Nat} (h : a < 2 ^ s) : a ||| (b * 2 ^ s) = a + b * 2 ^ s := by
  rw [Nat.or_comm, Nat.mul_comm b, ← Nat.two_pow_add_eq_or_of_lt h, Nat.add_comm]
def imm4 (n4 n5 n6 n7 : Nat) : Nat := n4 + n5 * 256 + n6 * 65536 + n7 * 16777216
theorem imm_u32 (n4 n5 n6 n7 : Nat) (h4 : n4 < 256) (h5 : n5 < 256) (h6 : n6 < 256) (h7 : n7 < 256) : Go.bits .or .u32 (Go.bits .or .u32 (Go.bits .or .u32 ((n4 : Int) % 4294967296) ((((n5 : Int) % 4294967296) * 256) % 4294967296)) ((((n6 : Int) % 4294967296) * 65536) % 4294967296)) ((((n7 : Int) % 4294967296) * 16777216) % 4294967296) = ((imm4 n4 n5 n6 n7 : Nat) : Int) := by
  have e4 : (n4 : Int) % 4294967296 = (n4 : Nat) := by omega
  have e5 : (((n5 : Int) % 4294967296) * 256) % 4294967296 = ((n5 * 2 ^ 8 : Nat) : Int) := by omega
  have e6 : (((n6 : Int) % 4294967296) * 65536) % 4294967296 = ((n6 * 2 ^ 16 : Nat) : Int) := by omega
  have e7 : (((n7 : Int) % 4294967296) * 16777216) % 4294967296 = ((n7 * 2 ^ 24 : Nat) : Int) := by omega
  rw [e4, e5, e6, e7, u32_or_nat _ _ (by omega) (by omega), orAdd (by omega), u32_or_nat _ _ (by omega) (by omega), orAdd (by omega), u32_or_nat _ _ (by omega) (by omega), orAdd (by omega)]
  rfl
theorem imm_u64 (m b : Nat) (hm : m < 16777216) (hb : b < 256) : Go.bits .or .u64 (IntKind.u64.wrap ((m : Int) * 256)) (IntKind.u64.wrap (b : Int)) = ((m * 256 + b : Nat) : Int) := by
  have e1 : IntKind.u64.wrap ((m : Int) * 256) = ((m * 2 ^ 8 : Nat) : Int) := by rw [IntKind.wrap_u64]; omega
  have e2 : IntKind.u64.wrap (b : Int) = (b : Nat) := by rw [IntKind.wrap_u64]; omega
  rw [e1, e2, u64_or_nat _ _ (by omega) (by omega), Nat.or_comm, orAdd (by omega)]
  omega
def immV (n4 n5 n6 n7 : Nat) : Int := sgnW 32 (imm4 n4 n5 n6 n7 : Nat)
theorem imm4_lt {n4 n5 n6 n7 : Nat} (h4 : n4 < 256) (h5 : n5 < 256) (h6 : n6 < 256) (h7 : n7 < 256) : imm4 n4 n5 n6 n7 < 4294967296 := by unfold imm4; omega
theorem implDec_f (n0 n1 n2 n3 n4 n5 n6 n7 : Nat) (h0 : n0 < 256) (h1 : n1 < 256) (h2 : n2 < 256) (h3 : n3 < 256) (h4 : n4 < 256) (h5 : n5 < 256) (h6 : n6 < 256) (h7 : n7 < 256) :
    Ev (fun k => impl_DecodeIns.f k [(n0 : Int), n1, n2, n3, n4, n5, n6, n7]) (if insB n0 n1 n2 n3 (immV n4 n5 n6 n7) = true then (false, 0, 0, 0, 0, 0) else (true, (n0 : Int), (n1 : Int), (n2 : Int), (n3 : Int), immV n4 n5 n6 n7)) := by
  unfold impl_DecodeIns.f
  have hi : wrap64 (wrap32 ((imm4 n4 n5 n6 n7 : Nat) : Int)) = immV n4 n5 n6 n7 := by
    have hm := imm4_lt h4 h5 h6 h7
    unfold immV
    generalize imm4 n4 n5 n6 n7 = m at hm
    unfold sgnW
    rw [show pw 32 = 4294967296 from rfl]
    have e : wrap32 (m : Int) = if 4294967296 ≤ 2 * (m : Int) then (m : Int) - 4294967296 else m := by unfold wrap32; split <;> omega
    rw [e]
    exact wrap64_id (by split <;> omega) (by split <;> omega)
  refine Ev.pos rfl (Ev.pos (show (4 : Int) < 8 by decide) (Ev.pos (show (5 : Int) < 8 by decide) (Ev.pos (show (6 : Int) < 8 by decide) (Ev.pos (show (7 : Int) < 8 by decide) (Ev.pos (show (0 : Int) < 8 by decide) (Ev.pos (show (1 : Int) < 8 by decide) (Ev.pos (show (2 : Int) < 8 by decide) (Ev.pos (show (3 : Int) < 8 by decide) ?_))))))))
  rw [show rd [(n0 : Int), n1, n2, n3, n4, n5, n6, n7] 0 = n0 from rfl, show rd [(n0 : Int), n1, n2, n3, n4, n5, n6, n7] 1 = n1 from rfl, show rd [(n0 : Int), n1, n2, n3, n4, n5, n6, n7] 2 = n2 from rfl, show rd [(n0 : Int), n1, n2, n3, n4, n5, n6, n7] 3 = n3 from rfl, show rd [(n0 : Int), n1, n2, n3, n4, n5, n6, n7] 4 = n4 from rfl, show rd [(n0 : Int), n1, n2, n3, n4, n5, n6, n7] 5 = n5 from rfl, show rd [(n0 : Int), n1, n2, n3, n4, n5, n6, n7] 6 = n6 from rfl, show rd [(n0 : Int), n1, n2, n3, n4, n5, n6, n7] 7 = n7 from rfl]
  rw [imm_u32 n4 n5 n6 n7 h4 h5 h6 h7, hi, wrap64_id (x := (n0 : Int)) (by omega) (by omega), wrap64_id (x := (n1 : Int)) (by omega) (by omega), wrap64_id (x := (n2 : Int)) (by omega) (by omega), wrap64_id (x := (n3 : Int)) (by omega) (by omega)]
  have hf := faultI_f (n0 : Int) n1 n2 n3 (immV n4 n5 n6 n7)
  rw [fault_eq (by omega) (by omega)] at hf
  refine Ev.bind hf ?_
  cases insB (n0 : Int) n1 n2 n3 (immV n4 n5 n6 n7)
  · exact Ev.neg (by decide) (Ev.now _)
  · exact Ev.pos rfl (Ev.now _)
theorem specDec_f (n0 n1 n2 n3 n4 n5 n6 n7 : Nat) (h0 : n0 < 256) (h1 : n1 < 256) (h2 : n2 < 256) (h3 : n3 < 256) (h4 : n4 < 256) (h5 : n5 < 256) (h6 : n6 < 256) (h7 : n7 < 256) :
    Ev (fun k => spec_l16Decode.f k [(n0 : Int), n1, n2, n3, n4, n5, n6, n7]) ((n0 : Int), (n1 : Int), (n2 : Int), (n3 : Int), immV n4 n5 n6 n7) := by
  have hlt := imm4_lt h4 h5 h6 h7
  have go : ∀ (i m b : Nat) (r : Int × Int × Int × Int × Int), 4 ≤ i → i < 8 → m < 16777216 → b < 256 → rd [(n0 : Int), n1, n2, n3, n4, n5, n6, n7] (i : Int) = (b : Int) → Ev (fun k => spec_l16Decode.l0 k [(n0 : Int), n1, n2, n3, n4, n5, n6, n7] ((m * 256 + b : Nat) : Int) ((i : Int) - 1)) r → Ev (fun k => spec_l16Decode.l0 k [(n0 : Int), n1, n2, n3, n4, n5, n6, n7] (m : Int) (i : Int)) r := by
    intro i m b r hi0 hi1 hm hb hr h
    refine Ev.succ ?_
    simp only [spec_l16Decode.l0]
    refine Ev.pos (by omega) (Ev.pos (by omega) (Ev.pos (show (i : Int) < 8 by omega) ?_))
    rw [hr, imm_u64 m b hm hb, wrap64_id (by omega) (by omega)]
    exact h
  unfold spec_l16Decode.f
  refine go 7 0 n7 _ (by decide) (by decide) (by decide) h7 rfl ?_
  refine go 6 (0 * 256 + n7) n6 _ (by decide) (by decide) (by omega) h6 rfl ?_
  refine go 5 ((0 * 256 + n7) * 256 + n6) n5 _ (by decide) (by decide) (by omega) h5 rfl ?_
  refine go 4 (((0 * 256 + n7) * 256 + n6) * 256 + n5) n4 _ (by decide) (by decide) (by omega) h4 rfl ?_
  rw [show (((0 * 256 + n7) * 256 + n6) * 256 + n5) * 256 + n4 = imm4 n4 n5 n6 n7 from by unfold imm4; omega]
  refine Ev.succ ?_
  simp only [spec_l16Decode.l0]
  refine Ev.neg (by decide) (Ev.pos (show (0 : Int) < 8 by decide) (Ev.pos (show (1 : Int) < 8 by decide) (Ev.pos (show (2 : Int) < 8 by decide) (Ev.pos (show (3 : Int) < 8 by decide) ?_))))
  rw [show rd [(n0 : Int), n1, n2, n3, n4, n5, n6, n7] 0 = n0 from rfl, show rd [(n0 : Int), n1, n2, n3, n4, n5, n6, n7] 1 = n1 from rfl, show rd [(n0 : Int), n1, n2, n3, n4, n5, n6, n7] 2 = n2 from rfl, show rd [(n0 : Int), n1, n2, n3, n4, n5, n6, n7] 3 = n3 from rfl]
  rw [wrap64_id (x := (n0 : Int)) (by omega) (by omega), wrap64_id (x := (n1 : Int)) (by omega) (by omega), wrap64_id (x := (n2 : Int)) (by omega) (by omega), wrap64_id (x := (n3 : Int)) (by omega) (by omega)]
  exact Ev.eq_bind (sgnS_f (w := 32) (Or.inr (Or.inr (Or.inr (Or.inl rfl)))) (by omega) (by rw [show pw 32 = 4294967296 from rfl]; omega)) (Ev.now _)
end Go.Proofs.YtkohjiajbdkcbaaDoor.All


/- Plain laws of the laws' sz, to and eq over Image. Printed by gen_plain.py. -/
namespace Go.Proofs.YtkohjiajbdkcbaaDoor.All
open Go.RowKit Go.Proofs.YtkohjiajbdkcbaaDoorW.PrintWords Go.Proofs.YtkohjiajbdkcbaaDoorW.PrintLast Go.Proofs.YtkohjiajbdkcbaaDoorW.PrintMore
set_option linter.unusedVariables false
set_option linter.unusedSimpArgs false
theorem sz_bind {s1 s2 : Nat} {a : Int} {g : Nat → Option Int} {G : Nat → Int → Option Int} (h : Ev g (if (s1 : Int) ≤ a then a - (s1 : Int) else -1)) (h2 : (s1 : Int) ≤ a → Ev (fun k => G k (a - (s1 : Int))) (if (s2 : Int) ≤ a - (s1 : Int) then a - (s1 : Int) - (s2 : Int) else -1)) : Ev (fun k => (g k).bind fun t => if t < 0 then some (-1) else G k t) (if ((s1 + s2 : Nat) : Int) ≤ a then a - ((s1 + s2 : Nat) : Int) else -1) := by
  by_cases c : (s1 : Int) ≤ a
  · rw [if_pos c] at h
    refine Ev.bind h (Ev.neg (by omega) ?_)
    have e : (if (s2 : Int) ≤ a - (s1 : Int) then a - (s1 : Int) - (s2 : Int) else -1) = (if ((s1 + s2 : Nat) : Int) ≤ a then a - ((s1 + s2 : Nat) : Int) else -1) := by split <;> split <;> omega
    rw [← e]
    exact h2 c
  · rw [if_neg c] at h
    rw [if_neg (by omega)]
    exact Ev.bind h (Ev.pos (by omega) (Ev.now _))
theorem sz_str {s1 s2 : Nat} {a : Int} {G : Nat → Option Int} (h2 : (s1 : Int) ≤ a → Ev G (if (s2 : Int) ≤ a - (s1 : Int) then a - (s1 : Int) - (s2 : Int) else -1)) : Ev (fun k => if a - (s1 : Int) < 0 then some (-1) else G k) (if ((s1 + s2 : Nat) : Int) ≤ a then a - ((s1 + s2 : Nat) : Int) else -1) := by
  by_cases c : (s1 : Int) ≤ a
  · have e : (if (s2 : Int) ≤ a - (s1 : Int) then a - (s1 : Int) - (s2 : Int) else -1) = (if ((s1 + s2 : Nat) : Int) ≤ a then a - ((s1 + s2 : Nat) : Int) else -1) := by split <;> split <;> omega
    rw [← e]
    exact Ev.neg (by omega) (h2 c)
  · rw [if_neg (by omega)]
    exact Ev.pos (by omega) (Ev.now _)
theorem sz_end (a : Int) (h : 0 ≤ a) : Ev (fun _ => some a) (if ((0 : Nat) : Int) ≤ a then a - ((0 : Nat) : Int) else -1) := by
  rw [if_pos (by omega)]
  exact Ev.some (by omega)
theorem szByteS_f (l : List Int) (a : Int) (h0 : 0 ≤ a) (h1 : a ≤ 1048576) (hl : l.length ≤ 9223372036854775807) : Ev (fun k => laws_szByteS.f l a) (if (l.length : Int) ≤ a then a - (l.length : Int) else -1) := by
  unfold laws_szByteS.f; rw [wrap64_id (by omega) (by omega)]
  by_cases h : (l.length : Int) ≤ a
  · rw [if_pos h]; exact Ev.neg (by omega) (Ev.now _)
  · rw [if_neg h]; exact Ev.pos (by omega) (Ev.now _)
theorem toByteS_f (l : List Int) (hl : l.length ≤ 1048576) : Ev (fun k => laws_toByteS.f k l) l := by
  unfold laws_toByteS.f
  refine Ev.pos (by omega) (Ev.pos (by omega) ?_)
  have h := to_gen (fun x : Int => x) 0 0 l (fun k out i => laws_toByteS.l0 k l out i) (fun i out r hi ho h => by
    refine Ev.succ ?_
    simp only [laws_toByteS.l0]
    refine Ev.pos (by omega) (Ev.pos (by omega) (Ev.pos (by omega) ?_))
    rw [wrap64_nat (by omega)]
    simpa [rd] using h) (fun out _ => by
    refine Ev.succ ?_
    simp only [laws_toByteS.l0]
    exact Ev.neg (by omega) (Ev.now _))
  simpa using h
theorem eqByteS_f (l : List Int) (hl : l.length ≤ 1048576) : Ev (fun k => laws_eqByteS.f k l l) true := by
  unfold laws_eqByteS.f
  refine Ev.pos rfl (all_gen l.length (fun k i => laws_eqByteS.l0 k l l i) (fun i hi h => ?_) ?_)
  · refine Ev.succ ?_
    simp only [laws_eqByteS.l0]
    rw [wrap64_nat (by omega)]
    exact Ev.pos (by omega) (Ev.pos (by omega) (Ev.pos (by omega) (Ev.pos (by trivial) h)))
  · refine Ev.succ ?_
    simp only [laws_eqByteS.l0]
    exact Ev.neg (by omega) (Ev.now _)
theorem szInt64S_f (l : List Int) (a : Int) (h0 : 0 ≤ a) (h1 : a ≤ 1048576) (hl : l.length ≤ 9223372036854775807) : Ev (fun k => laws_szInt64S.f l a) (if (l.length : Int) ≤ a then a - (l.length : Int) else -1) := by
  unfold laws_szInt64S.f; rw [wrap64_id (by omega) (by omega)]
  by_cases h : (l.length : Int) ≤ a
  · rw [if_pos h]; exact Ev.neg (by omega) (Ev.now _)
  · rw [if_neg h]; exact Ev.pos (by omega) (Ev.now _)
theorem toInt64S_f (l : List Int) (hl : l.length ≤ 1048576) : Ev (fun k => laws_toInt64S.f k l) l := by
  unfold laws_toInt64S.f
  refine Ev.pos (by omega) (Ev.pos (by omega) ?_)
  have h := to_gen (fun x : Int => x) 0 0 l (fun k out i => laws_toInt64S.l0 k l out i) (fun i out r hi ho h => by
    refine Ev.succ ?_
    simp only [laws_toInt64S.l0]
    refine Ev.pos (by omega) (Ev.pos (by omega) (Ev.pos (by omega) ?_))
    rw [wrap64_nat (by omega)]
    simpa [rd] using h) (fun out _ => by
    refine Ev.succ ?_
    simp only [laws_toInt64S.l0]
    exact Ev.neg (by omega) (Ev.now _))
  simpa using h
theorem eqInt64S_f (l : List Int) (hl : l.length ≤ 1048576) : Ev (fun k => laws_eqInt64S.f k l l) true := by
  unfold laws_eqInt64S.f
  refine Ev.pos rfl (all_gen l.length (fun k i => laws_eqInt64S.l0 k l l i) (fun i hi h => ?_) ?_)
  · refine Ev.succ ?_
    simp only [laws_eqInt64S.l0]
    rw [wrap64_nat (by omega)]
    exact Ev.pos (by omega) (Ev.pos (by omega) (Ev.pos (by omega) (Ev.pos (by trivial) h)))
  · refine Ev.succ ?_
    simp only [laws_eqInt64S.l0]
    exact Ev.neg (by omega) (Ev.now _)
def iImageSymbol (x : S135) : S109 := ⟨x.f0, x.f1, x.f2⟩
def sImageSymbol (x : S135) : Nat := x.f0.size + (0)
def lImageSymbol (x : S135) : Prop := x.f0.size ≤ 9223372036854775807
def bImageSymbol (x : S109) : Prop := True
theorem szImageSymbol_f (x : S135) (a : Int) (h0 : 0 ≤ a) (h1 : a ≤ 1048576) (hx : lImageSymbol x) : Ev (fun k => laws_szImageSymbol.f x.f0 x.f1 x.f2 a) (if (sImageSymbol x : Int) ≤ a then a - (sImageSymbol x : Int) else -1) := by
  have k0 : x.f0.size ≤ 9223372036854775807 := hx
  unfold laws_szImageSymbol.f sImageSymbol
  rw [wrap64_id (by omega) (by omega)]
  refine sz_str (fun e0 => ?_)
  exact sz_end _ (by omega)
theorem toImageSymbol_f (x : S135) (h : sImageSymbol x ≤ 1048576) : Ev (fun k => laws_toImageSymbol.f x.f0 x.f1 x.f2) (x.f0, x.f1, x.f2) := by
  unfold sImageSymbol at h
  unfold laws_toImageSymbol.f
  exact Ev.now _
theorem eqImageSymbol_f (x : S109) (hb : bImageSymbol x) : Ev (fun k => laws_eqImageSymbol.f x.f0 x.f1 x.f2 x.f0 x.f1 x.f2) true := by
  unfold laws_eqImageSymbol.f
  refine Ev.pos rfl ?_
  refine Ev.neg (by simp) ?_
  refine Ev.pos rfl ?_
  exact Ev.now _
theorem bImageSymbol_of (x : S135) (h : sImageSymbol x ≤ 1048576) : bImageSymbol (iImageSymbol x) := by
  unfold sImageSymbol at h
  exact trivial
def sImageSymbolS (xs : List S135) : Nat := xs.length + (xs.map sImageSymbol).sum
def lImageSymbolS (xs : List S135) : Prop := xs.length ≤ 9223372036854775807 ∧ ∀ x ∈ xs, lImageSymbol x
def bImageSymbolS (xs : List S109) : Prop := xs.length ≤ 1048576 ∧ ∀ x ∈ xs, bImageSymbol x
theorem szImageSymbolS_f (xs : List S135) (a : Int) (h0 : 0 ≤ a) (h1 : a ≤ 1048576) (hx : lImageSymbolS xs) : Ev (fun k => laws_szImageSymbolS.f k xs a) (if (sImageSymbolS xs : Int) ≤ a then a - (sImageSymbolS xs : Int) else -1) := by
  obtain ⟨hl, hx⟩ := hx
  unfold laws_szImageSymbolS.f
  rw [wrap64_id (by omega) (by omega)]
  by_cases c : (xs.length : Int) ≤ a
  · refine Ev.neg (by omega) ?_
    have h := sz_gen sImageSymbol z135 xs (fun k a i => laws_szImageSymbolS.l0 k xs a i) (fun i a r hi h0 h1 h => by
      refine Ev.succ ?_
      simp only [laws_szImageSymbolS.l0]
      refine Ev.pos (by omega) (Ev.pos (by omega) ?_)
      have hm : lImageSymbol (rd_T135 xs i) := hx _ (by simp only [rd_T135, Int.toNat_natCast]; rw [getD_eq hi]; exact List.getElem_mem hi)
      have e : rd_T135 xs i = xs.getD i z135 := by simp [rd_T135]
      refine Ev.bind (szImageSymbol_f _ a h0 h1 hm) ?_
      rw [e]
      split at h
      · rename_i hc
        rw [if_pos hc, wrap64_nat (by omega)]
        exact Ev.neg (by omega) h
      · rename_i hc
        rw [if_neg hc]
        exact Ev.pos (by omega) (Ev.some h.symm)) (fun a => by
      refine Ev.succ ?_
      simp only [laws_szImageSymbolS.l0]
      exact Ev.neg (by omega) (Ev.now _)) (a - xs.length) (by omega) (by omega)
    have e : (if ((xs.map sImageSymbol).sum : Int) ≤ a - xs.length then a - xs.length - (xs.map sImageSymbol).sum else -1) = (if (sImageSymbolS xs : Int) ≤ a then a - sImageSymbolS xs else -1) := by unfold sImageSymbolS; split <;> split <;> omega
    rw [← e]
    exact h
  · rw [if_neg (by unfold sImageSymbolS; omega)]
    exact Ev.pos (by omega) (Ev.now _)
theorem atImageSymbolS {xs : List S135} {i : Nat} (h : sImageSymbolS xs ≤ 1048576) (hi : i < xs.length) : sImageSymbol (xs.getD i z135) ≤ 1048576 := by
  have := sum_getD_le sImageSymbol z135 xs i hi
  unfold sImageSymbolS at h
  omega
theorem toImageSymbolS_f (l : List S135) (hl : sImageSymbolS l ≤ 1048576) : Ev (fun k => laws_toImageSymbolS.f k l) (l.map iImageSymbol) := by
  unfold laws_toImageSymbolS.f
  have hl1 : l.length ≤ 1048576 := by unfold sImageSymbolS at hl; omega
  refine Ev.pos (by omega) (Ev.pos (by omega) ?_)
  have h := to_gen iImageSymbol z109 z135 l (fun k out i => laws_toImageSymbolS.l0 k l out i) (fun i out r hi ho h => by
    refine Ev.succ ?_
    simp only [laws_toImageSymbolS.l0]
    have e : rd_T135 l i = l.getD i z135 := by simp [rd_T135]
    rw [e]
    refine Ev.pos (by omega) (Ev.pos (by omega) (Ev.bind (toImageSymbol_f _ (atImageSymbolS hl hi)) (Ev.pos (by omega) ?_)))
    rw [wrap64_nat (by omega)]
    exact h) (fun out _ => by
    refine Ev.succ ?_
    simp only [laws_toImageSymbolS.l0]
    exact Ev.neg (by omega) (Ev.now _))
  simpa using h
theorem eqImageSymbolS_f (l : List S109) (hb : bImageSymbolS l) : Ev (fun k => laws_eqImageSymbolS.f k l l) true := by
  obtain ⟨hl, hb⟩ := hb
  unfold laws_eqImageSymbolS.f
  refine Ev.pos rfl (all_gen l.length (fun k i => laws_eqImageSymbolS.l0 k l l i) (fun i hi h => ?_) ?_)
  · refine Ev.succ ?_
    simp only [laws_eqImageSymbolS.l0]
    rw [wrap64_nat (by omega)]
    have hm : bImageSymbol (rd_T109 l i) := hb _ (by simp only [rd_T109, Int.toNat_natCast]; rw [getD_eq hi]; exact List.getElem_mem hi)
    exact Ev.pos (by omega) (Ev.pos (by omega) (Ev.pos (by omega) (Ev.bind (eqImageSymbol_f _ hm) (Ev.pos rfl h))))
  · refine Ev.succ ?_
    simp only [laws_eqImageSymbolS.l0]
    exact Ev.neg (by omega) (Ev.now _)
theorem bImageSymbolS_of (xs : List S135) (h : sImageSymbolS xs ≤ 1048576) : bImageSymbolS (xs.map iImageSymbol) := by
  refine ⟨by rw [List.length_map]; unfold sImageSymbolS at h; omega, fun y hy => ?_⟩
  obtain ⟨x, hx, rfl⟩ := List.mem_map.1 hy
  obtain ⟨i, hi, rfl⟩ := List.getElem_of_mem hx
  have := atImageSymbolS h hi
  rw [getD_eq hi] at this
  exact bImageSymbol_of _ this
def sImage (f0 : List Int) (f1 : List Int) (f2 : Int) (f3 : List Int) (f4 : Int) (f5 : List S135) : Nat := f0.length + (f1.length + (f3.length + (sImageSymbolS f5 + (0))))
def lImage (f0 : List Int) (f1 : List Int) (f2 : Int) (f3 : List Int) (f4 : Int) (f5 : List S135) : Prop := f0.length ≤ 9223372036854775807 ∧ f1.length ≤ 9223372036854775807 ∧ f3.length ≤ 9223372036854775807 ∧ lImageSymbolS f5
def bImage (f0 : List Int) (f1 : List Int) (f2 : Int) (f3 : List Int) (f4 : Int) (f5 : List S109) : Prop := f0.length ≤ 1048576 ∧ f1.length ≤ 1048576 ∧ f3.length ≤ 1048576 ∧ bImageSymbolS f5
theorem szImage_f (f0 : List Int) (f1 : List Int) (f2 : Int) (f3 : List Int) (f4 : Int) (f5 : List S135) (a : Int) (h0 : 0 ≤ a) (h1 : a ≤ 1048576) (hx : lImage f0 f1 f2 f3 f4 f5) : Ev (fun k => laws_szImage.f k f0 f1 f2 f3 f4 f5 a) (if (sImage f0 f1 f2 f3 f4 f5 : Int) ≤ a then a - (sImage f0 f1 f2 f3 f4 f5 : Int) else -1) := by
  obtain ⟨k0, k1, k2, k3⟩ := hx
  unfold laws_szImage.f sImage
  refine sz_bind (szByteS_f _ _ (by omega) (by omega) k0) (fun e0 => ?_)
  refine sz_bind (szByteS_f _ _ (by omega) (by omega) k1) (fun e1 => ?_)
  refine sz_bind (szInt64S_f _ _ (by omega) (by omega) k2) (fun e2 => ?_)
  refine sz_bind (szImageSymbolS_f _ _ (by omega) (by omega) k3) (fun e3 => ?_)
  exact sz_end _ (by omega)
theorem toImage_f (f0 : List Int) (f1 : List Int) (f2 : Int) (f3 : List Int) (f4 : Int) (f5 : List S135) (h : sImage f0 f1 f2 f3 f4 f5 ≤ 1048576) : Ev (fun k => laws_toImage.f k f0 f1 f2 f3 f4 f5) (f0, f1, f2, f3, f4, (f5.map iImageSymbol)) := by
  unfold sImage at h
  unfold laws_toImage.f
  refine Ev.bind (toByteS_f _ (by omega)) ?_
  refine Ev.bind (toByteS_f _ (by omega)) ?_
  refine Ev.bind (toInt64S_f _ (by omega)) ?_
  refine Ev.bind (toImageSymbolS_f _ (by omega)) ?_
  exact Ev.now _
theorem eqImage_f (f0 : List Int) (f1 : List Int) (f2 : Int) (f3 : List Int) (f4 : Int) (f5 : List S109) (hb : bImage f0 f1 f2 f3 f4 f5) : Ev (fun k => laws_eqImage.f k f0 f1 f2 f3 f4 f5 f0 f1 f2 f3 f4 f5) true := by
  obtain ⟨k0, k1, k2, k3⟩ := hb
  unfold laws_eqImage.f
  refine Ev.bind (eqByteS_f _ k0) (Ev.pos rfl ?_)
  refine Ev.bind (eqByteS_f _ k1) (Ev.pos rfl ?_)
  refine Ev.pos rfl ?_
  refine Ev.bind (eqInt64S_f _ k2) (Ev.pos rfl ?_)
  refine Ev.pos rfl ?_
  refine Ev.bind (eqImageSymbolS_f _ k3) (Ev.pos rfl ?_)
  exact Ev.now _
theorem bImage_of (f0 : List Int) (f1 : List Int) (f2 : Int) (f3 : List Int) (f4 : Int) (f5 : List S135) (h : sImage f0 f1 f2 f3 f4 f5 ≤ 1048576) : bImage f0 f1 f2 f3 f4 (f5.map iImageSymbol) := by
  unfold sImage at h
  refine ⟨?_, ?_, ?_, ?_⟩
  · show f0.length ≤ _; omega
  · show f1.length ≤ _; omega
  · show f3.length ≤ _; omega
  · exact bImageSymbolS_of _ (by omega)
end Go.Proofs.YtkohjiajbdkcbaaDoor.All


/- What reads as data of a type can be read as a value of its kind. -/
namespace Go.Proofs.YtkohjiajbdkcbaaDoor.All
open Go.RowKit Go.Proofs.YtkohjiajbdkcbaaDoorW.PrintWords Go.Proofs.YtkohjiajbdkcbaaDoorW.PrintLast Go.Proofs.YtkohjiajbdkcbaaDoorW.PrintMore
set_option linter.unusedVariables false
set_option linter.unusedSimpArgs false
structure Rdb {α : Type} (d : Kd α) (P : Program) (t : TypeId) (ok : α → Prop) : Prop where
  sz : P.cellsOf t = d.sz
  rd : ∀ {H : Type} {enc : TypeId × Value → H} {w : World} {base : Nat} {sp : Nat → Bool} {held : Bool} {fuel : Nat} {cs : List Value} {x : DataW H × List MemPlace}, DataW.trod enc P w base sp held fuel t cs = some x → ∃ a, d.K w a cs ∧ ok a
theorem Rdb.int {P : Program} {t : TypeId} {k : IntKind} (ht : P.underlying t = some (.int k)) (hs : P.cellsOf t = 1) : Rdb (Kd.int k) P t (fun a => (Lit.int k a).wf = true) :=
  ⟨hs, fun h => by obtain ⟨n, rfl, _, hw⟩ := DataW.trod_int ht h; exact ⟨n, rfl, hw⟩⟩
theorem Rdb.bool {P : Program} {t : TypeId} (ht : P.underlying t = some .bool) (hs : P.cellsOf t = 1) : Rdb Kd.bool P t (fun _ => True) :=
  ⟨hs, fun h => by obtain ⟨b, rfl, _⟩ := DataW.trod_bool ht h; exact ⟨b, rfl, trivial⟩⟩
theorem Rdb.string {P : Program} {t : TypeId} (ht : P.underlying t = some .string) (hs : P.cellsOf t = 1) : Rdb Kd.string P t (fun s => s.size ≤ 9223372036854775807) :=
  ⟨hs, fun h => by obtain ⟨s, rfl, _, hm⟩ := DataW.trod_string ht h; exact ⟨s, rfl, hm⟩⟩
theorem rdb_list {α : Type} {P : Nat → α → Prop} : ∀ n : Nat, (∀ j, j < n → ∃ x, P j x) → ∃ l : List α, l.length = n ∧ ∀ (j : Nat) (x : α), l[j]? = some x → P j x
  | 0, _ => ⟨[], rfl, fun j x h => by simp at h⟩
  | n + 1, h => by
    obtain ⟨l, hl, hp⟩ := rdb_list n (fun j hj => h j (by omega))
    obtain ⟨x, hx⟩ := h n (by omega)
    refine ⟨l ++ [x], by simp [hl], fun j y hy => ?_⟩
    by_cases hj : j < n
    · rw [List.getElem?_append_left (by omega)] at hy
      exact hp j y hy
    · have hlt := (List.getElem?_eq_some_iff.1 hy).1
      simp [hl] at hlt
      have : j = n := by omega
      subst this
      rw [List.getElem?_append_right (by omega)] at hy
      simp [hl] at hy
      subst hy
      exact hx
theorem Rdb.slice {α : Type} {d : Kd α} {P : Program} {t e : TypeId} {ok : α → Prop} (ht : P.underlying t = some (.slice e)) (hs : P.cellsOf t = 1) (h : Rdb d P e ok) : Rdb (Kd.slice e d) P t (fun xs => xs.length ≤ 9223372036854775807 ∧ ∀ x ∈ xs, ok x) := by
  refine ⟨hs, fun {H enc w base sp held fuel cs x} hx => ?_⟩
  rcases Deep.open_slice ht hx with ⟨rfl, _⟩ | ⟨a, len, cap, m, n, D, Pl, rfl, hb, hl, hm, hmm, _, hel⟩
  · exact ⟨[], ⟨none, 0, rfl, Nat.le_refl _, rfl, by simp, fun h0 => by simp at h0⟩, by simp, fun x hx => by simp at hx⟩
  · have hmax : len ≤ 9223372036854775807 := Nat.le_trans hl hm
    have hlm : len ≤ m := by rw [hmm]; split <;> omega
    obtain ⟨xs, hlen, hxs⟩ := rdb_list (P := fun j (x : α) => ok x ∧ ∃ c, c.length = d.sz ∧ d.K w x c ∧ ∀ (i : Nat) (u : Value), c[i]? = some u → w.cell? (a.add (j * d.sz + i)) = some u) len (fun j hj => by
      obtain ⟨cs', hc, htr⟩ := hel j (by omega)
      obtain ⟨x, hK, hok⟩ := h.rd htr
      obtain ⟨_, hcl, hcc⟩ := World.cells?_some hc
      rw [h.sz] at hcl hcc
      refine ⟨x, hok, cs', hcl, hK, fun i u hu => ?_⟩
      have hi := (List.getElem?_eq_some_iff.1 hu).1
      have := hcc i (by omega)
      rw [Addr.add_add] at this
      exact this.trans hu)
    refine ⟨xs, ⟨some a, cap, by rw [hlen], by omega, rfl, by omega, fun _ => ⟨a, rfl, fun j p hj => (hxs j p hj).2⟩⟩, by omega, fun x hx => ?_⟩
    obtain ⟨j, hj⟩ := List.getElem?_of_mem hx
    exact (hxs j x hj).1
/-- The fields of a struct (types and places) from cell 'off' on. -/
structure RdbFs {α : Type} (d : Kd α) (P : Program) (fs : List (TypeId × Nat)) (off : Nat) (ok : α → Prop) : Prop where
  rd : ∀ {H : Type} {enc : TypeId × Value → H} {w : World} {base : Nat} {sp : Nat → Bool} {held : Bool} {n : Nat} {cs : List Value}, cs.length = off + d.sz →
    (∀ f ∈ fs, ∃ x, DataW.trod enc P w base sp held n f.1 ((cs.drop f.2).take (P.cellsOf f.1)) = some x) → ∃ a, d.K w a (cs.drop off) ∧ ok a
theorem RdbFs.one {α : Type} {d : Kd α} {P : Program} {t : TypeId} {off : Nat} {ok : α → Prop} (h : Rdb d P t ok) : RdbFs d P [(t, off)] off ok := by
  refine ⟨fun {H enc w base sp held n cs} hl hf => ?_⟩
  obtain ⟨x, hx⟩ := hf (t, off) (by simp)
  simp only at hx
  rw [h.sz, List.take_of_length_le (by rw [List.length_drop]; omega)] at hx
  exact h.rd hx
theorem RdbFs.cons {α β : Type} {a : Kd α} {b : Kd β} {P : Program} {t : TypeId} {fs : List (TypeId × Nat)} {off off' : Nat} {ok : α → Prop} {ok' : β → Prop} (ho : off + a.sz = off') (h : Rdb a P t ok) (hs : RdbFs b P fs off' ok') : RdbFs (Kd.pair a b) P ((t, off) :: fs) off (fun x => ok x.1 ∧ ok' x.2) := by
  subst ho
  refine ⟨fun {H enc w base sp held n cs} hl hf => ?_⟩
  have hl' : cs.length = off + a.sz + b.sz := by rw [hl]; show off + (a.sz + b.sz) = _; omega
  obtain ⟨x, hx⟩ := hf (t, off) (by simp)
  simp only at hx
  rw [h.sz] at hx
  obtain ⟨y, hy, oky⟩ := h.rd hx
  obtain ⟨z, hz, okz⟩ := hs.rd hl' (fun g hg => hf g (by simp [hg]))
  refine ⟨(y, z), ⟨(cs.drop off).take a.sz, cs.drop (off + a.sz), ?_, hy, hz⟩, oky, okz⟩
  rw [← List.drop_drop, List.take_append_drop]
theorem Rdb.struct {α : Type} {d : Kd α} {P : Program} {t : TypeId} {fs : Array Field} {ok : α → Prop} (ht : P.underlying t = some (.struct fs)) (hs : P.cellsOf t = d.sz) (tos : List (TypeId × Nat)) (htos : fs.toList.map (fun f => (f.type, f.offset)) = tos) (h : RdbFs d P tos 0 ok) : Rdb d P t ok := by
  subst htos
  refine ⟨hs, fun hx => ?_⟩
  obtain ⟨xs, n, rfl, rfl, hl, hxl, hf⟩ := DataW.trod_struct ht hx
  have := h.rd (n := n) (by rw [hl, hs, Nat.zero_add]) (fun f hfm => by
    obtain ⟨f', hf', rfl⟩ := List.mem_map.1 hfm
    obtain ⟨i, hi⟩ := List.getElem?_of_mem hf'
    rw [Array.getElem?_toList] at hi
    have h1 := hf i f' hi
    have hlt : i < xs.length := by rw [hxl]; exact (Array.getElem?_eq_some_iff.1 hi).1
    exact ⟨xs[i], by rw [h1, List.getElem?_eq_getElem hlt]⟩)
  simpa using this
theorem Rdb.iso {α β : Type} {d : Kd α} {P : Program} {t : TypeId} {ok : α → Prop} {f : β → α} (h : Rdb d P t ok) (g : α → β) (hg : ∀ y, f (g y) = y) : Rdb (Kd.iso d f) P t (fun x => ok (f x)) :=
  ⟨h.sz, fun hx => by
    obtain ⟨a, hK, hok⟩ := h.rd hx
    refine ⟨g a, ?_, by rw [hg]; exact hok⟩
    show d.K _ (f (g a)) _
    rw [hg]
    exact hK⟩
end Go.Proofs.YtkohjiajbdkcbaaDoor.All


/- How the laws' arguments read. Printed by gen_row.py. -/
namespace Go.Proofs.YtkohjiajbdkcbaaDoor.All
open Go.RowKit Go.Proofs.YtkohjiajbdkcbaaDoorW.PrintWords
set_option linter.unusedVariables false
def ok135 (x : S135) : Prop := x.f0.size ≤ 9223372036854775807 ∧ True ∧ (Lit.int .i64 x.f2).wf = true
set_option maxRecDepth 100000 in
theorem rdb135 : Rdb k135 Tryd.prog 135 ok135 := Rdb.iso (f := fun x : S135 => (x.f0, x.f1, x.f2)) (Rdb.struct Tryd.underlying135 (by kernel_rfl) [(9, 0), (4, 1), (2, 2)] rfl (RdbFs.cons rfl (Rdb.string Tryd.underlying9 (by kernel_rfl)) (RdbFs.cons rfl (Rdb.bool Tryd.underlying4 (by kernel_rfl)) (RdbFs.one (Rdb.int Tryd.underlying2 (by kernel_rfl)))))) (fun y => (⟨y.1, y.2.1, y.2.2⟩ : S135)) (fun _ => rfl)
set_option maxRecDepth 100000 in
theorem rdbTop55 : Rdb (Kd.pair (Kd.slice 5 (Kd.int .u8)) (Kd.pair (Kd.slice 5 (Kd.int .u8)) (Kd.pair (Kd.int .i64) (Kd.pair (Kd.slice 2 (Kd.int .i64)) (Kd.pair (Kd.int .i64) (Kd.slice 135 k135)))))) Tryd.prog 55 (fun x => (x.1.length ≤ 9223372036854775807 ∧ ∀ y ∈ x.1, (Lit.int .u8 y).wf = true) ∧ (x.2.1.length ≤ 9223372036854775807 ∧ ∀ y ∈ x.2.1, (Lit.int .u8 y).wf = true) ∧ (Lit.int .i64 x.2.2.1).wf = true ∧ (x.2.2.2.1.length ≤ 9223372036854775807 ∧ ∀ y ∈ x.2.2.2.1, (Lit.int .i64 y).wf = true) ∧ (Lit.int .i64 x.2.2.2.2.1).wf = true ∧ (x.2.2.2.2.2.length ≤ 9223372036854775807 ∧ ∀ y ∈ x.2.2.2.2.2, ok135 y)) := Rdb.struct Tryd.underlying55 (by kernel_rfl) [(41, 0), (41, 1), (2, 2), (52, 3), (2, 4), (53, 5)] rfl (RdbFs.cons rfl (Rdb.slice Tryd.underlying41 (by kernel_rfl) (Rdb.int Tryd.underlying5 (by kernel_rfl))) (RdbFs.cons rfl (Rdb.slice Tryd.underlying41 (by kernel_rfl) (Rdb.int Tryd.underlying5 (by kernel_rfl))) (RdbFs.cons rfl (Rdb.int Tryd.underlying2 (by kernel_rfl)) (RdbFs.cons rfl (Rdb.slice Tryd.underlying52 (by kernel_rfl) (Rdb.int Tryd.underlying2 (by kernel_rfl))) (RdbFs.cons rfl (Rdb.int Tryd.underlying2 (by kernel_rfl)) (RdbFs.one (Rdb.slice Tryd.underlying53 (by kernel_rfl) rdb135)))))))
end Go.Proofs.YtkohjiajbdkcbaaDoor.All


/- FnExactDisassemble: the printed law is true of all arguments. -/
namespace Go.Proofs.YtkohjiajbdkcbaaDoor.Pure
open Go.Proofs.YtkohjiajbdkcbaaDoor.All
open Go.RowKit Go.Proofs.YtkohjiajbdkcbaaDoorW.PrintWords Go.Proofs.YtkohjiajbdkcbaaDoorW.PrintLast Go.Proofs.YtkohjiajbdkcbaaDoorW.PrintMore
set_option linter.unusedVariables false
set_option linter.unusedSimpArgs false
def numsB (l : List UInt8) : List Int := l.map fun b => (b.toNat : Int)
theorem bytesOf_bsOf (a : List UInt8) : bytesOf (bsOf a) = numsB a := by unfold bytesOf numsB bsOf; simp
theorem numsB_append (a b : List UInt8) : numsB a ++ numsB b = numsB (a ++ b) := by unfold numsB; rw [List.map_append]
theorem numsB_len (a : List UInt8) : (numsB a).length = a.length := by unfold numsB; rw [List.length_map]
theorem strOf_numsB (a : List UInt8) : strOfNums (numsB a) = bsOf a := by
  unfold strOfNums numsB bsOf
  rw [List.map_map]
  congr 1
  rw [show ((fun x : Int => UInt8.ofNat x.toNat) ∘ fun b : UInt8 => (b.toNat : Int)) = id from funext fun b => by simp]
  rw [List.map_id]
def byteL (l : List Int) : Prop := ∀ y ∈ l, 0 ≤ y ∧ y ≤ 255
def decOf (l : List Int) : Int × Int × Int × Int × Int := (rd l 0, rd l 1, rd l 2, rd l 3, immV (rd l 4).toNat (rd l 5).toNat (rd l 6).toNat (rd l 7).toNat)
def badOf (l : List Int) : Bool := insB (decOf l).1 (decOf l).2.1 (decOf l).2.2.1 (decOf l).2.2.2.1 (decOf l).2.2.2.2
theorem eight {l : List Int} (hl : l.length = 8) (hb : byteL l) : ∃ n0 n1 n2 n3 n4 n5 n6 n7 : Nat, l = [(n0 : Int), n1, n2, n3, n4, n5, n6, n7] ∧ n0 < 256 ∧ n1 < 256 ∧ n2 < 256 ∧ n3 < 256 ∧ n4 < 256 ∧ n5 < 256 ∧ n6 < 256 ∧ n7 < 256 := by
  match l, hl with
  | [x0, x1, x2, x3, x4, x5, x6, x7], _ =>
    have b0 := hb x0 (by simp)
    have b1 := hb x1 (by simp)
    have b2 := hb x2 (by simp)
    have b3 := hb x3 (by simp)
    have b4 := hb x4 (by simp)
    have b5 := hb x5 (by simp)
    have b6 := hb x6 (by simp)
    have b7 := hb x7 (by simp)
    refine ⟨x0.toNat, x1.toNat, x2.toNat, x3.toNat, x4.toNat, x5.toNat, x6.toNat, x7.toNat, ?_, by omega, by omega, by omega, by omega, by omega, by omega, by omega, by omega⟩
    rw [Int.toNat_of_nonneg b0.1, Int.toNat_of_nonneg b1.1, Int.toNat_of_nonneg b2.1, Int.toNat_of_nonneg b3.1, Int.toNat_of_nonneg b4.1, Int.toNat_of_nonneg b5.1, Int.toNat_of_nonneg b6.1, Int.toNat_of_nonneg b7.1]
theorem decS {l : List Int} (hl : l.length = 8) (hb : byteL l) : Ev (fun k => spec_l16Decode.f k l) (decOf l) := by
  obtain ⟨n0, n1, n2, n3, n4, n5, n6, n7, rfl, h0, h1, h2, h3, h4, h5, h6, h7⟩ := eight hl hb
  exact specDec_f n0 n1 n2 n3 n4 n5 n6 n7 h0 h1 h2 h3 h4 h5 h6 h7
theorem decI {l : List Int} (hl : l.length = 8) (hb : byteL l) : Ev (fun k => impl_DecodeIns.f k l) (if badOf l = true then (false, 0, 0, 0, 0, 0) else (true, decOf l)) := by
  obtain ⟨n0, n1, n2, n3, n4, n5, n6, n7, rfl, h0, h1, h2, h3, h4, h5, h6, h7⟩ := eight hl hb
  exact implDec_f n0 n1 n2 n3 n4 n5 n6 n7 h0 h1 h2 h3 h4 h5 h6 h7
theorem dec_r64 {l : List Int} (hl : l.length = 8) (hb : byteL l) : r64 (decOf l).1 ∧ r64 (decOf l).2.1 ∧ r64 (decOf l).2.2.1 ∧ r64 (decOf l).2.2.2.1 ∧ r64 (decOf l).2.2.2.2 := by
  obtain ⟨n0, n1, n2, n3, n4, n5, n6, n7, rfl, h0, h1, h2, h3, h4, h5, h6, h7⟩ := eight hl hb
  have hm := imm4_lt h4 h5 h6 h7
  refine ⟨show r64 (n0 : Int) from ⟨by omega, by omega⟩, show r64 (n1 : Int) from ⟨by omega, by omega⟩, show r64 (n2 : Int) from ⟨by omega, by omega⟩, show r64 (n3 : Int) from ⟨by omega, by omega⟩, ?_⟩
  exact sgnW_range (w := 32) (v := (imm4 n4 n5 n6 n7 : Nat)) (by omega) (by rw [show pw 32 = 4294967296 from rfl]; omega)
theorem chunk_ok {code : List Int} {n : Nat} (h : 8 * n + 8 ≤ code.length) (hb : byteL code) : (chunk8 code n).length = 8 ∧ byteL (chunk8 code n) := by
  refine ⟨by unfold chunk8; rw [List.length_drop, List.length_take]; omega, fun y hy => hb y ?_⟩
  exact List.mem_of_mem_take (List.mem_of_mem_drop hy)
section
variable (code data : List Int) (entry : Int) (params : List Int) (res : Int) (syms : List S109)
theorem par_f (hp : params.length ≤ 1048576) : ∀ (d i : Nat), d + i = params.length → ∃ v, Ev (fun k => spec_ImageFault.l1 k (i : Int) code data entry params res syms) v ∧ Ev (fun k => impl_ImageFault.l1 k params (params.length : Int) (i : Int)) v
  | 0, i, h => by
    refine ⟨0, Ev.succ ?_, Ev.succ ?_⟩
    · simp only [spec_ImageFault.l1]
      exact Ev.neg (by omega) (Ev.now _)
    · simp only [impl_ImageFault.l1]
      exact Ev.neg (by omega) (Ev.now _)
  | d + 1, i, h => by
    obtain ⟨v, hS, hI⟩ := par_f hp d (i + 1) (by omega)
    by_cases c : VW (rd params i)
    · refine ⟨v, Ev.succ ?_, Ev.succ ?_⟩
      · simp only [spec_ImageFault.l1]
        rw [wrap64_nat (by omega)]
        exact Ev.pos (by omega) (Ev.pos (by omega) (Ev.eq_bind (validS_f _) (Ev.pos (decide_eq_true c) hS)))
      · simp only [impl_ImageFault.l1]
        rw [wrap64_nat (by omega)]
        exact Ev.pos (by omega) (Ev.pos (by omega) (Ev.pos (by omega) (Ev.eq_bind (validI_f _) (Ev.pos (decide_eq_true c) hI))))
    · refine ⟨5, Ev.succ ?_, Ev.succ ?_⟩
      · simp only [spec_ImageFault.l1]
        exact Ev.pos (by omega) (Ev.pos (by omega) (Ev.eq_bind (validS_f _) (Ev.neg (by rw [decide_eq_false c]; decide) (Ev.now _))))
      · simp only [impl_ImageFault.l1]
        exact Ev.pos (by omega) (Ev.pos (by omega) (Ev.pos (by omega) (Ev.eq_bind (validI_f _) (Ev.neg (by rw [decide_eq_false c]; decide) (Ev.now _)))))
theorem j3_f (hp : params.length ≤ 1048576) (b : Bool) : ∃ v, Ev (fun k => spec_ImageFault.j3 k b code data entry params res syms) v ∧ Ev (fun k => impl_ImageFault.j3 k b code data entry params res syms) v := by
  obtain ⟨v, hS, hI⟩ := par_f code data entry params res syms hp params.length 0 rfl
  cases b
  · refine ⟨v, Ev.succ ?_, Ev.succ ?_⟩
    · simp only [spec_ImageFault.j3]; exact Ev.neg (by decide) hS
    · simp only [impl_ImageFault.j3]; exact Ev.neg (by decide) hI
  · refine ⟨5, Ev.succ ?_, Ev.succ ?_⟩
    · simp only [spec_ImageFault.j3]; exact Ev.pos trivial (Ev.now _)
    · simp only [impl_ImageFault.j3]; exact Ev.pos trivial (Ev.now _)
theorem type_f (t : Int) : ∃ b, spec_ValidType.f t = some b ∧ impl_ValidType.f t = some b := by
  unfold spec_ValidType.f impl_ValidType.f
  rw [validS_f, validI_f]
  by_cases c : VW t
  · rw [decide_eq_true c]; exact ⟨true, rfl, rfl⟩
  · rw [decide_eq_false c]; exact ⟨t == 65, rfl, rfl⟩
theorem j2_f (hp : params.length ≤ 1048576) (b : Bool) : ∃ v, Ev (fun k => spec_ImageFault.j2 k b code data entry params res syms) v ∧ Ev (fun k => impl_ImageFault.j2 k b code data entry params res syms) v := by
  cases b
  · by_cases c : (params.length : Int) > 6
    · obtain ⟨v, hS, hI⟩ := j3_f code data entry params res syms hp true
      refine ⟨v, Ev.succ ?_, Ev.succ ?_⟩
      · simp only [spec_ImageFault.j2]; exact Ev.neg (by decide) (Ev.pos c hS)
      · simp only [impl_ImageFault.j2]; exact Ev.neg (by decide) (Ev.pos c hI)
    · by_cases c0 : res = 0
      · obtain ⟨v, hS, hI⟩ := j3_f code data entry params res syms hp false
        refine ⟨v, Ev.succ ?_, Ev.succ ?_⟩
        · simp only [spec_ImageFault.j2]; exact Ev.neg (by decide) (Ev.neg c (Ev.pos c0 hS))
        · simp only [impl_ImageFault.j2]; exact Ev.neg (by decide) (Ev.neg c (Ev.pos c0 hI))
      · obtain ⟨q, hq1, hq2⟩ := type_f res
        obtain ⟨v, hS, hI⟩ := j3_f code data entry params res syms hp (!q)
        refine ⟨v, Ev.succ ?_, Ev.succ ?_⟩
        · simp only [spec_ImageFault.j2]; exact Ev.neg (by decide) (Ev.neg c (Ev.neg c0 (Ev.eq_bind hq1 hS)))
        · simp only [impl_ImageFault.j2]; exact Ev.neg (by decide) (Ev.neg c (Ev.neg c0 (Ev.eq_bind hq2 hI)))
  · refine ⟨4, Ev.succ ?_, Ev.succ ?_⟩
    · simp only [spec_ImageFault.j2]; exact Ev.pos trivial (Ev.now _)
    · simp only [impl_ImageFault.j2]; exact Ev.pos trivial (Ev.now _)
theorem chunks_f (hp : params.length ≤ 1048576) (hc : code.length ≤ 1048576) (h8 : code.length % 8 = 0) (hb : byteL code) : ∀ (d i : Nat), d + i = code.length / 8 → ∃ v, Ev (fun k => spec_ImageFault.l0 k ((8 * i : Nat) : Int) code data entry params res syms) v ∧ Ev (fun k => impl_ImageFault.l0 k ((8 * i : Nat) : Int) code data entry params res syms) v ∧ (v = 0 → ∀ j, i ≤ j → j < code.length / 8 → badOf (chunk8 code j) = false)
  | 0, i, h => by
    have base : ∃ v, Ev (fun k => spec_ImageFault.l0 k ((8 * i : Nat) : Int) code data entry params res syms) v ∧ Ev (fun k => impl_ImageFault.l0 k ((8 * i : Nat) : Int) code data entry params res syms) v := by
      by_cases c3 : (data.length : Int) > 1048576
      · refine ⟨3, Ev.succ ?_, Ev.succ ?_⟩
        · simp only [spec_ImageFault.l0]; exact Ev.neg (by omega) (Ev.pos c3 (Ev.now _))
        · simp only [impl_ImageFault.l0]; exact Ev.neg (by omega) (Ev.pos c3 (Ev.now _))
      by_cases c4 : entry < 0
      · obtain ⟨v, hS, hI⟩ := j2_f code data entry params res syms hp true
        refine ⟨v, Ev.succ ?_, Ev.succ ?_⟩
        · simp only [spec_ImageFault.l0]; exact Ev.neg (by omega) (Ev.neg c3 (Ev.pos c4 hS))
        · simp only [impl_ImageFault.l0]; exact Ev.neg (by omega) (Ev.neg c3 (Ev.pos c4 hI))
      · obtain ⟨v, hS, hI⟩ := j2_f code data entry params res syms hp (decide (entry ≥ (wrap64 ((code.length : Int) / 8))))
        refine ⟨v, Ev.succ ?_, Ev.succ ?_⟩
        · simp only [spec_ImageFault.l0]; exact Ev.neg (by omega) (Ev.neg c3 (Ev.neg c4 hS))
        · simp only [impl_ImageFault.l0]; exact Ev.neg (by omega) (Ev.neg c3 (Ev.neg c4 hI))
    obtain ⟨v, hS, hI⟩ := base
    exact ⟨v, hS, hI, fun _ j h1 h2 => by omega⟩
  | d + 1, i, h => by
    obtain ⟨v, hS, hI, hG⟩ := chunks_f hp hc h8 hb d (i + 1) (by omega)
    have hw : wrap64 (((8 * i : Nat) : Int) + 8) = ((8 * (i + 1) : Nat) : Int) := by unfold wrap64; omega
    have hch : (code.take ((8 * (i + 1) : Nat) : Int).toNat).drop ((8 * i : Nat) : Int).toNat = chunk8 code i := by rw [Int.toNat_natCast, Int.toNat_natCast]; rfl
    obtain ⟨hl, hbb⟩ := chunk_ok (code := code) (n := i) (by omega) hb
    have hdS := decS hl hbb
    have hdI := decI hl hbb
    cases hbad : badOf (chunk8 code i)
    · rw [hbad, if_neg (by decide)] at hdI
      refine ⟨v, Ev.succ ?_, Ev.succ ?_, fun hv j h1 h2 => ?_⟩
      · simp only [spec_ImageFault.l0]
        rw [hw, hch]
        refine Ev.pos (by omega) (Ev.pos (by omega) (Ev.pos (by omega) (Ev.pos (by omega) (Ev.bind hdS (Ev.eq_bind (a := false) ?_ (Ev.neg (by decide) hS))))))
        show some (badOf (chunk8 code i)) = _
        rw [hbad]
      · simp only [impl_ImageFault.l0]
        rw [hw, hch]
        exact Ev.pos (by omega) (Ev.pos (by omega) (Ev.pos (by omega) (Ev.pos (by omega) (Ev.bind hdI (Ev.pos rfl hI)))))
      · rcases Nat.lt_or_ge i j with h3 | h3
        · exact hG hv j h3 h2
        · obtain rfl : j = i := by omega
          exact hbad
    · rw [hbad, if_pos rfl] at hdI
      refine ⟨2, Ev.succ ?_, Ev.succ ?_, fun hv => by cases hv⟩
      · simp only [spec_ImageFault.l0]
        rw [hw, hch]
        refine Ev.pos (by omega) (Ev.pos (by omega) (Ev.pos (by omega) (Ev.pos (by omega) (Ev.bind hdS (Ev.eq_bind (a := true) ?_ (Ev.pos rfl (Ev.now _)))))))
        show some (badOf (chunk8 code i)) = _
        rw [hbad]
      · simp only [impl_ImageFault.l0]
        rw [hw, hch]
        exact Ev.pos (by omega) (Ev.pos (by omega) (Ev.pos (by omega) (Ev.pos (by omega) (Ev.bind hdI (Ev.neg (by decide) (Ev.now _))))))
theorem image_f (hp : params.length ≤ 1048576) (hc : code.length ≤ 1048576) (hb : byteL code) : ∃ v, Ev (fun k => spec_ImageFault.f k code data entry params res syms) v ∧ Ev (fun k => impl_ImageFault.f k code data entry params res syms) v ∧ (v = 0 → code.length % 8 = 0 ∧ ∀ j, j < code.length / 8 → badOf (chunk8 code j) = false) := by
  have one : Ev (fun k => spec_ImageFault.j0 k true code data entry params res syms) 1 ∧ Ev (fun k => impl_ImageFault.j0 k true code data entry params res syms) 1 := by
    refine ⟨Ev.succ ?_, Ev.succ ?_⟩
    · simp only [spec_ImageFault.j0]; exact Ev.pos trivial (Ev.now _)
    · simp only [impl_ImageFault.j0]; exact Ev.pos trivial (Ev.now _)
  unfold spec_ImageFault.f impl_ImageFault.f
  by_cases c0 : code.length = 0
  · refine ⟨1, Ev.pos (by omega) (Ev.pos (by omega) one.1), Ev.pos (by omega) one.2, fun h => by cases h⟩
  by_cases c8 : code.length % 8 = 0
  · obtain ⟨v, hS, hI, hG⟩ := chunks_f code data entry params res syms hp hc c8 hb (code.length / 8) 0 rfl
    have e : decide ((code.length : Int) > 4194304) = false := decide_eq_false (by omega)
    refine ⟨v, Ev.pos (by omega) (Ev.neg (by omega) ?_), Ev.neg (by omega) (Ev.pos (by omega) ?_), fun hv => ⟨c8, fun j hj => hG hv j (Nat.zero_le _) hj⟩⟩
    · rw [e]
      refine Ev.succ ?_
      simp only [spec_ImageFault.j0]
      exact Ev.neg (by decide) hS
    · rw [e]
      refine Ev.succ ?_
      simp only [impl_ImageFault.j0]
      exact Ev.neg (by decide) hI
  · exact ⟨1, Ev.neg (by omega) one.1, Ev.neg (by omega) (Ev.neg (by omega) one.2), fun h => by cases h⟩
end
theorem bs_self (t : ByteArray) : bsOf t.data.toList = t := by
  apply ByteArray.ext
  simp [bsOf]
def linesTo (code : List Int) (syms : List S109) : Nat → List UInt8
  | 0 => []
  | n + 1 => linesTo code syms n ++ disLine syms n (true, decOf (chunk8 code n))
section
variable {code data : List Int} {entry : Int} {params : List Int} {res : Int} {syms : List S109}
theorem disTo_f (hb : byteL code) (hG : ∀ j, j < code.length / 8 → badOf (chunk8 code j) = false) : ∀ n, n ≤ code.length / 8 → Ev (fun k => disTo (impl_DecodeIns.f k) code syms n) (linesTo code syms n)
  | 0, _ => Ev.now _
  | n + 1, h => by
    have ih := disTo_f hb hG n (by omega)
    obtain ⟨hl, hbb⟩ := chunk_ok (code := code) (n := n) (by omega) hb
    have hd := decI hl hbb
    rw [hG n (by omega), if_neg (by decide)] at hd
    simp only [disTo, linesTo]
    exact Ev.bind ih (Ev.bind hd (Ev.pos (dec_r64 hl hbb) (Ev.now _)))
theorem lines_len (hb : byteL code) (hc : code.length ≤ 1048576) (hG : ∀ j, j < code.length / 8 → badOf (chunk8 code j) = false) (hs : symSum syms ≤ 4194304) (n : Nat) (hn : n ≤ code.length / 8) : (linesTo code syms n).length ≤ n * 4194500 := by
  obtain ⟨K, hK⟩ := disTo_f (syms := syms) hb hG n hn
  exact disTo_len hs n _ (by omega) (hK K (Nat.le_refl _))
theorem disS_f (hb : byteL code) (hc : code.length ≤ 1048576) (hG : ∀ j, j < code.length / 8 → badOf (chunk8 code j) = false) (hs : symSum syms ≤ 4194304) :
    Ev (fun k => spec_Disassemble.l0 k ([] : List Int) 0 code data entry params res syms) (bsOf (linesTo code syms (code.length / 8))) := by
  have hN : wrap64 ((code.length : Int) / 8) = ((code.length / 8 : Nat) : Int) := by unfold wrap64; omega
  refine for_gen (bsOf (linesTo code syms (code.length / 8))) (code.length / 8) (fun k n => spec_Disassemble.l0 k (numsB (linesTo code syms n.toNat)) n code data entry params res syms) (fun n hn h => ?_) ?_
  · refine Ev.succ ?_
    simp only [spec_Disassemble.l0]
    rw [hN]
    refine Ev.pos (by omega) ?_
    have hacc := lines_len (syms := syms) hb hc hG hs n (by omega)
    rw [Int.toNat_natCast]
    have hsyl := symSum_len syms
    have inner := for_gen (bsOf (linesTo code syms (code.length / 8))) syms.length (fun k m => spec_Disassemble.l1 k (numsB (linesTo code syms n ++ symLine (syms.take m.toNat) n)) n m code data entry params res syms) (fun m hm h2 => ?_) ?_
    · have e0 : linesTo code syms n ++ symLine (syms.take (0 : Int).toNat) n = linesTo code syms n := by rw [show symLine (syms.take (0 : Int).toNat) n = [] from rfl, List.append_nil]
      rw [e0] at inner
      exact inner
    · refine Ev.succ ?_
      simp only [spec_Disassemble.l1]
      have e1 : rd_T109 syms (m : Int) = syms[m] := by simp [rd_T109, List.getElem?_eq_getElem hm]
      have hsl := symLine_len n (syms.take m)
      have hst := symSum_take m syms
      have hsa := symSum_at syms m hm
      have hsu := symLine_succ syms n m hm
      rw [wrap64_nat (by omega), e1, Int.toNat_natCast]
      rw [Int.toNat_natCast, hsu] at h2
      refine Ev.pos (by omega) (Ev.pos (by omega) ?_)
      by_cases k1 : syms[m].f1 = true
      · refine Ev.pos k1 ?_
        by_cases k2 : syms[m].f2 = (n : Int)
        · rw [if_pos ⟨k1, k2⟩] at h2
          have hz : (syms[m].f0 ++ (⟨#[58, 10]⟩ : ByteArray)).size = syms[m].f0.size + 2 := by rw [ByteArray.size_append]; rfl
          have hy : syms[m].f0 ++ (⟨#[58, 10]⟩ : ByteArray) = bsOf (syms[m].f0.data.toList ++ [58, 10]) := by rw [← bsOf_append, bs_self]; rfl
          refine Ev.pos k2 (Ev.pos (by omega) (Ev.pos (by rw [hz, numsB_len, List.length_append]; omega) ?_))
          rw [hy, bytesOf_bsOf, numsB_append, List.append_assoc]
          exact h2
        · rw [if_neg (fun h => k2 h.2), List.append_nil] at h2
          exact Ev.neg k2 h2
      · rw [if_neg (fun h => k1 h.1), List.append_nil] at h2
        exact Ev.neg k1 h2
    · refine Ev.succ ?_
      simp only [spec_Disassemble.l1]
      rw [Int.toNat_natCast, List.take_of_length_le (Nat.le_refl _)]
      have hw1 : wrap64 (8 * (n : Int)) = ((8 * n : Nat) : Int) := by unfold wrap64; omega
      have hw2 : wrap64 (((8 * n : Nat) : Int) + 8) = ((8 * n + 8 : Nat) : Int) := by unfold wrap64; omega
      have hch : (code.take ((8 * n + 8 : Nat) : Int).toNat).drop ((8 * n : Nat) : Int).toNat = chunk8 code n := by rw [Int.toNat_natCast, Int.toNat_natCast]; rfl
      obtain ⟨hl, hbb⟩ := chunk_ok (code := code) (n := n) (by omega) hb
      have hdS := decS hl hbb
      have hsl := symLine_len n syms
      obtain ⟨r1, r2, r3, r4, r5⟩ := dec_r64 hl hbb
      rw [hw1, hw2, hch]
      refine Ev.neg (by omega) (Ev.pos (by omega) (Ev.pos (by omega) (Ev.pos (by omega) (Ev.bind hdS ?_))))
      rw [Int.toNat_natCast] at h
      simp only [linesTo, disLine] at h
      generalize decOf (chunk8 code n) = t at h r1 r2 r3 r4 r5
      obtain ⟨t1, t2, t3, t4, t5⟩ := t
      have r0 : r64 (n : Int) := ⟨by omega, by omega⟩
      obtain ⟨q0, hq0⟩ : ∃ q, q = bsOf (Lib.itoa (n : Int)) := ⟨_, rfl⟩
      obtain ⟨q1, hq1⟩ : ∃ q, q = bsOf (Lib.itoa t1) := ⟨_, rfl⟩
      obtain ⟨q2, hq2⟩ : ∃ q, q = bsOf (Lib.itoa t2) := ⟨_, rfl⟩
      obtain ⟨q3, hq3⟩ : ∃ q, q = bsOf (Lib.itoa t3) := ⟨_, rfl⟩
      obtain ⟨q4, hq4⟩ : ∃ q, q = bsOf (Lib.itoa t4) := ⟨_, rfl⟩
      obtain ⟨q5, hq5⟩ : ∃ q, q = bsOf (Lib.itoa t5) := ⟨_, rfl⟩
      have z0 : q0.size ≤ 21 := by rw [hq0, bsOf_size]; exact itoa_len64 r0
      have z1 : q1.size ≤ 21 := by rw [hq1, bsOf_size]; exact itoa_len64 r1
      have z2 : q2.size ≤ 21 := by rw [hq2, bsOf_size]; exact itoa_len64 r2
      have z3 : q3.size ≤ 21 := by rw [hq3, bsOf_size]; exact itoa_len64 r3
      have z4 : q4.size ≤ 21 := by rw [hq4, bsOf_size]; exact itoa_len64 r4
      have z5 : q5.size ≤ 21 := by rw [hq5, bsOf_size]; exact itoa_len64 r5
      have e0 := l3Int_f r0.1 r0.2
      have e1 := l3Int_f (n := t1) r1.1 r1.2
      have e2 := l3Int_f (n := t2) r2.1 r2.2
      have e3 := l3Int_f (n := t3) r3.1 r3.2
      have e4 := l3Int_f (n := t4) r4.1 r4.2
      have e5 := l3Int_f (n := t5) r5.1 r5.2
      rw [← hq0] at e0
      rw [← hq1] at e1
      rw [← hq2] at e2
      rw [← hq3] at e3
      rw [← hq4] at e4
      rw [← hq5] at e5
      have zs : (⟨#[32]⟩ : ByteArray).size = 1 := rfl
      have zn : (⟨#[10]⟩ : ByteArray).size = 1 := rfl
      refine Ev.bind e0 (Ev.pos (by omega) (Ev.bind e1 ?_))
      refine Ev.pos (by simp only [ByteArray.size_append]; omega) (Ev.pos (by simp only [ByteArray.size_append]; omega) (Ev.bind e2 ?_))
      refine Ev.pos (by simp only [ByteArray.size_append]; omega) (Ev.pos (by simp only [ByteArray.size_append]; omega) (Ev.bind e3 ?_))
      refine Ev.pos (by simp only [ByteArray.size_append]; omega) (Ev.pos (by simp only [ByteArray.size_append]; omega) (Ev.bind e4 ?_))
      refine Ev.pos (by simp only [ByteArray.size_append]; omega) (Ev.pos (by simp only [ByteArray.size_append]; omega) (Ev.bind e5 ?_))
      refine Ev.pos (by simp only [ByteArray.size_append]; omega) (Ev.pos (by simp only [ByteArray.size_append]; omega) (Ev.pos (by simp only [ByteArray.size_append, numsB_len, List.length_append]; omega) ?_))
      rw [wrap64_nat (by omega), hq0, hq1, hq2, hq3, hq4, hq5, show (⟨#[32]⟩ : ByteArray) = bsOf [32] from rfl, show (⟨#[10]⟩ : ByteArray) = bsOf [10] from rfl]
      simp only [bsOf_append]
      rw [bytesOf_bsOf, numsB_append]
      have ee : linesTo code syms n ++ symLine syms n ++ ((((((((((((Lib.itoa (n : Int) ++ [32]) ++ Lib.itoa t1) ++ [32]) ++ Lib.itoa t2) ++ [32]) ++ Lib.itoa t3) ++ [32]) ++ Lib.itoa t4) ++ [32]) ++ Lib.itoa t5) ++ [10])) = linesTo code syms n ++ (symLine syms n ++ Lib.itoa n ++ numsLine [t1, t2, t3, t4, t5] ++ [10]) := by
        unfold numsLine
        simp only [List.flatMap_cons, List.flatMap_nil, List.append_nil, List.append_assoc]
      rw [ee]
      exact h
  · refine Ev.succ ?_
    simp only [spec_Disassemble.l0]
    rw [hN]
    refine Ev.neg (by omega) (Ev.some ?_)
    rw [Int.toNat_natCast, strOf_numsB]
end
theorem symSum_copy (l : List S135) : symSum (l.map iImageSymbol) ≤ 2 * sImageSymbolS l := by
  induction l with
  | nil => exact Nat.le_refl _
  | cons x l ih =>
    unfold symSum sImageSymbolS at ih ⊢
    simp only [List.map_cons, List.sum_cons, List.length_cons] at ih ⊢
    have : (iImageSymbol x).f0.size = sImageSymbol x := rfl
    omega
theorem FnExactDisassemble : ∀ (l0_0 : List Int) (l0_1 : List Int) (a0_2 : Int) (l0_3 : List Int) (a0_4 : Int) (l0_5 : List S135), (l0_0.length ≤ 9223372036854775807 ∧ ∀ y ∈ l0_0, (Lit.int .u8 y).wf = true) → (l0_1.length ≤ 9223372036854775807 ∧ ∀ y ∈ l0_1, (Lit.int .u8 y).wf = true) → (Lit.int .i64 a0_2).wf = true → (l0_3.length ≤ 9223372036854775807 ∧ ∀ y ∈ l0_3, (Lit.int .i64 y).wf = true) → (Lit.int .i64 a0_4).wf = true → (l0_5.length ≤ 9223372036854775807 ∧ ∀ y ∈ l0_5, ok135 y) → ∃ k, laws_FnExactDisassemble.f k l0_0 l0_1 a0_2 l0_3 a0_4 l0_5 = some true := by
  intro code data entry params res syms hcode hdata _ hparams _ hsyms
  refine Ev.rounds ?_
  unfold laws_FnExactDisassemble.f
  have hb : byteL code := fun y hy => bounds_u8 (hcode.2 y hy)
  have hlI : lImage code data entry params res syms := ⟨hcode.1, hdata.1, hparams.1, hsyms.1, fun x hx => by have h1 := hsyms.2 x hx; unfold ok135 at h1; exact h1.1⟩
  refine Ev.bind (szImage_f code data entry params res syms 1048576 (by omega) (by omega) hlI) ?_
  by_cases hs : ((sImage code data entry params res syms : Nat) : Int) ≤ 1048576
  · rw [if_pos hs]
    refine Ev.neg (by omega) ?_
    have hs' : sImage code data entry params res syms ≤ 1048576 := by omega
    have ht := toImage_f code data entry params res syms hs'
    have hE := eqImage_f _ _ entry _ res _ (bImage_of code data entry params res syms hs')
    have hs2 := hs'
    unfold sImage at hs2
    have hsum := symSum_copy syms
    obtain ⟨v, hS, hI, hG⟩ := image_f code data entry params res (syms.map iImageSymbol) (by omega) (by omega) hb
    obtain ⟨r, hrS, hrI⟩ : ∃ r, Ev (fun k => spec_Disassemble.f k code data entry params res (syms.map iImageSymbol)) r ∧ Ev (fun k => impl_Disassemble.f k code data entry params res (syms.map iImageSymbol)) r := by
      unfold spec_Disassemble.f impl_Disassemble.f
      by_cases hv : v = 0
      · obtain ⟨h8, hGood⟩ := hG hv
        refine ⟨bsOf (linesTo code (syms.map iImageSymbol) (code.length / 8)), Ev.bind hS (Ev.pos hv (disS_f hb (by omega) hGood (by omega))), Ev.bind hI (Ev.pos hv (Ev.pos ⟨by omega, by omega⟩ (Ev.bind (disTo_f hb hGood _ (Nat.le_refl _)) (Ev.now _))))⟩
      · exact ⟨⟨#[]⟩, Ev.bind hS (Ev.neg hv (Ev.now _)), Ev.bind hI (Ev.neg hv (Ev.now _))⟩
    exact Ev.bind ht (Ev.bind hrS (Ev.bind ht (Ev.bind hrI (Ev.pos rfl (Ev.bind ht (Ev.bind hE (Ev.pos rfl (Ev.now _))))))))
  · rw [if_neg hs]
    exact Ev.pos (by omega) (Ev.now _)
end Go.Proofs.YtkohjiajbdkcbaaDoor.Pure


/- From the row's list of package-level variables to the facts of Laid. -/
namespace Go.Proofs.YtkohjiajbdkcbaaDoor.All
open Go.RowKit Go.Proofs.YtkohjiajbdkcbaaDoorW.PrintWords Go.Proofs.YtkohjiajbdkcbaaDoorW.PrintLast Go.Proofs.YtkohjiajbdkcbaaDoorW.PrintMore
set_option linter.unusedVariables false
set_option linter.unusedSimpArgs false
theorem var_kept {P : Program} {W w' : World} {n : String} {cs : Array Value} (h : W.var? P n = some cs) (hb : Below W.heap.size W w') : w'.var? P n = some cs := by
  unfold World.var? at h ⊢
  cases hg : P.globalNamed n with
  | none => rw [hg] at h; cases h
  | some g =>
    rw [hg] at h
    simp only [Option.bind_some] at h ⊢
    have hl : g < W.heap.size := by
      rcases Nat.lt_or_ge g W.heap.size with hl | hl
      · exact hl
      · rw [Array.getElem?_eq_none hl] at h; cases h
    rw [hb.block g hl]
    exact h
theorem ltTab_of {W : World} {x y : String × DataW Unit} {r : List (String × DataW Unit)} (h : laidMet Tryd.prog (x :: y :: ("internal/strconv.uint64pow10", Lib.tabData .u64 Lib.pow10Tab) :: r) W) : LtTab W := fun w' hb => by
  have h2 := Lib.tabIs_of_head (g := 0) (t := 171) (e := 22) (n := 20) (by kernel_rfl) (by kernel_rfl) Tryd.underlying171 Tryd.underlying22 (by kernel_rfl) (by kernel_rfl) h.tail.tail
  exact var_kept h2 hb
end Go.Proofs.YtkohjiajbdkcbaaDoor.All

