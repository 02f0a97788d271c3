/- Part 2 of the proof of FnExactFormatOutcome: functions of the translation with what they return, and plain laws of these. Written by programs of this session over the kit's print, and by hand. -/
import Derived.Test.YtkohjiajbdkcbaaDoorProg
import Derived.Test.YtkohjiajbdkcbaaDoorCFnExactFormatOutcomeWApart
import Derived.Test.YtkohjiajbdkcbaaDoorCFnExactFormatOutcomeWArr
import Derived.Test.YtkohjiajbdkcbaaDoorCFnExactFormatOutcomeWFoot
import Derived.Test.YtkohjiajbdkcbaaDoorCFnExactFormatOutcomeWKept
import Derived.Test.YtkohjiajbdkcbaaDoorCFnExactFormatOutcomeWLast
import Derived.Test.YtkohjiajbdkcbaaDoorCFnExactFormatOutcomeWMore
import Derived.Test.YtkohjiajbdkcbaaDoorCFnExactFormatOutcomeWN
import Derived.Test.YtkohjiajbdkcbaaDoorCFnExactFormatOutcomeWNEv
import Derived.Test.YtkohjiajbdkcbaaDoorCFnExactFormatOutcomeWQPut
import Derived.Test.YtkohjiajbdkcbaaDoorCFnExactFormatOutcomeWRepsOne
import Derived.Test.YtkohjiajbdkcbaaDoorCFnExactFormatOutcomeWShare
import Derived.Test.YtkohjiajbdkcbaaDoorCFnExactFormatOutcomeWTab
import Derived.Test.YtkohjiajbdkcbaaDoorCFnExactFormatOutcomeWWords
import Derived.Test.YtkohjiajbdkcbaaDoorCFnExactFormatOutcomeWZeros
import Derived.Below
import Derived.Deep.Draws
import Derived.Deep.AppendLies
import Derived.Maps.AppendAt
import Derived.OwnWalk
import Derived.Laws.BytesArg
import Derived.Laws.MakeOwn
import Derived.Laws.OwnMore
import Derived.Deep.OwnRows
import Derived.Tactics
import Derived.Lib.ConvBytes
import Derived.Laws.Slices
import Derived.WalkKit
import Derived.KernelRfl
import Derived.RowKit3
import Derived.Deep.LoopGhost
import Derived.Deep.QuietTactic
import Derived.BigQuiet
import Derived.WideLaws
import Derived.Deep.DeepCutAuto
import Derived.Deep.CutBlock
import Derived.Deep.RegionHeld3
import Derived.Laws.Rows
import Derived.Lib.AppendStr
import Derived.ArgAppend
import Derived.Laws.IdiomCopy
import Derived.OrdersHeld
import Derived.Laws.BitsLemmas
import Derived.RowKit
import Derived.Lib.LaidTab
import Derived.Lib.ItoaNum
import Derived.Sort.Grow
import Derived.Lib.ItoaLen
import Derived.Shelf.Strings.Builder1
import Derived.Lib.Builder
import Derived.Shelf.LaysM
import Derived.Shelf.LaysC
import Derived.Shelf.Strconv.Itoa4
import Derived.Shelf.Strconv.Itoa1
import Derived.Laws.BitsAllLaws
import Derived.Lib.ParseIntBCases
import Derived.Deep.Slices
import Derived.ChangeArms
import Derived.OpenShut
import Derived.Stop.LaidErr
import Derived.LaidMore
import Derived.ProofKit
import Derived.ShutString
import Derived.ChangeOld
import Derived.SizedLaws
import Derived.Deep.DeepHandedRow
import Derived.Deep.DeepWitnessRowRef
import Derived.SevenTiedAt
import Derived.Test.YtkohjiajbdkcbaaDoorCFnExactFormatOutcome1
namespace Go.Proofs.YtkohjiajbdkcbaaDoor.All
open Go.RowKit Go.Proofs.YtkohjiajbdkcbaaDoorW.PrintWords Go.Proofs.YtkohjiajbdkcbaaDoorW.PrintLast Go.Proofs.YtkohjiajbdkcbaaDoorW.PrintMore
attribute [local go_sem] max2_int min2_int max_two min_two max_three min_three max_four min_four   -- for this text's walks alone
set_option linter.unusedVariables false
set_option linter.unusedSimpArgs false

/-! ### laws_eqValue: function 42 -/
def laws_eqValue.f (a0_0 : Bool) (a0_1 : Int) (a0_2 : Int) (a1_0 : Bool) (a1_1 : Int) (a1_2 : Int) : Option (Bool) := if (a0_0 != a1_0) = true then (some false) else (if a0_1 = a1_1 then (if a0_2 = a1_2 then (some true) else (some false)) else (some false))
set_option maxHeartbeats 8000000 in
set_option maxRecDepth 100000 in
theorem laws_eqValue.calls (a0_0 : Bool) (a0_1 : Int) (a0_2 : Int) (a1_0 : Bool) (a1_1 : Int) (a1_2 : Int) (r : Bool) (w : World) (h : laws_eqValue.f a0_0 a0_1 a0_2 a1_0 a1_1 a1_2 = some r) :
 Calls Tryd.prog 42 #[.agg #[.bool a0_0, .int .i64 a0_1, .int .u64 a0_2], .agg #[.bool a1_0, .int .i64 a1_1, .int .u64 a1_2]] w fun e w' => e = .returned (.bool r) ∧ Below w.heap.size w w' := by
 have hu30 := Tryd.underlying30
 have HB := Aside0.mk (Below.refl w.heap.size w)
 have H : (if (a0_0 != a1_0) = true then (some false) else (if a0_1 = a1_1 then (if a0_2 = a1_2 then (some true) else (some false)) else (some false))) = some r := h
 clear h
 by_cases c3 : (a0_0 != a1_0) = true
 · rw [if_pos c3] at H
   have c3b0 : (a0_0 != a1_0) = true := c3
   (try (have c3b1 : decide (a0_0 = a1_0) = false := by simpa using c3))
   (try (have c3b2 : (a0_0 == a1_0) = false := by simpa using c3))
   (try (have c3b3 : ¬ (a0_0 = a1_0) := by simpa using c3))
   clear c3
   obtain rfl := Option.some.inj H
   go_enter Tryd.func42, Tryd.ntmps42
   go_wp2_with (first | ((with_reducible refine gate_dst (N := 2) rfl ?_); refine box_event ?hg (N := 2) ?hd (cs := #[.bool a0_0, .int .i64 a0_1, .int .u64 a0_2]) (t := 30) ?hr ?_; (case hd => rfl); (case hg => rfl); (case hr => first | (go_simp; done) | (go_simp; rfl)); intro gb647 hg w4 hbox hb; have n0_ := Aside0.mk (below_step (by repeat (first | (with_reducible first | exact HB.out | apply below_alloc | apply pw_below_drewN | apply below_drew1) | exact HB.out)) hb); have n1_ := Aside0.mk (hbox); have n2_ := Aside0.mk ((by rw [hg]; exact (below_size (by repeat (first | (with_reducible first | exact HB.out | apply below_alloc | apply pw_below_drewN | apply below_drew1) | exact HB.out))) : w.heap.size ≤ gb647)); have n3_ := Aside0.mk ((by rw [hg]; exact (below_size (by repeat (first | (with_reducible first | exact HB.out | apply below_alloc | apply pw_below_drewN | apply below_drew1) | exact HB.out))) : w.heap.size ≤ gb647)); clear HB; have HB := n0_; have BK647 := n1_; have GW647 := n2_; have GE647 := n3_; clear n0_ n1_ n2_ n3_; clear hb hbox hg) | ((with_reducible refine gate_dst (N := 3) rfl ?_); refine box_event ?hg (N := 3) ?hd (cs := #[.bool a1_0, .int .i64 a1_1, .int .u64 a1_2]) (t := 30) ?hr ?_; (case hd => rfl); (case hg => rfl); (case hr => first | (go_simp; done) | (go_simp; rfl)); intro gb648 hg w5 hbox hb; have n0_ := Aside0.mk (blk_below (g := gb647) (o := .cells #[.bool a0_0, .int .i64 a0_1, .int .u64 a0_2] 30 (0, 0)) (by (with_reducible repeat (first | refine blk_drewN ?_ _ | refine blk_drew ?_ | refine blk_alloc ?_ _)); exact BK647.out) hb); have n1_ := Aside0.mk (below_step (by repeat (first | (with_reducible first | exact HB.out | apply below_alloc | apply pw_below_drewN | apply below_drew1 | refine below_set ?_ GE647.out) | exact HB.out)) hb); have n2_ := Aside0.mk (hbox); have n3_ := Aside0.mk ((by rw [hg]; exact (below_size (by repeat (first | (with_reducible first | exact HB.out | apply below_alloc | apply pw_below_drewN | apply below_drew1 | refine below_set ?_ GE647.out) | exact HB.out))) : w.heap.size ≤ gb648)); have n4_ := Aside0.mk ((by rw [hg]; exact (below_size (by repeat (first | (with_reducible first | exact HB.out | apply below_alloc | apply pw_below_drewN | apply below_drew1 | refine below_set ?_ GE647.out) | exact HB.out))) : w.heap.size ≤ gb648)); have n5_ := Aside0.mk ((by rw [hg]; exact Nat.ne_of_lt (blk_lt (g := gb647) (o := .cells #[.bool a0_0, .int .i64 a0_1, .int .u64 a0_2] 30 (0, 0)) (by (with_reducible repeat (first | refine blk_drewN ?_ _ | refine blk_drew ?_ | refine blk_alloc ?_ _)); exact BK647.out)) : gb647 ≠ gb648)); have n6_ := Aside0.mk ((by rw [hg]; exact Nat.ne_of_gt (blk_lt (g := gb647) (o := .cells #[.bool a0_0, .int .i64 a0_1, .int .u64 a0_2] 30 (0, 0)) (by (with_reducible repeat (first | refine blk_drewN ?_ _ | refine blk_drew ?_ | refine blk_alloc ?_ _)); exact BK647.out)) : gb648 ≠ gb647)); clear BK647; clear HB; have BK647 := n0_; have HB := n1_; have BK648 := n2_; have GW648 := n3_; have GE648 := n4_; have NB647_648 := n5_; have NB648_647 := n6_; clear n0_ n1_ n2_ n3_ n4_ n5_ n6_; clear hb hbox hg; have hnb6 := NB647_648.out; have hnc6 := NB648_647.out; have hcz7_0 : w5.cell? ⟨gb647, 0, none⟩ = some (.bool a0_0) := (blk_cell BK647.out 0).trans rfl; have hcz7_1 : w5.cell? ⟨gb647, 1, none⟩ = some (.int .i64 a0_1) := (blk_cell BK647.out 1).trans rfl; have hcz7_2 : w5.cell? ⟨gb647, 2, none⟩ = some (.int .u64 a0_2) := (blk_cell BK647.out 2).trans rfl; have hfz7_0 := blk_frozen BK647.out 0; have hfz7_1 := blk_frozen BK647.out 1; have hfz7_2 := blk_frozen BK647.out 2; have hcz8_0 : w5.cell? ⟨gb648, 0, none⟩ = some (.bool a1_0) := (blk_cell BK648.out 0).trans rfl; have hcz8_1 : w5.cell? ⟨gb648, 1, none⟩ = some (.int .i64 a1_1) := (blk_cell BK648.out 1).trans rfl; have hcz8_2 : w5.cell? ⟨gb648, 2, none⟩ = some (.int .u64 a1_2) := (blk_cell BK648.out 2).trans rfl; have hfz8_0 := blk_frozen BK648.out 0; have hfz8_1 := blk_frozen BK648.out 1; have hfz8_2 := blk_frozen BK648.out 2))
   go_ret
   exact ⟨by first | rfl | (simp [errW_none, errW_some] <;> rfl) | (simp [*, errW_none, errW_some] <;> rfl), by repeat (first | (with_reducible first | exact HB.out | apply below_alloc | apply pw_below_drewN | apply below_drew1 | refine below_set ?_ GE647.out | refine below_set ?_ GE648.out) | exact HB.out)⟩
 · rw [if_neg c3] at H
   have c3b0 : (a0_0 != a1_0) = false := by simpa using c3
   (try (have c3b1 : decide (a0_0 = a1_0) = true := by simpa using c3))
   (try (have c3b2 : (a0_0 == a1_0) = true := by simpa using c3))
   clear c3
   by_cases c9 : a0_1 = a1_1
   · rw [if_pos c9] at H
     have c9b0 : (a0_1 == a1_1) = true := beq_iff_eq.mpr c9
     have c9b1 : (a0_1 != a1_1) = false := bne_eq_false_iff_eq.mpr c9
     clear c9
     by_cases c10 : a0_2 = a1_2
     · rw [if_pos c10] at H
       have c10b0 : (a0_2 == a1_2) = true := beq_iff_eq.mpr c10
       have c10b1 : (a0_2 != a1_2) = false := bne_eq_false_iff_eq.mpr c10
       clear c10
       obtain rfl := Option.some.inj H
       go_enter Tryd.func42, Tryd.ntmps42
       go_wp2_with (first | ((with_reducible refine gate_dst (N := 2) rfl ?_); refine box_event ?hg (N := 2) ?hd (cs := #[.bool a0_0, .int .i64 a0_1, .int .u64 a0_2]) (t := 30) ?hr ?_; (case hd => rfl); (case hg => rfl); (case hr => first | (go_simp; done) | (go_simp; rfl)); intro gb647 hg w11 hbox hb; have n0_ := Aside0.mk (below_step (by repeat (first | (with_reducible first | exact HB.out | apply below_alloc | apply pw_below_drewN | apply below_drew1) | exact HB.out)) hb); have n1_ := Aside0.mk (hbox); have n2_ := Aside0.mk ((by rw [hg]; exact (below_size (by repeat (first | (with_reducible first | exact HB.out | apply below_alloc | apply pw_below_drewN | apply below_drew1) | exact HB.out))) : w.heap.size ≤ gb647)); have n3_ := Aside0.mk ((by rw [hg]; exact (below_size (by repeat (first | (with_reducible first | exact HB.out | apply below_alloc | apply pw_below_drewN | apply below_drew1) | exact HB.out))) : w.heap.size ≤ gb647)); clear HB; have HB := n0_; have BK647 := n1_; have GW647 := n2_; have GE647 := n3_; clear n0_ n1_ n2_ n3_; clear hb hbox hg) | ((with_reducible refine gate_dst (N := 3) rfl ?_); refine box_event ?hg (N := 3) ?hd (cs := #[.bool a1_0, .int .i64 a1_1, .int .u64 a1_2]) (t := 30) ?hr ?_; (case hd => rfl); (case hg => rfl); (case hr => first | (go_simp; done) | (go_simp; rfl)); intro gb648 hg w12 hbox hb; have n0_ := Aside0.mk (blk_below (g := gb647) (o := .cells #[.bool a0_0, .int .i64 a0_1, .int .u64 a0_2] 30 (0, 0)) (by (with_reducible repeat (first | refine blk_drewN ?_ _ | refine blk_drew ?_ | refine blk_alloc ?_ _)); exact BK647.out) hb); have n1_ := Aside0.mk (below_step (by repeat (first | (with_reducible first | exact HB.out | apply below_alloc | apply pw_below_drewN | apply below_drew1 | refine below_set ?_ GE647.out) | exact HB.out)) hb); have n2_ := Aside0.mk (hbox); have n3_ := Aside0.mk ((by rw [hg]; exact (below_size (by repeat (first | (with_reducible first | exact HB.out | apply below_alloc | apply pw_below_drewN | apply below_drew1 | refine below_set ?_ GE647.out) | exact HB.out))) : w.heap.size ≤ gb648)); have n4_ := Aside0.mk ((by rw [hg]; exact (below_size (by repeat (first | (with_reducible first | exact HB.out | apply below_alloc | apply pw_below_drewN | apply below_drew1 | refine below_set ?_ GE647.out) | exact HB.out))) : w.heap.size ≤ gb648)); have n5_ := Aside0.mk ((by rw [hg]; exact Nat.ne_of_lt (blk_lt (g := gb647) (o := .cells #[.bool a0_0, .int .i64 a0_1, .int .u64 a0_2] 30 (0, 0)) (by (with_reducible repeat (first | refine blk_drewN ?_ _ | refine blk_drew ?_ | refine blk_alloc ?_ _)); exact BK647.out)) : gb647 ≠ gb648)); have n6_ := Aside0.mk ((by rw [hg]; exact Nat.ne_of_gt (blk_lt (g := gb647) (o := .cells #[.bool a0_0, .int .i64 a0_1, .int .u64 a0_2] 30 (0, 0)) (by (with_reducible repeat (first | refine blk_drewN ?_ _ | refine blk_drew ?_ | refine blk_alloc ?_ _)); exact BK647.out)) : gb648 ≠ gb647)); clear BK647; clear HB; have BK647 := n0_; have HB := n1_; have BK648 := n2_; have GW648 := n3_; have GE648 := n4_; have NB647_648 := n5_; have NB648_647 := n6_; clear n0_ n1_ n2_ n3_ n4_ n5_ n6_; clear hb hbox hg; have hnb13 := NB647_648.out; have hnc13 := NB648_647.out; have hcz14_0 : w12.cell? ⟨gb647, 0, none⟩ = some (.bool a0_0) := (blk_cell BK647.out 0).trans rfl; have hcz14_1 : w12.cell? ⟨gb647, 1, none⟩ = some (.int .i64 a0_1) := (blk_cell BK647.out 1).trans rfl; have hcz14_2 : w12.cell? ⟨gb647, 2, none⟩ = some (.int .u64 a0_2) := (blk_cell BK647.out 2).trans rfl; have hfz14_0 := blk_frozen BK647.out 0; have hfz14_1 := blk_frozen BK647.out 1; have hfz14_2 := blk_frozen BK647.out 2; have hcz15_0 : w12.cell? ⟨gb648, 0, none⟩ = some (.bool a1_0) := (blk_cell BK648.out 0).trans rfl; have hcz15_1 : w12.cell? ⟨gb648, 1, none⟩ = some (.int .i64 a1_1) := (blk_cell BK648.out 1).trans rfl; have hcz15_2 : w12.cell? ⟨gb648, 2, none⟩ = some (.int .u64 a1_2) := (blk_cell BK648.out 2).trans rfl; have hfz15_0 := blk_frozen BK648.out 0; have hfz15_1 := blk_frozen BK648.out 1; have hfz15_2 := blk_frozen BK648.out 2))
       go_ret
       exact ⟨by first | rfl | (simp [errW_none, errW_some] <;> rfl) | (simp [*, errW_none, errW_some] <;> rfl), by repeat (first | (with_reducible first | exact HB.out | apply below_alloc | apply pw_below_drewN | apply below_drew1 | refine below_set ?_ GE647.out | refine below_set ?_ GE648.out) | exact HB.out)⟩
     · rw [if_neg c10] at H
       have c10b0 : (a0_2 == a1_2) = false := beq_eq_false_iff_ne.mpr c10
       have c10b1 : (a0_2 != a1_2) = true := bne_iff_ne.mpr c10
       obtain rfl := Option.some.inj H
       go_enter Tryd.func42, Tryd.ntmps42
       go_wp2_with (first | ((with_reducible refine gate_dst (N := 2) rfl ?_); refine box_event ?hg (N := 2) ?hd (cs := #[.bool a0_0, .int .i64 a0_1, .int .u64 a0_2]) (t := 30) ?hr ?_; (case hd => rfl); (case hg => rfl); (case hr => first | (go_simp; done) | (go_simp; rfl)); intro gb647 hg w16 hbox hb; have n0_ := Aside0.mk (below_step (by repeat (first | (with_reducible first | exact HB.out | apply below_alloc | apply pw_below_drewN | apply below_drew1) | exact HB.out)) hb); have n1_ := Aside0.mk (hbox); have n2_ := Aside0.mk ((by rw [hg]; exact (below_size (by repeat (first | (with_reducible first | exact HB.out | apply below_alloc | apply pw_below_drewN | apply below_drew1) | exact HB.out))) : w.heap.size ≤ gb647)); have n3_ := Aside0.mk ((by rw [hg]; exact (below_size (by repeat (first | (with_reducible first | exact HB.out | apply below_alloc | apply pw_below_drewN | apply below_drew1) | exact HB.out))) : w.heap.size ≤ gb647)); clear HB; have HB := n0_; have BK647 := n1_; have GW647 := n2_; have GE647 := n3_; clear n0_ n1_ n2_ n3_; clear hb hbox hg) | ((with_reducible refine gate_dst (N := 3) rfl ?_); refine box_event ?hg (N := 3) ?hd (cs := #[.bool a1_0, .int .i64 a1_1, .int .u64 a1_2]) (t := 30) ?hr ?_; (case hd => rfl); (case hg => rfl); (case hr => first | (go_simp; done) | (go_simp; rfl)); intro gb648 hg w17 hbox hb; have n0_ := Aside0.mk (blk_below (g := gb647) (o := .cells #[.bool a0_0, .int .i64 a0_1, .int .u64 a0_2] 30 (0, 0)) (by (with_reducible repeat (first | refine blk_drewN ?_ _ | refine blk_drew ?_ | refine blk_alloc ?_ _)); exact BK647.out) hb); have n1_ := Aside0.mk (below_step (by repeat (first | (with_reducible first | exact HB.out | apply below_alloc | apply pw_below_drewN | apply below_drew1 | refine below_set ?_ GE647.out) | exact HB.out)) hb); have n2_ := Aside0.mk (hbox); have n3_ := Aside0.mk ((by rw [hg]; exact (below_size (by repeat (first | (with_reducible first | exact HB.out | apply below_alloc | apply pw_below_drewN | apply below_drew1 | refine below_set ?_ GE647.out) | exact HB.out))) : w.heap.size ≤ gb648)); have n4_ := Aside0.mk ((by rw [hg]; exact (below_size (by repeat (first | (with_reducible first | exact HB.out | apply below_alloc | apply pw_below_drewN | apply below_drew1 | refine below_set ?_ GE647.out) | exact HB.out))) : w.heap.size ≤ gb648)); have n5_ := Aside0.mk ((by rw [hg]; exact Nat.ne_of_lt (blk_lt (g := gb647) (o := .cells #[.bool a0_0, .int .i64 a0_1, .int .u64 a0_2] 30 (0, 0)) (by (with_reducible repeat (first | refine blk_drewN ?_ _ | refine blk_drew ?_ | refine blk_alloc ?_ _)); exact BK647.out)) : gb647 ≠ gb648)); have n6_ := Aside0.mk ((by rw [hg]; exact Nat.ne_of_gt (blk_lt (g := gb647) (o := .cells #[.bool a0_0, .int .i64 a0_1, .int .u64 a0_2] 30 (0, 0)) (by (with_reducible repeat (first | refine blk_drewN ?_ _ | refine blk_drew ?_ | refine blk_alloc ?_ _)); exact BK647.out)) : gb648 ≠ gb647)); clear BK647; clear HB; have BK647 := n0_; have HB := n1_; have BK648 := n2_; have GW648 := n3_; have GE648 := n4_; have NB647_648 := n5_; have NB648_647 := n6_; clear n0_ n1_ n2_ n3_ n4_ n5_ n6_; clear hb hbox hg; have hnb18 := NB647_648.out; have hnc18 := NB648_647.out; have hcz19_0 : w17.cell? ⟨gb647, 0, none⟩ = some (.bool a0_0) := (blk_cell BK647.out 0).trans rfl; have hcz19_1 : w17.cell? ⟨gb647, 1, none⟩ = some (.int .i64 a0_1) := (blk_cell BK647.out 1).trans rfl; have hcz19_2 : w17.cell? ⟨gb647, 2, none⟩ = some (.int .u64 a0_2) := (blk_cell BK647.out 2).trans rfl; have hfz19_0 := blk_frozen BK647.out 0; have hfz19_1 := blk_frozen BK647.out 1; have hfz19_2 := blk_frozen BK647.out 2; have hcz20_0 : w17.cell? ⟨gb648, 0, none⟩ = some (.bool a1_0) := (blk_cell BK648.out 0).trans rfl; have hcz20_1 : w17.cell? ⟨gb648, 1, none⟩ = some (.int .i64 a1_1) := (blk_cell BK648.out 1).trans rfl; have hcz20_2 : w17.cell? ⟨gb648, 2, none⟩ = some (.int .u64 a1_2) := (blk_cell BK648.out 2).trans rfl; have hfz20_0 := blk_frozen BK648.out 0; have hfz20_1 := blk_frozen BK648.out 1; have hfz20_2 := blk_frozen BK648.out 2))
       go_ret
       exact ⟨by first | rfl | (simp [errW_none, errW_some] <;> rfl) | (simp [*, errW_none, errW_some] <;> rfl), by repeat (first | (with_reducible first | exact HB.out | apply below_alloc | apply pw_below_drewN | apply below_drew1 | refine below_set ?_ GE647.out | refine below_set ?_ GE648.out) | exact HB.out)⟩
   · rw [if_neg c9] at H
     have c9b0 : (a0_1 == a1_1) = false := beq_eq_false_iff_ne.mpr c9
     have c9b1 : (a0_1 != a1_1) = true := bne_iff_ne.mpr c9
     obtain rfl := Option.some.inj H
     go_enter Tryd.func42, Tryd.ntmps42
     go_wp2_with (first | ((with_reducible refine gate_dst (N := 2) rfl ?_); refine box_event ?hg (N := 2) ?hd (cs := #[.bool a0_0, .int .i64 a0_1, .int .u64 a0_2]) (t := 30) ?hr ?_; (case hd => rfl); (case hg => rfl); (case hr => first | (go_simp; done) | (go_simp; rfl)); intro gb647 hg w21 hbox hb; have n0_ := Aside0.mk (below_step (by repeat (first | (with_reducible first | exact HB.out | apply below_alloc | apply pw_below_drewN | apply below_drew1) | exact HB.out)) hb); have n1_ := Aside0.mk (hbox); have n2_ := Aside0.mk ((by rw [hg]; exact (below_size (by repeat (first | (with_reducible first | exact HB.out | apply below_alloc | apply pw_below_drewN | apply below_drew1) | exact HB.out))) : w.heap.size ≤ gb647)); have n3_ := Aside0.mk ((by rw [hg]; exact (below_size (by repeat (first | (with_reducible first | exact HB.out | apply below_alloc | apply pw_below_drewN | apply below_drew1) | exact HB.out))) : w.heap.size ≤ gb647)); clear HB; have HB := n0_; have BK647 := n1_; have GW647 := n2_; have GE647 := n3_; clear n0_ n1_ n2_ n3_; clear hb hbox hg) | ((with_reducible refine gate_dst (N := 3) rfl ?_); refine box_event ?hg (N := 3) ?hd (cs := #[.bool a1_0, .int .i64 a1_1, .int .u64 a1_2]) (t := 30) ?hr ?_; (case hd => rfl); (case hg => rfl); (case hr => first | (go_simp; done) | (go_simp; rfl)); intro gb648 hg w22 hbox hb; have n0_ := Aside0.mk (blk_below (g := gb647) (o := .cells #[.bool a0_0, .int .i64 a0_1, .int .u64 a0_2] 30 (0, 0)) (by (with_reducible repeat (first | refine blk_drewN ?_ _ | refine blk_drew ?_ | refine blk_alloc ?_ _)); exact BK647.out) hb); have n1_ := Aside0.mk (below_step (by repeat (first | (with_reducible first | exact HB.out | apply below_alloc | apply pw_below_drewN | apply below_drew1 | refine below_set ?_ GE647.out) | exact HB.out)) hb); have n2_ := Aside0.mk (hbox); have n3_ := Aside0.mk ((by rw [hg]; exact (below_size (by repeat (first | (with_reducible first | exact HB.out | apply below_alloc | apply pw_below_drewN | apply below_drew1 | refine below_set ?_ GE647.out) | exact HB.out))) : w.heap.size ≤ gb648)); have n4_ := Aside0.mk ((by rw [hg]; exact (below_size (by repeat (first | (with_reducible first | exact HB.out | apply below_alloc | apply pw_below_drewN | apply below_drew1 | refine below_set ?_ GE647.out) | exact HB.out))) : w.heap.size ≤ gb648)); have n5_ := Aside0.mk ((by rw [hg]; exact Nat.ne_of_lt (blk_lt (g := gb647) (o := .cells #[.bool a0_0, .int .i64 a0_1, .int .u64 a0_2] 30 (0, 0)) (by (with_reducible repeat (first | refine blk_drewN ?_ _ | refine blk_drew ?_ | refine blk_alloc ?_ _)); exact BK647.out)) : gb647 ≠ gb648)); have n6_ := Aside0.mk ((by rw [hg]; exact Nat.ne_of_gt (blk_lt (g := gb647) (o := .cells #[.bool a0_0, .int .i64 a0_1, .int .u64 a0_2] 30 (0, 0)) (by (with_reducible repeat (first | refine blk_drewN ?_ _ | refine blk_drew ?_ | refine blk_alloc ?_ _)); exact BK647.out)) : gb648 ≠ gb647)); clear BK647; clear HB; have BK647 := n0_; have HB := n1_; have BK648 := n2_; have GW648 := n3_; have GE648 := n4_; have NB647_648 := n5_; have NB648_647 := n6_; clear n0_ n1_ n2_ n3_ n4_ n5_ n6_; clear hb hbox hg; have hnb23 := NB647_648.out; have hnc23 := NB648_647.out; have hcz24_0 : w22.cell? ⟨gb647, 0, none⟩ = some (.bool a0_0) := (blk_cell BK647.out 0).trans rfl; have hcz24_1 : w22.cell? ⟨gb647, 1, none⟩ = some (.int .i64 a0_1) := (blk_cell BK647.out 1).trans rfl; have hcz24_2 : w22.cell? ⟨gb647, 2, none⟩ = some (.int .u64 a0_2) := (blk_cell BK647.out 2).trans rfl; have hfz24_0 := blk_frozen BK647.out 0; have hfz24_1 := blk_frozen BK647.out 1; have hfz24_2 := blk_frozen BK647.out 2; have hcz25_0 : w22.cell? ⟨gb648, 0, none⟩ = some (.bool a1_0) := (blk_cell BK648.out 0).trans rfl; have hcz25_1 : w22.cell? ⟨gb648, 1, none⟩ = some (.int .i64 a1_1) := (blk_cell BK648.out 1).trans rfl; have hcz25_2 : w22.cell? ⟨gb648, 2, none⟩ = some (.int .u64 a1_2) := (blk_cell BK648.out 2).trans rfl; have hfz25_0 := blk_frozen BK648.out 0; have hfz25_1 := blk_frozen BK648.out 1; have hfz25_2 := blk_frozen BK648.out 2))
     go_ret
     exact ⟨by first | rfl | (simp [errW_none, errW_some] <;> rfl) | (simp [*, errW_none, errW_some] <;> rfl), by repeat (first | (with_reducible first | exact HB.out | apply below_alloc | apply pw_below_drewN | apply below_drew1 | refine below_set ?_ GE647.out | refine below_set ?_ GE648.out) | exact HB.out)⟩

end Go.Proofs.YtkohjiajbdkcbaaDoor.All


namespace Go.Proofs.YtkohjiajbdkcbaaDoor.All
open Go.RowKit Go.Proofs.YtkohjiajbdkcbaaDoorW.PrintWords Go.Proofs.YtkohjiajbdkcbaaDoorW.PrintLast Go.Proofs.YtkohjiajbdkcbaaDoorW.PrintMore
attribute [local go_sem] max2_int min2_int max_two min_two max_three min_three max_four min_four   -- for this text's walks alone
set_option linter.unusedVariables false
set_option linter.unusedSimpArgs false

/-! ### laws_eqOutcome: function 12 -/
def laws_eqOutcome.f (k : Nat) (a0_0 : Int) (a0_1 : Bool) (a0_2 : Int) (a0_3 : Int) (l0_4 : List Int) (a0_5 : Int) (a1_0 : Int) (a1_1 : Bool) (a1_2 : Int) (a1_3 : Int) (l1_4 : List Int) (a1_5 : Int) : Option (Bool) := if a0_0 = a1_0 then ((laws_eqValue.f a0_1 a0_2 a0_3 a1_1 a1_2 a1_3).bind fun t651 => (if t651 = true then ((laws_eqUint64S.f k l0_4 l1_4).bind fun t652 => (if t652 = true then (if a0_5 = a1_5 then (some true) else (some false)) else (some false))) else (some false))) else (some false)
set_option maxHeartbeats 8000000 in
set_option maxRecDepth 100000 in
theorem laws_eqOutcome.calls (k : Nat) (a0_0 : Int) (a0_1 : Bool) (a0_2 : Int) (a0_3 : Int) (A0_4 : Option Addr) (c0_4 : Nat) (l0_4 : List Int) (a0_5 : Int) (a1_0 : Int) (a1_1 : Bool) (a1_2 : Int) (a1_3 : Int) (A1_4 : Option Addr) (c1_4 : Nat) (l1_4 : List Int) (a1_5 : Int) (r : Bool) (w : World) (hr0_4 : Kd.C (Kd.int .u64) w A0_4 l0_4.length l0_4) (hc0_4 : l0_4.length ≤ c0_4) (hr1_4 : Kd.C (Kd.int .u64) w A1_4 l1_4.length l1_4) (hc1_4 : l1_4.length ≤ c1_4) (h : laws_eqOutcome.f k a0_0 a0_1 a0_2 a0_3 l0_4 a0_5 a1_0 a1_1 a1_2 a1_3 l1_4 a1_5 = some r) :
 Calls Tryd.prog 12 #[.agg #[.int .i64 a0_0, .bool a0_1, .int .i64 a0_2, .int .u64 a0_3, .slice A0_4 l0_4.length c0_4, .int .i64 a0_5], .agg #[.int .i64 a1_0, .bool a1_1, .int .i64 a1_2, .int .u64 a1_3, .slice A1_4 l1_4.length c1_4, .int .i64 a1_5]] w fun e w' => e = .returned (.bool r) ∧ Below w.heap.size w w' := by
 have hu32 := Tryd.underlying32
 have hu30 := Tryd.underlying30
 have HR0_4 := Aside0.mk hr0_4
 have HC0_4 := Aside0.mk hc0_4
 clear hr0_4 hc0_4
 have HR1_4 := Aside0.mk hr1_4
 have HC1_4 := Aside0.mk hc1_4
 clear hr1_4 hc1_4
 have HB := Aside0.mk (Below.refl w.heap.size w)
 have H : (if a0_0 = a1_0 then ((laws_eqValue.f a0_1 a0_2 a0_3 a1_1 a1_2 a1_3).bind fun t651 => (if t651 = true then ((laws_eqUint64S.f k l0_4 l1_4).bind fun t652 => (if t652 = true then (if a0_5 = a1_5 then (some true) else (some false)) else (some false))) else (some false))) else (some false)) = some r := h
 clear h
 by_cases c3 : a0_0 = a1_0
 · rw [if_pos c3] at H
   have c3b0 : (a0_0 == a1_0) = true := beq_iff_eq.mpr c3
   have c3b1 : (a0_0 != a1_0) = false := bne_eq_false_iff_eq.mpr c3
   clear c3
   replace H := Option.bind_eq_some_iff.mp H
   obtain ⟨t651, A40, H⟩ := H
   replace H : (if t651 = true then ((laws_eqUint64S.f k l0_4 l1_4).bind fun t652 => (if t652 = true then (if a0_5 = a1_5 then (some true) else (some false)) else (some false))) else (some false)) = some r := H
   have A4 := Aside0.mk A40
   clear A40
   by_cases c5 : t651 = true
   · subst c5
     have H1 : ((laws_eqUint64S.f k l0_4 l1_4).bind fun t652 => (if t652 = true then (if a0_5 = a1_5 then (some true) else (some false)) else (some false))) = some r := by rw [if_pos rfl] at H; exact H
     clear H
     have H := H1
     clear H1
     replace H := Option.bind_eq_some_iff.mp H
     obtain ⟨t652, A60, H⟩ := H
     replace H : (if t652 = true then (if a0_5 = a1_5 then (some true) else (some false)) else (some false)) = some r := H
     have A6 := Aside0.mk A60
     clear A60
     by_cases c7 : t652 = true
     · subst c7
       have H1 : (if a0_5 = a1_5 then (some true) else (some false)) = some r := by rw [if_pos rfl] at H; exact H
       clear H
       have H := H1
       clear H1
       by_cases c8 : a0_5 = a1_5
       · rw [if_pos c8] at H
         have c8b0 : (a0_5 == a1_5) = true := beq_iff_eq.mpr c8
         have c8b1 : (a0_5 != a1_5) = false := bne_eq_false_iff_eq.mpr c8
         clear c8
         obtain rfl := Option.some.inj H
         go_enter Tryd.func12, Tryd.ntmps12
         go_wp2_with (first | ((with_reducible refine gate_dst (N := 2) rfl ?_); refine box_event ?hg (N := 2) ?hd (cs := #[.int .i64 a0_0, .bool a0_1, .int .i64 a0_2, .int .u64 a0_3, .slice A0_4 l0_4.length c0_4, .int .i64 a0_5]) (t := 32) ?hr ?_; (case hd => rfl); (case hg => rfl); (case hr => first | (go_simp; done) | (go_simp; rfl)); intro gb649 hg w9 hbox hb; have n0_ := Aside0.mk (below_step (by repeat (first | (with_reducible first | exact HB.out | apply below_alloc | apply pw_below_drewN | apply below_drew1) | exact HB.out)) hb); have n1_ := Aside0.mk (hbox); have n2_ := Aside0.mk ((by rw [hg]; exact (below_size (by repeat (first | (with_reducible first | exact HB.out | apply below_alloc | apply pw_below_drewN | apply below_drew1) | exact HB.out))) : w.heap.size ≤ gb649)); have n3_ := Aside0.mk ((by rw [hg]; exact (below_size (by repeat (first | (with_reducible first | exact HB.out | apply below_alloc | apply pw_below_drewN | apply below_drew1) | exact HB.out))) : w.heap.size ≤ gb649)); clear HB; have HB := n0_; have BK649 := n1_; have GW649 := n2_; have GE649 := n3_; clear n0_ n1_ n2_ n3_; clear hb hbox hg) | ((with_reducible refine gate_dst (N := 3) rfl ?_); refine box_event ?hg (N := 3) ?hd (cs := #[.int .i64 a1_0, .bool a1_1, .int .i64 a1_2, .int .u64 a1_3, .slice A1_4 l1_4.length c1_4, .int .i64 a1_5]) (t := 32) ?hr ?_; (case hd => rfl); (case hg => rfl); (case hr => first | (go_simp; done) | (go_simp; rfl)); intro gb650 hg w10 hbox hb; have n0_ := Aside0.mk (blk_below (g := gb649) (o := .cells #[.int .i64 a0_0, .bool a0_1, .int .i64 a0_2, .int .u64 a0_3, .slice A0_4 l0_4.length c0_4, .int .i64 a0_5] 32 (0, 0)) (by (with_reducible repeat (first | refine blk_drewN ?_ _ | refine blk_drew ?_ | refine blk_alloc ?_ _)); exact BK649.out) hb); have n1_ := Aside0.mk (below_step (by repeat (first | (with_reducible first | exact HB.out | apply below_alloc | apply pw_below_drewN | apply below_drew1 | refine below_set ?_ GE649.out) | exact HB.out)) hb); have n2_ := Aside0.mk (hbox); have n3_ := Aside0.mk ((by rw [hg]; exact (below_size (by repeat (first | (with_reducible first | exact HB.out | apply below_alloc | apply pw_below_drewN | apply below_drew1 | refine below_set ?_ GE649.out) | exact HB.out))) : w.heap.size ≤ gb650)); have n4_ := Aside0.mk ((by rw [hg]; exact (below_size (by repeat (first | (with_reducible first | exact HB.out | apply below_alloc | apply pw_below_drewN | apply below_drew1 | refine below_set ?_ GE649.out) | exact HB.out))) : w.heap.size ≤ gb650)); have n5_ := Aside0.mk ((by rw [hg]; exact Nat.ne_of_lt (blk_lt (g := gb649) (o := .cells #[.int .i64 a0_0, .bool a0_1, .int .i64 a0_2, .int .u64 a0_3, .slice A0_4 l0_4.length c0_4, .int .i64 a0_5] 32 (0, 0)) (by (with_reducible repeat (first | refine blk_drewN ?_ _ | refine blk_drew ?_ | refine blk_alloc ?_ _)); exact BK649.out)) : gb649 ≠ gb650)); have n6_ := Aside0.mk ((by rw [hg]; exact Nat.ne_of_gt (blk_lt (g := gb649) (o := .cells #[.int .i64 a0_0, .bool a0_1, .int .i64 a0_2, .int .u64 a0_3, .slice A0_4 l0_4.length c0_4, .int .i64 a0_5] 32 (0, 0)) (by (with_reducible repeat (first | refine blk_drewN ?_ _ | refine blk_drew ?_ | refine blk_alloc ?_ _)); exact BK649.out)) : gb650 ≠ gb649)); clear BK649; clear HB; have BK649 := n0_; have HB := n1_; have BK650 := n2_; have GW650 := n3_; have GE650 := n4_; have NB649_650 := n5_; have NB650_649 := n6_; clear n0_ n1_ n2_ n3_ n4_ n5_ n6_; clear hb hbox hg; have hnb11 := NB649_650.out; have hnc11 := NB650_649.out; have hcz12_0 : w10.cell? ⟨gb649, 0, none⟩ = some (.int .i64 a0_0) := (blk_cell BK649.out 0).trans rfl; have hcz12_1 : w10.cell? ⟨gb649, 1, none⟩ = some (.bool a0_1) := (blk_cell BK649.out 1).trans rfl; have hcz12_2 : w10.cell? ⟨gb649, 2, none⟩ = some (.int .i64 a0_2) := (blk_cell BK649.out 2).trans rfl; have hcz12_3 : w10.cell? ⟨gb649, 3, none⟩ = some (.int .u64 a0_3) := (blk_cell BK649.out 3).trans rfl; have hcz12_4 : w10.cell? ⟨gb649, 4, none⟩ = some (.slice A0_4 l0_4.length c0_4) := (blk_cell BK649.out 4).trans rfl; have hcz12_5 : w10.cell? ⟨gb649, 5, none⟩ = some (.int .i64 a0_5) := (blk_cell BK649.out 5).trans rfl; have hfz12_0 := blk_frozen BK649.out 0; have hfz12_1 := blk_frozen BK649.out 1; have hfz12_2 := blk_frozen BK649.out 2; have hfz12_3 := blk_frozen BK649.out 3; have hfz12_4 := blk_frozen BK649.out 4; have hfz12_5 := blk_frozen BK649.out 5; have hcz13_0 : w10.cell? ⟨gb650, 0, none⟩ = some (.int .i64 a1_0) := (blk_cell BK650.out 0).trans rfl; have hcz13_1 : w10.cell? ⟨gb650, 1, none⟩ = some (.bool a1_1) := (blk_cell BK650.out 1).trans rfl; have hcz13_2 : w10.cell? ⟨gb650, 2, none⟩ = some (.int .i64 a1_2) := (blk_cell BK650.out 2).trans rfl; have hcz13_3 : w10.cell? ⟨gb650, 3, none⟩ = some (.int .u64 a1_3) := (blk_cell BK650.out 3).trans rfl; have hcz13_4 : w10.cell? ⟨gb650, 4, none⟩ = some (.slice A1_4 l1_4.length c1_4) := (blk_cell BK650.out 4).trans rfl; have hcz13_5 : w10.cell? ⟨gb650, 5, none⟩ = some (.int .i64 a1_5) := (blk_cell BK650.out 5).trans rfl; have hfz13_0 := blk_frozen BK650.out 0; have hfz13_1 := blk_frozen BK650.out 1; have hfz13_2 := blk_frozen BK650.out 2; have hfz13_3 := blk_frozen BK650.out 3; have hfz13_4 := blk_frozen BK650.out 4; have hfz13_5 := blk_frozen BK650.out 5) | ((with_reducible refine gate_callee (f := 42) rfl ?_); refine goesL_ (some 14) rfl rfl Tryd.func42 (by kernel_rfl) rfl #[.agg #[.bool a0_1, .int .i64 a0_2, .int .u64 a0_3], .agg #[.bool a1_1, .int .i64 a1_2, .int .u64 a1_3]] rfl (by (try simp only [List.map_toArray, List.map_cons, List.map_nil]); first | done | rfl | (simp only [List.length_drop, List.length_take]; rfl)) ?_; (with_reducible refine (laws_eqValue.calls a0_1 a0_2 a0_3 a1_1 a1_2 a1_3 true _ A4.out).mono ?_); rintro e w14 ⟨rfl, hb⟩; refine ⟨_, rfl, ?_⟩; have n0_ := Aside0.mk (blk_below (g := gb649) (o := .cells #[.int .i64 a0_0, .bool a0_1, .int .i64 a0_2, .int .u64 a0_3, .slice A0_4 l0_4.length c0_4, .int .i64 a0_5] 32 (0, 0)) (by (with_reducible repeat (first | refine blk_drewN ?_ _ | refine blk_drew ?_ | refine blk_alloc ?_ _)); exact BK649.out) hb); have n1_ := Aside0.mk (blk_below (g := gb650) (o := .cells #[.int .i64 a1_0, .bool a1_1, .int .i64 a1_2, .int .u64 a1_3, .slice A1_4 l1_4.length c1_4, .int .i64 a1_5] 32 (0, 0)) (by (with_reducible repeat (first | refine blk_drewN ?_ _ | refine blk_drew ?_ | refine blk_alloc ?_ _)); exact BK650.out) hb); have n2_ := Aside0.mk (below_step (by repeat (first | (with_reducible first | exact HB.out | apply below_alloc | apply pw_below_drewN | apply below_drew1 | refine below_set ?_ GE649.out | refine below_set ?_ GE650.out) | exact HB.out)) hb); clear BK649; clear BK650; clear HB; have BK649 := n0_; have BK650 := n1_; have HB := n2_; clear n0_ n1_ n2_; (try clear hb); (try clear hb2); (try clear hk); (try clear hi); have hcz15_0 : w14.cell? ⟨gb649, 0, none⟩ = some (.int .i64 a0_0) := (blk_cell BK649.out 0).trans rfl; have hcz15_1 : w14.cell? ⟨gb649, 1, none⟩ = some (.bool a0_1) := (blk_cell BK649.out 1).trans rfl; have hcz15_2 : w14.cell? ⟨gb649, 2, none⟩ = some (.int .i64 a0_2) := (blk_cell BK649.out 2).trans rfl; have hcz15_3 : w14.cell? ⟨gb649, 3, none⟩ = some (.int .u64 a0_3) := (blk_cell BK649.out 3).trans rfl; have hcz15_4 : w14.cell? ⟨gb649, 4, none⟩ = some (.slice A0_4 l0_4.length c0_4) := (blk_cell BK649.out 4).trans rfl; have hcz15_5 : w14.cell? ⟨gb649, 5, none⟩ = some (.int .i64 a0_5) := (blk_cell BK649.out 5).trans rfl; have hfz15_0 := blk_frozen BK649.out 0; have hfz15_1 := blk_frozen BK649.out 1; have hfz15_2 := blk_frozen BK649.out 2; have hfz15_3 := blk_frozen BK649.out 3; have hfz15_4 := blk_frozen BK649.out 4; have hfz15_5 := blk_frozen BK649.out 5; have hcz16_0 : w14.cell? ⟨gb650, 0, none⟩ = some (.int .i64 a1_0) := (blk_cell BK650.out 0).trans rfl; have hcz16_1 : w14.cell? ⟨gb650, 1, none⟩ = some (.bool a1_1) := (blk_cell BK650.out 1).trans rfl; have hcz16_2 : w14.cell? ⟨gb650, 2, none⟩ = some (.int .i64 a1_2) := (blk_cell BK650.out 2).trans rfl; have hcz16_3 : w14.cell? ⟨gb650, 3, none⟩ = some (.int .u64 a1_3) := (blk_cell BK650.out 3).trans rfl; have hcz16_4 : w14.cell? ⟨gb650, 4, none⟩ = some (.slice A1_4 l1_4.length c1_4) := (blk_cell BK650.out 4).trans rfl; have hcz16_5 : w14.cell? ⟨gb650, 5, none⟩ = some (.int .i64 a1_5) := (blk_cell BK650.out 5).trans rfl; have hfz16_0 := blk_frozen BK650.out 0; have hfz16_1 := blk_frozen BK650.out 1; have hfz16_2 := blk_frozen BK650.out 2; have hfz16_3 := blk_frozen BK650.out 3; have hfz16_4 := blk_frozen BK650.out 4; have hfz16_5 := blk_frozen BK650.out 5) | ((with_reducible refine gate_callee (f := 43) rfl ?_); refine goesL_ (some 20) rfl rfl Tryd.func43 (by kernel_rfl) rfl #[.slice A0_4 l0_4.length c0_4, .slice A1_4 l1_4.length c1_4] rfl (by (try simp only [List.map_toArray, List.map_cons, List.map_nil]); first | done | rfl | (simp only [List.length_drop, List.length_take]; rfl)) ?_; (with_reducible refine (laws_eqUint64S.calls k _ _ l0_4 _ _ l1_4 true _ ?side1 ?side2 ?side3 ?side4 A6.out).mono ?_); (case side1 => repeat (first | exact (Kd.C_below HR0_4.out HB.out) | (with_reducible refine Kd.C_alloc ?_ _) | (with_reducible refine Kd.C_drewN ?_ _) | (with_reducible refine Kd.C_drew ?_))); (case side2 => exact HC0_4.out); (case side3 => repeat (first | exact (Kd.C_below HR1_4.out HB.out) | (with_reducible refine Kd.C_alloc ?_ _) | (with_reducible refine Kd.C_drewN ?_ _) | (with_reducible refine Kd.C_drew ?_))); (case side4 => exact HC1_4.out); rintro e w' ⟨rfl, ⟨nd, rfl⟩⟩; refine ⟨_, rfl, ?_⟩))
         go_ret
         exact ⟨by first | rfl | (simp [errW_none, errW_some] <;> rfl) | (simp [*, errW_none, errW_some] <;> rfl), by repeat (first | (with_reducible first | exact HB.out | apply below_alloc | apply pw_below_drewN | apply below_drew1 | refine below_set ?_ GE649.out | refine below_set ?_ GE650.out) | exact HB.out)⟩
       · rw [if_neg c8] at H
         have c8b0 : (a0_5 == a1_5) = false := beq_eq_false_iff_ne.mpr c8
         have c8b1 : (a0_5 != a1_5) = true := bne_iff_ne.mpr c8
         obtain rfl := Option.some.inj H
         go_enter Tryd.func12, Tryd.ntmps12
         go_wp2_with (first | ((with_reducible refine gate_dst (N := 2) rfl ?_); refine box_event ?hg (N := 2) ?hd (cs := #[.int .i64 a0_0, .bool a0_1, .int .i64 a0_2, .int .u64 a0_3, .slice A0_4 l0_4.length c0_4, .int .i64 a0_5]) (t := 32) ?hr ?_; (case hd => rfl); (case hg => rfl); (case hr => first | (go_simp; done) | (go_simp; rfl)); intro gb649 hg w17 hbox hb; have n0_ := Aside0.mk (below_step (by repeat (first | (with_reducible first | exact HB.out | apply below_alloc | apply pw_below_drewN | apply below_drew1) | exact HB.out)) hb); have n1_ := Aside0.mk (hbox); have n2_ := Aside0.mk ((by rw [hg]; exact (below_size (by repeat (first | (with_reducible first | exact HB.out | apply below_alloc | apply pw_below_drewN | apply below_drew1) | exact HB.out))) : w.heap.size ≤ gb649)); have n3_ := Aside0.mk ((by rw [hg]; exact (below_size (by repeat (first | (with_reducible first | exact HB.out | apply below_alloc | apply pw_below_drewN | apply below_drew1) | exact HB.out))) : w.heap.size ≤ gb649)); clear HB; have HB := n0_; have BK649 := n1_; have GW649 := n2_; have GE649 := n3_; clear n0_ n1_ n2_ n3_; clear hb hbox hg) | ((with_reducible refine gate_dst (N := 3) rfl ?_); refine box_event ?hg (N := 3) ?hd (cs := #[.int .i64 a1_0, .bool a1_1, .int .i64 a1_2, .int .u64 a1_3, .slice A1_4 l1_4.length c1_4, .int .i64 a1_5]) (t := 32) ?hr ?_; (case hd => rfl); (case hg => rfl); (case hr => first | (go_simp; done) | (go_simp; rfl)); intro gb650 hg w18 hbox hb; have n0_ := Aside0.mk (blk_below (g := gb649) (o := .cells #[.int .i64 a0_0, .bool a0_1, .int .i64 a0_2, .int .u64 a0_3, .slice A0_4 l0_4.length c0_4, .int .i64 a0_5] 32 (0, 0)) (by (with_reducible repeat (first | refine blk_drewN ?_ _ | refine blk_drew ?_ | refine blk_alloc ?_ _)); exact BK649.out) hb); have n1_ := Aside0.mk (below_step (by repeat (first | (with_reducible first | exact HB.out | apply below_alloc | apply pw_below_drewN | apply below_drew1 | refine below_set ?_ GE649.out) | exact HB.out)) hb); have n2_ := Aside0.mk (hbox); have n3_ := Aside0.mk ((by rw [hg]; exact (below_size (by repeat (first | (with_reducible first | exact HB.out | apply below_alloc | apply pw_below_drewN | apply below_drew1 | refine below_set ?_ GE649.out) | exact HB.out))) : w.heap.size ≤ gb650)); have n4_ := Aside0.mk ((by rw [hg]; exact (below_size (by repeat (first | (with_reducible first | exact HB.out | apply below_alloc | apply pw_below_drewN | apply below_drew1 | refine below_set ?_ GE649.out) | exact HB.out))) : w.heap.size ≤ gb650)); have n5_ := Aside0.mk ((by rw [hg]; exact Nat.ne_of_lt (blk_lt (g := gb649) (o := .cells #[.int .i64 a0_0, .bool a0_1, .int .i64 a0_2, .int .u64 a0_3, .slice A0_4 l0_4.length c0_4, .int .i64 a0_5] 32 (0, 0)) (by (with_reducible repeat (first | refine blk_drewN ?_ _ | refine blk_drew ?_ | refine blk_alloc ?_ _)); exact BK649.out)) : gb649 ≠ gb650)); have n6_ := Aside0.mk ((by rw [hg]; exact Nat.ne_of_gt (blk_lt (g := gb649) (o := .cells #[.int .i64 a0_0, .bool a0_1, .int .i64 a0_2, .int .u64 a0_3, .slice A0_4 l0_4.length c0_4, .int .i64 a0_5] 32 (0, 0)) (by (with_reducible repeat (first | refine blk_drewN ?_ _ | refine blk_drew ?_ | refine blk_alloc ?_ _)); exact BK649.out)) : gb650 ≠ gb649)); clear BK649; clear HB; have BK649 := n0_; have HB := n1_; have BK650 := n2_; have GW650 := n3_; have GE650 := n4_; have NB649_650 := n5_; have NB650_649 := n6_; clear n0_ n1_ n2_ n3_ n4_ n5_ n6_; clear hb hbox hg; have hnb19 := NB649_650.out; have hnc19 := NB650_649.out; have hcz20_0 : w18.cell? ⟨gb649, 0, none⟩ = some (.int .i64 a0_0) := (blk_cell BK649.out 0).trans rfl; have hcz20_1 : w18.cell? ⟨gb649, 1, none⟩ = some (.bool a0_1) := (blk_cell BK649.out 1).trans rfl; have hcz20_2 : w18.cell? ⟨gb649, 2, none⟩ = some (.int .i64 a0_2) := (blk_cell BK649.out 2).trans rfl; have hcz20_3 : w18.cell? ⟨gb649, 3, none⟩ = some (.int .u64 a0_3) := (blk_cell BK649.out 3).trans rfl; have hcz20_4 : w18.cell? ⟨gb649, 4, none⟩ = some (.slice A0_4 l0_4.length c0_4) := (blk_cell BK649.out 4).trans rfl; have hcz20_5 : w18.cell? ⟨gb649, 5, none⟩ = some (.int .i64 a0_5) := (blk_cell BK649.out 5).trans rfl; have hfz20_0 := blk_frozen BK649.out 0; have hfz20_1 := blk_frozen BK649.out 1; have hfz20_2 := blk_frozen BK649.out 2; have hfz20_3 := blk_frozen BK649.out 3; have hfz20_4 := blk_frozen BK649.out 4; have hfz20_5 := blk_frozen BK649.out 5; have hcz21_0 : w18.cell? ⟨gb650, 0, none⟩ = some (.int .i64 a1_0) := (blk_cell BK650.out 0).trans rfl; have hcz21_1 : w18.cell? ⟨gb650, 1, none⟩ = some (.bool a1_1) := (blk_cell BK650.out 1).trans rfl; have hcz21_2 : w18.cell? ⟨gb650, 2, none⟩ = some (.int .i64 a1_2) := (blk_cell BK650.out 2).trans rfl; have hcz21_3 : w18.cell? ⟨gb650, 3, none⟩ = some (.int .u64 a1_3) := (blk_cell BK650.out 3).trans rfl; have hcz21_4 : w18.cell? ⟨gb650, 4, none⟩ = some (.slice A1_4 l1_4.length c1_4) := (blk_cell BK650.out 4).trans rfl; have hcz21_5 : w18.cell? ⟨gb650, 5, none⟩ = some (.int .i64 a1_5) := (blk_cell BK650.out 5).trans rfl; have hfz21_0 := blk_frozen BK650.out 0; have hfz21_1 := blk_frozen BK650.out 1; have hfz21_2 := blk_frozen BK650.out 2; have hfz21_3 := blk_frozen BK650.out 3; have hfz21_4 := blk_frozen BK650.out 4; have hfz21_5 := blk_frozen BK650.out 5) | ((with_reducible refine gate_callee (f := 42) rfl ?_); refine goesL_ (some 14) rfl rfl Tryd.func42 (by kernel_rfl) rfl #[.agg #[.bool a0_1, .int .i64 a0_2, .int .u64 a0_3], .agg #[.bool a1_1, .int .i64 a1_2, .int .u64 a1_3]] rfl (by (try simp only [List.map_toArray, List.map_cons, List.map_nil]); first | done | rfl | (simp only [List.length_drop, List.length_take]; rfl)) ?_; (with_reducible refine (laws_eqValue.calls a0_1 a0_2 a0_3 a1_1 a1_2 a1_3 true _ A4.out).mono ?_); rintro e w22 ⟨rfl, hb⟩; refine ⟨_, rfl, ?_⟩; have n0_ := Aside0.mk (blk_below (g := gb649) (o := .cells #[.int .i64 a0_0, .bool a0_1, .int .i64 a0_2, .int .u64 a0_3, .slice A0_4 l0_4.length c0_4, .int .i64 a0_5] 32 (0, 0)) (by (with_reducible repeat (first | refine blk_drewN ?_ _ | refine blk_drew ?_ | refine blk_alloc ?_ _)); exact BK649.out) hb); have n1_ := Aside0.mk (blk_below (g := gb650) (o := .cells #[.int .i64 a1_0, .bool a1_1, .int .i64 a1_2, .int .u64 a1_3, .slice A1_4 l1_4.length c1_4, .int .i64 a1_5] 32 (0, 0)) (by (with_reducible repeat (first | refine blk_drewN ?_ _ | refine blk_drew ?_ | refine blk_alloc ?_ _)); exact BK650.out) hb); have n2_ := Aside0.mk (below_step (by repeat (first | (with_reducible first | exact HB.out | apply below_alloc | apply pw_below_drewN | apply below_drew1 | refine below_set ?_ GE649.out | refine below_set ?_ GE650.out) | exact HB.out)) hb); clear BK649; clear BK650; clear HB; have BK649 := n0_; have BK650 := n1_; have HB := n2_; clear n0_ n1_ n2_; (try clear hb); (try clear hb2); (try clear hk); (try clear hi); have hcz23_0 : w22.cell? ⟨gb649, 0, none⟩ = some (.int .i64 a0_0) := (blk_cell BK649.out 0).trans rfl; have hcz23_1 : w22.cell? ⟨gb649, 1, none⟩ = some (.bool a0_1) := (blk_cell BK649.out 1).trans rfl; have hcz23_2 : w22.cell? ⟨gb649, 2, none⟩ = some (.int .i64 a0_2) := (blk_cell BK649.out 2).trans rfl; have hcz23_3 : w22.cell? ⟨gb649, 3, none⟩ = some (.int .u64 a0_3) := (blk_cell BK649.out 3).trans rfl; have hcz23_4 : w22.cell? ⟨gb649, 4, none⟩ = some (.slice A0_4 l0_4.length c0_4) := (blk_cell BK649.out 4).trans rfl; have hcz23_5 : w22.cell? ⟨gb649, 5, none⟩ = some (.int .i64 a0_5) := (blk_cell BK649.out 5).trans rfl; have hfz23_0 := blk_frozen BK649.out 0; have hfz23_1 := blk_frozen BK649.out 1; have hfz23_2 := blk_frozen BK649.out 2; have hfz23_3 := blk_frozen BK649.out 3; have hfz23_4 := blk_frozen BK649.out 4; have hfz23_5 := blk_frozen BK649.out 5; have hcz24_0 : w22.cell? ⟨gb650, 0, none⟩ = some (.int .i64 a1_0) := (blk_cell BK650.out 0).trans rfl; have hcz24_1 : w22.cell? ⟨gb650, 1, none⟩ = some (.bool a1_1) := (blk_cell BK650.out 1).trans rfl; have hcz24_2 : w22.cell? ⟨gb650, 2, none⟩ = some (.int .i64 a1_2) := (blk_cell BK650.out 2).trans rfl; have hcz24_3 : w22.cell? ⟨gb650, 3, none⟩ = some (.int .u64 a1_3) := (blk_cell BK650.out 3).trans rfl; have hcz24_4 : w22.cell? ⟨gb650, 4, none⟩ = some (.slice A1_4 l1_4.length c1_4) := (blk_cell BK650.out 4).trans rfl; have hcz24_5 : w22.cell? ⟨gb650, 5, none⟩ = some (.int .i64 a1_5) := (blk_cell BK650.out 5).trans rfl; have hfz24_0 := blk_frozen BK650.out 0; have hfz24_1 := blk_frozen BK650.out 1; have hfz24_2 := blk_frozen BK650.out 2; have hfz24_3 := blk_frozen BK650.out 3; have hfz24_4 := blk_frozen BK650.out 4; have hfz24_5 := blk_frozen BK650.out 5) | ((with_reducible refine gate_callee (f := 43) rfl ?_); refine goesL_ (some 20) rfl rfl Tryd.func43 (by kernel_rfl) rfl #[.slice A0_4 l0_4.length c0_4, .slice A1_4 l1_4.length c1_4] rfl (by (try simp only [List.map_toArray, List.map_cons, List.map_nil]); first | done | rfl | (simp only [List.length_drop, List.length_take]; rfl)) ?_; (with_reducible refine (laws_eqUint64S.calls k _ _ l0_4 _ _ l1_4 true _ ?side1 ?side2 ?side3 ?side4 A6.out).mono ?_); (case side1 => repeat (first | exact (Kd.C_below HR0_4.out HB.out) | (with_reducible refine Kd.C_alloc ?_ _) | (with_reducible refine Kd.C_drewN ?_ _) | (with_reducible refine Kd.C_drew ?_))); (case side2 => exact HC0_4.out); (case side3 => repeat (first | exact (Kd.C_below HR1_4.out HB.out) | (with_reducible refine Kd.C_alloc ?_ _) | (with_reducible refine Kd.C_drewN ?_ _) | (with_reducible refine Kd.C_drew ?_))); (case side4 => exact HC1_4.out); rintro e w' ⟨rfl, ⟨nd, rfl⟩⟩; refine ⟨_, rfl, ?_⟩))
         go_ret
         exact ⟨by first | rfl | (simp [errW_none, errW_some] <;> rfl) | (simp [*, errW_none, errW_some] <;> rfl), by repeat (first | (with_reducible first | exact HB.out | apply below_alloc | apply pw_below_drewN | apply below_drew1 | refine below_set ?_ GE649.out | refine below_set ?_ GE650.out) | exact HB.out)⟩
     · replace c7 := Bool.eq_false_iff.mpr c7
       subst c7
       have H1 : (some false) = some r := by rw [if_neg (show ¬ (false = true) by decide)] at H; exact H
       clear H
       have H := H1
       clear H1
       obtain rfl := Option.some.inj H
       go_enter Tryd.func12, Tryd.ntmps12
       go_wp2_with (first | ((with_reducible refine gate_dst (N := 2) rfl ?_); refine box_event ?hg (N := 2) ?hd (cs := #[.int .i64 a0_0, .bool a0_1, .int .i64 a0_2, .int .u64 a0_3, .slice A0_4 l0_4.length c0_4, .int .i64 a0_5]) (t := 32) ?hr ?_; (case hd => rfl); (case hg => rfl); (case hr => first | (go_simp; done) | (go_simp; rfl)); intro gb649 hg w25 hbox hb; have n0_ := Aside0.mk (below_step (by repeat (first | (with_reducible first | exact HB.out | apply below_alloc | apply pw_below_drewN | apply below_drew1) | exact HB.out)) hb); have n1_ := Aside0.mk (hbox); have n2_ := Aside0.mk ((by rw [hg]; exact (below_size (by repeat (first | (with_reducible first | exact HB.out | apply below_alloc | apply pw_below_drewN | apply below_drew1) | exact HB.out))) : w.heap.size ≤ gb649)); have n3_ := Aside0.mk ((by rw [hg]; exact (below_size (by repeat (first | (with_reducible first | exact HB.out | apply below_alloc | apply pw_below_drewN | apply below_drew1) | exact HB.out))) : w.heap.size ≤ gb649)); clear HB; have HB := n0_; have BK649 := n1_; have GW649 := n2_; have GE649 := n3_; clear n0_ n1_ n2_ n3_; clear hb hbox hg) | ((with_reducible refine gate_dst (N := 3) rfl ?_); refine box_event ?hg (N := 3) ?hd (cs := #[.int .i64 a1_0, .bool a1_1, .int .i64 a1_2, .int .u64 a1_3, .slice A1_4 l1_4.length c1_4, .int .i64 a1_5]) (t := 32) ?hr ?_; (case hd => rfl); (case hg => rfl); (case hr => first | (go_simp; done) | (go_simp; rfl)); intro gb650 hg w26 hbox hb; have n0_ := Aside0.mk (blk_below (g := gb649) (o := .cells #[.int .i64 a0_0, .bool a0_1, .int .i64 a0_2, .int .u64 a0_3, .slice A0_4 l0_4.length c0_4, .int .i64 a0_5] 32 (0, 0)) (by (with_reducible repeat (first | refine blk_drewN ?_ _ | refine blk_drew ?_ | refine blk_alloc ?_ _)); exact BK649.out) hb); have n1_ := Aside0.mk (below_step (by repeat (first | (with_reducible first | exact HB.out | apply below_alloc | apply pw_below_drewN | apply below_drew1 | refine below_set ?_ GE649.out) | exact HB.out)) hb); have n2_ := Aside0.mk (hbox); have n3_ := Aside0.mk ((by rw [hg]; exact (below_size (by repeat (first | (with_reducible first | exact HB.out | apply below_alloc | apply pw_below_drewN | apply below_drew1 | refine below_set ?_ GE649.out) | exact HB.out))) : w.heap.size ≤ gb650)); have n4_ := Aside0.mk ((by rw [hg]; exact (below_size (by repeat (first | (with_reducible first | exact HB.out | apply below_alloc | apply pw_below_drewN | apply below_drew1 | refine below_set ?_ GE649.out) | exact HB.out))) : w.heap.size ≤ gb650)); have n5_ := Aside0.mk ((by rw [hg]; exact Nat.ne_of_lt (blk_lt (g := gb649) (o := .cells #[.int .i64 a0_0, .bool a0_1, .int .i64 a0_2, .int .u64 a0_3, .slice A0_4 l0_4.length c0_4, .int .i64 a0_5] 32 (0, 0)) (by (with_reducible repeat (first | refine blk_drewN ?_ _ | refine blk_drew ?_ | refine blk_alloc ?_ _)); exact BK649.out)) : gb649 ≠ gb650)); have n6_ := Aside0.mk ((by rw [hg]; exact Nat.ne_of_gt (blk_lt (g := gb649) (o := .cells #[.int .i64 a0_0, .bool a0_1, .int .i64 a0_2, .int .u64 a0_3, .slice A0_4 l0_4.length c0_4, .int .i64 a0_5] 32 (0, 0)) (by (with_reducible repeat (first | refine blk_drewN ?_ _ | refine blk_drew ?_ | refine blk_alloc ?_ _)); exact BK649.out)) : gb650 ≠ gb649)); clear BK649; clear HB; have BK649 := n0_; have HB := n1_; have BK650 := n2_; have GW650 := n3_; have GE650 := n4_; have NB649_650 := n5_; have NB650_649 := n6_; clear n0_ n1_ n2_ n3_ n4_ n5_ n6_; clear hb hbox hg; have hnb27 := NB649_650.out; have hnc27 := NB650_649.out; have hcz28_0 : w26.cell? ⟨gb649, 0, none⟩ = some (.int .i64 a0_0) := (blk_cell BK649.out 0).trans rfl; have hcz28_1 : w26.cell? ⟨gb649, 1, none⟩ = some (.bool a0_1) := (blk_cell BK649.out 1).trans rfl; have hcz28_2 : w26.cell? ⟨gb649, 2, none⟩ = some (.int .i64 a0_2) := (blk_cell BK649.out 2).trans rfl; have hcz28_3 : w26.cell? ⟨gb649, 3, none⟩ = some (.int .u64 a0_3) := (blk_cell BK649.out 3).trans rfl; have hcz28_4 : w26.cell? ⟨gb649, 4, none⟩ = some (.slice A0_4 l0_4.length c0_4) := (blk_cell BK649.out 4).trans rfl; have hcz28_5 : w26.cell? ⟨gb649, 5, none⟩ = some (.int .i64 a0_5) := (blk_cell BK649.out 5).trans rfl; have hfz28_0 := blk_frozen BK649.out 0; have hfz28_1 := blk_frozen BK649.out 1; have hfz28_2 := blk_frozen BK649.out 2; have hfz28_3 := blk_frozen BK649.out 3; have hfz28_4 := blk_frozen BK649.out 4; have hfz28_5 := blk_frozen BK649.out 5; have hcz29_0 : w26.cell? ⟨gb650, 0, none⟩ = some (.int .i64 a1_0) := (blk_cell BK650.out 0).trans rfl; have hcz29_1 : w26.cell? ⟨gb650, 1, none⟩ = some (.bool a1_1) := (blk_cell BK650.out 1).trans rfl; have hcz29_2 : w26.cell? ⟨gb650, 2, none⟩ = some (.int .i64 a1_2) := (blk_cell BK650.out 2).trans rfl; have hcz29_3 : w26.cell? ⟨gb650, 3, none⟩ = some (.int .u64 a1_3) := (blk_cell BK650.out 3).trans rfl; have hcz29_4 : w26.cell? ⟨gb650, 4, none⟩ = some (.slice A1_4 l1_4.length c1_4) := (blk_cell BK650.out 4).trans rfl; have hcz29_5 : w26.cell? ⟨gb650, 5, none⟩ = some (.int .i64 a1_5) := (blk_cell BK650.out 5).trans rfl; have hfz29_0 := blk_frozen BK650.out 0; have hfz29_1 := blk_frozen BK650.out 1; have hfz29_2 := blk_frozen BK650.out 2; have hfz29_3 := blk_frozen BK650.out 3; have hfz29_4 := blk_frozen BK650.out 4; have hfz29_5 := blk_frozen BK650.out 5) | ((with_reducible refine gate_callee (f := 42) rfl ?_); refine goesL_ (some 14) rfl rfl Tryd.func42 (by kernel_rfl) rfl #[.agg #[.bool a0_1, .int .i64 a0_2, .int .u64 a0_3], .agg #[.bool a1_1, .int .i64 a1_2, .int .u64 a1_3]] rfl (by (try simp only [List.map_toArray, List.map_cons, List.map_nil]); first | done | rfl | (simp only [List.length_drop, List.length_take]; rfl)) ?_; (with_reducible refine (laws_eqValue.calls a0_1 a0_2 a0_3 a1_1 a1_2 a1_3 true _ A4.out).mono ?_); rintro e w30 ⟨rfl, hb⟩; refine ⟨_, rfl, ?_⟩; have n0_ := Aside0.mk (blk_below (g := gb649) (o := .cells #[.int .i64 a0_0, .bool a0_1, .int .i64 a0_2, .int .u64 a0_3, .slice A0_4 l0_4.length c0_4, .int .i64 a0_5] 32 (0, 0)) (by (with_reducible repeat (first | refine blk_drewN ?_ _ | refine blk_drew ?_ | refine blk_alloc ?_ _)); exact BK649.out) hb); have n1_ := Aside0.mk (blk_below (g := gb650) (o := .cells #[.int .i64 a1_0, .bool a1_1, .int .i64 a1_2, .int .u64 a1_3, .slice A1_4 l1_4.length c1_4, .int .i64 a1_5] 32 (0, 0)) (by (with_reducible repeat (first | refine blk_drewN ?_ _ | refine blk_drew ?_ | refine blk_alloc ?_ _)); exact BK650.out) hb); have n2_ := Aside0.mk (below_step (by repeat (first | (with_reducible first | exact HB.out | apply below_alloc | apply pw_below_drewN | apply below_drew1 | refine below_set ?_ GE649.out | refine below_set ?_ GE650.out) | exact HB.out)) hb); clear BK649; clear BK650; clear HB; have BK649 := n0_; have BK650 := n1_; have HB := n2_; clear n0_ n1_ n2_; (try clear hb); (try clear hb2); (try clear hk); (try clear hi); have hcz31_0 : w30.cell? ⟨gb649, 0, none⟩ = some (.int .i64 a0_0) := (blk_cell BK649.out 0).trans rfl; have hcz31_1 : w30.cell? ⟨gb649, 1, none⟩ = some (.bool a0_1) := (blk_cell BK649.out 1).trans rfl; have hcz31_2 : w30.cell? ⟨gb649, 2, none⟩ = some (.int .i64 a0_2) := (blk_cell BK649.out 2).trans rfl; have hcz31_3 : w30.cell? ⟨gb649, 3, none⟩ = some (.int .u64 a0_3) := (blk_cell BK649.out 3).trans rfl; have hcz31_4 : w30.cell? ⟨gb649, 4, none⟩ = some (.slice A0_4 l0_4.length c0_4) := (blk_cell BK649.out 4).trans rfl; have hcz31_5 : w30.cell? ⟨gb649, 5, none⟩ = some (.int .i64 a0_5) := (blk_cell BK649.out 5).trans rfl; have hfz31_0 := blk_frozen BK649.out 0; have hfz31_1 := blk_frozen BK649.out 1; have hfz31_2 := blk_frozen BK649.out 2; have hfz31_3 := blk_frozen BK649.out 3; have hfz31_4 := blk_frozen BK649.out 4; have hfz31_5 := blk_frozen BK649.out 5; have hcz32_0 : w30.cell? ⟨gb650, 0, none⟩ = some (.int .i64 a1_0) := (blk_cell BK650.out 0).trans rfl; have hcz32_1 : w30.cell? ⟨gb650, 1, none⟩ = some (.bool a1_1) := (blk_cell BK650.out 1).trans rfl; have hcz32_2 : w30.cell? ⟨gb650, 2, none⟩ = some (.int .i64 a1_2) := (blk_cell BK650.out 2).trans rfl; have hcz32_3 : w30.cell? ⟨gb650, 3, none⟩ = some (.int .u64 a1_3) := (blk_cell BK650.out 3).trans rfl; have hcz32_4 : w30.cell? ⟨gb650, 4, none⟩ = some (.slice A1_4 l1_4.length c1_4) := (blk_cell BK650.out 4).trans rfl; have hcz32_5 : w30.cell? ⟨gb650, 5, none⟩ = some (.int .i64 a1_5) := (blk_cell BK650.out 5).trans rfl; have hfz32_0 := blk_frozen BK650.out 0; have hfz32_1 := blk_frozen BK650.out 1; have hfz32_2 := blk_frozen BK650.out 2; have hfz32_3 := blk_frozen BK650.out 3; have hfz32_4 := blk_frozen BK650.out 4; have hfz32_5 := blk_frozen BK650.out 5) | ((with_reducible refine gate_callee (f := 43) rfl ?_); refine goesL_ (some 20) rfl rfl Tryd.func43 (by kernel_rfl) rfl #[.slice A0_4 l0_4.length c0_4, .slice A1_4 l1_4.length c1_4] rfl (by (try simp only [List.map_toArray, List.map_cons, List.map_nil]); first | done | rfl | (simp only [List.length_drop, List.length_take]; rfl)) ?_; (with_reducible refine (laws_eqUint64S.calls k _ _ l0_4 _ _ l1_4 false _ ?side1 ?side2 ?side3 ?side4 A6.out).mono ?_); (case side1 => repeat (first | exact (Kd.C_below HR0_4.out HB.out) | (with_reducible refine Kd.C_alloc ?_ _) | (with_reducible refine Kd.C_drewN ?_ _) | (with_reducible refine Kd.C_drew ?_))); (case side2 => exact HC0_4.out); (case side3 => repeat (first | exact (Kd.C_below HR1_4.out HB.out) | (with_reducible refine Kd.C_alloc ?_ _) | (with_reducible refine Kd.C_drewN ?_ _) | (with_reducible refine Kd.C_drew ?_))); (case side4 => exact HC1_4.out); rintro e w' ⟨rfl, ⟨nd, rfl⟩⟩; refine ⟨_, rfl, ?_⟩))
       go_ret
       exact ⟨by first | rfl | (simp [errW_none, errW_some] <;> rfl) | (simp [*, errW_none, errW_some] <;> rfl), by repeat (first | (with_reducible first | exact HB.out | apply below_alloc | apply pw_below_drewN | apply below_drew1 | refine below_set ?_ GE649.out | refine below_set ?_ GE650.out) | exact HB.out)⟩
   · replace c5 := Bool.eq_false_iff.mpr c5
     subst c5
     have H1 : (some false) = some r := by rw [if_neg (show ¬ (false = true) by decide)] at H; exact H
     clear H
     have H := H1
     clear H1
     obtain rfl := Option.some.inj H
     go_enter Tryd.func12, Tryd.ntmps12
     go_wp2_with (first | ((with_reducible refine gate_dst (N := 2) rfl ?_); refine box_event ?hg (N := 2) ?hd (cs := #[.int .i64 a0_0, .bool a0_1, .int .i64 a0_2, .int .u64 a0_3, .slice A0_4 l0_4.length c0_4, .int .i64 a0_5]) (t := 32) ?hr ?_; (case hd => rfl); (case hg => rfl); (case hr => first | (go_simp; done) | (go_simp; rfl)); intro gb649 hg w33 hbox hb; have n0_ := Aside0.mk (below_step (by repeat (first | (with_reducible first | exact HB.out | apply below_alloc | apply pw_below_drewN | apply below_drew1) | exact HB.out)) hb); have n1_ := Aside0.mk (hbox); have n2_ := Aside0.mk ((by rw [hg]; exact (below_size (by repeat (first | (with_reducible first | exact HB.out | apply below_alloc | apply pw_below_drewN | apply below_drew1) | exact HB.out))) : w.heap.size ≤ gb649)); have n3_ := Aside0.mk ((by rw [hg]; exact (below_size (by repeat (first | (with_reducible first | exact HB.out | apply below_alloc | apply pw_below_drewN | apply below_drew1) | exact HB.out))) : w.heap.size ≤ gb649)); clear HB; have HB := n0_; have BK649 := n1_; have GW649 := n2_; have GE649 := n3_; clear n0_ n1_ n2_ n3_; clear hb hbox hg) | ((with_reducible refine gate_dst (N := 3) rfl ?_); refine box_event ?hg (N := 3) ?hd (cs := #[.int .i64 a1_0, .bool a1_1, .int .i64 a1_2, .int .u64 a1_3, .slice A1_4 l1_4.length c1_4, .int .i64 a1_5]) (t := 32) ?hr ?_; (case hd => rfl); (case hg => rfl); (case hr => first | (go_simp; done) | (go_simp; rfl)); intro gb650 hg w34 hbox hb; have n0_ := Aside0.mk (blk_below (g := gb649) (o := .cells #[.int .i64 a0_0, .bool a0_1, .int .i64 a0_2, .int .u64 a0_3, .slice A0_4 l0_4.length c0_4, .int .i64 a0_5] 32 (0, 0)) (by (with_reducible repeat (first | refine blk_drewN ?_ _ | refine blk_drew ?_ | refine blk_alloc ?_ _)); exact BK649.out) hb); have n1_ := Aside0.mk (below_step (by repeat (first | (with_reducible first | exact HB.out | apply below_alloc | apply pw_below_drewN | apply below_drew1 | refine below_set ?_ GE649.out) | exact HB.out)) hb); have n2_ := Aside0.mk (hbox); have n3_ := Aside0.mk ((by rw [hg]; exact (below_size (by repeat (first | (with_reducible first | exact HB.out | apply below_alloc | apply pw_below_drewN | apply below_drew1 | refine below_set ?_ GE649.out) | exact HB.out))) : w.heap.size ≤ gb650)); have n4_ := Aside0.mk ((by rw [hg]; exact (below_size (by repeat (first | (with_reducible first | exact HB.out | apply below_alloc | apply pw_below_drewN | apply below_drew1 | refine below_set ?_ GE649.out) | exact HB.out))) : w.heap.size ≤ gb650)); have n5_ := Aside0.mk ((by rw [hg]; exact Nat.ne_of_lt (blk_lt (g := gb649) (o := .cells #[.int .i64 a0_0, .bool a0_1, .int .i64 a0_2, .int .u64 a0_3, .slice A0_4 l0_4.length c0_4, .int .i64 a0_5] 32 (0, 0)) (by (with_reducible repeat (first | refine blk_drewN ?_ _ | refine blk_drew ?_ | refine blk_alloc ?_ _)); exact BK649.out)) : gb649 ≠ gb650)); have n6_ := Aside0.mk ((by rw [hg]; exact Nat.ne_of_gt (blk_lt (g := gb649) (o := .cells #[.int .i64 a0_0, .bool a0_1, .int .i64 a0_2, .int .u64 a0_3, .slice A0_4 l0_4.length c0_4, .int .i64 a0_5] 32 (0, 0)) (by (with_reducible repeat (first | refine blk_drewN ?_ _ | refine blk_drew ?_ | refine blk_alloc ?_ _)); exact BK649.out)) : gb650 ≠ gb649)); clear BK649; clear HB; have BK649 := n0_; have HB := n1_; have BK650 := n2_; have GW650 := n3_; have GE650 := n4_; have NB649_650 := n5_; have NB650_649 := n6_; clear n0_ n1_ n2_ n3_ n4_ n5_ n6_; clear hb hbox hg; have hnb35 := NB649_650.out; have hnc35 := NB650_649.out; have hcz36_0 : w34.cell? ⟨gb649, 0, none⟩ = some (.int .i64 a0_0) := (blk_cell BK649.out 0).trans rfl; have hcz36_1 : w34.cell? ⟨gb649, 1, none⟩ = some (.bool a0_1) := (blk_cell BK649.out 1).trans rfl; have hcz36_2 : w34.cell? ⟨gb649, 2, none⟩ = some (.int .i64 a0_2) := (blk_cell BK649.out 2).trans rfl; have hcz36_3 : w34.cell? ⟨gb649, 3, none⟩ = some (.int .u64 a0_3) := (blk_cell BK649.out 3).trans rfl; have hcz36_4 : w34.cell? ⟨gb649, 4, none⟩ = some (.slice A0_4 l0_4.length c0_4) := (blk_cell BK649.out 4).trans rfl; have hcz36_5 : w34.cell? ⟨gb649, 5, none⟩ = some (.int .i64 a0_5) := (blk_cell BK649.out 5).trans rfl; have hfz36_0 := blk_frozen BK649.out 0; have hfz36_1 := blk_frozen BK649.out 1; have hfz36_2 := blk_frozen BK649.out 2; have hfz36_3 := blk_frozen BK649.out 3; have hfz36_4 := blk_frozen BK649.out 4; have hfz36_5 := blk_frozen BK649.out 5; have hcz37_0 : w34.cell? ⟨gb650, 0, none⟩ = some (.int .i64 a1_0) := (blk_cell BK650.out 0).trans rfl; have hcz37_1 : w34.cell? ⟨gb650, 1, none⟩ = some (.bool a1_1) := (blk_cell BK650.out 1).trans rfl; have hcz37_2 : w34.cell? ⟨gb650, 2, none⟩ = some (.int .i64 a1_2) := (blk_cell BK650.out 2).trans rfl; have hcz37_3 : w34.cell? ⟨gb650, 3, none⟩ = some (.int .u64 a1_3) := (blk_cell BK650.out 3).trans rfl; have hcz37_4 : w34.cell? ⟨gb650, 4, none⟩ = some (.slice A1_4 l1_4.length c1_4) := (blk_cell BK650.out 4).trans rfl; have hcz37_5 : w34.cell? ⟨gb650, 5, none⟩ = some (.int .i64 a1_5) := (blk_cell BK650.out 5).trans rfl; have hfz37_0 := blk_frozen BK650.out 0; have hfz37_1 := blk_frozen BK650.out 1; have hfz37_2 := blk_frozen BK650.out 2; have hfz37_3 := blk_frozen BK650.out 3; have hfz37_4 := blk_frozen BK650.out 4; have hfz37_5 := blk_frozen BK650.out 5) | ((with_reducible refine gate_callee (f := 42) rfl ?_); refine goesL_ (some 14) rfl rfl Tryd.func42 (by kernel_rfl) rfl #[.agg #[.bool a0_1, .int .i64 a0_2, .int .u64 a0_3], .agg #[.bool a1_1, .int .i64 a1_2, .int .u64 a1_3]] rfl (by (try simp only [List.map_toArray, List.map_cons, List.map_nil]); first | done | rfl | (simp only [List.length_drop, List.length_take]; rfl)) ?_; (with_reducible refine (laws_eqValue.calls a0_1 a0_2 a0_3 a1_1 a1_2 a1_3 false _ A4.out).mono ?_); rintro e w38 ⟨rfl, hb⟩; refine ⟨_, rfl, ?_⟩; have n0_ := Aside0.mk (blk_below (g := gb649) (o := .cells #[.int .i64 a0_0, .bool a0_1, .int .i64 a0_2, .int .u64 a0_3, .slice A0_4 l0_4.length c0_4, .int .i64 a0_5] 32 (0, 0)) (by (with_reducible repeat (first | refine blk_drewN ?_ _ | refine blk_drew ?_ | refine blk_alloc ?_ _)); exact BK649.out) hb); have n1_ := Aside0.mk (blk_below (g := gb650) (o := .cells #[.int .i64 a1_0, .bool a1_1, .int .i64 a1_2, .int .u64 a1_3, .slice A1_4 l1_4.length c1_4, .int .i64 a1_5] 32 (0, 0)) (by (with_reducible repeat (first | refine blk_drewN ?_ _ | refine blk_drew ?_ | refine blk_alloc ?_ _)); exact BK650.out) hb); have n2_ := Aside0.mk (below_step (by repeat (first | (with_reducible first | exact HB.out | apply below_alloc | apply pw_below_drewN | apply below_drew1 | refine below_set ?_ GE649.out | refine below_set ?_ GE650.out) | exact HB.out)) hb); clear BK649; clear BK650; clear HB; have BK649 := n0_; have BK650 := n1_; have HB := n2_; clear n0_ n1_ n2_; (try clear hb); (try clear hb2); (try clear hk); (try clear hi)))
     go_ret
     exact ⟨by first | rfl | (simp [errW_none, errW_some] <;> rfl) | (simp [*, errW_none, errW_some] <;> rfl), by repeat (first | (with_reducible first | exact HB.out | apply below_alloc | apply pw_below_drewN | apply below_drew1 | refine below_set ?_ GE649.out | refine below_set ?_ GE650.out) | exact HB.out)⟩
 · rw [if_neg c3] at H
   have c3b0 : (a0_0 == a1_0) = false := beq_eq_false_iff_ne.mpr c3
   have c3b1 : (a0_0 != a1_0) = true := bne_iff_ne.mpr c3
   obtain rfl := Option.some.inj H
   go_enter Tryd.func12, Tryd.ntmps12
   go_wp2_with (first | ((with_reducible refine gate_dst (N := 2) rfl ?_); refine box_event ?hg (N := 2) ?hd (cs := #[.int .i64 a0_0, .bool a0_1, .int .i64 a0_2, .int .u64 a0_3, .slice A0_4 l0_4.length c0_4, .int .i64 a0_5]) (t := 32) ?hr ?_; (case hd => rfl); (case hg => rfl); (case hr => first | (go_simp; done) | (go_simp; rfl)); intro gb649 hg w39 hbox hb; have n0_ := Aside0.mk (below_step (by repeat (first | (with_reducible first | exact HB.out | apply below_alloc | apply pw_below_drewN | apply below_drew1) | exact HB.out)) hb); have n1_ := Aside0.mk (hbox); have n2_ := Aside0.mk ((by rw [hg]; exact (below_size (by repeat (first | (with_reducible first | exact HB.out | apply below_alloc | apply pw_below_drewN | apply below_drew1) | exact HB.out))) : w.heap.size ≤ gb649)); have n3_ := Aside0.mk ((by rw [hg]; exact (below_size (by repeat (first | (with_reducible first | exact HB.out | apply below_alloc | apply pw_below_drewN | apply below_drew1) | exact HB.out))) : w.heap.size ≤ gb649)); clear HB; have HB := n0_; have BK649 := n1_; have GW649 := n2_; have GE649 := n3_; clear n0_ n1_ n2_ n3_; clear hb hbox hg) | ((with_reducible refine gate_dst (N := 3) rfl ?_); refine box_event ?hg (N := 3) ?hd (cs := #[.int .i64 a1_0, .bool a1_1, .int .i64 a1_2, .int .u64 a1_3, .slice A1_4 l1_4.length c1_4, .int .i64 a1_5]) (t := 32) ?hr ?_; (case hd => rfl); (case hg => rfl); (case hr => first | (go_simp; done) | (go_simp; rfl)); intro gb650 hg w40 hbox hb; have n0_ := Aside0.mk (blk_below (g := gb649) (o := .cells #[.int .i64 a0_0, .bool a0_1, .int .i64 a0_2, .int .u64 a0_3, .slice A0_4 l0_4.length c0_4, .int .i64 a0_5] 32 (0, 0)) (by (with_reducible repeat (first | refine blk_drewN ?_ _ | refine blk_drew ?_ | refine blk_alloc ?_ _)); exact BK649.out) hb); have n1_ := Aside0.mk (below_step (by repeat (first | (with_reducible first | exact HB.out | apply below_alloc | apply pw_below_drewN | apply below_drew1 | refine below_set ?_ GE649.out) | exact HB.out)) hb); have n2_ := Aside0.mk (hbox); have n3_ := Aside0.mk ((by rw [hg]; exact (below_size (by repeat (first | (with_reducible first | exact HB.out | apply below_alloc | apply pw_below_drewN | apply below_drew1 | refine below_set ?_ GE649.out) | exact HB.out))) : w.heap.size ≤ gb650)); have n4_ := Aside0.mk ((by rw [hg]; exact (below_size (by repeat (first | (with_reducible first | exact HB.out | apply below_alloc | apply pw_below_drewN | apply below_drew1 | refine below_set ?_ GE649.out) | exact HB.out))) : w.heap.size ≤ gb650)); have n5_ := Aside0.mk ((by rw [hg]; exact Nat.ne_of_lt (blk_lt (g := gb649) (o := .cells #[.int .i64 a0_0, .bool a0_1, .int .i64 a0_2, .int .u64 a0_3, .slice A0_4 l0_4.length c0_4, .int .i64 a0_5] 32 (0, 0)) (by (with_reducible repeat (first | refine blk_drewN ?_ _ | refine blk_drew ?_ | refine blk_alloc ?_ _)); exact BK649.out)) : gb649 ≠ gb650)); have n6_ := Aside0.mk ((by rw [hg]; exact Nat.ne_of_gt (blk_lt (g := gb649) (o := .cells #[.int .i64 a0_0, .bool a0_1, .int .i64 a0_2, .int .u64 a0_3, .slice A0_4 l0_4.length c0_4, .int .i64 a0_5] 32 (0, 0)) (by (with_reducible repeat (first | refine blk_drewN ?_ _ | refine blk_drew ?_ | refine blk_alloc ?_ _)); exact BK649.out)) : gb650 ≠ gb649)); clear BK649; clear HB; have BK649 := n0_; have HB := n1_; have BK650 := n2_; have GW650 := n3_; have GE650 := n4_; have NB649_650 := n5_; have NB650_649 := n6_; clear n0_ n1_ n2_ n3_ n4_ n5_ n6_; clear hb hbox hg; have hnb41 := NB649_650.out; have hnc41 := NB650_649.out; have hcz42_0 : w40.cell? ⟨gb649, 0, none⟩ = some (.int .i64 a0_0) := (blk_cell BK649.out 0).trans rfl; have hcz42_1 : w40.cell? ⟨gb649, 1, none⟩ = some (.bool a0_1) := (blk_cell BK649.out 1).trans rfl; have hcz42_2 : w40.cell? ⟨gb649, 2, none⟩ = some (.int .i64 a0_2) := (blk_cell BK649.out 2).trans rfl; have hcz42_3 : w40.cell? ⟨gb649, 3, none⟩ = some (.int .u64 a0_3) := (blk_cell BK649.out 3).trans rfl; have hcz42_4 : w40.cell? ⟨gb649, 4, none⟩ = some (.slice A0_4 l0_4.length c0_4) := (blk_cell BK649.out 4).trans rfl; have hcz42_5 : w40.cell? ⟨gb649, 5, none⟩ = some (.int .i64 a0_5) := (blk_cell BK649.out 5).trans rfl; have hfz42_0 := blk_frozen BK649.out 0; have hfz42_1 := blk_frozen BK649.out 1; have hfz42_2 := blk_frozen BK649.out 2; have hfz42_3 := blk_frozen BK649.out 3; have hfz42_4 := blk_frozen BK649.out 4; have hfz42_5 := blk_frozen BK649.out 5; have hcz43_0 : w40.cell? ⟨gb650, 0, none⟩ = some (.int .i64 a1_0) := (blk_cell BK650.out 0).trans rfl; have hcz43_1 : w40.cell? ⟨gb650, 1, none⟩ = some (.bool a1_1) := (blk_cell BK650.out 1).trans rfl; have hcz43_2 : w40.cell? ⟨gb650, 2, none⟩ = some (.int .i64 a1_2) := (blk_cell BK650.out 2).trans rfl; have hcz43_3 : w40.cell? ⟨gb650, 3, none⟩ = some (.int .u64 a1_3) := (blk_cell BK650.out 3).trans rfl; have hcz43_4 : w40.cell? ⟨gb650, 4, none⟩ = some (.slice A1_4 l1_4.length c1_4) := (blk_cell BK650.out 4).trans rfl; have hcz43_5 : w40.cell? ⟨gb650, 5, none⟩ = some (.int .i64 a1_5) := (blk_cell BK650.out 5).trans rfl; have hfz43_0 := blk_frozen BK650.out 0; have hfz43_1 := blk_frozen BK650.out 1; have hfz43_2 := blk_frozen BK650.out 2; have hfz43_3 := blk_frozen BK650.out 3; have hfz43_4 := blk_frozen BK650.out 4; have hfz43_5 := blk_frozen BK650.out 5))
   go_ret
   exact ⟨by first | rfl | (simp [errW_none, errW_some] <;> rfl) | (simp [*, errW_none, errW_some] <;> rfl), by repeat (first | (with_reducible first | exact HB.out | apply below_alloc | apply pw_below_drewN | apply below_drew1 | refine below_set ?_ GE649.out | refine below_set ?_ GE650.out) | exact HB.out)⟩

end Go.Proofs.YtkohjiajbdkcbaaDoor.All


namespace Go.Proofs.YtkohjiajbdkcbaaDoor.All
open Go.RowKit Go.Proofs.YtkohjiajbdkcbaaDoorW.PrintWords Go.Proofs.YtkohjiajbdkcbaaDoorW.PrintLast Go.Proofs.YtkohjiajbdkcbaaDoorW.PrintMore
attribute [local go_sem] max2_int min2_int max_two min_two max_three min_three max_four min_four   -- for this text's walks alone
set_option linter.unusedVariables false
set_option linter.unusedSimpArgs false

/-! ### laws_FnExactFormatOutcome: function 3 -/
def laws_FnExactFormatOutcome.f (k : Nat) (a0_0 : Int) (a0_1 : Bool) (a0_2 : Int) (a0_3 : Int) (l0_4 : List Int) (a0_5 : Int) : Option (Bool) := (laws_szOutcome.f a0_0 a0_1 a0_2 a0_3 l0_4 a0_5 1048576).bind fun t654 => (if t654 < 0 then (some true) else ((laws_toOutcome.f k a0_0 a0_1 a0_2 a0_3 l0_4 a0_5).bind fun bt655 => ((spec_FormatOutcome.f k bt655.1 bt655.2.1 bt655.2.2.1 bt655.2.2.2.1 bt655.2.2.2.2.1 bt655.2.2.2.2.2).bind fun t663 => ((laws_toOutcome.f k a0_0 a0_1 a0_2 a0_3 l0_4 a0_5).bind fun bt664 => ((impl_FormatOutcome.f bt664.1 bt664.2.1 bt664.2.2.1 bt664.2.2.2.1 bt664.2.2.2.2.1 bt664.2.2.2.2.2).bind fun t673 => (if t673.toList = t663.toList then ((laws_toOutcome.f k a0_0 a0_1 a0_2 a0_3 l0_4 a0_5).bind fun bt674 => ((laws_eqOutcome.f k bt664.1 bt664.2.1 bt664.2.2.1 bt664.2.2.2.1 bt664.2.2.2.2.1 bt664.2.2.2.2.2 bt674.1 bt674.2.1 bt674.2.2.1 bt674.2.2.2.1 bt674.2.2.2.2.1 bt674.2.2.2.2.2).bind fun t682 => (if t682 = true then (some true) else (some false)))) else (some false)))))))
set_option maxHeartbeats 8000000 in
set_option maxRecDepth 100000 in
theorem laws_FnExactFormatOutcome.calls (k : Nat) (a0_0 : Int) (a0_1 : Bool) (a0_2 : Int) (a0_3 : Int) (A0_4 : Option Addr) (c0_4 : Nat) (l0_4 : List Int) (a0_5 : Int) (r : Bool) (w : World) (hLtTab : LtTab w) (hr0_4 : Kd.C (Kd.int .u64) w A0_4 l0_4.length l0_4) (hc0_4 : l0_4.length ≤ c0_4) (h : laws_FnExactFormatOutcome.f k a0_0 a0_1 a0_2 a0_3 l0_4 a0_5 = some r) :
 Calls Tryd.prog 3 #[.agg #[.int .i64 a0_0, .bool a0_1, .int .i64 a0_2, .int .u64 a0_3, .slice A0_4 l0_4.length c0_4, .int .i64 a0_5]] w fun e w' => e = .returned (.bool r) ∧ Below w.heap.size w w' := by
 have HLtTab := Aside0.mk hLtTab
 clear hLtTab
 have hu27 := Tryd.underlying27
 have hu32 := Tryd.underlying32
 have HR0_4 := Aside0.mk hr0_4
 have HC0_4 := Aside0.mk hc0_4
 clear hr0_4 hc0_4
 have HB := Aside0.mk (Below.refl w.heap.size w)
 have H : ((laws_szOutcome.f a0_0 a0_1 a0_2 a0_3 l0_4 a0_5 1048576).bind fun t654 => (if t654 < 0 then (some true) else ((laws_toOutcome.f k a0_0 a0_1 a0_2 a0_3 l0_4 a0_5).bind fun bt655 => ((spec_FormatOutcome.f k bt655.1 bt655.2.1 bt655.2.2.1 bt655.2.2.2.1 bt655.2.2.2.2.1 bt655.2.2.2.2.2).bind fun t663 => ((laws_toOutcome.f k a0_0 a0_1 a0_2 a0_3 l0_4 a0_5).bind fun bt664 => ((impl_FormatOutcome.f bt664.1 bt664.2.1 bt664.2.2.1 bt664.2.2.2.1 bt664.2.2.2.2.1 bt664.2.2.2.2.2).bind fun t673 => (if t673.toList = t663.toList then ((laws_toOutcome.f k a0_0 a0_1 a0_2 a0_3 l0_4 a0_5).bind fun bt674 => ((laws_eqOutcome.f k bt664.1 bt664.2.1 bt664.2.2.1 bt664.2.2.2.1 bt664.2.2.2.2.1 bt664.2.2.2.2.2 bt674.1 bt674.2.1 bt674.2.2.1 bt674.2.2.2.1 bt674.2.2.2.2.1 bt674.2.2.2.2.2).bind fun t682 => (if t682 = true then (some true) else (some false)))) else (some false)))))))) = some r := h
 clear h
 replace H := Option.bind_eq_some_iff.mp H
 obtain ⟨t654, A20, H⟩ := H
 replace H : (if t654 < 0 then (some true) else ((laws_toOutcome.f k a0_0 a0_1 a0_2 a0_3 l0_4 a0_5).bind fun bt655 => ((spec_FormatOutcome.f k bt655.1 bt655.2.1 bt655.2.2.1 bt655.2.2.2.1 bt655.2.2.2.2.1 bt655.2.2.2.2.2).bind fun t663 => ((laws_toOutcome.f k a0_0 a0_1 a0_2 a0_3 l0_4 a0_5).bind fun bt664 => ((impl_FormatOutcome.f bt664.1 bt664.2.1 bt664.2.2.1 bt664.2.2.2.1 bt664.2.2.2.2.1 bt664.2.2.2.2.2).bind fun t673 => (if t673.toList = t663.toList then ((laws_toOutcome.f k a0_0 a0_1 a0_2 a0_3 l0_4 a0_5).bind fun bt674 => ((laws_eqOutcome.f k bt664.1 bt664.2.1 bt664.2.2.1 bt664.2.2.2.1 bt664.2.2.2.2.1 bt664.2.2.2.2.2 bt674.1 bt674.2.1 bt674.2.2.1 bt674.2.2.2.1 bt674.2.2.2.2.1 bt674.2.2.2.2.2).bind fun t682 => (if t682 = true then (some true) else (some false)))) else (some false))))))) = some r := H
 have A2 := Aside0.mk A20
 clear A20
 by_cases c3 : t654 < 0
 · rw [if_pos c3] at H
   have c3b0 : decide (t654 < 0) = true := decide_eq_true c3
   clear c3
   obtain rfl := Option.some.inj H
   go_enter Tryd.func3, Tryd.ntmps3
   go_wp2_with (first | ((with_reducible refine gate_dst (N := 1) rfl ?_); refine box_event ?hg (N := 1) ?hd (cs := #[.int .i64 a0_0, .bool a0_1, .int .i64 a0_2, .int .u64 a0_3, .slice A0_4 l0_4.length c0_4, .int .i64 a0_5]) (t := 27) ?hr ?_; (case hd => rfl); (case hg => rfl); (case hr => first | (go_simp; done) | (go_simp; rfl)); intro gb653 hg w4 hbox hb; have n0_ := Aside0.mk (below_step (by repeat (first | (with_reducible first | exact HB.out | apply below_alloc | apply pw_below_drewN | apply below_drew1) | exact HB.out)) hb); have n1_ := Aside0.mk (hbox); have n2_ := Aside0.mk ((by rw [hg]; exact (below_size (by repeat (first | (with_reducible first | exact HB.out | apply below_alloc | apply pw_below_drewN | apply below_drew1) | exact HB.out))) : w.heap.size ≤ gb653)); have n3_ := Aside0.mk ((by rw [hg]; exact (below_size (by repeat (first | (with_reducible first | exact HB.out | apply below_alloc | apply pw_below_drewN | apply below_drew1) | exact HB.out))) : w.heap.size ≤ gb653)); clear HB; have HB := n0_; have BK653 := n1_; have GW653 := n2_; have GE653 := n3_; clear n0_ n1_ n2_ n3_; clear hb hbox hg; have hcz5_0 : w4.cell? ⟨gb653, 0, none⟩ = some (.int .i64 a0_0) := (blk_cell BK653.out 0).trans rfl; have hcz5_1 : w4.cell? ⟨gb653, 1, none⟩ = some (.bool a0_1) := (blk_cell BK653.out 1).trans rfl; have hcz5_2 : w4.cell? ⟨gb653, 2, none⟩ = some (.int .i64 a0_2) := (blk_cell BK653.out 2).trans rfl; have hcz5_3 : w4.cell? ⟨gb653, 3, none⟩ = some (.int .u64 a0_3) := (blk_cell BK653.out 3).trans rfl; have hcz5_4 : w4.cell? ⟨gb653, 4, none⟩ = some (.slice A0_4 l0_4.length c0_4) := (blk_cell BK653.out 4).trans rfl; have hcz5_5 : w4.cell? ⟨gb653, 5, none⟩ = some (.int .i64 a0_5) := (blk_cell BK653.out 5).trans rfl; have hfz5_0 := blk_frozen BK653.out 0; have hfz5_1 := blk_frozen BK653.out 1; have hfz5_2 := blk_frozen BK653.out 2; have hfz5_3 := blk_frozen BK653.out 3; have hfz5_4 := blk_frozen BK653.out 4; have hfz5_5 := blk_frozen BK653.out 5) | ((with_reducible refine gate_callee (f := 8) rfl ?_); refine goesL_ (some 9) rfl rfl Tryd.func8 (by kernel_rfl) rfl #[.agg #[.int .i64 a0_0, .bool a0_1, .int .i64 a0_2, .int .u64 a0_3, .slice A0_4 l0_4.length c0_4, .int .i64 a0_5], .int .i64 1048576] rfl (by (try simp only [List.map_toArray, List.map_cons, List.map_nil]); first | done | rfl | (simp only [List.length_drop, List.length_take]; rfl)) ?_; (with_reducible refine (laws_szOutcome.calls a0_0 a0_1 a0_2 a0_3 _ _ l0_4 a0_5 1048576 t654 _ ?side1 ?side2 A2.out).mono ?_); (case side1 => repeat (first | exact (Kd.C_below HR0_4.out HB.out) | (with_reducible refine Kd.C_alloc ?_ _) | (with_reducible refine Kd.C_drewN ?_ _) | (with_reducible refine Kd.C_drew ?_))); (case side2 => exact HC0_4.out); rintro e w6 ⟨rfl, hb⟩; refine ⟨_, rfl, ?_⟩; have n0_ := Aside0.mk (blk_below (g := gb653) (o := .cells #[.int .i64 a0_0, .bool a0_1, .int .i64 a0_2, .int .u64 a0_3, .slice A0_4 l0_4.length c0_4, .int .i64 a0_5] 27 (0, 0)) (by (with_reducible repeat (first | refine blk_drewN ?_ _ | refine blk_drew ?_ | refine blk_alloc ?_ _)); exact BK653.out) hb); have n1_ := Aside0.mk (below_step (by repeat (first | (with_reducible first | exact HB.out | apply below_alloc | apply pw_below_drewN | apply below_drew1 | refine below_set ?_ GE653.out) | exact HB.out)) hb); clear BK653; clear HB; have BK653 := n0_; have HB := n1_; clear n0_ n1_; (try clear hb); (try clear hb2); (try clear hk); (try clear hi)))
   go_ret
   exact ⟨by first | rfl | (simp [errW_none, errW_some] <;> rfl) | (simp [*, errW_none, errW_some] <;> rfl), by repeat (first | (with_reducible first | exact HB.out | apply below_alloc | apply pw_below_drewN | apply below_drew1 | refine below_set ?_ GE653.out) | exact HB.out)⟩
 · rw [if_neg c3] at H
   have c3b0 : decide (t654 < 0) = false := decide_eq_false c3
   clear c3
   replace H := Option.bind_eq_some_iff.mp H
   obtain ⟨⟨t655, t656, t657, t658, t659, t662⟩, A70, H⟩ := H
   replace H : ((spec_FormatOutcome.f k t655 t656 t657 t658 t659 t662).bind fun t663 => ((laws_toOutcome.f k a0_0 a0_1 a0_2 a0_3 l0_4 a0_5).bind fun bt664 => ((impl_FormatOutcome.f bt664.1 bt664.2.1 bt664.2.2.1 bt664.2.2.2.1 bt664.2.2.2.2.1 bt664.2.2.2.2.2).bind fun t673 => (if t673.toList = t663.toList then ((laws_toOutcome.f k a0_0 a0_1 a0_2 a0_3 l0_4 a0_5).bind fun bt674 => ((laws_eqOutcome.f k bt664.1 bt664.2.1 bt664.2.2.1 bt664.2.2.2.1 bt664.2.2.2.2.1 bt664.2.2.2.2.2 bt674.1 bt674.2.1 bt674.2.2.1 bt674.2.2.2.1 bt674.2.2.2.2.1 bt674.2.2.2.2.2).bind fun t682 => (if t682 = true then (some true) else (some false)))) else (some false))))) = some r := H
   have A7 := Aside0.mk A70
   clear A70
   replace H := Option.bind_eq_some_iff.mp H
   obtain ⟨t663, A80, H⟩ := H
   replace H : ((laws_toOutcome.f k a0_0 a0_1 a0_2 a0_3 l0_4 a0_5).bind fun bt664 => ((impl_FormatOutcome.f bt664.1 bt664.2.1 bt664.2.2.1 bt664.2.2.2.1 bt664.2.2.2.2.1 bt664.2.2.2.2.2).bind fun t673 => (if t673.toList = t663.toList then ((laws_toOutcome.f k a0_0 a0_1 a0_2 a0_3 l0_4 a0_5).bind fun bt674 => ((laws_eqOutcome.f k bt664.1 bt664.2.1 bt664.2.2.1 bt664.2.2.2.1 bt664.2.2.2.2.1 bt664.2.2.2.2.2 bt674.1 bt674.2.1 bt674.2.2.1 bt674.2.2.2.1 bt674.2.2.2.2.1 bt674.2.2.2.2.2).bind fun t682 => (if t682 = true then (some true) else (some false)))) else (some false)))) = some r := H
   have A8 := Aside0.mk A80
   clear A80
   replace H := Option.bind_eq_some_iff.mp H
   obtain ⟨⟨t664, t665, t666, t667, t668, t671⟩, A90, H⟩ := H
   replace H : ((impl_FormatOutcome.f t664 t665 t666 t667 t668 t671).bind fun t673 => (if t673.toList = t663.toList then ((laws_toOutcome.f k a0_0 a0_1 a0_2 a0_3 l0_4 a0_5).bind fun bt674 => ((laws_eqOutcome.f k t664 t665 t666 t667 t668 t671 bt674.1 bt674.2.1 bt674.2.2.1 bt674.2.2.2.1 bt674.2.2.2.2.1 bt674.2.2.2.2.2).bind fun t682 => (if t682 = true then (some true) else (some false)))) else (some false))) = some r := H
   have A9 := Aside0.mk A90
   clear A90
   replace H := Option.bind_eq_some_iff.mp H
   obtain ⟨t673, A100, H⟩ := H
   replace H : (if t673.toList = t663.toList then ((laws_toOutcome.f k a0_0 a0_1 a0_2 a0_3 l0_4 a0_5).bind fun bt674 => ((laws_eqOutcome.f k t664 t665 t666 t667 t668 t671 bt674.1 bt674.2.1 bt674.2.2.1 bt674.2.2.2.1 bt674.2.2.2.2.1 bt674.2.2.2.2.2).bind fun t682 => (if t682 = true then (some true) else (some false)))) else (some false)) = some r := H
   have A10 := Aside0.mk A100
   clear A100
   by_cases c11 : t673.toList = t663.toList
   · rw [if_pos c11] at H
     have c11b0 : (t673.toList == t663.toList) = true := beq_iff_eq.mpr c11
     have c11b1 : (t673.toList != t663.toList) = false := bne_eq_false_iff_eq.mpr c11
     clear c11
     replace H := Option.bind_eq_some_iff.mp H
     obtain ⟨⟨t674, t675, t676, t677, t678, t681⟩, A120, H⟩ := H
     replace H : ((laws_eqOutcome.f k t664 t665 t666 t667 t668 t671 t674 t675 t676 t677 t678 t681).bind fun t682 => (if t682 = true then (some true) else (some false))) = some r := H
     have A12 := Aside0.mk A120
     clear A120
     replace H := Option.bind_eq_some_iff.mp H
     obtain ⟨t682, A130, H⟩ := H
     replace H : (if t682 = true then (some true) else (some false)) = some r := H
     have A13 := Aside0.mk A130
     clear A130
     by_cases c14 : t682 = true
     · subst c14
       have H1 : (some true) = some r := by rw [if_pos rfl] at H; exact H
       clear H
       have H := H1
       clear H1
       obtain rfl := Option.some.inj H
       go_enter Tryd.func3, Tryd.ntmps3
       try go_wp2_with (first | ((with_reducible refine gate_dst (N := 1) rfl ?_); refine box_event ?hg (N := 1) ?hd (cs := #[.int .i64 a0_0, .bool a0_1, .int .i64 a0_2, .int .u64 a0_3, .slice A0_4 l0_4.length c0_4, .int .i64 a0_5]) (t := 27) ?hr ?_; (case hd => rfl); (case hg => rfl); (case hr => first | (go_simp; done) | (go_simp; rfl)); intro gb653 hg w15 hbox hb; have n0_ := Aside0.mk (below_step (by repeat (first | (with_reducible first | exact HB.out | apply below_alloc | apply pw_below_drewN | apply below_drew1) | exact HB.out)) hb); have n1_ := Aside0.mk (hbox); have n2_ := Aside0.mk ((by rw [hg]; exact (below_size (by repeat (first | (with_reducible first | exact HB.out | apply below_alloc | apply pw_below_drewN | apply below_drew1) | exact HB.out))) : w.heap.size ≤ gb653)); have n3_ := Aside0.mk ((by rw [hg]; exact (below_size (by repeat (first | (with_reducible first | exact HB.out | apply below_alloc | apply pw_below_drewN | apply below_drew1) | exact HB.out))) : w.heap.size ≤ gb653)); clear HB; have HB := n0_; have BK653 := n1_; have GW653 := n2_; have GE653 := n3_; clear n0_ n1_ n2_ n3_; clear hb hbox hg; have hcz16_0 : w15.cell? ⟨gb653, 0, none⟩ = some (.int .i64 a0_0) := (blk_cell BK653.out 0).trans rfl; have hcz16_1 : w15.cell? ⟨gb653, 1, none⟩ = some (.bool a0_1) := (blk_cell BK653.out 1).trans rfl; have hcz16_2 : w15.cell? ⟨gb653, 2, none⟩ = some (.int .i64 a0_2) := (blk_cell BK653.out 2).trans rfl; have hcz16_3 : w15.cell? ⟨gb653, 3, none⟩ = some (.int .u64 a0_3) := (blk_cell BK653.out 3).trans rfl; have hcz16_4 : w15.cell? ⟨gb653, 4, none⟩ = some (.slice A0_4 l0_4.length c0_4) := (blk_cell BK653.out 4).trans rfl; have hcz16_5 : w15.cell? ⟨gb653, 5, none⟩ = some (.int .i64 a0_5) := (blk_cell BK653.out 5).trans rfl; have hfz16_0 := blk_frozen BK653.out 0; have hfz16_1 := blk_frozen BK653.out 1; have hfz16_2 := blk_frozen BK653.out 2; have hfz16_3 := blk_frozen BK653.out 3; have hfz16_4 := blk_frozen BK653.out 4; have hfz16_5 := blk_frozen BK653.out 5) | ((with_reducible refine gate_callee (f := 8) rfl ?_); refine goesL_ (some 9) rfl rfl Tryd.func8 (by kernel_rfl) rfl #[.agg #[.int .i64 a0_0, .bool a0_1, .int .i64 a0_2, .int .u64 a0_3, .slice A0_4 l0_4.length c0_4, .int .i64 a0_5], .int .i64 1048576] rfl (by (try simp only [List.map_toArray, List.map_cons, List.map_nil]); first | done | rfl | (simp only [List.length_drop, List.length_take]; rfl)) ?_; (with_reducible refine (laws_szOutcome.calls a0_0 a0_1 a0_2 a0_3 _ _ l0_4 a0_5 1048576 t654 _ ?side1 ?side2 A2.out).mono ?_); (case side1 => repeat (first | exact (Kd.C_below HR0_4.out HB.out) | (with_reducible refine Kd.C_alloc ?_ _) | (with_reducible refine Kd.C_drewN ?_ _) | (with_reducible refine Kd.C_drew ?_))); (case side2 => exact HC0_4.out); rintro e w17 ⟨rfl, hb⟩; refine ⟨_, rfl, ?_⟩; have n0_ := Aside0.mk (blk_below (g := gb653) (o := .cells #[.int .i64 a0_0, .bool a0_1, .int .i64 a0_2, .int .u64 a0_3, .slice A0_4 l0_4.length c0_4, .int .i64 a0_5] 27 (0, 0)) (by (with_reducible repeat (first | refine blk_drewN ?_ _ | refine blk_drew ?_ | refine blk_alloc ?_ _)); exact BK653.out) hb); have n1_ := Aside0.mk (below_step (by repeat (first | (with_reducible first | exact HB.out | apply below_alloc | apply pw_below_drewN | apply below_drew1 | refine below_set ?_ GE653.out) | exact HB.out)) hb); clear BK653; clear HB; have BK653 := n0_; have HB := n1_; clear n0_ n1_; (try clear hb); (try clear hb2); (try clear hk); (try clear hi); have hcz18_0 : w17.cell? ⟨gb653, 0, none⟩ = some (.int .i64 a0_0) := (blk_cell BK653.out 0).trans rfl; have hcz18_1 : w17.cell? ⟨gb653, 1, none⟩ = some (.bool a0_1) := (blk_cell BK653.out 1).trans rfl; have hcz18_2 : w17.cell? ⟨gb653, 2, none⟩ = some (.int .i64 a0_2) := (blk_cell BK653.out 2).trans rfl; have hcz18_3 : w17.cell? ⟨gb653, 3, none⟩ = some (.int .u64 a0_3) := (blk_cell BK653.out 3).trans rfl; have hcz18_4 : w17.cell? ⟨gb653, 4, none⟩ = some (.slice A0_4 l0_4.length c0_4) := (blk_cell BK653.out 4).trans rfl; have hcz18_5 : w17.cell? ⟨gb653, 5, none⟩ = some (.int .i64 a0_5) := (blk_cell BK653.out 5).trans rfl; have hfz18_0 := blk_frozen BK653.out 0; have hfz18_1 := blk_frozen BK653.out 1; have hfz18_2 := blk_frozen BK653.out 2; have hfz18_3 := blk_frozen BK653.out 3; have hfz18_4 := blk_frozen BK653.out 4; have hfz18_5 := blk_frozen BK653.out 5) | ((with_reducible refine gate_callee (f := 10) rfl ?_); refine goesL_ (some 13) rfl rfl Tryd.func10 (by kernel_rfl) rfl #[.agg #[.int .i64 a0_0, .bool a0_1, .int .i64 a0_2, .int .u64 a0_3, .slice A0_4 l0_4.length c0_4, .int .i64 a0_5]] rfl (by (try simp only [List.map_toArray, List.map_cons, List.map_nil]); first | done | rfl | (simp only [List.length_drop, List.length_take]; rfl)) ?_; (with_reducible refine (laws_toOutcome.calls k a0_0 a0_1 a0_2 a0_3 _ _ l0_4 a0_5 t655 t656 t657 t658 t659 t662 _ ?side1 ?side2 A7.out).mono ?_); (case side1 => repeat (first | exact (Kd.C_below HR0_4.out HB.out) | (with_reducible refine Kd.C_alloc ?_ _) | (with_reducible refine Kd.C_drewN ?_ _) | (with_reducible refine Kd.C_drew ?_))); (case side2 => exact HC0_4.out); rintro e w19 ⟨v660, rfl, ho0, hb⟩; refine ⟨_, rfl, ?_⟩; have n0_ := Aside0.mk (Kd.R_lower ho0 (below_size (by repeat (first | (with_reducible first | exact HB.out | apply below_alloc | apply pw_below_drewN | apply below_drew1 | refine below_set ?_ GE653.out) | exact HB.out)))); have n1_ := Aside0.mk (blk_below (g := gb653) (o := .cells #[.int .i64 a0_0, .bool a0_1, .int .i64 a0_2, .int .u64 a0_3, .slice A0_4 l0_4.length c0_4, .int .i64 a0_5] 27 (0, 0)) (by (with_reducible repeat (first | refine blk_drewN ?_ _ | refine blk_drew ?_ | refine blk_alloc ?_ _)); exact BK653.out) hb); have n2_ := Aside0.mk (below_step (by repeat (first | (with_reducible first | exact HB.out | apply below_alloc | apply pw_below_drewN | apply below_drew1 | refine below_set ?_ GE653.out) | exact HB.out)) hb); clear BK653; clear HB; have HO661 := n0_; have BK653 := n1_; have HB := n2_; clear n0_ n1_ n2_; (try clear hb); (try clear hb2); (try clear hk); (try clear hi); (try clear ho0); obtain ⟨Ao20, co20, eo20⟩ := Kd.R_slice HO661.out; subst eo20) | ((with_reducible refine gate_callee (f := 9) rfl ?_); refine goesL_ (some 14) rfl rfl Tryd.func9 (by kernel_rfl) rfl #[.agg #[.int .i64 t655, .bool t656, .int .i64 t657, .int .u64 t658, .slice Ao20 t659.length co20, .int .i64 t662]] rfl (by (try simp only [List.map_toArray, List.map_cons, List.map_nil]); first | done | rfl | (simp only [List.length_drop, List.length_take]; rfl)) ?_; (with_reducible refine (spec_FormatOutcome.calls k t655 t656 t657 t658 _ _ t659 t662 t663 _ ?side1 ?side2 A8.out).mono ?_); (case side1 => repeat (first | exact (Kd.R_reads' HO661.out).2.2 | (with_reducible refine Kd.C_alloc ?_ _) | (with_reducible refine Kd.C_drewN ?_ _) | (with_reducible refine Kd.C_drew ?_))); (case side2 => exact (Kd.R_reads' HO661.out).2.1); rintro e w21 ⟨rfl, hb⟩; refine ⟨_, rfl, ?_⟩; have n0_ := Aside0.mk (Kd.R_below (by (with_reducible repeat (first | apply Kd.R_alloc | apply Kd.R_drewN | apply Kd.R_drew)); exact HO661.out) hb); have n1_ := Aside0.mk (blk_below (g := gb653) (o := .cells #[.int .i64 a0_0, .bool a0_1, .int .i64 a0_2, .int .u64 a0_3, .slice A0_4 l0_4.length c0_4, .int .i64 a0_5] 27 (0, 0)) (by (with_reducible repeat (first | refine blk_drewN ?_ _ | refine blk_drew ?_ | refine blk_alloc ?_ _)); exact BK653.out) hb); have n2_ := Aside0.mk (below_step (by repeat (first | (with_reducible first | exact HB.out | apply below_alloc | apply pw_below_drewN | apply below_drew1 | refine below_set ?_ GE653.out) | exact HB.out)) hb); clear HO661; clear BK653; clear HB; have HO661 := n0_; have BK653 := n1_; have HB := n2_; clear n0_ n1_ n2_; (try clear hb); (try clear hb2); (try clear hk); (try clear hi); have hcz22_0 : w21.cell? ⟨gb653, 0, none⟩ = some (.int .i64 a0_0) := (blk_cell BK653.out 0).trans rfl; have hcz22_1 : w21.cell? ⟨gb653, 1, none⟩ = some (.bool a0_1) := (blk_cell BK653.out 1).trans rfl; have hcz22_2 : w21.cell? ⟨gb653, 2, none⟩ = some (.int .i64 a0_2) := (blk_cell BK653.out 2).trans rfl; have hcz22_3 : w21.cell? ⟨gb653, 3, none⟩ = some (.int .u64 a0_3) := (blk_cell BK653.out 3).trans rfl; have hcz22_4 : w21.cell? ⟨gb653, 4, none⟩ = some (.slice A0_4 l0_4.length c0_4) := (blk_cell BK653.out 4).trans rfl; have hcz22_5 : w21.cell? ⟨gb653, 5, none⟩ = some (.int .i64 a0_5) := (blk_cell BK653.out 5).trans rfl; have hfz22_0 := blk_frozen BK653.out 0; have hfz22_1 := blk_frozen BK653.out 1; have hfz22_2 := blk_frozen BK653.out 2; have hfz22_3 := blk_frozen BK653.out 3; have hfz22_4 := blk_frozen BK653.out 4; have hfz22_5 := blk_frozen BK653.out 5) | ((with_reducible refine gate_callee (f := 10) rfl ?_); refine goesL_ (some 16) rfl rfl Tryd.func10 (by kernel_rfl) rfl #[.agg #[.int .i64 a0_0, .bool a0_1, .int .i64 a0_2, .int .u64 a0_3, .slice A0_4 l0_4.length c0_4, .int .i64 a0_5]] rfl (by (try simp only [List.map_toArray, List.map_cons, List.map_nil]); first | done | rfl | (simp only [List.length_drop, List.length_take]; rfl)) ?_; (with_reducible refine (laws_toOutcome.calls k a0_0 a0_1 a0_2 a0_3 _ _ l0_4 a0_5 t664 t665 t666 t667 t668 t671 _ ?side1 ?side2 A9.out).mono ?_); (case side1 => repeat (first | exact (Kd.C_below HR0_4.out HB.out) | (with_reducible refine Kd.C_alloc ?_ _) | (with_reducible refine Kd.C_drewN ?_ _) | (with_reducible refine Kd.C_drew ?_))); (case side2 => exact HC0_4.out); rintro e w23 ⟨v669, rfl, ho0, hb⟩; refine ⟨_, rfl, ?_⟩; have n0_ := Aside0.mk (Kd.R_elder' (by (with_reducible repeat (first | apply Kd.R_alloc | apply Kd.R_drewN | apply Kd.R_drew)); exact HO661.out) (Kd.R_base ho0) hb); have n1_ := Aside0.mk (Kd.R_lower (Kd.R_new' ho0 (Kd.R_lt (by (with_reducible repeat (first | apply Kd.R_alloc | apply Kd.R_drewN | apply Kd.R_drew)); exact HO661.out))) (below_size (by repeat (first | (with_reducible first | exact HB.out | apply below_alloc | apply pw_below_drewN | apply below_drew1 | refine below_set ?_ GE653.out) | exact HB.out)))); have n2_ := Aside0.mk (blk_below (g := gb653) (o := .cells #[.int .i64 a0_0, .bool a0_1, .int .i64 a0_2, .int .u64 a0_3, .slice A0_4 l0_4.length c0_4, .int .i64 a0_5] 27 (0, 0)) (by (with_reducible repeat (first | refine blk_drewN ?_ _ | refine blk_drew ?_ | refine blk_alloc ?_ _)); exact BK653.out) hb); have n3_ := Aside0.mk (below_step (by repeat (first | (with_reducible first | exact HB.out | apply below_alloc | apply pw_below_drewN | apply below_drew1 | refine below_set ?_ GE653.out) | exact HB.out)) hb); clear HO661; clear BK653; clear HB; have HO661 := n0_; have HO670 := n1_; have BK653 := n2_; have HB := n3_; clear n0_ n1_ n2_ n3_; (try clear hb); (try clear hb2); (try clear hk); (try clear hi); (try clear ho0)) | ((with_reducible refine gate_dst (N := 5) rfl ?_); refine box_event ?hg (N := 5) ?hd (cs := #[.int .i64 0, .bool false, .int .i64 0, .int .u64 0, .slice none 0 0, .int .i64 0]) (t := 32) ?hr ?_; (case hd => rfl); (case hg => rfl); (case hr => first | (go_simp; done) | (go_simp; rfl)); intro gb672 hg w24 hbox hb; have n0_ := Aside0.mk (Kd.R_below (by (with_reducible repeat (first | apply Kd.R_alloc | apply Kd.R_drewN | apply Kd.R_drew)); exact HO661.out) hb); have n1_ := Aside0.mk (Kd.R_below (by (with_reducible repeat (first | apply Kd.R_alloc | apply Kd.R_drewN | apply Kd.R_drew)); exact HO670.out) hb); have n2_ := Aside0.mk (blk_below (g := gb653) (o := .cells #[.int .i64 a0_0, .bool a0_1, .int .i64 a0_2, .int .u64 a0_3, .slice A0_4 l0_4.length c0_4, .int .i64 a0_5] 27 (0, 0)) (by (with_reducible repeat (first | refine blk_drewN ?_ _ | refine blk_drew ?_ | refine blk_alloc ?_ _)); exact BK653.out) hb); have n3_ := Aside0.mk (below_step (by repeat (first | (with_reducible first | exact HB.out | apply below_alloc | apply pw_below_drewN | apply below_drew1 | refine below_set ?_ GE653.out) | exact HB.out)) hb); have n4_ := Aside0.mk (hbox); have n5_ := Aside0.mk ((by rw [hg]; exact (below_size (by repeat (first | (with_reducible first | exact HB.out | apply below_alloc | apply pw_below_drewN | apply below_drew1 | refine below_set ?_ GE653.out) | exact HB.out))) : w.heap.size ≤ gb672)); have n6_ := Aside0.mk ((by rw [hg]; exact (below_size (by repeat (first | (with_reducible first | exact HB.out | apply below_alloc | apply pw_below_drewN | apply below_drew1 | refine below_set ?_ GE653.out) | exact HB.out))) : w.heap.size ≤ gb672)); have n7_ := Aside0.mk ((by rw [hg]; exact Nat.ne_of_lt (blk_lt (g := gb653) (o := .cells #[.int .i64 a0_0, .bool a0_1, .int .i64 a0_2, .int .u64 a0_3, .slice A0_4 l0_4.length c0_4, .int .i64 a0_5] 27 (0, 0)) (by (with_reducible repeat (first | refine blk_drewN ?_ _ | refine blk_drew ?_ | refine blk_alloc ?_ _)); exact BK653.out)) : gb653 ≠ gb672)); have n8_ := Aside0.mk ((by rw [hg]; exact Nat.ne_of_gt (blk_lt (g := gb653) (o := .cells #[.int .i64 a0_0, .bool a0_1, .int .i64 a0_2, .int .u64 a0_3, .slice A0_4 l0_4.length c0_4, .int .i64 a0_5] 27 (0, 0)) (by (with_reducible repeat (first | refine blk_drewN ?_ _ | refine blk_drew ?_ | refine blk_alloc ?_ _)); exact BK653.out)) : gb672 ≠ gb653)); clear HO661; clear HO670; clear BK653; clear HB; have HO661 := n0_; have HO670 := n1_; have BK653 := n2_; have HB := n3_; have BK672 := n4_; have GW672 := n5_; have GE672 := n6_; have NB653_672 := n7_; have NB672_653 := n8_; clear n0_ n1_ n2_ n3_ n4_ n5_ n6_ n7_ n8_; clear hb hbox hg; have hnb25 := NB672_653.out; have hnc25 := NB653_672.out; have hcz26_0 : w24.cell? ⟨gb672, 0, none⟩ = some (.int .i64 0) := (blk_cell BK672.out 0).trans rfl; have hcz26_1 : w24.cell? ⟨gb672, 1, none⟩ = some (.bool false) := (blk_cell BK672.out 1).trans rfl; have hcz26_2 : w24.cell? ⟨gb672, 2, none⟩ = some (.int .i64 0) := (blk_cell BK672.out 2).trans rfl; have hcz26_3 : w24.cell? ⟨gb672, 3, none⟩ = some (.int .u64 0) := (blk_cell BK672.out 3).trans rfl; have hcz26_4 : w24.cell? ⟨gb672, 4, none⟩ = some (.slice none 0 0) := (blk_cell BK672.out 4).trans rfl; have hcz26_5 : w24.cell? ⟨gb672, 5, none⟩ = some (.int .i64 0) := (blk_cell BK672.out 5).trans rfl; have hfz26_0 := blk_frozen BK672.out 0; have hfz26_1 := blk_frozen BK672.out 1; have hfz26_2 := blk_frozen BK672.out 2; have hfz26_3 := blk_frozen BK672.out 3; have hfz26_4 := blk_frozen BK672.out 4; have hfz26_5 := blk_frozen BK672.out 5; obtain ⟨Ao27, co27, eo27⟩ := Kd.R_slice HO670.out; subst eo27) | ((with_reducible refine gate_callee (f := 11) rfl ?_); refine goesL_ (some 18) rfl rfl Tryd.func11 (by kernel_rfl) rfl #[.agg #[.int .i64 t664, .bool t665, .int .i64 t666, .int .u64 t667, .slice Ao27 t668.length co27, .int .i64 t671]] rfl (by (try simp only [List.map_toArray, List.map_cons, List.map_nil]); first | done | rfl | (simp only [List.length_drop, List.length_take]; rfl)) ?_; (with_reducible refine (impl_FormatOutcome.calls t664 t665 t666 t667 _ _ t668 t671 t673 _ ?tLtTab ?side1 ?side2 A10.out).mono ?_); (case tLtTab => exact HLtTab.out.on (by repeat (first | (with_reducible first | exact HB.out | apply below_alloc | apply pw_below_drewN | apply below_drew1 | refine below_set ?_ GE653.out | refine below_set ?_ GE672.out) | exact HB.out))); (case side1 => refine (Kd.R_reads' (e := 22) (base := w.heap.size) (ok := fun k_ => (True ∧ some k_ ≠ (.slice Ao20 t659.length co20 : Value).ownBlock)) (n := t668.length) (c := co27) ?_).2.2; exact (by (with_reducible repeat (first | apply Kd.R_alloc | apply Kd.R_drewN | apply Kd.R_drew)); exact (Kd.R_mono (Kd.R_far (p := ⟨gb672, 5, none⟩) (Kd.R_far (p := ⟨gb672, 4, none⟩) (Kd.R_far (p := ⟨gb672, 3, none⟩) (Kd.R_far (p := ⟨gb672, 2, none⟩) (Kd.R_far (p := ⟨gb672, 1, none⟩) (Kd.R_far (p := ⟨gb672, 0, none⟩) (Kd.R_types HO670.out BK672.out (by decide)) (fun _ hk => hk.2) (.int .i64 t664)) (fun _ hk => hk.2) (.bool t665)) (fun _ hk => hk.2) (.int .i64 t666)) (fun _ hk => hk.2) (.int .u64 t667)) (fun _ hk => hk.2) (.slice Ao27 t668.length co27)) (fun _ hk => hk.2) (.int .i64 t671)) (fun _ h_ => h_.1)))); (case side2 => exact (Kd.R_reads' HO670.out).2.1); rintro e w28 ⟨rfl, hb⟩; refine ⟨_, rfl, ?_⟩; have n0_ := Aside0.mk (Kd.R_below (by (with_reducible repeat (first | apply Kd.R_alloc | apply Kd.R_drewN | apply Kd.R_drew)); exact (Kd.R_mono (Kd.R_far (p := ⟨gb672, 5, none⟩) (Kd.R_far (p := ⟨gb672, 4, none⟩) (Kd.R_far (p := ⟨gb672, 3, none⟩) (Kd.R_far (p := ⟨gb672, 2, none⟩) (Kd.R_far (p := ⟨gb672, 1, none⟩) (Kd.R_far (p := ⟨gb672, 0, none⟩) (Kd.R_types HO661.out BK672.out (by decide)) (fun _ hk => hk.2) (.int .i64 t664)) (fun _ hk => hk.2) (.bool t665)) (fun _ hk => hk.2) (.int .i64 t666)) (fun _ hk => hk.2) (.int .u64 t667)) (fun _ hk => hk.2) (.slice Ao27 t668.length co27)) (fun _ hk => hk.2) (.int .i64 t671)) (fun _ h_ => h_.1))) hb); have n1_ := Aside0.mk (Kd.R_below (by (with_reducible repeat (first | apply Kd.R_alloc | apply Kd.R_drewN | apply Kd.R_drew)); exact (Kd.R_mono (Kd.R_far (p := ⟨gb672, 5, none⟩) (Kd.R_far (p := ⟨gb672, 4, none⟩) (Kd.R_far (p := ⟨gb672, 3, none⟩) (Kd.R_far (p := ⟨gb672, 2, none⟩) (Kd.R_far (p := ⟨gb672, 1, none⟩) (Kd.R_far (p := ⟨gb672, 0, none⟩) (Kd.R_types HO670.out BK672.out (by decide)) (fun _ hk => hk.2) (.int .i64 t664)) (fun _ hk => hk.2) (.bool t665)) (fun _ hk => hk.2) (.int .i64 t666)) (fun _ hk => hk.2) (.int .u64 t667)) (fun _ hk => hk.2) (.slice Ao27 t668.length co27)) (fun _ hk => hk.2) (.int .i64 t671)) (fun _ h_ => h_.1))) hb); have n2_ := Aside0.mk (blk_below (g := gb653) (o := .cells #[.int .i64 a0_0, .bool a0_1, .int .i64 a0_2, .int .u64 a0_3, .slice A0_4 l0_4.length c0_4, .int .i64 a0_5] 27 (0, 0)) (by (with_reducible repeat (first | refine blk_drewN ?_ _ | refine blk_drew ?_ | refine blk_alloc ?_ _)); refine blk_far ?_ NB653_672.out _; (with_reducible repeat (first | refine blk_drewN ?_ _ | refine blk_drew ?_ | refine blk_alloc ?_ _)); refine blk_far ?_ NB653_672.out _; (with_reducible repeat (first | refine blk_drewN ?_ _ | refine blk_drew ?_ | refine blk_alloc ?_ _)); refine blk_far ?_ NB653_672.out _; (with_reducible repeat (first | refine blk_drewN ?_ _ | refine blk_drew ?_ | refine blk_alloc ?_ _)); refine blk_far ?_ NB653_672.out _; (with_reducible repeat (first | refine blk_drewN ?_ _ | refine blk_drew ?_ | refine blk_alloc ?_ _)); refine blk_far ?_ NB653_672.out _; (with_reducible repeat (first | refine blk_drewN ?_ _ | refine blk_drew ?_ | refine blk_alloc ?_ _)); refine blk_far ?_ NB653_672.out _; (with_reducible repeat (first | refine blk_drewN ?_ _ | refine blk_drew ?_ | refine blk_alloc ?_ _)); exact BK653.out) hb); have n3_ := Aside0.mk (blk_below (g := gb672) (o := .cells #[.int .i64 t664, .bool t665, .int .i64 t666, .int .u64 t667, .slice Ao27 t668.length co27, .int .i64 t671] 32 (0, 0)) (by (with_reducible repeat (first | refine blk_drewN ?_ _ | refine blk_drew ?_ | refine blk_alloc ?_ _)); refine blk_put (cs := #[.int .i64 t664, .bool t665, .int .i64 t666, .int .u64 t667, .slice Ao27 t668.length co27, .int .i64 0]) ?_ 5 _ rfl; (with_reducible repeat (first | refine blk_drewN ?_ _ | refine blk_drew ?_ | refine blk_alloc ?_ _)); refine blk_put (cs := #[.int .i64 t664, .bool t665, .int .i64 t666, .int .u64 t667, .slice none 0 0, .int .i64 0]) ?_ 4 _ rfl; (with_reducible repeat (first | refine blk_drewN ?_ _ | refine blk_drew ?_ | refine blk_alloc ?_ _)); refine blk_put (cs := #[.int .i64 t664, .bool t665, .int .i64 t666, .int .u64 0, .slice none 0 0, .int .i64 0]) ?_ 3 _ rfl; (with_reducible repeat (first | refine blk_drewN ?_ _ | refine blk_drew ?_ | refine blk_alloc ?_ _)); refine blk_put (cs := #[.int .i64 t664, .bool t665, .int .i64 0, .int .u64 0, .slice none 0 0, .int .i64 0]) ?_ 2 _ rfl; (with_reducible repeat (first | refine blk_drewN ?_ _ | refine blk_drew ?_ | refine blk_alloc ?_ _)); refine blk_put (cs := #[.int .i64 t664, .bool false, .int .i64 0, .int .u64 0, .slice none 0 0, .int .i64 0]) ?_ 1 _ rfl; (with_reducible repeat (first | refine blk_drewN ?_ _ | refine blk_drew ?_ | refine blk_alloc ?_ _)); refine blk_put (cs := #[.int .i64 0, .bool false, .int .i64 0, .int .u64 0, .slice none 0 0, .int .i64 0]) ?_ 0 _ rfl; (with_reducible repeat (first | refine blk_drewN ?_ _ | refine blk_drew ?_ | refine blk_alloc ?_ _)); exact BK672.out) hb); have n4_ := Aside0.mk (below_step (by repeat (first | (with_reducible first | exact HB.out | apply below_alloc | apply pw_below_drewN | apply below_drew1 | refine below_set ?_ GE653.out | refine below_set ?_ GE672.out) | exact HB.out)) hb); clear HO661; clear HO670; clear BK653; clear BK672; clear HB; have HO661 := n0_; have HO670 := n1_; have BK653 := n2_; have BK672 := n3_; have HB := n4_; clear n0_ n1_ n2_ n3_ n4_; (try clear hb); (try clear hb2); (try clear hk); (try clear hi)))
       have n0_ := Aside0.mk (Kd.R_drew HO661.out)
       have n1_ := Aside0.mk (Kd.R_drew HO670.out)
       have n2_ := Aside0.mk (blk_drew BK653.out)
       have n3_ := Aside0.mk (blk_drew BK672.out)
       have n4_ := Aside0.mk (below_drew1 HB.out)
       clear HO661
       clear HO670
       clear BK653
       clear BK672
       clear HB
       have HO661 := n0_
       have HO670 := n1_
       have BK653 := n2_
       have BK672 := n3_
       have HB := n4_
       clear n0_ n1_ n2_ n3_ n4_
       refine start_ (n := 5) (S := fun w' => w'.cell? ⟨gb672, 0, none⟩ = some (.int .i64 t664) ∧ w'.cell? ⟨gb672, 1, none⟩ = some (.bool t665) ∧ w'.cell? ⟨gb672, 2, none⟩ = some (.int .i64 t666) ∧ w'.cell? ⟨gb672, 3, none⟩ = some (.int .u64 t667) ∧ w'.cell? ⟨gb672, 4, none⟩ = some (.slice Ao27 t668.length co27) ∧ w'.cell? ⟨gb672, 5, none⟩ = some (.int .i64 t671) ∧ w'.cell? ⟨gb653, 0, none⟩ = some (.int .i64 a0_0) ∧ w'.cell? ⟨gb653, 1, none⟩ = some (.bool a0_1) ∧ w'.cell? ⟨gb653, 2, none⟩ = some (.int .i64 a0_2) ∧ w'.cell? ⟨gb653, 3, none⟩ = some (.int .u64 a0_3) ∧ w'.cell? ⟨gb653, 4, none⟩ = some (.slice A0_4 l0_4.length c0_4) ∧ w'.cell? ⟨gb653, 5, none⟩ = some (.int .i64 a0_5)) (ds := []) #[false, false, false, false, false] (by kernel_rfl) rfl rfl ⟨(blk_cell BK672.out 0).trans rfl, (blk_cell BK672.out 1).trans rfl, (blk_cell BK672.out 2).trans rfl, (blk_cell BK672.out 3).trans rfl, (blk_cell BK672.out 4).trans rfl, (blk_cell BK672.out 5).trans rfl, (blk_cell BK653.out 0).trans rfl, (blk_cell BK653.out 1).trans rfl, (blk_cell BK653.out 2).trans rfl, (blk_cell BK653.out 3).trans rfl, (blk_cell BK653.out 4).trans rfl, (blk_cell BK653.out 5).trans rfl⟩ (fun hHeld => ?_)
       generalize w28.drew = w29 at HO661 HO670 BK653 BK672 HB hHeld ⊢
       refine take_ (i := 0) (N := some 22) (v := ?_) (a' := ?_) #[true, false, false, false, false] rfl rfl (by kernel_rfl) (fun _ _ _ h => h) (Or.inl ⟨by rfl, ?_⟩) hHeld ?_ ?_
       rotate_left
       · rintro w' ⟨s0, s1, s2, s3, s4, s5, s6, s7, s8, s9, s10, s11⟩
         go_simp
         with_reducible rfl
       rotate_left
       · simp only [Act.put, List.setIfInBounds_toArray, List.set_cons_zero, List.set_cons_succ, i64_w, i32_w]
         rfl
       refine take_ (i := 1) (N := some 23) (v := ?_) (a' := ?_) #[true, true, false, false, false] rfl rfl (by kernel_rfl) (fun _ _ _ h => h) (Or.inl ⟨by rfl, ?_⟩) hHeld ?_ ?_
       rotate_left
       · rintro w' ⟨s0, s1, s2, s3, s4, s5, s6, s7, s8, s9, s10, s11⟩
         go_simp
         with_reducible rfl
       rotate_left
       · simp only [Act.put, List.setIfInBounds_toArray, List.set_cons_zero, List.set_cons_succ, i64_w, i32_w]
         rfl
       refine one_ (i := 2) (N := some 24) #[true, true, true, false, false] rfl rfl (by kernel_rfl) (by decide) (fun K hK => ?_)
       refine goes_ Tryd.func10 (by kernel_rfl) rfl #[.agg #[.int .i64 a0_0, .bool a0_1, .int .i64 a0_2, .int .u64 a0_3, .slice A0_4 l0_4.length c0_4, .int .i64 a0_5]] (by rfl) rfl rfl (by (try simp only [List.map_toArray, List.map_cons, List.map_nil]); first | done | rfl | (simp only [List.length_drop, List.length_take]; rfl)) ?_
       with_reducible refine (laws_toOutcome.calls k a0_0 a0_1 a0_2 a0_3 _ _ l0_4 a0_5 t674 t675 t676 t677 t678 t681 _ ?side1 ?side2 A12.out).mono ?_
       (case side1 => repeat (first | exact (Kd.C_below HR0_4.out HB.out) | (with_reducible refine Kd.C_alloc ?_ _) | (with_reducible refine Kd.C_drewN ?_ _) | (with_reducible refine Kd.C_drew ?_)))
       (case side2 => exact HC0_4.out)
       rintro e w30 ⟨v679, rfl, ho0, hb⟩
       refine ⟨_, rfl, ?_⟩
       have n0_ := Aside0.mk (Kd.R_elder' (by (with_reducible repeat (first | apply Kd.R_alloc | apply Kd.R_drewN | apply Kd.R_drew)); exact HO661.out) (Kd.R_base ho0) hb)
       have n1_ := Aside0.mk (Kd.R_elder' (by (with_reducible repeat (first | apply Kd.R_alloc | apply Kd.R_drewN | apply Kd.R_drew)); exact HO670.out) (Kd.R_base ho0) hb)
       have n2_ := Aside0.mk (Kd.R_lower (Kd.R_new' (Kd.R_new' ho0 (Kd.R_lt (by (with_reducible repeat (first | apply Kd.R_alloc | apply Kd.R_drewN | apply Kd.R_drew)); exact HO661.out))) (Kd.R_lt (by (with_reducible repeat (first | apply Kd.R_alloc | apply Kd.R_drewN | apply Kd.R_drew)); exact HO670.out))) (below_size (by repeat (first | (with_reducible first | exact HB.out | apply below_alloc | apply pw_below_drewN | apply below_drew1 | refine below_set ?_ GE653.out | refine below_set ?_ GE672.out) | exact HB.out))))
       have n3_ := Aside0.mk (blk_below (g := gb653) (o := .cells #[.int .i64 a0_0, .bool a0_1, .int .i64 a0_2, .int .u64 a0_3, .slice A0_4 l0_4.length c0_4, .int .i64 a0_5] 27 (0, 0)) (by (with_reducible repeat (first | refine blk_drewN ?_ _ | refine blk_drew ?_ | refine blk_alloc ?_ _)); exact BK653.out) hb)
       have n4_ := Aside0.mk (blk_below (g := gb672) (o := .cells #[.int .i64 t664, .bool t665, .int .i64 t666, .int .u64 t667, .slice Ao27 t668.length co27, .int .i64 t671] 32 (0, 0)) (by (with_reducible repeat (first | refine blk_drewN ?_ _ | refine blk_drew ?_ | refine blk_alloc ?_ _)); exact BK672.out) hb)
       have n5_ := Aside0.mk (below_step (by repeat (first | (with_reducible first | exact HB.out | apply below_alloc | apply pw_below_drewN | apply below_drew1 | refine below_set ?_ GE653.out | refine below_set ?_ GE672.out) | exact HB.out)) hb)
       clear HO661
       clear HO670
       clear BK653
       clear BK672
       clear HB
       have HO661 := n0_
       have HO670 := n1_
       have HO680 := n2_
       have BK653 := n3_
       have BK672 := n4_
       have HB := n5_
       clear n0_ n1_ n2_ n3_ n4_ n5_
       (try clear hb)
       (try clear hb2)
       (try clear hk)
       (try clear hi)
       (try clear ho0)
       obtain ⟨Ao31, co31, eo31⟩ := Kd.R_slice HO680.out
       (first | subst eo31 | (injection eo31 with f1_ f2_ f3_; have f4_ := f1_.symm; have f5_ := f3_.symm; clear f1_ f2_ f3_; subst f4_; subst f5_))
       refine hK.out _ _ ⟨(blk_cell BK672.out 0).trans rfl, (blk_cell BK672.out 1).trans rfl, (blk_cell BK672.out 2).trans rfl, (blk_cell BK672.out 3).trans rfl, (blk_cell BK672.out 4).trans rfl, (blk_cell BK672.out 5).trans rfl, (blk_cell BK653.out 0).trans rfl, (blk_cell BK653.out 1).trans rfl, (blk_cell BK653.out 2).trans rfl, (blk_cell BK653.out 3).trans rfl, (blk_cell BK653.out 4).trans rfl, (blk_cell BK653.out 5).trans rfl⟩ (fun hHeld => ?_)
       clear hK K
       refine norm_ (a' := ?_) ?_ ?_
       rotate_left
       · show Act.put _ (some 24) _ = _
         simp only [Act.put, List.setIfInBounds_toArray, List.set_cons_zero, List.set_cons_succ, i64_w, i32_w]
         rfl
       refine one_ (i := 3) (N := some 25) #[true, true, true, true, false] rfl rfl (by kernel_rfl) (by decide) (fun K hK => ?_)
       refine goes_ Tryd.func12 (by kernel_rfl) rfl #[.agg #[.int .i64 t664, .bool t665, .int .i64 t666, .int .u64 t667, .slice Ao27 t668.length co27, .int .i64 t671], .agg #[.int .i64 t674, .bool t675, .int .i64 t676, .int .u64 t677, .slice Ao31 t678.length co31, .int .i64 t681]] (by rfl) rfl rfl (by (try simp only [List.map_toArray, List.map_cons, List.map_nil]); first | done | rfl | (simp only [List.length_drop, List.length_take]; rfl)) ?_
       with_reducible refine (laws_eqOutcome.calls k t664 t665 t666 t667 _ _ t668 t671 t674 t675 t676 t677 _ _ t678 t681 true _ ?side1 ?side2 ?side3 ?side4 A13.out).mono ?_
       (case side1 => repeat (first | exact (Kd.R_reads' HO670.out).2.2 | (with_reducible refine Kd.C_alloc ?_ _) | (with_reducible refine Kd.C_drewN ?_ _) | (with_reducible refine Kd.C_drew ?_)))
       (case side2 => exact (Kd.R_reads' HO670.out).2.1)
       (case side3 => repeat (first | exact (Kd.R_reads' HO680.out).2.2 | (with_reducible refine Kd.C_alloc ?_ _) | (with_reducible refine Kd.C_drewN ?_ _) | (with_reducible refine Kd.C_drew ?_)))
       (case side4 => exact (Kd.R_reads' HO680.out).2.1)
       rintro e w32 ⟨rfl, hb⟩
       refine ⟨_, rfl, ?_⟩
       have n0_ := Aside0.mk (Kd.R_below (by (with_reducible repeat (first | apply Kd.R_alloc | apply Kd.R_drewN | apply Kd.R_drew)); exact HO661.out) hb)
       have n1_ := Aside0.mk (Kd.R_below (by (with_reducible repeat (first | apply Kd.R_alloc | apply Kd.R_drewN | apply Kd.R_drew)); exact HO670.out) hb)
       have n2_ := Aside0.mk (Kd.R_below (by (with_reducible repeat (first | apply Kd.R_alloc | apply Kd.R_drewN | apply Kd.R_drew)); exact HO680.out) hb)
       have n3_ := Aside0.mk (blk_below (g := gb653) (o := .cells #[.int .i64 a0_0, .bool a0_1, .int .i64 a0_2, .int .u64 a0_3, .slice A0_4 l0_4.length c0_4, .int .i64 a0_5] 27 (0, 0)) (by (with_reducible repeat (first | refine blk_drewN ?_ _ | refine blk_drew ?_ | refine blk_alloc ?_ _)); exact BK653.out) hb)
       have n4_ := Aside0.mk (blk_below (g := gb672) (o := .cells #[.int .i64 t664, .bool t665, .int .i64 t666, .int .u64 t667, .slice Ao27 t668.length co27, .int .i64 t671] 32 (0, 0)) (by (with_reducible repeat (first | refine blk_drewN ?_ _ | refine blk_drew ?_ | refine blk_alloc ?_ _)); exact BK672.out) hb)
       have n5_ := Aside0.mk (below_step (by repeat (first | (with_reducible first | exact HB.out | apply below_alloc | apply pw_below_drewN | apply below_drew1 | refine below_set ?_ GE653.out | refine below_set ?_ GE672.out) | exact HB.out)) hb)
       clear HO661
       clear HO670
       clear HO680
       clear BK653
       clear BK672
       clear HB
       have HO661 := n0_
       have HO670 := n1_
       have HO680 := n2_
       have BK653 := n3_
       have BK672 := n4_
       have HB := n5_
       clear n0_ n1_ n2_ n3_ n4_ n5_
       (try clear hb)
       (try clear hb2)
       (try clear hk)
       (try clear hi)
       refine hK.out _ _ ⟨(blk_cell BK672.out 0).trans rfl, (blk_cell BK672.out 1).trans rfl, (blk_cell BK672.out 2).trans rfl, (blk_cell BK672.out 3).trans rfl, (blk_cell BK672.out 4).trans rfl, (blk_cell BK672.out 5).trans rfl, (blk_cell BK653.out 0).trans rfl, (blk_cell BK653.out 1).trans rfl, (blk_cell BK653.out 2).trans rfl, (blk_cell BK653.out 3).trans rfl, (blk_cell BK653.out 4).trans rfl, (blk_cell BK653.out 5).trans rfl⟩ (fun hHeld => ?_)
       clear hK K
       refine norm_ (a' := ?_) ?_ ?_
       rotate_left
       · show Act.put _ (some 25) _ = _
         simp only [Act.put, List.setIfInBounds_toArray, List.set_cons_zero, List.set_cons_succ, i64_w, i32_w]
         rfl
       refine pure_ (i := 4) (N := some 26) (v := ?_) (a' := ?_) #[true, true, true, true, true] rfl rfl (by kernel_rfl) (fun _ _ _ h => h) (Or.inl ⟨by rfl, ?_⟩) ?_ ?_
       rotate_left
       · intro w'
         go_simp
         with_reducible rfl
       rotate_left
       · simp only [Act.put, List.setIfInBounds_toArray, List.set_cons_zero, List.set_cons_succ, i64_w, i32_w]
         rfl
       refine done_ (by kernel_rfl) ?_
       try go_wp2
       go_ret
       exact ⟨by first | rfl | (simp [errW_none, errW_some] <;> rfl) | (simp [*, errW_none, errW_some] <;> rfl), by repeat (first | (with_reducible first | exact HB.out | apply below_alloc | apply pw_below_drewN | apply below_drew1 | refine below_set ?_ GE653.out | refine below_set ?_ GE672.out) | exact HB.out)⟩
     · replace c14 := Bool.eq_false_iff.mpr c14
       subst c14
       have H1 : (some false) = some r := by rw [if_neg (show ¬ (false = true) by decide)] at H; exact H
       clear H
       have H := H1
       clear H1
       obtain rfl := Option.some.inj H
       go_enter Tryd.func3, Tryd.ntmps3
       try go_wp2_with (first | ((with_reducible refine gate_dst (N := 1) rfl ?_); refine box_event ?hg (N := 1) ?hd (cs := #[.int .i64 a0_0, .bool a0_1, .int .i64 a0_2, .int .u64 a0_3, .slice A0_4 l0_4.length c0_4, .int .i64 a0_5]) (t := 27) ?hr ?_; (case hd => rfl); (case hg => rfl); (case hr => first | (go_simp; done) | (go_simp; rfl)); intro gb653 hg w33 hbox hb; have n0_ := Aside0.mk (below_step (by repeat (first | (with_reducible first | exact HB.out | apply below_alloc | apply pw_below_drewN | apply below_drew1) | exact HB.out)) hb); have n1_ := Aside0.mk (hbox); have n2_ := Aside0.mk ((by rw [hg]; exact (below_size (by repeat (first | (with_reducible first | exact HB.out | apply below_alloc | apply pw_below_drewN | apply below_drew1) | exact HB.out))) : w.heap.size ≤ gb653)); have n3_ := Aside0.mk ((by rw [hg]; exact (below_size (by repeat (first | (with_reducible first | exact HB.out | apply below_alloc | apply pw_below_drewN | apply below_drew1) | exact HB.out))) : w.heap.size ≤ gb653)); clear HB; have HB := n0_; have BK653 := n1_; have GW653 := n2_; have GE653 := n3_; clear n0_ n1_ n2_ n3_; clear hb hbox hg; have hcz34_0 : w33.cell? ⟨gb653, 0, none⟩ = some (.int .i64 a0_0) := (blk_cell BK653.out 0).trans rfl; have hcz34_1 : w33.cell? ⟨gb653, 1, none⟩ = some (.bool a0_1) := (blk_cell BK653.out 1).trans rfl; have hcz34_2 : w33.cell? ⟨gb653, 2, none⟩ = some (.int .i64 a0_2) := (blk_cell BK653.out 2).trans rfl; have hcz34_3 : w33.cell? ⟨gb653, 3, none⟩ = some (.int .u64 a0_3) := (blk_cell BK653.out 3).trans rfl; have hcz34_4 : w33.cell? ⟨gb653, 4, none⟩ = some (.slice A0_4 l0_4.length c0_4) := (blk_cell BK653.out 4).trans rfl; have hcz34_5 : w33.cell? ⟨gb653, 5, none⟩ = some (.int .i64 a0_5) := (blk_cell BK653.out 5).trans rfl; have hfz34_0 := blk_frozen BK653.out 0; have hfz34_1 := blk_frozen BK653.out 1; have hfz34_2 := blk_frozen BK653.out 2; have hfz34_3 := blk_frozen BK653.out 3; have hfz34_4 := blk_frozen BK653.out 4; have hfz34_5 := blk_frozen BK653.out 5) | ((with_reducible refine gate_callee (f := 8) rfl ?_); refine goesL_ (some 9) rfl rfl Tryd.func8 (by kernel_rfl) rfl #[.agg #[.int .i64 a0_0, .bool a0_1, .int .i64 a0_2, .int .u64 a0_3, .slice A0_4 l0_4.length c0_4, .int .i64 a0_5], .int .i64 1048576] rfl (by (try simp only [List.map_toArray, List.map_cons, List.map_nil]); first | done | rfl | (simp only [List.length_drop, List.length_take]; rfl)) ?_; (with_reducible refine (laws_szOutcome.calls a0_0 a0_1 a0_2 a0_3 _ _ l0_4 a0_5 1048576 t654 _ ?side1 ?side2 A2.out).mono ?_); (case side1 => repeat (first | exact (Kd.C_below HR0_4.out HB.out) | (with_reducible refine Kd.C_alloc ?_ _) | (with_reducible refine Kd.C_drewN ?_ _) | (with_reducible refine Kd.C_drew ?_))); (case side2 => exact HC0_4.out); rintro e w35 ⟨rfl, hb⟩; refine ⟨_, rfl, ?_⟩; have n0_ := Aside0.mk (blk_below (g := gb653) (o := .cells #[.int .i64 a0_0, .bool a0_1, .int .i64 a0_2, .int .u64 a0_3, .slice A0_4 l0_4.length c0_4, .int .i64 a0_5] 27 (0, 0)) (by (with_reducible repeat (first | refine blk_drewN ?_ _ | refine blk_drew ?_ | refine blk_alloc ?_ _)); exact BK653.out) hb); have n1_ := Aside0.mk (below_step (by repeat (first | (with_reducible first | exact HB.out | apply below_alloc | apply pw_below_drewN | apply below_drew1 | refine below_set ?_ GE653.out) | exact HB.out)) hb); clear BK653; clear HB; have BK653 := n0_; have HB := n1_; clear n0_ n1_; (try clear hb); (try clear hb2); (try clear hk); (try clear hi); have hcz36_0 : w35.cell? ⟨gb653, 0, none⟩ = some (.int .i64 a0_0) := (blk_cell BK653.out 0).trans rfl; have hcz36_1 : w35.cell? ⟨gb653, 1, none⟩ = some (.bool a0_1) := (blk_cell BK653.out 1).trans rfl; have hcz36_2 : w35.cell? ⟨gb653, 2, none⟩ = some (.int .i64 a0_2) := (blk_cell BK653.out 2).trans rfl; have hcz36_3 : w35.cell? ⟨gb653, 3, none⟩ = some (.int .u64 a0_3) := (blk_cell BK653.out 3).trans rfl; have hcz36_4 : w35.cell? ⟨gb653, 4, none⟩ = some (.slice A0_4 l0_4.length c0_4) := (blk_cell BK653.out 4).trans rfl; have hcz36_5 : w35.cell? ⟨gb653, 5, none⟩ = some (.int .i64 a0_5) := (blk_cell BK653.out 5).trans rfl; have hfz36_0 := blk_frozen BK653.out 0; have hfz36_1 := blk_frozen BK653.out 1; have hfz36_2 := blk_frozen BK653.out 2; have hfz36_3 := blk_frozen BK653.out 3; have hfz36_4 := blk_frozen BK653.out 4; have hfz36_5 := blk_frozen BK653.out 5) | ((with_reducible refine gate_callee (f := 10) rfl ?_); refine goesL_ (some 13) rfl rfl Tryd.func10 (by kernel_rfl) rfl #[.agg #[.int .i64 a0_0, .bool a0_1, .int .i64 a0_2, .int .u64 a0_3, .slice A0_4 l0_4.length c0_4, .int .i64 a0_5]] rfl (by (try simp only [List.map_toArray, List.map_cons, List.map_nil]); first | done | rfl | (simp only [List.length_drop, List.length_take]; rfl)) ?_; (with_reducible refine (laws_toOutcome.calls k a0_0 a0_1 a0_2 a0_3 _ _ l0_4 a0_5 t655 t656 t657 t658 t659 t662 _ ?side1 ?side2 A7.out).mono ?_); (case side1 => repeat (first | exact (Kd.C_below HR0_4.out HB.out) | (with_reducible refine Kd.C_alloc ?_ _) | (with_reducible refine Kd.C_drewN ?_ _) | (with_reducible refine Kd.C_drew ?_))); (case side2 => exact HC0_4.out); rintro e w37 ⟨v660, rfl, ho0, hb⟩; refine ⟨_, rfl, ?_⟩; have n0_ := Aside0.mk (Kd.R_lower ho0 (below_size (by repeat (first | (with_reducible first | exact HB.out | apply below_alloc | apply pw_below_drewN | apply below_drew1 | refine below_set ?_ GE653.out) | exact HB.out)))); have n1_ := Aside0.mk (blk_below (g := gb653) (o := .cells #[.int .i64 a0_0, .bool a0_1, .int .i64 a0_2, .int .u64 a0_3, .slice A0_4 l0_4.length c0_4, .int .i64 a0_5] 27 (0, 0)) (by (with_reducible repeat (first | refine blk_drewN ?_ _ | refine blk_drew ?_ | refine blk_alloc ?_ _)); exact BK653.out) hb); have n2_ := Aside0.mk (below_step (by repeat (first | (with_reducible first | exact HB.out | apply below_alloc | apply pw_below_drewN | apply below_drew1 | refine below_set ?_ GE653.out) | exact HB.out)) hb); clear BK653; clear HB; have HO661 := n0_; have BK653 := n1_; have HB := n2_; clear n0_ n1_ n2_; (try clear hb); (try clear hb2); (try clear hk); (try clear hi); (try clear ho0); obtain ⟨Ao38, co38, eo38⟩ := Kd.R_slice HO661.out; subst eo38) | ((with_reducible refine gate_callee (f := 9) rfl ?_); refine goesL_ (some 14) rfl rfl Tryd.func9 (by kernel_rfl) rfl #[.agg #[.int .i64 t655, .bool t656, .int .i64 t657, .int .u64 t658, .slice Ao38 t659.length co38, .int .i64 t662]] rfl (by (try simp only [List.map_toArray, List.map_cons, List.map_nil]); first | done | rfl | (simp only [List.length_drop, List.length_take]; rfl)) ?_; (with_reducible refine (spec_FormatOutcome.calls k t655 t656 t657 t658 _ _ t659 t662 t663 _ ?side1 ?side2 A8.out).mono ?_); (case side1 => repeat (first | exact (Kd.R_reads' HO661.out).2.2 | (with_reducible refine Kd.C_alloc ?_ _) | (with_reducible refine Kd.C_drewN ?_ _) | (with_reducible refine Kd.C_drew ?_))); (case side2 => exact (Kd.R_reads' HO661.out).2.1); rintro e w39 ⟨rfl, hb⟩; refine ⟨_, rfl, ?_⟩; have n0_ := Aside0.mk (Kd.R_below (by (with_reducible repeat (first | apply Kd.R_alloc | apply Kd.R_drewN | apply Kd.R_drew)); exact HO661.out) hb); have n1_ := Aside0.mk (blk_below (g := gb653) (o := .cells #[.int .i64 a0_0, .bool a0_1, .int .i64 a0_2, .int .u64 a0_3, .slice A0_4 l0_4.length c0_4, .int .i64 a0_5] 27 (0, 0)) (by (with_reducible repeat (first | refine blk_drewN ?_ _ | refine blk_drew ?_ | refine blk_alloc ?_ _)); exact BK653.out) hb); have n2_ := Aside0.mk (below_step (by repeat (first | (with_reducible first | exact HB.out | apply below_alloc | apply pw_below_drewN | apply below_drew1 | refine below_set ?_ GE653.out) | exact HB.out)) hb); clear HO661; clear BK653; clear HB; have HO661 := n0_; have BK653 := n1_; have HB := n2_; clear n0_ n1_ n2_; (try clear hb); (try clear hb2); (try clear hk); (try clear hi); have hcz40_0 : w39.cell? ⟨gb653, 0, none⟩ = some (.int .i64 a0_0) := (blk_cell BK653.out 0).trans rfl; have hcz40_1 : w39.cell? ⟨gb653, 1, none⟩ = some (.bool a0_1) := (blk_cell BK653.out 1).trans rfl; have hcz40_2 : w39.cell? ⟨gb653, 2, none⟩ = some (.int .i64 a0_2) := (blk_cell BK653.out 2).trans rfl; have hcz40_3 : w39.cell? ⟨gb653, 3, none⟩ = some (.int .u64 a0_3) := (blk_cell BK653.out 3).trans rfl; have hcz40_4 : w39.cell? ⟨gb653, 4, none⟩ = some (.slice A0_4 l0_4.length c0_4) := (blk_cell BK653.out 4).trans rfl; have hcz40_5 : w39.cell? ⟨gb653, 5, none⟩ = some (.int .i64 a0_5) := (blk_cell BK653.out 5).trans rfl; have hfz40_0 := blk_frozen BK653.out 0; have hfz40_1 := blk_frozen BK653.out 1; have hfz40_2 := blk_frozen BK653.out 2; have hfz40_3 := blk_frozen BK653.out 3; have hfz40_4 := blk_frozen BK653.out 4; have hfz40_5 := blk_frozen BK653.out 5) | ((with_reducible refine gate_callee (f := 10) rfl ?_); refine goesL_ (some 16) rfl rfl Tryd.func10 (by kernel_rfl) rfl #[.agg #[.int .i64 a0_0, .bool a0_1, .int .i64 a0_2, .int .u64 a0_3, .slice A0_4 l0_4.length c0_4, .int .i64 a0_5]] rfl (by (try simp only [List.map_toArray, List.map_cons, List.map_nil]); first | done | rfl | (simp only [List.length_drop, List.length_take]; rfl)) ?_; (with_reducible refine (laws_toOutcome.calls k a0_0 a0_1 a0_2 a0_3 _ _ l0_4 a0_5 t664 t665 t666 t667 t668 t671 _ ?side1 ?side2 A9.out).mono ?_); (case side1 => repeat (first | exact (Kd.C_below HR0_4.out HB.out) | (with_reducible refine Kd.C_alloc ?_ _) | (with_reducible refine Kd.C_drewN ?_ _) | (with_reducible refine Kd.C_drew ?_))); (case side2 => exact HC0_4.out); rintro e w41 ⟨v669, rfl, ho0, hb⟩; refine ⟨_, rfl, ?_⟩; have n0_ := Aside0.mk (Kd.R_elder' (by (with_reducible repeat (first | apply Kd.R_alloc | apply Kd.R_drewN | apply Kd.R_drew)); exact HO661.out) (Kd.R_base ho0) hb); have n1_ := Aside0.mk (Kd.R_lower (Kd.R_new' ho0 (Kd.R_lt (by (with_reducible repeat (first | apply Kd.R_alloc | apply Kd.R_drewN | apply Kd.R_drew)); exact HO661.out))) (below_size (by repeat (first | (with_reducible first | exact HB.out | apply below_alloc | apply pw_below_drewN | apply below_drew1 | refine below_set ?_ GE653.out) | exact HB.out)))); have n2_ := Aside0.mk (blk_below (g := gb653) (o := .cells #[.int .i64 a0_0, .bool a0_1, .int .i64 a0_2, .int .u64 a0_3, .slice A0_4 l0_4.length c0_4, .int .i64 a0_5] 27 (0, 0)) (by (with_reducible repeat (first | refine blk_drewN ?_ _ | refine blk_drew ?_ | refine blk_alloc ?_ _)); exact BK653.out) hb); have n3_ := Aside0.mk (below_step (by repeat (first | (with_reducible first | exact HB.out | apply below_alloc | apply pw_below_drewN | apply below_drew1 | refine below_set ?_ GE653.out) | exact HB.out)) hb); clear HO661; clear BK653; clear HB; have HO661 := n0_; have HO670 := n1_; have BK653 := n2_; have HB := n3_; clear n0_ n1_ n2_ n3_; (try clear hb); (try clear hb2); (try clear hk); (try clear hi); (try clear ho0)) | ((with_reducible refine gate_dst (N := 5) rfl ?_); refine box_event ?hg (N := 5) ?hd (cs := #[.int .i64 0, .bool false, .int .i64 0, .int .u64 0, .slice none 0 0, .int .i64 0]) (t := 32) ?hr ?_; (case hd => rfl); (case hg => rfl); (case hr => first | (go_simp; done) | (go_simp; rfl)); intro gb672 hg w42 hbox hb; have n0_ := Aside0.mk (Kd.R_below (by (with_reducible repeat (first | apply Kd.R_alloc | apply Kd.R_drewN | apply Kd.R_drew)); exact HO661.out) hb); have n1_ := Aside0.mk (Kd.R_below (by (with_reducible repeat (first | apply Kd.R_alloc | apply Kd.R_drewN | apply Kd.R_drew)); exact HO670.out) hb); have n2_ := Aside0.mk (blk_below (g := gb653) (o := .cells #[.int .i64 a0_0, .bool a0_1, .int .i64 a0_2, .int .u64 a0_3, .slice A0_4 l0_4.length c0_4, .int .i64 a0_5] 27 (0, 0)) (by (with_reducible repeat (first | refine blk_drewN ?_ _ | refine blk_drew ?_ | refine blk_alloc ?_ _)); exact BK653.out) hb); have n3_ := Aside0.mk (below_step (by repeat (first | (with_reducible first | exact HB.out | apply below_alloc | apply pw_below_drewN | apply below_drew1 | refine below_set ?_ GE653.out) | exact HB.out)) hb); have n4_ := Aside0.mk (hbox); have n5_ := Aside0.mk ((by rw [hg]; exact (below_size (by repeat (first | (with_reducible first | exact HB.out | apply below_alloc | apply pw_below_drewN | apply below_drew1 | refine below_set ?_ GE653.out) | exact HB.out))) : w.heap.size ≤ gb672)); have n6_ := Aside0.mk ((by rw [hg]; exact (below_size (by repeat (first | (with_reducible first | exact HB.out | apply below_alloc | apply pw_below_drewN | apply below_drew1 | refine below_set ?_ GE653.out) | exact HB.out))) : w.heap.size ≤ gb672)); have n7_ := Aside0.mk ((by rw [hg]; exact Nat.ne_of_lt (blk_lt (g := gb653) (o := .cells #[.int .i64 a0_0, .bool a0_1, .int .i64 a0_2, .int .u64 a0_3, .slice A0_4 l0_4.length c0_4, .int .i64 a0_5] 27 (0, 0)) (by (with_reducible repeat (first | refine blk_drewN ?_ _ | refine blk_drew ?_ | refine blk_alloc ?_ _)); exact BK653.out)) : gb653 ≠ gb672)); have n8_ := Aside0.mk ((by rw [hg]; exact Nat.ne_of_gt (blk_lt (g := gb653) (o := .cells #[.int .i64 a0_0, .bool a0_1, .int .i64 a0_2, .int .u64 a0_3, .slice A0_4 l0_4.length c0_4, .int .i64 a0_5] 27 (0, 0)) (by (with_reducible repeat (first | refine blk_drewN ?_ _ | refine blk_drew ?_ | refine blk_alloc ?_ _)); exact BK653.out)) : gb672 ≠ gb653)); clear HO661; clear HO670; clear BK653; clear HB; have HO661 := n0_; have HO670 := n1_; have BK653 := n2_; have HB := n3_; have BK672 := n4_; have GW672 := n5_; have GE672 := n6_; have NB653_672 := n7_; have NB672_653 := n8_; clear n0_ n1_ n2_ n3_ n4_ n5_ n6_ n7_ n8_; clear hb hbox hg; have hnb43 := NB672_653.out; have hnc43 := NB653_672.out; have hcz44_0 : w42.cell? ⟨gb672, 0, none⟩ = some (.int .i64 0) := (blk_cell BK672.out 0).trans rfl; have hcz44_1 : w42.cell? ⟨gb672, 1, none⟩ = some (.bool false) := (blk_cell BK672.out 1).trans rfl; have hcz44_2 : w42.cell? ⟨gb672, 2, none⟩ = some (.int .i64 0) := (blk_cell BK672.out 2).trans rfl; have hcz44_3 : w42.cell? ⟨gb672, 3, none⟩ = some (.int .u64 0) := (blk_cell BK672.out 3).trans rfl; have hcz44_4 : w42.cell? ⟨gb672, 4, none⟩ = some (.slice none 0 0) := (blk_cell BK672.out 4).trans rfl; have hcz44_5 : w42.cell? ⟨gb672, 5, none⟩ = some (.int .i64 0) := (blk_cell BK672.out 5).trans rfl; have hfz44_0 := blk_frozen BK672.out 0; have hfz44_1 := blk_frozen BK672.out 1; have hfz44_2 := blk_frozen BK672.out 2; have hfz44_3 := blk_frozen BK672.out 3; have hfz44_4 := blk_frozen BK672.out 4; have hfz44_5 := blk_frozen BK672.out 5; obtain ⟨Ao45, co45, eo45⟩ := Kd.R_slice HO670.out; subst eo45) | ((with_reducible refine gate_callee (f := 11) rfl ?_); refine goesL_ (some 18) rfl rfl Tryd.func11 (by kernel_rfl) rfl #[.agg #[.int .i64 t664, .bool t665, .int .i64 t666, .int .u64 t667, .slice Ao45 t668.length co45, .int .i64 t671]] rfl (by (try simp only [List.map_toArray, List.map_cons, List.map_nil]); first | done | rfl | (simp only [List.length_drop, List.length_take]; rfl)) ?_; (with_reducible refine (impl_FormatOutcome.calls t664 t665 t666 t667 _ _ t668 t671 t673 _ ?tLtTab ?side1 ?side2 A10.out).mono ?_); (case tLtTab => exact HLtTab.out.on (by repeat (first | (with_reducible first | exact HB.out | apply below_alloc | apply pw_below_drewN | apply below_drew1 | refine below_set ?_ GE653.out | refine below_set ?_ GE672.out) | exact HB.out))); (case side1 => refine (Kd.R_reads' (e := 22) (base := w.heap.size) (ok := fun k_ => (True ∧ some k_ ≠ (.slice Ao38 t659.length co38 : Value).ownBlock)) (n := t668.length) (c := co45) ?_).2.2; exact (by (with_reducible repeat (first | apply Kd.R_alloc | apply Kd.R_drewN | apply Kd.R_drew)); exact (Kd.R_mono (Kd.R_far (p := ⟨gb672, 5, none⟩) (Kd.R_far (p := ⟨gb672, 4, none⟩) (Kd.R_far (p := ⟨gb672, 3, none⟩) (Kd.R_far (p := ⟨gb672, 2, none⟩) (Kd.R_far (p := ⟨gb672, 1, none⟩) (Kd.R_far (p := ⟨gb672, 0, none⟩) (Kd.R_types HO670.out BK672.out (by decide)) (fun _ hk => hk.2) (.int .i64 t664)) (fun _ hk => hk.2) (.bool t665)) (fun _ hk => hk.2) (.int .i64 t666)) (fun _ hk => hk.2) (.int .u64 t667)) (fun _ hk => hk.2) (.slice Ao45 t668.length co45)) (fun _ hk => hk.2) (.int .i64 t671)) (fun _ h_ => h_.1)))); (case side2 => exact (Kd.R_reads' HO670.out).2.1); rintro e w46 ⟨rfl, hb⟩; refine ⟨_, rfl, ?_⟩; have n0_ := Aside0.mk (Kd.R_below (by (with_reducible repeat (first | apply Kd.R_alloc | apply Kd.R_drewN | apply Kd.R_drew)); exact (Kd.R_mono (Kd.R_far (p := ⟨gb672, 5, none⟩) (Kd.R_far (p := ⟨gb672, 4, none⟩) (Kd.R_far (p := ⟨gb672, 3, none⟩) (Kd.R_far (p := ⟨gb672, 2, none⟩) (Kd.R_far (p := ⟨gb672, 1, none⟩) (Kd.R_far (p := ⟨gb672, 0, none⟩) (Kd.R_types HO661.out BK672.out (by decide)) (fun _ hk => hk.2) (.int .i64 t664)) (fun _ hk => hk.2) (.bool t665)) (fun _ hk => hk.2) (.int .i64 t666)) (fun _ hk => hk.2) (.int .u64 t667)) (fun _ hk => hk.2) (.slice Ao45 t668.length co45)) (fun _ hk => hk.2) (.int .i64 t671)) (fun _ h_ => h_.1))) hb); have n1_ := Aside0.mk (Kd.R_below (by (with_reducible repeat (first | apply Kd.R_alloc | apply Kd.R_drewN | apply Kd.R_drew)); exact (Kd.R_mono (Kd.R_far (p := ⟨gb672, 5, none⟩) (Kd.R_far (p := ⟨gb672, 4, none⟩) (Kd.R_far (p := ⟨gb672, 3, none⟩) (Kd.R_far (p := ⟨gb672, 2, none⟩) (Kd.R_far (p := ⟨gb672, 1, none⟩) (Kd.R_far (p := ⟨gb672, 0, none⟩) (Kd.R_types HO670.out BK672.out (by decide)) (fun _ hk => hk.2) (.int .i64 t664)) (fun _ hk => hk.2) (.bool t665)) (fun _ hk => hk.2) (.int .i64 t666)) (fun _ hk => hk.2) (.int .u64 t667)) (fun _ hk => hk.2) (.slice Ao45 t668.length co45)) (fun _ hk => hk.2) (.int .i64 t671)) (fun _ h_ => h_.1))) hb); have n2_ := Aside0.mk (blk_below (g := gb653) (o := .cells #[.int .i64 a0_0, .bool a0_1, .int .i64 a0_2, .int .u64 a0_3, .slice A0_4 l0_4.length c0_4, .int .i64 a0_5] 27 (0, 0)) (by (with_reducible repeat (first | refine blk_drewN ?_ _ | refine blk_drew ?_ | refine blk_alloc ?_ _)); refine blk_far ?_ NB653_672.out _; (with_reducible repeat (first | refine blk_drewN ?_ _ | refine blk_drew ?_ | refine blk_alloc ?_ _)); refine blk_far ?_ NB653_672.out _; (with_reducible repeat (first | refine blk_drewN ?_ _ | refine blk_drew ?_ | refine blk_alloc ?_ _)); refine blk_far ?_ NB653_672.out _; (with_reducible repeat (first | refine blk_drewN ?_ _ | refine blk_drew ?_ | refine blk_alloc ?_ _)); refine blk_far ?_ NB653_672.out _; (with_reducible repeat (first | refine blk_drewN ?_ _ | refine blk_drew ?_ | refine blk_alloc ?_ _)); refine blk_far ?_ NB653_672.out _; (with_reducible repeat (first | refine blk_drewN ?_ _ | refine blk_drew ?_ | refine blk_alloc ?_ _)); refine blk_far ?_ NB653_672.out _; (with_reducible repeat (first | refine blk_drewN ?_ _ | refine blk_drew ?_ | refine blk_alloc ?_ _)); exact BK653.out) hb); have n3_ := Aside0.mk (blk_below (g := gb672) (o := .cells #[.int .i64 t664, .bool t665, .int .i64 t666, .int .u64 t667, .slice Ao45 t668.length co45, .int .i64 t671] 32 (0, 0)) (by (with_reducible repeat (first | refine blk_drewN ?_ _ | refine blk_drew ?_ | refine blk_alloc ?_ _)); refine blk_put (cs := #[.int .i64 t664, .bool t665, .int .i64 t666, .int .u64 t667, .slice Ao45 t668.length co45, .int .i64 0]) ?_ 5 _ rfl; (with_reducible repeat (first | refine blk_drewN ?_ _ | refine blk_drew ?_ | refine blk_alloc ?_ _)); refine blk_put (cs := #[.int .i64 t664, .bool t665, .int .i64 t666, .int .u64 t667, .slice none 0 0, .int .i64 0]) ?_ 4 _ rfl; (with_reducible repeat (first | refine blk_drewN ?_ _ | refine blk_drew ?_ | refine blk_alloc ?_ _)); refine blk_put (cs := #[.int .i64 t664, .bool t665, .int .i64 t666, .int .u64 0, .slice none 0 0, .int .i64 0]) ?_ 3 _ rfl; (with_reducible repeat (first | refine blk_drewN ?_ _ | refine blk_drew ?_ | refine blk_alloc ?_ _)); refine blk_put (cs := #[.int .i64 t664, .bool t665, .int .i64 0, .int .u64 0, .slice none 0 0, .int .i64 0]) ?_ 2 _ rfl; (with_reducible repeat (first | refine blk_drewN ?_ _ | refine blk_drew ?_ | refine blk_alloc ?_ _)); refine blk_put (cs := #[.int .i64 t664, .bool false, .int .i64 0, .int .u64 0, .slice none 0 0, .int .i64 0]) ?_ 1 _ rfl; (with_reducible repeat (first | refine blk_drewN ?_ _ | refine blk_drew ?_ | refine blk_alloc ?_ _)); refine blk_put (cs := #[.int .i64 0, .bool false, .int .i64 0, .int .u64 0, .slice none 0 0, .int .i64 0]) ?_ 0 _ rfl; (with_reducible repeat (first | refine blk_drewN ?_ _ | refine blk_drew ?_ | refine blk_alloc ?_ _)); exact BK672.out) hb); have n4_ := Aside0.mk (below_step (by repeat (first | (with_reducible first | exact HB.out | apply below_alloc | apply pw_below_drewN | apply below_drew1 | refine below_set ?_ GE653.out | refine below_set ?_ GE672.out) | exact HB.out)) hb); clear HO661; clear HO670; clear BK653; clear BK672; clear HB; have HO661 := n0_; have HO670 := n1_; have BK653 := n2_; have BK672 := n3_; have HB := n4_; clear n0_ n1_ n2_ n3_ n4_; (try clear hb); (try clear hb2); (try clear hk); (try clear hi)))
       have n0_ := Aside0.mk (Kd.R_drew HO661.out)
       have n1_ := Aside0.mk (Kd.R_drew HO670.out)
       have n2_ := Aside0.mk (blk_drew BK653.out)
       have n3_ := Aside0.mk (blk_drew BK672.out)
       have n4_ := Aside0.mk (below_drew1 HB.out)
       clear HO661
       clear HO670
       clear BK653
       clear BK672
       clear HB
       have HO661 := n0_
       have HO670 := n1_
       have BK653 := n2_
       have BK672 := n3_
       have HB := n4_
       clear n0_ n1_ n2_ n3_ n4_
       refine start_ (n := 5) (S := fun w' => w'.cell? ⟨gb672, 0, none⟩ = some (.int .i64 t664) ∧ w'.cell? ⟨gb672, 1, none⟩ = some (.bool t665) ∧ w'.cell? ⟨gb672, 2, none⟩ = some (.int .i64 t666) ∧ w'.cell? ⟨gb672, 3, none⟩ = some (.int .u64 t667) ∧ w'.cell? ⟨gb672, 4, none⟩ = some (.slice Ao45 t668.length co45) ∧ w'.cell? ⟨gb672, 5, none⟩ = some (.int .i64 t671) ∧ w'.cell? ⟨gb653, 0, none⟩ = some (.int .i64 a0_0) ∧ w'.cell? ⟨gb653, 1, none⟩ = some (.bool a0_1) ∧ w'.cell? ⟨gb653, 2, none⟩ = some (.int .i64 a0_2) ∧ w'.cell? ⟨gb653, 3, none⟩ = some (.int .u64 a0_3) ∧ w'.cell? ⟨gb653, 4, none⟩ = some (.slice A0_4 l0_4.length c0_4) ∧ w'.cell? ⟨gb653, 5, none⟩ = some (.int .i64 a0_5)) (ds := []) #[false, false, false, false, false] (by kernel_rfl) rfl rfl ⟨(blk_cell BK672.out 0).trans rfl, (blk_cell BK672.out 1).trans rfl, (blk_cell BK672.out 2).trans rfl, (blk_cell BK672.out 3).trans rfl, (blk_cell BK672.out 4).trans rfl, (blk_cell BK672.out 5).trans rfl, (blk_cell BK653.out 0).trans rfl, (blk_cell BK653.out 1).trans rfl, (blk_cell BK653.out 2).trans rfl, (blk_cell BK653.out 3).trans rfl, (blk_cell BK653.out 4).trans rfl, (blk_cell BK653.out 5).trans rfl⟩ (fun hHeld => ?_)
       generalize w46.drew = w47 at HO661 HO670 BK653 BK672 HB hHeld ⊢
       refine take_ (i := 0) (N := some 22) (v := ?_) (a' := ?_) #[true, false, false, false, false] rfl rfl (by kernel_rfl) (fun _ _ _ h => h) (Or.inl ⟨by rfl, ?_⟩) hHeld ?_ ?_
       rotate_left
       · rintro w' ⟨s0, s1, s2, s3, s4, s5, s6, s7, s8, s9, s10, s11⟩
         go_simp
         with_reducible rfl
       rotate_left
       · simp only [Act.put, List.setIfInBounds_toArray, List.set_cons_zero, List.set_cons_succ, i64_w, i32_w]
         rfl
       refine take_ (i := 1) (N := some 23) (v := ?_) (a' := ?_) #[true, true, false, false, false] rfl rfl (by kernel_rfl) (fun _ _ _ h => h) (Or.inl ⟨by rfl, ?_⟩) hHeld ?_ ?_
       rotate_left
       · rintro w' ⟨s0, s1, s2, s3, s4, s5, s6, s7, s8, s9, s10, s11⟩
         go_simp
         with_reducible rfl
       rotate_left
       · simp only [Act.put, List.setIfInBounds_toArray, List.set_cons_zero, List.set_cons_succ, i64_w, i32_w]
         rfl
       refine one_ (i := 2) (N := some 24) #[true, true, true, false, false] rfl rfl (by kernel_rfl) (by decide) (fun K hK => ?_)
       refine goes_ Tryd.func10 (by kernel_rfl) rfl #[.agg #[.int .i64 a0_0, .bool a0_1, .int .i64 a0_2, .int .u64 a0_3, .slice A0_4 l0_4.length c0_4, .int .i64 a0_5]] (by rfl) rfl rfl (by (try simp only [List.map_toArray, List.map_cons, List.map_nil]); first | done | rfl | (simp only [List.length_drop, List.length_take]; rfl)) ?_
       with_reducible refine (laws_toOutcome.calls k a0_0 a0_1 a0_2 a0_3 _ _ l0_4 a0_5 t674 t675 t676 t677 t678 t681 _ ?side1 ?side2 A12.out).mono ?_
       (case side1 => repeat (first | exact (Kd.C_below HR0_4.out HB.out) | (with_reducible refine Kd.C_alloc ?_ _) | (with_reducible refine Kd.C_drewN ?_ _) | (with_reducible refine Kd.C_drew ?_)))
       (case side2 => exact HC0_4.out)
       rintro e w48 ⟨v679, rfl, ho0, hb⟩
       refine ⟨_, rfl, ?_⟩
       have n0_ := Aside0.mk (Kd.R_elder' (by (with_reducible repeat (first | apply Kd.R_alloc | apply Kd.R_drewN | apply Kd.R_drew)); exact HO661.out) (Kd.R_base ho0) hb)
       have n1_ := Aside0.mk (Kd.R_elder' (by (with_reducible repeat (first | apply Kd.R_alloc | apply Kd.R_drewN | apply Kd.R_drew)); exact HO670.out) (Kd.R_base ho0) hb)
       have n2_ := Aside0.mk (Kd.R_lower (Kd.R_new' (Kd.R_new' ho0 (Kd.R_lt (by (with_reducible repeat (first | apply Kd.R_alloc | apply Kd.R_drewN | apply Kd.R_drew)); exact HO661.out))) (Kd.R_lt (by (with_reducible repeat (first | apply Kd.R_alloc | apply Kd.R_drewN | apply Kd.R_drew)); exact HO670.out))) (below_size (by repeat (first | (with_reducible first | exact HB.out | apply below_alloc | apply pw_below_drewN | apply below_drew1 | refine below_set ?_ GE653.out | refine below_set ?_ GE672.out) | exact HB.out))))
       have n3_ := Aside0.mk (blk_below (g := gb653) (o := .cells #[.int .i64 a0_0, .bool a0_1, .int .i64 a0_2, .int .u64 a0_3, .slice A0_4 l0_4.length c0_4, .int .i64 a0_5] 27 (0, 0)) (by (with_reducible repeat (first | refine blk_drewN ?_ _ | refine blk_drew ?_ | refine blk_alloc ?_ _)); exact BK653.out) hb)
       have n4_ := Aside0.mk (blk_below (g := gb672) (o := .cells #[.int .i64 t664, .bool t665, .int .i64 t666, .int .u64 t667, .slice Ao45 t668.length co45, .int .i64 t671] 32 (0, 0)) (by (with_reducible repeat (first | refine blk_drewN ?_ _ | refine blk_drew ?_ | refine blk_alloc ?_ _)); exact BK672.out) hb)
       have n5_ := Aside0.mk (below_step (by repeat (first | (with_reducible first | exact HB.out | apply below_alloc | apply pw_below_drewN | apply below_drew1 | refine below_set ?_ GE653.out | refine below_set ?_ GE672.out) | exact HB.out)) hb)
       clear HO661
       clear HO670
       clear BK653
       clear BK672
       clear HB
       have HO661 := n0_
       have HO670 := n1_
       have HO680 := n2_
       have BK653 := n3_
       have BK672 := n4_
       have HB := n5_
       clear n0_ n1_ n2_ n3_ n4_ n5_
       (try clear hb)
       (try clear hb2)
       (try clear hk)
       (try clear hi)
       (try clear ho0)
       obtain ⟨Ao49, co49, eo49⟩ := Kd.R_slice HO680.out
       (first | subst eo49 | (injection eo49 with f1_ f2_ f3_; have f4_ := f1_.symm; have f5_ := f3_.symm; clear f1_ f2_ f3_; subst f4_; subst f5_))
       refine hK.out _ _ ⟨(blk_cell BK672.out 0).trans rfl, (blk_cell BK672.out 1).trans rfl, (blk_cell BK672.out 2).trans rfl, (blk_cell BK672.out 3).trans rfl, (blk_cell BK672.out 4).trans rfl, (blk_cell BK672.out 5).trans rfl, (blk_cell BK653.out 0).trans rfl, (blk_cell BK653.out 1).trans rfl, (blk_cell BK653.out 2).trans rfl, (blk_cell BK653.out 3).trans rfl, (blk_cell BK653.out 4).trans rfl, (blk_cell BK653.out 5).trans rfl⟩ (fun hHeld => ?_)
       clear hK K
       refine norm_ (a' := ?_) ?_ ?_
       rotate_left
       · show Act.put _ (some 24) _ = _
         simp only [Act.put, List.setIfInBounds_toArray, List.set_cons_zero, List.set_cons_succ, i64_w, i32_w]
         rfl
       refine one_ (i := 3) (N := some 25) #[true, true, true, true, false] rfl rfl (by kernel_rfl) (by decide) (fun K hK => ?_)
       refine goes_ Tryd.func12 (by kernel_rfl) rfl #[.agg #[.int .i64 t664, .bool t665, .int .i64 t666, .int .u64 t667, .slice Ao45 t668.length co45, .int .i64 t671], .agg #[.int .i64 t674, .bool t675, .int .i64 t676, .int .u64 t677, .slice Ao49 t678.length co49, .int .i64 t681]] (by rfl) rfl rfl (by (try simp only [List.map_toArray, List.map_cons, List.map_nil]); first | done | rfl | (simp only [List.length_drop, List.length_take]; rfl)) ?_
       with_reducible refine (laws_eqOutcome.calls k t664 t665 t666 t667 _ _ t668 t671 t674 t675 t676 t677 _ _ t678 t681 false _ ?side1 ?side2 ?side3 ?side4 A13.out).mono ?_
       (case side1 => repeat (first | exact (Kd.R_reads' HO670.out).2.2 | (with_reducible refine Kd.C_alloc ?_ _) | (with_reducible refine Kd.C_drewN ?_ _) | (with_reducible refine Kd.C_drew ?_)))
       (case side2 => exact (Kd.R_reads' HO670.out).2.1)
       (case side3 => repeat (first | exact (Kd.R_reads' HO680.out).2.2 | (with_reducible refine Kd.C_alloc ?_ _) | (with_reducible refine Kd.C_drewN ?_ _) | (with_reducible refine Kd.C_drew ?_)))
       (case side4 => exact (Kd.R_reads' HO680.out).2.1)
       rintro e w50 ⟨rfl, hb⟩
       refine ⟨_, rfl, ?_⟩
       have n0_ := Aside0.mk (Kd.R_below (by (with_reducible repeat (first | apply Kd.R_alloc | apply Kd.R_drewN | apply Kd.R_drew)); exact HO661.out) hb)
       have n1_ := Aside0.mk (Kd.R_below (by (with_reducible repeat (first | apply Kd.R_alloc | apply Kd.R_drewN | apply Kd.R_drew)); exact HO670.out) hb)
       have n2_ := Aside0.mk (Kd.R_below (by (with_reducible repeat (first | apply Kd.R_alloc | apply Kd.R_drewN | apply Kd.R_drew)); exact HO680.out) hb)
       have n3_ := Aside0.mk (blk_below (g := gb653) (o := .cells #[.int .i64 a0_0, .bool a0_1, .int .i64 a0_2, .int .u64 a0_3, .slice A0_4 l0_4.length c0_4, .int .i64 a0_5] 27 (0, 0)) (by (with_reducible repeat (first | refine blk_drewN ?_ _ | refine blk_drew ?_ | refine blk_alloc ?_ _)); exact BK653.out) hb)
       have n4_ := Aside0.mk (blk_below (g := gb672) (o := .cells #[.int .i64 t664, .bool t665, .int .i64 t666, .int .u64 t667, .slice Ao45 t668.length co45, .int .i64 t671] 32 (0, 0)) (by (with_reducible repeat (first | refine blk_drewN ?_ _ | refine blk_drew ?_ | refine blk_alloc ?_ _)); exact BK672.out) hb)
       have n5_ := Aside0.mk (below_step (by repeat (first | (with_reducible first | exact HB.out | apply below_alloc | apply pw_below_drewN | apply below_drew1 | refine below_set ?_ GE653.out | refine below_set ?_ GE672.out) | exact HB.out)) hb)
       clear HO661
       clear HO670
       clear HO680
       clear BK653
       clear BK672
       clear HB
       have HO661 := n0_
       have HO670 := n1_
       have HO680 := n2_
       have BK653 := n3_
       have BK672 := n4_
       have HB := n5_
       clear n0_ n1_ n2_ n3_ n4_ n5_
       (try clear hb)
       (try clear hb2)
       (try clear hk)
       (try clear hi)
       refine hK.out _ _ ⟨(blk_cell BK672.out 0).trans rfl, (blk_cell BK672.out 1).trans rfl, (blk_cell BK672.out 2).trans rfl, (blk_cell BK672.out 3).trans rfl, (blk_cell BK672.out 4).trans rfl, (blk_cell BK672.out 5).trans rfl, (blk_cell BK653.out 0).trans rfl, (blk_cell BK653.out 1).trans rfl, (blk_cell BK653.out 2).trans rfl, (blk_cell BK653.out 3).trans rfl, (blk_cell BK653.out 4).trans rfl, (blk_cell BK653.out 5).trans rfl⟩ (fun hHeld => ?_)
       clear hK K
       refine norm_ (a' := ?_) ?_ ?_
       rotate_left
       · show Act.put _ (some 25) _ = _
         simp only [Act.put, List.setIfInBounds_toArray, List.set_cons_zero, List.set_cons_succ, i64_w, i32_w]
         rfl
       refine pure_ (i := 4) (N := some 26) (v := ?_) (a' := ?_) #[true, true, true, true, true] rfl rfl (by kernel_rfl) (fun _ _ _ h => h) (Or.inl ⟨by rfl, ?_⟩) ?_ ?_
       rotate_left
       · intro w'
         go_simp
         with_reducible rfl
       rotate_left
       · simp only [Act.put, List.setIfInBounds_toArray, List.set_cons_zero, List.set_cons_succ, i64_w, i32_w]
         rfl
       refine done_ (by kernel_rfl) ?_
       try go_wp2
       go_ret
       exact ⟨by first | rfl | (simp [errW_none, errW_some] <;> rfl) | (simp [*, errW_none, errW_some] <;> rfl), by repeat (first | (with_reducible first | exact HB.out | apply below_alloc | apply pw_below_drewN | apply below_drew1 | refine below_set ?_ GE653.out | refine below_set ?_ GE672.out) | exact HB.out)⟩
   · rw [if_neg c11] at H
     have c11b0 : (t673.toList == t663.toList) = false := beq_eq_false_iff_ne.mpr c11
     have c11b1 : (t673.toList != t663.toList) = true := bne_iff_ne.mpr c11
     obtain rfl := Option.some.inj H
     go_enter Tryd.func3, Tryd.ntmps3
     go_wp2_with (first | ((with_reducible refine gate_dst (N := 1) rfl ?_); refine box_event ?hg (N := 1) ?hd (cs := #[.int .i64 a0_0, .bool a0_1, .int .i64 a0_2, .int .u64 a0_3, .slice A0_4 l0_4.length c0_4, .int .i64 a0_5]) (t := 27) ?hr ?_; (case hd => rfl); (case hg => rfl); (case hr => first | (go_simp; done) | (go_simp; rfl)); intro gb653 hg w51 hbox hb; have n0_ := Aside0.mk (below_step (by repeat (first | (with_reducible first | exact HB.out | apply below_alloc | apply pw_below_drewN | apply below_drew1) | exact HB.out)) hb); have n1_ := Aside0.mk (hbox); have n2_ := Aside0.mk ((by rw [hg]; exact (below_size (by repeat (first | (with_reducible first | exact HB.out | apply below_alloc | apply pw_below_drewN | apply below_drew1) | exact HB.out))) : w.heap.size ≤ gb653)); have n3_ := Aside0.mk ((by rw [hg]; exact (below_size (by repeat (first | (with_reducible first | exact HB.out | apply below_alloc | apply pw_below_drewN | apply below_drew1) | exact HB.out))) : w.heap.size ≤ gb653)); clear HB; have HB := n0_; have BK653 := n1_; have GW653 := n2_; have GE653 := n3_; clear n0_ n1_ n2_ n3_; clear hb hbox hg; have hcz52_0 : w51.cell? ⟨gb653, 0, none⟩ = some (.int .i64 a0_0) := (blk_cell BK653.out 0).trans rfl; have hcz52_1 : w51.cell? ⟨gb653, 1, none⟩ = some (.bool a0_1) := (blk_cell BK653.out 1).trans rfl; have hcz52_2 : w51.cell? ⟨gb653, 2, none⟩ = some (.int .i64 a0_2) := (blk_cell BK653.out 2).trans rfl; have hcz52_3 : w51.cell? ⟨gb653, 3, none⟩ = some (.int .u64 a0_3) := (blk_cell BK653.out 3).trans rfl; have hcz52_4 : w51.cell? ⟨gb653, 4, none⟩ = some (.slice A0_4 l0_4.length c0_4) := (blk_cell BK653.out 4).trans rfl; have hcz52_5 : w51.cell? ⟨gb653, 5, none⟩ = some (.int .i64 a0_5) := (blk_cell BK653.out 5).trans rfl; have hfz52_0 := blk_frozen BK653.out 0; have hfz52_1 := blk_frozen BK653.out 1; have hfz52_2 := blk_frozen BK653.out 2; have hfz52_3 := blk_frozen BK653.out 3; have hfz52_4 := blk_frozen BK653.out 4; have hfz52_5 := blk_frozen BK653.out 5) | ((with_reducible refine gate_callee (f := 8) rfl ?_); refine goesL_ (some 9) rfl rfl Tryd.func8 (by kernel_rfl) rfl #[.agg #[.int .i64 a0_0, .bool a0_1, .int .i64 a0_2, .int .u64 a0_3, .slice A0_4 l0_4.length c0_4, .int .i64 a0_5], .int .i64 1048576] rfl (by (try simp only [List.map_toArray, List.map_cons, List.map_nil]); first | done | rfl | (simp only [List.length_drop, List.length_take]; rfl)) ?_; (with_reducible refine (laws_szOutcome.calls a0_0 a0_1 a0_2 a0_3 _ _ l0_4 a0_5 1048576 t654 _ ?side1 ?side2 A2.out).mono ?_); (case side1 => repeat (first | exact (Kd.C_below HR0_4.out HB.out) | (with_reducible refine Kd.C_alloc ?_ _) | (with_reducible refine Kd.C_drewN ?_ _) | (with_reducible refine Kd.C_drew ?_))); (case side2 => exact HC0_4.out); rintro e w53 ⟨rfl, hb⟩; refine ⟨_, rfl, ?_⟩; have n0_ := Aside0.mk (blk_below (g := gb653) (o := .cells #[.int .i64 a0_0, .bool a0_1, .int .i64 a0_2, .int .u64 a0_3, .slice A0_4 l0_4.length c0_4, .int .i64 a0_5] 27 (0, 0)) (by (with_reducible repeat (first | refine blk_drewN ?_ _ | refine blk_drew ?_ | refine blk_alloc ?_ _)); exact BK653.out) hb); have n1_ := Aside0.mk (below_step (by repeat (first | (with_reducible first | exact HB.out | apply below_alloc | apply pw_below_drewN | apply below_drew1 | refine below_set ?_ GE653.out) | exact HB.out)) hb); clear BK653; clear HB; have BK653 := n0_; have HB := n1_; clear n0_ n1_; (try clear hb); (try clear hb2); (try clear hk); (try clear hi); have hcz54_0 : w53.cell? ⟨gb653, 0, none⟩ = some (.int .i64 a0_0) := (blk_cell BK653.out 0).trans rfl; have hcz54_1 : w53.cell? ⟨gb653, 1, none⟩ = some (.bool a0_1) := (blk_cell BK653.out 1).trans rfl; have hcz54_2 : w53.cell? ⟨gb653, 2, none⟩ = some (.int .i64 a0_2) := (blk_cell BK653.out 2).trans rfl; have hcz54_3 : w53.cell? ⟨gb653, 3, none⟩ = some (.int .u64 a0_3) := (blk_cell BK653.out 3).trans rfl; have hcz54_4 : w53.cell? ⟨gb653, 4, none⟩ = some (.slice A0_4 l0_4.length c0_4) := (blk_cell BK653.out 4).trans rfl; have hcz54_5 : w53.cell? ⟨gb653, 5, none⟩ = some (.int .i64 a0_5) := (blk_cell BK653.out 5).trans rfl; have hfz54_0 := blk_frozen BK653.out 0; have hfz54_1 := blk_frozen BK653.out 1; have hfz54_2 := blk_frozen BK653.out 2; have hfz54_3 := blk_frozen BK653.out 3; have hfz54_4 := blk_frozen BK653.out 4; have hfz54_5 := blk_frozen BK653.out 5) | ((with_reducible refine gate_callee (f := 10) rfl ?_); refine goesL_ (some 13) rfl rfl Tryd.func10 (by kernel_rfl) rfl #[.agg #[.int .i64 a0_0, .bool a0_1, .int .i64 a0_2, .int .u64 a0_3, .slice A0_4 l0_4.length c0_4, .int .i64 a0_5]] rfl (by (try simp only [List.map_toArray, List.map_cons, List.map_nil]); first | done | rfl | (simp only [List.length_drop, List.length_take]; rfl)) ?_; (with_reducible refine (laws_toOutcome.calls k a0_0 a0_1 a0_2 a0_3 _ _ l0_4 a0_5 t655 t656 t657 t658 t659 t662 _ ?side1 ?side2 A7.out).mono ?_); (case side1 => repeat (first | exact (Kd.C_below HR0_4.out HB.out) | (with_reducible refine Kd.C_alloc ?_ _) | (with_reducible refine Kd.C_drewN ?_ _) | (with_reducible refine Kd.C_drew ?_))); (case side2 => exact HC0_4.out); rintro e w55 ⟨v660, rfl, ho0, hb⟩; refine ⟨_, rfl, ?_⟩; have n0_ := Aside0.mk (Kd.R_lower ho0 (below_size (by repeat (first | (with_reducible first | exact HB.out | apply below_alloc | apply pw_below_drewN | apply below_drew1 | refine below_set ?_ GE653.out) | exact HB.out)))); have n1_ := Aside0.mk (blk_below (g := gb653) (o := .cells #[.int .i64 a0_0, .bool a0_1, .int .i64 a0_2, .int .u64 a0_3, .slice A0_4 l0_4.length c0_4, .int .i64 a0_5] 27 (0, 0)) (by (with_reducible repeat (first | refine blk_drewN ?_ _ | refine blk_drew ?_ | refine blk_alloc ?_ _)); exact BK653.out) hb); have n2_ := Aside0.mk (below_step (by repeat (first | (with_reducible first | exact HB.out | apply below_alloc | apply pw_below_drewN | apply below_drew1 | refine below_set ?_ GE653.out) | exact HB.out)) hb); clear BK653; clear HB; have HO661 := n0_; have BK653 := n1_; have HB := n2_; clear n0_ n1_ n2_; (try clear hb); (try clear hb2); (try clear hk); (try clear hi); (try clear ho0); obtain ⟨Ao56, co56, eo56⟩ := Kd.R_slice HO661.out; subst eo56) | ((with_reducible refine gate_callee (f := 9) rfl ?_); refine goesL_ (some 14) rfl rfl Tryd.func9 (by kernel_rfl) rfl #[.agg #[.int .i64 t655, .bool t656, .int .i64 t657, .int .u64 t658, .slice Ao56 t659.length co56, .int .i64 t662]] rfl (by (try simp only [List.map_toArray, List.map_cons, List.map_nil]); first | done | rfl | (simp only [List.length_drop, List.length_take]; rfl)) ?_; (with_reducible refine (spec_FormatOutcome.calls k t655 t656 t657 t658 _ _ t659 t662 t663 _ ?side1 ?side2 A8.out).mono ?_); (case side1 => repeat (first | exact (Kd.R_reads' HO661.out).2.2 | (with_reducible refine Kd.C_alloc ?_ _) | (with_reducible refine Kd.C_drewN ?_ _) | (with_reducible refine Kd.C_drew ?_))); (case side2 => exact (Kd.R_reads' HO661.out).2.1); rintro e w57 ⟨rfl, hb⟩; refine ⟨_, rfl, ?_⟩; have n0_ := Aside0.mk (Kd.R_below (by (with_reducible repeat (first | apply Kd.R_alloc | apply Kd.R_drewN | apply Kd.R_drew)); exact HO661.out) hb); have n1_ := Aside0.mk (blk_below (g := gb653) (o := .cells #[.int .i64 a0_0, .bool a0_1, .int .i64 a0_2, .int .u64 a0_3, .slice A0_4 l0_4.length c0_4, .int .i64 a0_5] 27 (0, 0)) (by (with_reducible repeat (first | refine blk_drewN ?_ _ | refine blk_drew ?_ | refine blk_alloc ?_ _)); exact BK653.out) hb); have n2_ := Aside0.mk (below_step (by repeat (first | (with_reducible first | exact HB.out | apply below_alloc | apply pw_below_drewN | apply below_drew1 | refine below_set ?_ GE653.out) | exact HB.out)) hb); clear HO661; clear BK653; clear HB; have HO661 := n0_; have BK653 := n1_; have HB := n2_; clear n0_ n1_ n2_; (try clear hb); (try clear hb2); (try clear hk); (try clear hi); have hcz58_0 : w57.cell? ⟨gb653, 0, none⟩ = some (.int .i64 a0_0) := (blk_cell BK653.out 0).trans rfl; have hcz58_1 : w57.cell? ⟨gb653, 1, none⟩ = some (.bool a0_1) := (blk_cell BK653.out 1).trans rfl; have hcz58_2 : w57.cell? ⟨gb653, 2, none⟩ = some (.int .i64 a0_2) := (blk_cell BK653.out 2).trans rfl; have hcz58_3 : w57.cell? ⟨gb653, 3, none⟩ = some (.int .u64 a0_3) := (blk_cell BK653.out 3).trans rfl; have hcz58_4 : w57.cell? ⟨gb653, 4, none⟩ = some (.slice A0_4 l0_4.length c0_4) := (blk_cell BK653.out 4).trans rfl; have hcz58_5 : w57.cell? ⟨gb653, 5, none⟩ = some (.int .i64 a0_5) := (blk_cell BK653.out 5).trans rfl; have hfz58_0 := blk_frozen BK653.out 0; have hfz58_1 := blk_frozen BK653.out 1; have hfz58_2 := blk_frozen BK653.out 2; have hfz58_3 := blk_frozen BK653.out 3; have hfz58_4 := blk_frozen BK653.out 4; have hfz58_5 := blk_frozen BK653.out 5) | ((with_reducible refine gate_callee (f := 10) rfl ?_); refine goesL_ (some 16) rfl rfl Tryd.func10 (by kernel_rfl) rfl #[.agg #[.int .i64 a0_0, .bool a0_1, .int .i64 a0_2, .int .u64 a0_3, .slice A0_4 l0_4.length c0_4, .int .i64 a0_5]] rfl (by (try simp only [List.map_toArray, List.map_cons, List.map_nil]); first | done | rfl | (simp only [List.length_drop, List.length_take]; rfl)) ?_; (with_reducible refine (laws_toOutcome.calls k a0_0 a0_1 a0_2 a0_3 _ _ l0_4 a0_5 t664 t665 t666 t667 t668 t671 _ ?side1 ?side2 A9.out).mono ?_); (case side1 => repeat (first | exact (Kd.C_below HR0_4.out HB.out) | (with_reducible refine Kd.C_alloc ?_ _) | (with_reducible refine Kd.C_drewN ?_ _) | (with_reducible refine Kd.C_drew ?_))); (case side2 => exact HC0_4.out); rintro e w59 ⟨v669, rfl, ho0, hb⟩; refine ⟨_, rfl, ?_⟩; have n0_ := Aside0.mk (Kd.R_elder' (by (with_reducible repeat (first | apply Kd.R_alloc | apply Kd.R_drewN | apply Kd.R_drew)); exact HO661.out) (Kd.R_base ho0) hb); have n1_ := Aside0.mk (Kd.R_lower (Kd.R_new' ho0 (Kd.R_lt (by (with_reducible repeat (first | apply Kd.R_alloc | apply Kd.R_drewN | apply Kd.R_drew)); exact HO661.out))) (below_size (by repeat (first | (with_reducible first | exact HB.out | apply below_alloc | apply pw_below_drewN | apply below_drew1 | refine below_set ?_ GE653.out) | exact HB.out)))); have n2_ := Aside0.mk (blk_below (g := gb653) (o := .cells #[.int .i64 a0_0, .bool a0_1, .int .i64 a0_2, .int .u64 a0_3, .slice A0_4 l0_4.length c0_4, .int .i64 a0_5] 27 (0, 0)) (by (with_reducible repeat (first | refine blk_drewN ?_ _ | refine blk_drew ?_ | refine blk_alloc ?_ _)); exact BK653.out) hb); have n3_ := Aside0.mk (below_step (by repeat (first | (with_reducible first | exact HB.out | apply below_alloc | apply pw_below_drewN | apply below_drew1 | refine below_set ?_ GE653.out) | exact HB.out)) hb); clear HO661; clear BK653; clear HB; have HO661 := n0_; have HO670 := n1_; have BK653 := n2_; have HB := n3_; clear n0_ n1_ n2_ n3_; (try clear hb); (try clear hb2); (try clear hk); (try clear hi); (try clear ho0)) | ((with_reducible refine gate_dst (N := 5) rfl ?_); refine box_event ?hg (N := 5) ?hd (cs := #[.int .i64 0, .bool false, .int .i64 0, .int .u64 0, .slice none 0 0, .int .i64 0]) (t := 32) ?hr ?_; (case hd => rfl); (case hg => rfl); (case hr => first | (go_simp; done) | (go_simp; rfl)); intro gb672 hg w60 hbox hb; have n0_ := Aside0.mk (Kd.R_below (by (with_reducible repeat (first | apply Kd.R_alloc | apply Kd.R_drewN | apply Kd.R_drew)); exact HO661.out) hb); have n1_ := Aside0.mk (Kd.R_below (by (with_reducible repeat (first | apply Kd.R_alloc | apply Kd.R_drewN | apply Kd.R_drew)); exact HO670.out) hb); have n2_ := Aside0.mk (blk_below (g := gb653) (o := .cells #[.int .i64 a0_0, .bool a0_1, .int .i64 a0_2, .int .u64 a0_3, .slice A0_4 l0_4.length c0_4, .int .i64 a0_5] 27 (0, 0)) (by (with_reducible repeat (first | refine blk_drewN ?_ _ | refine blk_drew ?_ | refine blk_alloc ?_ _)); exact BK653.out) hb); have n3_ := Aside0.mk (below_step (by repeat (first | (with_reducible first | exact HB.out | apply below_alloc | apply pw_below_drewN | apply below_drew1 | refine below_set ?_ GE653.out) | exact HB.out)) hb); have n4_ := Aside0.mk (hbox); have n5_ := Aside0.mk ((by rw [hg]; exact (below_size (by repeat (first | (with_reducible first | exact HB.out | apply below_alloc | apply pw_below_drewN | apply below_drew1 | refine below_set ?_ GE653.out) | exact HB.out))) : w.heap.size ≤ gb672)); have n6_ := Aside0.mk ((by rw [hg]; exact (below_size (by repeat (first | (with_reducible first | exact HB.out | apply below_alloc | apply pw_below_drewN | apply below_drew1 | refine below_set ?_ GE653.out) | exact HB.out))) : w.heap.size ≤ gb672)); have n7_ := Aside0.mk ((by rw [hg]; exact Nat.ne_of_lt (blk_lt (g := gb653) (o := .cells #[.int .i64 a0_0, .bool a0_1, .int .i64 a0_2, .int .u64 a0_3, .slice A0_4 l0_4.length c0_4, .int .i64 a0_5] 27 (0, 0)) (by (with_reducible repeat (first | refine blk_drewN ?_ _ | refine blk_drew ?_ | refine blk_alloc ?_ _)); exact BK653.out)) : gb653 ≠ gb672)); have n8_ := Aside0.mk ((by rw [hg]; exact Nat.ne_of_gt (blk_lt (g := gb653) (o := .cells #[.int .i64 a0_0, .bool a0_1, .int .i64 a0_2, .int .u64 a0_3, .slice A0_4 l0_4.length c0_4, .int .i64 a0_5] 27 (0, 0)) (by (with_reducible repeat (first | refine blk_drewN ?_ _ | refine blk_drew ?_ | refine blk_alloc ?_ _)); exact BK653.out)) : gb672 ≠ gb653)); clear HO661; clear HO670; clear BK653; clear HB; have HO661 := n0_; have HO670 := n1_; have BK653 := n2_; have HB := n3_; have BK672 := n4_; have GW672 := n5_; have GE672 := n6_; have NB653_672 := n7_; have NB672_653 := n8_; clear n0_ n1_ n2_ n3_ n4_ n5_ n6_ n7_ n8_; clear hb hbox hg; have hnb61 := NB672_653.out; have hnc61 := NB653_672.out; have hcz62_0 : w60.cell? ⟨gb672, 0, none⟩ = some (.int .i64 0) := (blk_cell BK672.out 0).trans rfl; have hcz62_1 : w60.cell? ⟨gb672, 1, none⟩ = some (.bool false) := (blk_cell BK672.out 1).trans rfl; have hcz62_2 : w60.cell? ⟨gb672, 2, none⟩ = some (.int .i64 0) := (blk_cell BK672.out 2).trans rfl; have hcz62_3 : w60.cell? ⟨gb672, 3, none⟩ = some (.int .u64 0) := (blk_cell BK672.out 3).trans rfl; have hcz62_4 : w60.cell? ⟨gb672, 4, none⟩ = some (.slice none 0 0) := (blk_cell BK672.out 4).trans rfl; have hcz62_5 : w60.cell? ⟨gb672, 5, none⟩ = some (.int .i64 0) := (blk_cell BK672.out 5).trans rfl; have hfz62_0 := blk_frozen BK672.out 0; have hfz62_1 := blk_frozen BK672.out 1; have hfz62_2 := blk_frozen BK672.out 2; have hfz62_3 := blk_frozen BK672.out 3; have hfz62_4 := blk_frozen BK672.out 4; have hfz62_5 := blk_frozen BK672.out 5; obtain ⟨Ao63, co63, eo63⟩ := Kd.R_slice HO670.out; subst eo63) | ((with_reducible refine gate_callee (f := 11) rfl ?_); refine goesL_ (some 18) rfl rfl Tryd.func11 (by kernel_rfl) rfl #[.agg #[.int .i64 t664, .bool t665, .int .i64 t666, .int .u64 t667, .slice Ao63 t668.length co63, .int .i64 t671]] rfl (by (try simp only [List.map_toArray, List.map_cons, List.map_nil]); first | done | rfl | (simp only [List.length_drop, List.length_take]; rfl)) ?_; (with_reducible refine (impl_FormatOutcome.calls t664 t665 t666 t667 _ _ t668 t671 t673 _ ?tLtTab ?side1 ?side2 A10.out).mono ?_); (case tLtTab => exact HLtTab.out.on (by repeat (first | (with_reducible first | exact HB.out | apply below_alloc | apply pw_below_drewN | apply below_drew1 | refine below_set ?_ GE653.out | refine below_set ?_ GE672.out) | exact HB.out))); (case side1 => refine (Kd.R_reads' (e := 22) (base := w.heap.size) (ok := fun k_ => (True ∧ some k_ ≠ (.slice Ao56 t659.length co56 : Value).ownBlock)) (n := t668.length) (c := co63) ?_).2.2; exact (by (with_reducible repeat (first | apply Kd.R_alloc | apply Kd.R_drewN | apply Kd.R_drew)); exact (Kd.R_mono (Kd.R_far (p := ⟨gb672, 5, none⟩) (Kd.R_far (p := ⟨gb672, 4, none⟩) (Kd.R_far (p := ⟨gb672, 3, none⟩) (Kd.R_far (p := ⟨gb672, 2, none⟩) (Kd.R_far (p := ⟨gb672, 1, none⟩) (Kd.R_far (p := ⟨gb672, 0, none⟩) (Kd.R_types HO670.out BK672.out (by decide)) (fun _ hk => hk.2) (.int .i64 t664)) (fun _ hk => hk.2) (.bool t665)) (fun _ hk => hk.2) (.int .i64 t666)) (fun _ hk => hk.2) (.int .u64 t667)) (fun _ hk => hk.2) (.slice Ao63 t668.length co63)) (fun _ hk => hk.2) (.int .i64 t671)) (fun _ h_ => h_.1)))); (case side2 => exact (Kd.R_reads' HO670.out).2.1); rintro e w64 ⟨rfl, hb⟩; refine ⟨_, rfl, ?_⟩; have n0_ := Aside0.mk (Kd.R_below (by (with_reducible repeat (first | apply Kd.R_alloc | apply Kd.R_drewN | apply Kd.R_drew)); exact (Kd.R_mono (Kd.R_far (p := ⟨gb672, 5, none⟩) (Kd.R_far (p := ⟨gb672, 4, none⟩) (Kd.R_far (p := ⟨gb672, 3, none⟩) (Kd.R_far (p := ⟨gb672, 2, none⟩) (Kd.R_far (p := ⟨gb672, 1, none⟩) (Kd.R_far (p := ⟨gb672, 0, none⟩) (Kd.R_types HO661.out BK672.out (by decide)) (fun _ hk => hk.2) (.int .i64 t664)) (fun _ hk => hk.2) (.bool t665)) (fun _ hk => hk.2) (.int .i64 t666)) (fun _ hk => hk.2) (.int .u64 t667)) (fun _ hk => hk.2) (.slice Ao63 t668.length co63)) (fun _ hk => hk.2) (.int .i64 t671)) (fun _ h_ => h_.1))) hb); have n1_ := Aside0.mk (Kd.R_below (by (with_reducible repeat (first | apply Kd.R_alloc | apply Kd.R_drewN | apply Kd.R_drew)); exact (Kd.R_mono (Kd.R_far (p := ⟨gb672, 5, none⟩) (Kd.R_far (p := ⟨gb672, 4, none⟩) (Kd.R_far (p := ⟨gb672, 3, none⟩) (Kd.R_far (p := ⟨gb672, 2, none⟩) (Kd.R_far (p := ⟨gb672, 1, none⟩) (Kd.R_far (p := ⟨gb672, 0, none⟩) (Kd.R_types HO670.out BK672.out (by decide)) (fun _ hk => hk.2) (.int .i64 t664)) (fun _ hk => hk.2) (.bool t665)) (fun _ hk => hk.2) (.int .i64 t666)) (fun _ hk => hk.2) (.int .u64 t667)) (fun _ hk => hk.2) (.slice Ao63 t668.length co63)) (fun _ hk => hk.2) (.int .i64 t671)) (fun _ h_ => h_.1))) hb); have n2_ := Aside0.mk (blk_below (g := gb653) (o := .cells #[.int .i64 a0_0, .bool a0_1, .int .i64 a0_2, .int .u64 a0_3, .slice A0_4 l0_4.length c0_4, .int .i64 a0_5] 27 (0, 0)) (by (with_reducible repeat (first | refine blk_drewN ?_ _ | refine blk_drew ?_ | refine blk_alloc ?_ _)); refine blk_far ?_ NB653_672.out _; (with_reducible repeat (first | refine blk_drewN ?_ _ | refine blk_drew ?_ | refine blk_alloc ?_ _)); refine blk_far ?_ NB653_672.out _; (with_reducible repeat (first | refine blk_drewN ?_ _ | refine blk_drew ?_ | refine blk_alloc ?_ _)); refine blk_far ?_ NB653_672.out _; (with_reducible repeat (first | refine blk_drewN ?_ _ | refine blk_drew ?_ | refine blk_alloc ?_ _)); refine blk_far ?_ NB653_672.out _; (with_reducible repeat (first | refine blk_drewN ?_ _ | refine blk_drew ?_ | refine blk_alloc ?_ _)); refine blk_far ?_ NB653_672.out _; (with_reducible repeat (first | refine blk_drewN ?_ _ | refine blk_drew ?_ | refine blk_alloc ?_ _)); refine blk_far ?_ NB653_672.out _; (with_reducible repeat (first | refine blk_drewN ?_ _ | refine blk_drew ?_ | refine blk_alloc ?_ _)); exact BK653.out) hb); have n3_ := Aside0.mk (blk_below (g := gb672) (o := .cells #[.int .i64 t664, .bool t665, .int .i64 t666, .int .u64 t667, .slice Ao63 t668.length co63, .int .i64 t671] 32 (0, 0)) (by (with_reducible repeat (first | refine blk_drewN ?_ _ | refine blk_drew ?_ | refine blk_alloc ?_ _)); refine blk_put (cs := #[.int .i64 t664, .bool t665, .int .i64 t666, .int .u64 t667, .slice Ao63 t668.length co63, .int .i64 0]) ?_ 5 _ rfl; (with_reducible repeat (first | refine blk_drewN ?_ _ | refine blk_drew ?_ | refine blk_alloc ?_ _)); refine blk_put (cs := #[.int .i64 t664, .bool t665, .int .i64 t666, .int .u64 t667, .slice none 0 0, .int .i64 0]) ?_ 4 _ rfl; (with_reducible repeat (first | refine blk_drewN ?_ _ | refine blk_drew ?_ | refine blk_alloc ?_ _)); refine blk_put (cs := #[.int .i64 t664, .bool t665, .int .i64 t666, .int .u64 0, .slice none 0 0, .int .i64 0]) ?_ 3 _ rfl; (with_reducible repeat (first | refine blk_drewN ?_ _ | refine blk_drew ?_ | refine blk_alloc ?_ _)); refine blk_put (cs := #[.int .i64 t664, .bool t665, .int .i64 0, .int .u64 0, .slice none 0 0, .int .i64 0]) ?_ 2 _ rfl; (with_reducible repeat (first | refine blk_drewN ?_ _ | refine blk_drew ?_ | refine blk_alloc ?_ _)); refine blk_put (cs := #[.int .i64 t664, .bool false, .int .i64 0, .int .u64 0, .slice none 0 0, .int .i64 0]) ?_ 1 _ rfl; (with_reducible repeat (first | refine blk_drewN ?_ _ | refine blk_drew ?_ | refine blk_alloc ?_ _)); refine blk_put (cs := #[.int .i64 0, .bool false, .int .i64 0, .int .u64 0, .slice none 0 0, .int .i64 0]) ?_ 0 _ rfl; (with_reducible repeat (first | refine blk_drewN ?_ _ | refine blk_drew ?_ | refine blk_alloc ?_ _)); exact BK672.out) hb); have n4_ := Aside0.mk (below_step (by repeat (first | (with_reducible first | exact HB.out | apply below_alloc | apply pw_below_drewN | apply below_drew1 | refine below_set ?_ GE653.out | refine below_set ?_ GE672.out) | exact HB.out)) hb); clear HO661; clear HO670; clear BK653; clear BK672; clear HB; have HO661 := n0_; have HO670 := n1_; have BK653 := n2_; have BK672 := n3_; have HB := n4_; clear n0_ n1_ n2_ n3_ n4_; (try clear hb); (try clear hb2); (try clear hk); (try clear hi)))
     go_ret
     exact ⟨by first | rfl | (simp [errW_none, errW_some] <;> rfl) | (simp [*, errW_none, errW_some] <;> rfl), by repeat (first | (with_reducible first | exact HB.out | apply below_alloc | apply pw_below_drewN | apply below_drew1 | refine below_set ?_ GE653.out | refine below_set ?_ GE672.out) | exact HB.out)⟩

end Go.Proofs.YtkohjiajbdkcbaaDoor.All


namespace Go.Proofs.YtkohjiajbdkcbaaDoor.All
open Go.RowKit Go.Proofs.YtkohjiajbdkcbaaDoorW.PrintWords Go.Proofs.YtkohjiajbdkcbaaDoorW.PrintLast Go.Proofs.YtkohjiajbdkcbaaDoorW.PrintMore
attribute [local go_sem] max2_int min2_int max_two min_two max_three min_three max_four min_four   -- for this text's walks alone
set_option linter.unusedVariables false
set_option linter.unusedSimpArgs false

/-! ### impl_ValidWidth: function 46 -/
end Go.Proofs.YtkohjiajbdkcbaaDoor.All


namespace Go.Proofs.YtkohjiajbdkcbaaDoor.All
open Go.RowKit Go.Proofs.YtkohjiajbdkcbaaDoorW.PrintWords Go.Proofs.YtkohjiajbdkcbaaDoorW.PrintLast Go.Proofs.YtkohjiajbdkcbaaDoorW.PrintMore
attribute [local go_sem] max2_int min2_int max_two min_two max_three min_three max_four min_four   -- for this text's walks alone
set_option linter.unusedVariables false
set_option linter.unusedSimpArgs false

/-! ### impl_mask: function 49 -/
end Go.Proofs.YtkohjiajbdkcbaaDoor.All


namespace Go.Proofs.YtkohjiajbdkcbaaDoor.All
open Go.RowKit Go.Proofs.YtkohjiajbdkcbaaDoorW.PrintWords Go.Proofs.YtkohjiajbdkcbaaDoorW.PrintLast Go.Proofs.YtkohjiajbdkcbaaDoorW.PrintMore
attribute [local go_sem] max2_int min2_int max_two min_two max_three min_three max_four min_four   -- for this text's walks alone
set_option linter.unusedVariables false
set_option linter.unusedSimpArgs false

/-! ### impl_isWord: function 48 -/
end Go.Proofs.YtkohjiajbdkcbaaDoor.All


namespace Go.Proofs.YtkohjiajbdkcbaaDoor.All
open Go.RowKit Go.Proofs.YtkohjiajbdkcbaaDoorW.PrintWords Go.Proofs.YtkohjiajbdkcbaaDoorW.PrintLast Go.Proofs.YtkohjiajbdkcbaaDoorW.PrintMore
attribute [local go_sem] max2_int min2_int max_two min_two max_three min_three max_four min_four   -- for this text's walks alone
set_option linter.unusedVariables false
set_option linter.unusedSimpArgs false

/-! ### impl_Signed: function 20 -/
end Go.Proofs.YtkohjiajbdkcbaaDoor.All


namespace Go.Proofs.YtkohjiajbdkcbaaDoor.All
open Go.RowKit Go.Proofs.YtkohjiajbdkcbaaDoorW.PrintWords Go.Proofs.YtkohjiajbdkcbaaDoorW.PrintLast Go.Proofs.YtkohjiajbdkcbaaDoorW.PrintMore
attribute [local go_sem] max2_int min2_int max_two min_two max_three min_three max_four min_four   -- for this text's walks alone
set_option linter.unusedVariables false
set_option linter.unusedSimpArgs false

/-! ### strconv_FormatInt_39: function 39 -/
def strconv_FormatInt_39.f (a0 : Int) (a1 : Int) : Option (ByteArray) := if -9223372036854775808 ≤ a0 then (if a0 ≤ 9223372036854775807 then (if a1 = 10 then some (⟨(Lib.itoa a0).toArray⟩ : ByteArray) else none) else none) else none
theorem strconv_FormatInt_39.calls (a0 : Int) (a1 : Int) (r : ByteArray) (w : World) (ht : LtTab w) (h : strconv_FormatInt_39.f a0 a1 = some r) :
 Calls Tryd.prog 39 #[.int .i64 a0, .int .i64 a1] w fun e w' => e = .returned (.string r) ∧ Below w.heap.size w w' := by
 unfold strconv_FormatInt_39.f at h
 by_cases h0 : -9223372036854775808 ≤ a0
 · by_cases h1 : a0 ≤ 9223372036854775807
   · by_cases h2 : a1 = 10
     · subst h2
       rw [if_pos h0, if_pos h1, if_pos rfl] at h
       obtain rfl := Option.some.inj h
       refine (Tryd.strconv_FormatInt_10 a0 h0 h1 w ht.here).mono ?_
       rintro e w' ⟨he, q, os, rfl⟩
       exact ⟨he, below_grow w q os⟩
     · rw [if_pos h0, if_pos h1, if_neg h2] at h
       cases h
   · rw [if_pos h0, if_neg h1] at h
     cases h
 · rw [if_neg h0] at h
   cases h

end Go.Proofs.YtkohjiajbdkcbaaDoor.All


/- Contracts of Go's library at this translation: laid by the shelf's lay-shelf.mjs and lay-plain.mjs, those that this session's claims use. -/
namespace Go.Proofs
open Go.Shelf
set_option linter.unusedVariables false
def Tryd.lays283_ren : Go.Shelf.Ren := ⟨fun | 283 => 97 | n => n, fun | 3 => 3 | 9 => 9 | 4 => 4 | n => n, fun | n => n⟩
theorem Tryd.lays283 : Go.Proofs.Lays.n283 Tryd.prog Tryd.lays283_ren := {
  mixed := by kernel_rfl
  f283 := Tryd.func97.trans (congrArg some (by kernel_rfl))
  t3 := Tryd.underlying3
  a3 := Tryd.isAgg3
  z3 := Tryd.sizeOf3
  v3 := Tryd.zeroValue3
  t4 := Tryd.underlying4
  a4 := Tryd.isAgg4
  z4 := Tryd.sizeOf4
  v4 := Tryd.zeroValue4
  t9 := Tryd.underlying9
  a9 := Tryd.isAgg9
  z9 := Tryd.sizeOf9
  v9 := Tryd.zeroValue9 }
open Go.Lib in
theorem Tryd.internal_strconv_small (i : Nat) (h : i < 100) (w : World) :
    Calls Tryd.prog 97 #[.int .i64 i] w fun e w' => e = .returned (.string ⟨(Lib.decDigits i).toArray⟩) ∧ w' = w := Any.internal_strconv_small Tryd.lays283 i h w
end Go.Proofs


namespace Go.Proofs.YtkohjiajbdkcbaaDoor.All
open Go.RowKit Go.Proofs.YtkohjiajbdkcbaaDoorW.PrintWords Go.Proofs.YtkohjiajbdkcbaaDoorW.PrintLast Go.Proofs.YtkohjiajbdkcbaaDoorW.PrintMore
attribute [local go_sem] max2_int min2_int max_two min_two max_three min_three max_four min_four   -- for this text's walks alone
set_option linter.unusedVariables false
set_option linter.unusedSimpArgs false

/-! ### strconv_FormatUint_50: function 50 -/
def strconv_FormatUint_50.f (a0 : Int) (a1 : Int) : Option (ByteArray) := if 0 ≤ a0 then (if a0 < 100 then (if a1 = 10 then some (⟨(Lib.decDigits a0.toNat).toArray⟩ : ByteArray) else none) else none) else none
set_option maxRecDepth 100000 in
theorem strconv_FormatUint_50.inner (i : Nat) (hi : i < 100) (w : World) :
 Calls Tryd.prog 81 #[.int .u64 (i : Int), .int .i64 10] w fun e w' => e = .returned (.string (⟨(Lib.decDigits i).toArray⟩ : ByteArray)) ∧ w' = w := by
 have c1 : decide ((i : Int) < 100) = true := decide_eq_true (by omega)
 have hw : IntKind.i64.wrap (i : Int) = (i : Int) := IntWalk.i64_in _ (by omega)
 go_enter Tryd.func81, Tryd.ntmps81
 go_wp2_with (go_at_call 97; refine (Tryd.internal_strconv_small i hi _).mono ?_; rintro e w' ⟨rfl, rfl⟩)
 go_ret
 exact ⟨rfl, rfl⟩
set_option maxRecDepth 100000 in
theorem strconv_FormatUint_50.calls (a0 : Int) (a1 : Int) (r : ByteArray) (w : World) (h : strconv_FormatUint_50.f a0 a1 = some r) :
 Calls Tryd.prog 50 #[.int .u64 a0, .int .i64 a1] w fun e w' => e = .returned (.string r) ∧ Drawn0 w w' := by
 unfold strconv_FormatUint_50.f at h
 by_cases h0 : 0 ≤ a0
 · by_cases h1 : a0 < 100
   · by_cases h2 : a1 = 10
     · subst h2
       rw [if_pos h0, if_pos h1, if_pos rfl] at h
       obtain rfl := Option.some.inj h
       obtain ⟨i, rfl⟩ : ∃ i : Nat, a0 = (i : Int) := ⟨a0.toNat, by omega⟩
       have hi : i < 100 := by omega
       clear h h0 h1
       go_enter Tryd.func50, Tryd.ntmps50
       go_wp2_with (go_at_call 81; refine (strconv_FormatUint_50.inner i hi _).mono ?_; rintro e w' ⟨rfl, rfl⟩)
       go_ret
       exact ⟨rfl, Drawn0.refl _⟩
     · rw [if_pos h0, if_pos h1, if_neg h2] at h
       cases h
   · rw [if_pos h0, if_neg h1] at h
     cases h
 · rw [if_neg h0] at h
   cases h

end Go.Proofs.YtkohjiajbdkcbaaDoor.All


namespace Go.Proofs.YtkohjiajbdkcbaaDoor.All
open Go.RowKit Go.Proofs.YtkohjiajbdkcbaaDoorW.PrintWords Go.Proofs.YtkohjiajbdkcbaaDoorW.PrintLast Go.Proofs.YtkohjiajbdkcbaaDoorW.PrintMore
attribute [local go_sem] max2_int min2_int max_two min_two max_three min_three max_four min_four   -- for this text's walks alone
set_option linter.unusedVariables false
set_option linter.unusedSimpArgs false

/-! ### impl_FormatWord: function 22 -/
end Go.Proofs.YtkohjiajbdkcbaaDoor.All


namespace Go.Proofs.YtkohjiajbdkcbaaDoor.All
open Go.RowKit Go.Proofs.YtkohjiajbdkcbaaDoorW.PrintWords Go.Proofs.YtkohjiajbdkcbaaDoorW.PrintLast Go.Proofs.YtkohjiajbdkcbaaDoorW.PrintMore
attribute [local go_sem] max2_int min2_int max_two min_two max_three min_three max_four min_four   -- for this text's walks alone
set_option linter.unusedVariables false
set_option linter.unusedSimpArgs false

/-! ### spec_l3Int: function 60 -/
end Go.Proofs.YtkohjiajbdkcbaaDoor.All


/- Plain laws of the printed functions: eventually (Ev), step by step; loops over a list. -/
namespace Go.Proofs.YtkohjiajbdkcbaaDoor.All
open Go.RowKit Go.Proofs.YtkohjiajbdkcbaaDoorW.PrintWords Go.Proofs.YtkohjiajbdkcbaaDoorW.PrintLast Go.Proofs.YtkohjiajbdkcbaaDoorW.PrintMore
set_option linter.unusedVariables false
set_option linter.unusedSimpArgs false
theorem Ev.succ {α : Type} {g : Nat → Option α} {r : α} (h : Ev (fun k => g (k + 1)) r) : Ev g r := by
  obtain ⟨K, hK⟩ := h
  refine ⟨K + 1, fun k hk => ?_⟩
  obtain ⟨m, rfl⟩ : ∃ m, k = m + 1 := ⟨k - 1, by omega⟩
  exact hK m (by omega)
theorem Ev.pos {α : Type} {c : Prop} [Decidable c] {g h : Nat → Option α} {r : α} (hc : c) (k : Ev g r) : Ev (fun n => if c then g n else h n) r := Ev.congr (fun n => if_pos hc) k
theorem Ev.neg {α : Type} {c : Prop} [Decidable c] {g h : Nat → Option α} {r : α} (hc : ¬ c) (k : Ev h r) : Ev (fun n => if c then g n else h n) r := Ev.congr (fun n => if_neg hc) k
theorem Ev.some_bind {α β : Type} {a : α} {f : Nat → α → Option β} {r : β} (k : Ev (fun n => f n a) r) : Ev (fun n => (some a).bind (f n)) r := k
theorem Ev.eq_bind {α β : Type} {o : Option α} {a : α} {f : Nat → α → Option β} {r : β} (h : o = some a) (k : Ev (fun n => f n a) r) : Ev (fun n => o.bind (f n)) r := by subst h; exact k
theorem Ev.some {α : Type} {a r : α} (h : a = r) : Ev (fun _ => some a) r := h ▸ Ev.now a
theorem wrap64_id {x : Int} (h1 : -9223372036854775808 ≤ x) (h2 : x ≤ 9223372036854775807) : wrap64 x = x := by unfold wrap64; omega
theorem wrap64_nat {i : Nat} (h : i < 9223372036854775807) : wrap64 ((i : Int) + 1) = ((i + 1 : Nat) : Int) := by rw [wrap64_id (by omega) (by omega)]; rfl
/-- A loop that fills a list of the same length. -/
theorem to_gen {α β : Type} (f : α → β) (z : β) (za : α) (xs : List α) (g : Nat → List β → Int → Option (List β))
    (hstep : ∀ (i : Nat) (out : List β) (r : List β), i < xs.length → out.length = xs.length → Ev (fun k => g k (out.set i (f (xs.getD i za))) ((i + 1 : Nat) : Int)) r → Ev (fun k => g k out (i : Int)) r)
    (hend : ∀ out : List β, out.length = xs.length → Ev (fun k => g k out (xs.length : Int)) out) : Ev (fun k => g k (List.replicate xs.length z) 0) (xs.map f) := by
  have key : ∀ d i : Nat, i + d = xs.length → Ev (fun k => g k ((xs.map f).take i ++ List.replicate (xs.length - i) z) (i : Int)) (xs.map f) := by
    intro d
    induction d with
    | zero =>
      intro i hi
      obtain rfl : i = xs.length := by omega
      rw [Nat.sub_self, List.replicate_zero, List.append_nil, List.take_of_length_le (by simp)]
      exact hend _ (by simp)
    | succ d ih =>
      intro i hi
      have h1 := ih (i + 1) (by omega)
      refine hstep i _ _ (by omega) (by simp; omega) ?_
      have e : ((xs.map f).take i ++ List.replicate (xs.length - i) z).set i (f (xs.getD i za)) = (xs.map f).take (i + 1) ++ List.replicate (xs.length - (i + 1)) z := by
        have hl : ((xs.map f).take i).length = i := by simp; omega
        rw [List.set_append_right _ _ (by omega), hl, Nat.sub_self]
        obtain ⟨m, hm⟩ : ∃ m, xs.length - i = m + 1 := ⟨xs.length - i - 1, by omega⟩
        rw [hm, List.replicate_succ, List.set_cons_zero, List.take_succ_eq_append_getElem (by simp; omega), show xs.length - (i + 1) = m by omega, List.append_assoc]
        congr 1
        simp [List.getElem?_eq_getElem (show i < xs.length by omega)]
      rw [e]
      exact h1
  have h0 := key xs.length 0 (by omega)
  simpa using h0
/-- A loop whose end is r, whatever happens on the way. -/
theorem for_gen {ρ : Type} (r : ρ) (n : Nat) (g : Nat → Int → Option ρ) (hstep : ∀ i : Nat, i < n → Ev (fun k => g k ((i + 1 : Nat) : Int)) r → Ev (fun k => g k (i : Int)) r) (hend : Ev (fun k => g k (n : Int)) r) : Ev (fun k => g k 0) r := by
  have key : ∀ d i : Nat, i + d = n → Ev (fun k => g k (i : Int)) r := by
    intro d
    induction d with
    | zero => intro i hi; obtain rfl : i = n := by omega
              exact hend
    | succ d ih => intro i hi; exact hstep i (by omega) (ih (i + 1) (by omega))
  exact key n 0 (by omega)
/-- A loop that says yes at each step. -/
theorem all_gen (n : Nat) (g : Nat → Int → Option Bool) (hstep : ∀ i : Nat, i < n → Ev (fun k => g k ((i + 1 : Nat) : Int)) true → Ev (fun k => g k (i : Int)) true) (hend : Ev (fun k => g k (n : Int)) true) : Ev (fun k => g k 0) true := for_gen true n g hstep hend
end Go.Proofs.YtkohjiajbdkcbaaDoor.All


namespace Go.Proofs.YtkohjiajbdkcbaaDoor.All
open Go.RowKit Go.Proofs.YtkohjiajbdkcbaaDoorW.PrintWords Go.Proofs.YtkohjiajbdkcbaaDoorW.PrintLast Go.Proofs.YtkohjiajbdkcbaaDoorW.PrintMore
attribute [local go_sem] max2_int min2_int max_two min_two max_three min_three max_four min_four   -- for this text's walks alone
set_option linter.unusedVariables false
set_option linter.unusedSimpArgs false

/-! ### impl_Cut: function 21 -/
end Go.Proofs.YtkohjiajbdkcbaaDoor.All


/- Plain laws of words: widths, cuts, signs. -/
namespace Go.Proofs.YtkohjiajbdkcbaaDoor.All
open Go.RowKit Go.Proofs.YtkohjiajbdkcbaaDoorW.PrintWords Go.Proofs.YtkohjiajbdkcbaaDoorW.PrintLast Go.Proofs.YtkohjiajbdkcbaaDoorW.PrintMore
set_option linter.unusedVariables false
set_option linter.unusedSimpArgs false
def VW (w : Int) : Prop := w = 1 ∨ w = 8 ∨ w = 16 ∨ w = 32 ∨ w = 64
instance (w : Int) : Decidable (VW w) := by unfold VW; exact inferInstance
def pw (w : Int) : Int := if w = 1 then 2 else if w = 8 then 256 else if w = 16 then 65536 else if w = 32 then 4294967296 else 18446744073709551616
def cutW (w v : Int) : Int := v % pw w
def sgnW (w v : Int) : Int := if pw w ≤ 2 * v then v - pw w else v
theorem validS_f (w : Int) : spec_ValidWidth.f w = some (decide (VW w)) := by
  by_cases h : VW w
  · rw [decide_eq_true h]
    rcases h with rfl | rfl | rfl | rfl | rfl <;> rfl
  · rw [decide_eq_false h]
    unfold VW at h
    unfold spec_ValidWidth.f
    rw [if_neg (by omega), if_neg (by omega), if_neg (by omega), if_neg (by omega), beq_eq_false_iff_ne.mpr (by omega)]
theorem maskS_f {w : Int} (h : VW w) : spec_l1Mask.f w = some (pw w - 1) := by
  rcases h with rfl | rfl | rfl | rfl | rfl <;> kernel_rfl
theorem and_mask {w v : Int} (h : VW w) (h0 : 0 ≤ v) (h1 : v < 18446744073709551616) : Go.bits .and .u64 v (pw w - 1) = cutW w v := by
  obtain ⟨n, rfl⟩ : ∃ n : Nat, v = (n : Int) := ⟨v.toNat, by omega⟩
  have key : ∀ k : Nat, n &&& (2 ^ k - 1) = n % 2 ^ k := fun k => Nat.and_two_pow_sub_one_eq_mod n k
  rcases h with rfl | rfl | rfl | rfl | rfl
  · rw [show pw 1 - 1 = ((2 ^ 1 - 1 : Nat) : Int) from rfl, u64_and_nat _ _ (by omega) (by decide), key 1]; rfl
  · rw [show pw 8 - 1 = ((2 ^ 8 - 1 : Nat) : Int) from rfl, u64_and_nat _ _ (by omega) (by decide), key 8]; rfl
  · rw [show pw 16 - 1 = ((2 ^ 16 - 1 : Nat) : Int) from rfl, u64_and_nat _ _ (by omega) (by decide), key 16]; rfl
  · rw [show pw 32 - 1 = ((2 ^ 32 - 1 : Nat) : Int) from rfl, u64_and_nat _ _ (by omega) (by decide), key 32]; rfl
  · rw [show pw 64 - 1 = ((2 ^ 64 - 1 : Nat) : Int) from rfl, u64_and_nat _ _ (by omega) (by decide), key 64]; rfl
theorem pw_pos (w : Int) : 2 ≤ pw w ∧ pw w ≤ 18446744073709551616 := by unfold pw; repeat' split <;> omega
theorem cutW_range (w v : Int) : 0 ≤ cutW w v ∧ cutW w v < pw w := by have := pw_pos w; unfold cutW; exact ⟨Int.emod_nonneg _ (by omega), Int.emod_lt_of_pos _ (by omega)⟩
theorem cutS_f {w v : Int} (h : VW w) (h0 : 0 ≤ v) (h1 : v < 18446744073709551616) : spec_Cut.f w v = some (cutW w v) := by
  unfold spec_Cut.f
  rw [validS_f, decide_eq_true h]; simp only [Option.bind_some, if_true]
  rw [maskS_f h]; simp only [Option.bind_some]
  rw [and_mask h h0 h1]
theorem cutW_self {w v : Int} (h0 : 0 ≤ v) : v = cutW w v ↔ v < pw w := by
  have := cutW_range w v
  constructor
  · intro e; omega
  · intro h; unfold cutW; rw [Int.emod_eq_of_lt h0 h]
theorem isS_f {w v : Int} (h0 : 0 ≤ v) (h1 : v < 18446744073709551616) : spec_l1Is.f w v = some (decide (VW w ∧ v < pw w)) := by
  unfold spec_l1Is.f
  rw [validS_f]
  by_cases h : VW w
  · rw [decide_eq_true h]; simp only [Option.bind_some, if_true]
    rw [cutS_f h h0 h1]; simp only [Option.bind_some]
    congr 1
    rw [Bool.eq_iff_iff, beq_iff_eq, decide_eq_true_eq, cutW_self h0]
    simp [h]
  · rw [decide_eq_false h]
    simp [h]
theorem topS_f {w v : Int} (h : VW w) (h0 : 0 ≤ v) (h1 : v < pw w) : spec_l1Top.f w v = some (decide (pw w ≤ 2 * v)) := by
  unfold spec_l1Top.f
  rcases h with rfl | rfl | rfl | rfl | rfl
  · rw [show IntKind.u64.wrap (wrap64 (1 - 1)) = 0 from by kernel_rfl, if_pos (by decide)]
    rw [show pw 1 = 2 from rfl] at h1 ⊢
    congr 1
    unfold shr
    rw [show min (0 : Int).toNat IntKind.u64.bits = 0 from rfl, show (2 : Int) ^ 0 = 1 from by decide, Bool.eq_iff_iff, beq_iff_eq, decide_eq_true_eq]
    omega
  · rw [show IntKind.u64.wrap (wrap64 (8 - 1)) = 7 from by kernel_rfl, if_pos (by decide)]
    rw [show pw 8 = 256 from rfl] at h1 ⊢
    congr 1
    unfold shr
    rw [show min (7 : Int).toNat IntKind.u64.bits = 7 from rfl, show (2 : Int) ^ 7 = 128 from by decide, Bool.eq_iff_iff, beq_iff_eq, decide_eq_true_eq]
    omega
  · rw [show IntKind.u64.wrap (wrap64 (16 - 1)) = 15 from by kernel_rfl, if_pos (by decide)]
    rw [show pw 16 = 65536 from rfl] at h1 ⊢
    congr 1
    unfold shr
    rw [show min (15 : Int).toNat IntKind.u64.bits = 15 from rfl, show (2 : Int) ^ 15 = 32768 from by decide, Bool.eq_iff_iff, beq_iff_eq, decide_eq_true_eq]
    omega
  · rw [show IntKind.u64.wrap (wrap64 (32 - 1)) = 31 from by kernel_rfl, if_pos (by decide)]
    rw [show pw 32 = 4294967296 from rfl] at h1 ⊢
    congr 1
    unfold shr
    rw [show min (31 : Int).toNat IntKind.u64.bits = 31 from rfl, show (2 : Int) ^ 31 = 2147483648 from by decide, Bool.eq_iff_iff, beq_iff_eq, decide_eq_true_eq]
    omega
  · rw [show IntKind.u64.wrap (wrap64 (64 - 1)) = 63 from by kernel_rfl, if_pos (by decide)]
    rw [show pw 64 = 18446744073709551616 from rfl] at h1 ⊢
    congr 1
    unfold shr
    rw [show min (63 : Int).toNat IntKind.u64.bits = 63 from rfl, show (2 : Int) ^ 63 = 9223372036854775808 from by decide, Bool.eq_iff_iff, beq_iff_eq, decide_eq_true_eq]
    omega
theorem or_hi {n k : Nat} (hk : k ≤ 64) (hn : n < 2 ^ k) : n ||| (2 ^ 64 - 2 ^ k) = n + (2 ^ 64 - 2 ^ k) := by
  have h := Nat.two_pow_add_eq_or_of_lt hn (2 ^ (64 - k) - 1)
  have e : 2 ^ k * (2 ^ (64 - k) - 1) = 2 ^ 64 - 2 ^ k := by
    rw [Nat.mul_sub, ← Nat.pow_add, Nat.mul_one, show k + (64 - k) = 64 by omega]
  rw [e] at h
  rw [Nat.or_comm, ← h, Nat.add_comm]
theorem sgnS_f {w v : Int} (h : VW w) (h0 : 0 ≤ v) (h1 : v < pw w) : spec_Signed.f w v = some (sgnW w v) := by
  have hp := pw_pos w
  unfold spec_Signed.f
  rw [isS_f h0 (by omega), decide_eq_true ⟨h, h1⟩]; simp only [Option.bind_some, if_true]
  rw [topS_f h h0 h1]; simp only [Option.bind_some]
  unfold sgnW
  by_cases c : pw w ≤ 2 * v
  · rw [decide_eq_true c, if_pos rfl, if_pos c, maskS_f h]; simp only [Option.bind_some]
    congr 1
    obtain ⟨n, rfl⟩ : ∃ n : Nat, v = (n : Int) := ⟨v.toNat, by omega⟩
    rcases h with rfl | rfl | rfl | rfl | rfl
    · rw [show pw 1 = ((2 ^ 1 : Nat) : Int) from rfl] at h1 c ⊢
      have hn : n < 2 ^ 1 := by omega
      rw [show (((2 ^ 1 : Nat) : Int) - 1) = ((2 ^ 1 - 1 : Nat) : Int) from rfl, show (18446744073709551615 : Int) = ((18446744073709551615 : Nat) : Int) from rfl, u64_xor_nat _ _ (by decide) (by decide), show (18446744073709551615 ^^^ (2 ^ 1 - 1) : Nat) = 2 ^ 64 - 2 ^ 1 from rfl, u64_or_nat _ _ (by omega) (by decide), or_hi (by decide) hn]
      unfold wrap64
      omega
    · rw [show pw 8 = ((2 ^ 8 : Nat) : Int) from rfl] at h1 c ⊢
      have hn : n < 2 ^ 8 := by omega
      rw [show (((2 ^ 8 : Nat) : Int) - 1) = ((2 ^ 8 - 1 : Nat) : Int) from rfl, show (18446744073709551615 : Int) = ((18446744073709551615 : Nat) : Int) from rfl, u64_xor_nat _ _ (by decide) (by decide), show (18446744073709551615 ^^^ (2 ^ 8 - 1) : Nat) = 2 ^ 64 - 2 ^ 8 from rfl, u64_or_nat _ _ (by omega) (by decide), or_hi (by decide) hn]
      unfold wrap64
      omega
    · rw [show pw 16 = ((2 ^ 16 : Nat) : Int) from rfl] at h1 c ⊢
      have hn : n < 2 ^ 16 := by omega
      rw [show (((2 ^ 16 : Nat) : Int) - 1) = ((2 ^ 16 - 1 : Nat) : Int) from rfl, show (18446744073709551615 : Int) = ((18446744073709551615 : Nat) : Int) from rfl, u64_xor_nat _ _ (by decide) (by decide), show (18446744073709551615 ^^^ (2 ^ 16 - 1) : Nat) = 2 ^ 64 - 2 ^ 16 from rfl, u64_or_nat _ _ (by omega) (by decide), or_hi (by decide) hn]
      unfold wrap64
      omega
    · rw [show pw 32 = ((2 ^ 32 : Nat) : Int) from rfl] at h1 c ⊢
      have hn : n < 2 ^ 32 := by omega
      rw [show (((2 ^ 32 : Nat) : Int) - 1) = ((2 ^ 32 - 1 : Nat) : Int) from rfl, show (18446744073709551615 : Int) = ((18446744073709551615 : Nat) : Int) from rfl, u64_xor_nat _ _ (by decide) (by decide), show (18446744073709551615 ^^^ (2 ^ 32 - 1) : Nat) = 2 ^ 64 - 2 ^ 32 from rfl, u64_or_nat _ _ (by omega) (by decide), or_hi (by decide) hn]
      unfold wrap64
      omega
    · rw [show pw 64 = ((2 ^ 64 : Nat) : Int) from rfl] at h1 c ⊢
      have hn : n < 2 ^ 64 := by omega
      rw [show (((2 ^ 64 : Nat) : Int) - 1) = ((2 ^ 64 - 1 : Nat) : Int) from rfl, show (18446744073709551615 : Int) = ((18446744073709551615 : Nat) : Int) from rfl, u64_xor_nat _ _ (by decide) (by decide), show (18446744073709551615 ^^^ (2 ^ 64 - 1) : Nat) = 2 ^ 64 - 2 ^ 64 from rfl, u64_or_nat _ _ (by omega) (by decide), or_hi (by decide) hn]
      unfold wrap64
      omega
  · rw [decide_eq_false c, if_neg (by decide), if_neg c]
    congr 1
    unfold wrap64
    omega
theorem sgnW_range {w v : Int} (h0 : 0 ≤ v) (h1 : v < pw w) : -9223372036854775808 ≤ sgnW w v ∧ sgnW w v ≤ 9223372036854775807 := by
  have hp := pw_pos w
  unfold sgnW
  split <;> omega
theorem size_f {n : Int} (h0 : -9223372036854775808 ≤ n) (h1 : n ≤ 9223372036854775807) : spec_l1Size.f n = some (n.natAbs : Int) := by
  unfold spec_l1Size.f
  rw [IntKind.wrap_u64, IntKind.wrap_u64, IntKind.wrap_u64]
  unfold wrap64
  split <;> (congr 1; omega)
end Go.Proofs.YtkohjiajbdkcbaaDoor.All


/- Plain laws of decimal texts: what is written, and what is read. -/
namespace Go.Proofs.YtkohjiajbdkcbaaDoor.All
open Go.RowKit Go.Proofs.YtkohjiajbdkcbaaDoorW.PrintWords Go.Proofs.YtkohjiajbdkcbaaDoorW.PrintLast Go.Proofs.YtkohjiajbdkcbaaDoorW.PrintMore
set_option linter.unusedVariables false
set_option linter.unusedSimpArgs false
theorem digit_str {d : Int} (h0 : 0 ≤ d) (h1 : d < 10) : strOfNums ([(IntKind.u64.wrap (48 + d)) % 256] : List Int) = bsOf [UInt8.ofNat (48 + d.toNat)] := by
  have e : (IntKind.u64.wrap (48 + d)) % 256 = 48 + d := by rw [IntKind.wrap_u64]; omega
  rw [e]
  unfold strOfNums bsOf
  simp only [List.map_cons, List.map_nil]
  rw [show (48 + d).toNat = 48 + d.toNat by omega]
theorem decDigits_small {u : Nat} (h : u < 10) : Lib.decDigits u = [UInt8.ofNat (48 + u)] := by rw [Lib.decDigits, dif_pos h]
theorem decDigits_big {u : Nat} (h : ¬ u < 10) : Lib.decDigits u = Lib.decDigits (u / 10) ++ [UInt8.ofNat (48 + u % 10)] := by rw [Lib.decDigits, dif_neg h]
theorem decDigits_len {u : Nat} (h : u < 18446744073709551616) : (Lib.decDigits u).length ≤ 20 := by rw [Lib.decDigits_length]; exact Lib.nDigits_le20 u h
theorem l1Decimal_f : ∀ (u : Nat), u < 18446744073709551616 → Ev (fun k => spec_l1Decimal.f k (u : Int)) (bsOf (Lib.decDigits u)) := by
  intro u
  induction u using Nat.strongRecOn with
  | _ u ih =>
    intro h
    refine Ev.succ ?_
    simp only [spec_l1Decimal.f]
    by_cases c : u < 10
    · refine Ev.pos (by omega) (Ev.some ?_)
      rw [digit_str (by omega) (by omega), decDigits_small c]; rfl
    · refine Ev.neg (by omega) ?_
      have e1 : IntKind.u64.wrap (Int.tdiv (u : Int) 10) = ((u / 10 : Nat) : Int) := by
        rw [IntKind.wrap_u64, Int.tdiv_eq_ediv_of_nonneg (by omega)]; omega
      have e2 : Int.tmod (u : Int) 10 = ((u % 10 : Nat) : Int) := by
        rw [Int.tmod_eq_emod_of_nonneg (by omega)]; rfl
      rw [e1, e2]
      refine Ev.bind (ih (u / 10) (by omega) (by omega)) (Ev.some_bind ?_)
      rw [digit_str (by omega) (by omega), Int.toNat_natCast, bsOf_append]
      have hl := decDigits_len (u := u / 10) (by omega)
      refine Ev.pos (by rw [bsOf_size, bsOf_size]; simp; omega) (Ev.some ?_)
      rw [decDigits_big c]
/-- The number that a word of a width says. -/
def numW (w v : Int) : Int := if w = 1 then v else sgnW w v
def fmtW (w v : Int) : ByteArray := bsOf (Lib.itoa (numW w v))
theorem itoa_pos {n : Int} (h : 0 ≤ n) : Lib.itoa n = Lib.decDigits n.toNat := by unfold Lib.itoa; rw [if_neg (by omega)]
theorem itoa_neg {n : Int} (h : n < 0) : Lib.itoa n = 45 :: Lib.decDigits n.natAbs := by unfold Lib.itoa; rw [if_pos h]
theorem fmtS_f {w v : Int} (h : VW w) (h0 : 0 ≤ v) (h1 : v < pw w) : Ev (fun k => spec_FormatWord.f k w v) (fmtW w v) := by
  have hp := pw_pos w
  have hr := sgnW_range h0 h1
  obtain ⟨n, rfl⟩ : ∃ n : Nat, v = (n : Int) := ⟨v.toNat, by omega⟩
  unfold spec_FormatWord.f
  rw [isS_f h0 (by omega), decide_eq_true ⟨h, h1⟩]; simp only [Option.bind_some, if_true]
  rw [sgnS_f h h0 h1]; simp only [Option.bind_some]
  unfold fmtW numW
  have plain : Ev (fun k => spec_FormatWord.j0 k (n : Int) (sgnW w n) false) (bsOf (Lib.decDigits n)) := by
    refine Ev.succ ?_
    simp only [spec_FormatWord.j0]
    exact Ev.neg (by decide) (Ev.bind (l1Decimal_f n (by omega)) (Ev.now _))
  by_cases c : w = 1
  · subst c
    rw [if_pos rfl, itoa_pos h0, Int.toNat_natCast]
    exact Ev.neg (by decide) plain
  · have hw : 1 < w := by unfold VW at h; omega
    rw [if_neg c]
    refine Ev.pos hw ?_
    by_cases cn : sgnW w n < 0
    · rw [decide_eq_true cn, itoa_neg cn]
      refine Ev.succ ?_
      simp only [spec_FormatWord.j0]
      refine Ev.pos trivial ?_
      rw [size_f hr.1 hr.2]
      refine Ev.some_bind (Ev.bind (l1Decimal_f _ (by omega)) ?_)
      have hl := decDigits_len (u := (sgnW w n).natAbs) (by omega)
      refine Ev.pos (by rw [bsOf_size]; omega) (Ev.some ?_)
      exact bsOf_append [45] _
    · have e : sgnW w n = n := by unfold sgnW at cn ⊢; split <;> omega
      rw [decide_eq_false cn]
      rw [show Lib.itoa (sgnW w n) = Lib.decDigits n by rw [e, itoa_pos h0, Int.toNat_natCast]]
      exact plain
end Go.Proofs.YtkohjiajbdkcbaaDoor.All


/- What reads as data of a type can be read as a value of its kind. -/
namespace Go.Proofs.YtkohjiajbdkcbaaDoor.All
open Go.RowKit Go.Proofs.YtkohjiajbdkcbaaDoorW.PrintWords Go.Proofs.YtkohjiajbdkcbaaDoorW.PrintLast Go.Proofs.YtkohjiajbdkcbaaDoorW.PrintMore
set_option linter.unusedVariables false
set_option linter.unusedSimpArgs false
structure Rdb {α : Type} (d : Kd α) (P : Program) (t : TypeId) (ok : α → Prop) : Prop where
  sz : P.cellsOf t = d.sz
  rd : ∀ {H : Type} {enc : TypeId × Value → H} {w : World} {base : Nat} {sp : Nat → Bool} {held : Bool} {fuel : Nat} {cs : List Value} {x : DataW H × List MemPlace}, DataW.trod enc P w base sp held fuel t cs = some x → ∃ a, d.K w a cs ∧ ok a
theorem Rdb.int {P : Program} {t : TypeId} {k : IntKind} (ht : P.underlying t = some (.int k)) (hs : P.cellsOf t = 1) : Rdb (Kd.int k) P t (fun a => (Lit.int k a).wf = true) :=
  ⟨hs, fun h => by obtain ⟨n, rfl, _, hw⟩ := DataW.trod_int ht h; exact ⟨n, rfl, hw⟩⟩
theorem Rdb.bool {P : Program} {t : TypeId} (ht : P.underlying t = some .bool) (hs : P.cellsOf t = 1) : Rdb Kd.bool P t (fun _ => True) :=
  ⟨hs, fun h => by obtain ⟨b, rfl, _⟩ := DataW.trod_bool ht h; exact ⟨b, rfl, trivial⟩⟩
theorem Rdb.string {P : Program} {t : TypeId} (ht : P.underlying t = some .string) (hs : P.cellsOf t = 1) : Rdb Kd.string P t (fun s => s.size ≤ 9223372036854775807) :=
  ⟨hs, fun h => by obtain ⟨s, rfl, _, hm⟩ := DataW.trod_string ht h; exact ⟨s, rfl, hm⟩⟩
theorem rdb_list {α : Type} {P : Nat → α → Prop} : ∀ n : Nat, (∀ j, j < n → ∃ x, P j x) → ∃ l : List α, l.length = n ∧ ∀ (j : Nat) (x : α), l[j]? = some x → P j x
  | 0, _ => ⟨[], rfl, fun j x h => by simp at h⟩
  | n + 1, h => by
    obtain ⟨l, hl, hp⟩ := rdb_list n (fun j hj => h j (by omega))
    obtain ⟨x, hx⟩ := h n (by omega)
    refine ⟨l ++ [x], by simp [hl], fun j y hy => ?_⟩
    by_cases hj : j < n
    · rw [List.getElem?_append_left (by omega)] at hy
      exact hp j y hy
    · have hlt := (List.getElem?_eq_some_iff.1 hy).1
      simp [hl] at hlt
      have : j = n := by omega
      subst this
      rw [List.getElem?_append_right (by omega)] at hy
      simp [hl] at hy
      subst hy
      exact hx
theorem Rdb.slice {α : Type} {d : Kd α} {P : Program} {t e : TypeId} {ok : α → Prop} (ht : P.underlying t = some (.slice e)) (hs : P.cellsOf t = 1) (h : Rdb d P e ok) : Rdb (Kd.slice e d) P t (fun xs => xs.length ≤ 9223372036854775807 ∧ ∀ x ∈ xs, ok x) := by
  refine ⟨hs, fun {H enc w base sp held fuel cs x} hx => ?_⟩
  rcases Deep.open_slice ht hx with ⟨rfl, _⟩ | ⟨a, len, cap, m, n, D, Pl, rfl, hb, hl, hm, hmm, _, hel⟩
  · exact ⟨[], ⟨none, 0, rfl, Nat.le_refl _, rfl, by simp, fun h0 => by simp at h0⟩, by simp, fun x hx => by simp at hx⟩
  · have hmax : len ≤ 9223372036854775807 := Nat.le_trans hl hm
    have hlm : len ≤ m := by rw [hmm]; split <;> omega
    obtain ⟨xs, hlen, hxs⟩ := rdb_list (P := fun j (x : α) => ok x ∧ ∃ c, c.length = d.sz ∧ d.K w x c ∧ ∀ (i : Nat) (u : Value), c[i]? = some u → w.cell? (a.add (j * d.sz + i)) = some u) len (fun j hj => by
      obtain ⟨cs', hc, htr⟩ := hel j (by omega)
      obtain ⟨x, hK, hok⟩ := h.rd htr
      obtain ⟨_, hcl, hcc⟩ := World.cells?_some hc
      rw [h.sz] at hcl hcc
      refine ⟨x, hok, cs', hcl, hK, fun i u hu => ?_⟩
      have hi := (List.getElem?_eq_some_iff.1 hu).1
      have := hcc i (by omega)
      rw [Addr.add_add] at this
      exact this.trans hu)
    refine ⟨xs, ⟨some a, cap, by rw [hlen], by omega, rfl, by omega, fun _ => ⟨a, rfl, fun j p hj => (hxs j p hj).2⟩⟩, by omega, fun x hx => ?_⟩
    obtain ⟨j, hj⟩ := List.getElem?_of_mem hx
    exact (hxs j x hj).1
/-- The fields of a struct (types and places) from cell 'off' on. -/
structure RdbFs {α : Type} (d : Kd α) (P : Program) (fs : List (TypeId × Nat)) (off : Nat) (ok : α → Prop) : Prop where
  rd : ∀ {H : Type} {enc : TypeId × Value → H} {w : World} {base : Nat} {sp : Nat → Bool} {held : Bool} {n : Nat} {cs : List Value}, cs.length = off + d.sz →
    (∀ f ∈ fs, ∃ x, DataW.trod enc P w base sp held n f.1 ((cs.drop f.2).take (P.cellsOf f.1)) = some x) → ∃ a, d.K w a (cs.drop off) ∧ ok a
theorem RdbFs.one {α : Type} {d : Kd α} {P : Program} {t : TypeId} {off : Nat} {ok : α → Prop} (h : Rdb d P t ok) : RdbFs d P [(t, off)] off ok := by
  refine ⟨fun {H enc w base sp held n cs} hl hf => ?_⟩
  obtain ⟨x, hx⟩ := hf (t, off) (by simp)
  simp only at hx
  rw [h.sz, List.take_of_length_le (by rw [List.length_drop]; omega)] at hx
  exact h.rd hx
theorem RdbFs.cons {α β : Type} {a : Kd α} {b : Kd β} {P : Program} {t : TypeId} {fs : List (TypeId × Nat)} {off off' : Nat} {ok : α → Prop} {ok' : β → Prop} (ho : off + a.sz = off') (h : Rdb a P t ok) (hs : RdbFs b P fs off' ok') : RdbFs (Kd.pair a b) P ((t, off) :: fs) off (fun x => ok x.1 ∧ ok' x.2) := by
  subst ho
  refine ⟨fun {H enc w base sp held n cs} hl hf => ?_⟩
  have hl' : cs.length = off + a.sz + b.sz := by rw [hl]; show off + (a.sz + b.sz) = _; omega
  obtain ⟨x, hx⟩ := hf (t, off) (by simp)
  simp only at hx
  rw [h.sz] at hx
  obtain ⟨y, hy, oky⟩ := h.rd hx
  obtain ⟨z, hz, okz⟩ := hs.rd hl' (fun g hg => hf g (by simp [hg]))
  refine ⟨(y, z), ⟨(cs.drop off).take a.sz, cs.drop (off + a.sz), ?_, hy, hz⟩, oky, okz⟩
  rw [← List.drop_drop, List.take_append_drop]
theorem Rdb.struct {α : Type} {d : Kd α} {P : Program} {t : TypeId} {fs : Array Field} {ok : α → Prop} (ht : P.underlying t = some (.struct fs)) (hs : P.cellsOf t = d.sz) (tos : List (TypeId × Nat)) (htos : fs.toList.map (fun f => (f.type, f.offset)) = tos) (h : RdbFs d P tos 0 ok) : Rdb d P t ok := by
  subst htos
  refine ⟨hs, fun hx => ?_⟩
  obtain ⟨xs, n, rfl, rfl, hl, hxl, hf⟩ := DataW.trod_struct ht hx
  have := h.rd (n := n) (by rw [hl, hs, Nat.zero_add]) (fun f hfm => by
    obtain ⟨f', hf', rfl⟩ := List.mem_map.1 hfm
    obtain ⟨i, hi⟩ := List.getElem?_of_mem hf'
    rw [Array.getElem?_toList] at hi
    have h1 := hf i f' hi
    have hlt : i < xs.length := by rw [hxl]; exact (Array.getElem?_eq_some_iff.1 hi).1
    exact ⟨xs[i], by rw [h1, List.getElem?_eq_getElem hlt]⟩)
  simpa using this
end Go.Proofs.YtkohjiajbdkcbaaDoor.All


/- How the laws' arguments read. Printed by gen_row.py. -/
namespace Go.Proofs.YtkohjiajbdkcbaaDoor.All
open Go.RowKit Go.Proofs.YtkohjiajbdkcbaaDoorW.PrintWords
set_option linter.unusedVariables false
set_option maxRecDepth 100000 in
theorem rdbTop27 : Rdb (Kd.pair (Kd.int .i64) (Kd.pair (Kd.pair Kd.bool (Kd.pair (Kd.int .i64) (Kd.int .u64))) (Kd.pair (Kd.slice 22 (Kd.int .u64)) (Kd.int .i64)))) Tryd.prog 27 (fun x => (Lit.int .i64 x.1).wf = true ∧ (True ∧ (Lit.int .i64 x.2.1.2.1).wf = true ∧ (Lit.int .u64 x.2.1.2.2).wf = true) ∧ (x.2.2.1.length ≤ 9223372036854775807 ∧ ∀ y ∈ x.2.2.1, (Lit.int .u64 y).wf = true) ∧ (Lit.int .i64 x.2.2.2).wf = true) := Rdb.struct Tryd.underlying27 (by kernel_rfl) [(2, 0), (24, 1), (25, 4), (2, 5)] rfl (RdbFs.cons rfl (Rdb.int Tryd.underlying2 (by kernel_rfl)) (RdbFs.cons rfl (Rdb.struct Tryd.underlying24 (by kernel_rfl) [(4, 0), (2, 1), (22, 2)] rfl (RdbFs.cons rfl (Rdb.bool Tryd.underlying4 (by kernel_rfl)) (RdbFs.cons rfl (Rdb.int Tryd.underlying2 (by kernel_rfl)) (RdbFs.one (Rdb.int Tryd.underlying22 (by kernel_rfl)))))) (RdbFs.cons rfl (Rdb.slice Tryd.underlying25 (by kernel_rfl) (Rdb.int Tryd.underlying22 (by kernel_rfl))) (RdbFs.one (Rdb.int Tryd.underlying2 (by kernel_rfl))))))
end Go.Proofs.YtkohjiajbdkcbaaDoor.All


/- FnExactFormatOutcome: the printed law is true of all arguments. -/
namespace Go.Proofs.YtkohjiajbdkcbaaDoor.Pure
open Go.Proofs.YtkohjiajbdkcbaaDoor.All
open Go.RowKit Go.Proofs.YtkohjiajbdkcbaaDoorW.PrintWords Go.Proofs.YtkohjiajbdkcbaaDoorW.PrintLast Go.Proofs.YtkohjiajbdkcbaaDoorW.PrintMore
set_option linter.unusedVariables false
set_option linter.unusedSimpArgs false
theorem outHead_len : ∀ (l : List Int), (outHead l).length ≤ 28 * l.length
  | [] => Nat.le_refl _
  | x :: l => by
    have h1 := outHead_len l
    have h2 := Lib.itoa_length_le (wrap64 x) (by unfold wrap64; omega) (by unfold wrap64; omega)
    unfold outHead at h1 ⊢
    simp only [List.flatMap_cons, List.length_append, List.length_cons, List.length_nil] at h1 ⊢
    omega
def numsB (l : List UInt8) : List Int := l.map fun b => (b.toNat : Int)
theorem bytesOf_bsOf (a : List UInt8) : bytesOf (bsOf a) = numsB a := by unfold bytesOf numsB bsOf; simp
theorem numsB_append (a b : List UInt8) : numsB a ++ numsB b = numsB (a ++ b) := by unfold numsB; rw [List.map_append]
theorem strOf_numsB (a : List UInt8) : strOfNums (numsB a) = bsOf a := by
  unfold strOfNums numsB bsOf
  rw [List.map_map]
  congr 1
  rw [show ((fun x : Int => UInt8.ofNat x.toNat) ∘ fun b : UInt8 => (b.toNat : Int)) = id from funext fun b => by simp]
  rw [List.map_id]
theorem numsB_len (a : List UInt8) : (numsB a).length = a.length := by unfold numsB; rw [List.length_map]
theorem word64 {v : Int} (h0 : 0 ≤ v) (h1 : v ≤ 18446744073709551615) : numW 64 v = wrap64 v := by
  unfold numW sgnW wrap64
  rw [show pw 64 = 18446744073709551616 from rfl, if_neg (by decide)]
  split <;> omega
theorem fmt64 {v : Int} (h0 : 0 ≤ v) (h1 : v ≤ 18446744073709551615) : Ev (fun k => spec_FormatWord.f k 64 v) (bsOf (Lib.itoa (wrap64 v))) := by
  have h := fmtS_f (w := 64) (v := v) (Or.inr (Or.inr (Or.inr (Or.inr rfl)))) h0 (by rw [show pw 64 = 18446744073709551616 from rfl]; omega)
  unfold fmtW at h
  rw [word64 h0 h1] at h
  exact h
theorem outcomeS_f (e : Int) (po : Bool) (ob wd : Int) (l : List Int) (st : Int) (hl : l.length ≤ 1048576) (hp : ∀ y ∈ l, 0 ≤ y ∧ y ≤ 18446744073709551615) (hw : 0 ≤ wd ∧ wd ≤ 18446744073709551615) :
    Ev (fun k => spec_FormatOutcome.f k e po ob wd l st) (bsOf (outHead l ++ outTail e po ob wd ++ [10])) := by
  have hH := outHead_len l
  have hN := Lib.itoa_length_le (wrap64 wd) (by unfold wrap64; omega) (by unfold wrap64; omega)
  have hz : (strOfNums (numsB (outHead l))).size ≤ 29360128 := by rw [strOf_numsB, bsOf_size]; omega
  have hj2 : ∀ b : Bool, (e = 0 → po = true → False) → (b = true ↔ e = 0 ∧ ob ≠ 0) → Ev (fun k => spec_FormatOutcome.j2 k (numsB (outHead l)) b e po ob wd l st) (bsOf (outHead l ++ outTail e po ob wd ++ [10])) := by
    intro b hnp hb
    refine Ev.succ ?_
    simp only [spec_FormatOutcome.j2]
    by_cases c : b = true
    · obtain ⟨rfl, ho⟩ := hb.1 c
      refine Ev.pos c (Ev.pos (by omega) (Ev.some ?_))
      have hpo : ¬ po = true := fun h => hnp rfl h
      unfold outTail
      rw [if_pos rfl, if_neg hpo, if_neg ho, strOf_numsB, List.append_assoc]
      exact bsOf_append _ [114, 101, 116, 117, 114, 110, 32, 112, 111, 105, 110, 116, 101, 114, 10]
    · refine Ev.neg c ?_
      by_cases e0 : e = 0
      · subst e0
        have ho : ob = 0 := Classical.byContradiction fun h => c (hb.2 ⟨rfl, h⟩)
        have hpo : ¬ po = true := fun h => hnp rfl h
        refine Ev.pos rfl (Ev.pos (by omega) (Ev.bind (fmt64 hw.1 hw.2) ?_))
        have e7 : (⟨#[114, 101, 116, 117, 114, 110, 32]⟩ : ByteArray) = bsOf [114, 101, 116, 117, 114, 110, 32] := rfl
        have e1 : (⟨#[10]⟩ : ByteArray) = bsOf [10] := rfl
        rw [strOf_numsB, e7, e1, bsOf_append, bsOf_append, bsOf_append]
        refine Ev.pos (by rw [bsOf_size, bsOf_size, List.length_append]; simp only [List.length_cons, List.length_nil]; omega) (Ev.pos (by rw [bsOf_size, List.length_append, List.length_append]; simp only [List.length_cons, List.length_nil]; omega) (Ev.some ?_))
        unfold outTail
        rw [if_pos rfl, if_neg hpo, if_pos ho, ← List.append_assoc]
      · refine Ev.neg e0 ?_
        by_cases ep : e > 0
        · refine Ev.pos ep ?_
          by_cases e7 : e ≤ 7
          · refine Ev.pos e7 (Ev.some_bind (Ev.pos (by omega) (Ev.pos (by simp only [List.length_cons, List.length_nil]; omega) ?_)))
            obtain ⟨t, ht, hs, ho⟩ : ∃ t : List UInt8, rdOf ByteArray.empty [(⟨#[]⟩ : ByteArray), (⟨#[116, 114, 97, 112]⟩ : ByteArray), (⟨#[117, 110, 100, 101, 102, 105, 110, 101, 100]⟩ : ByteArray), (⟨#[115, 116, 101, 112, 115]⟩ : ByteArray), (⟨#[100, 101, 112, 116, 104]⟩ : ByteArray), (⟨#[112, 114, 105, 110, 116, 115]⟩ : ByteArray), (⟨#[109, 105, 115, 115, 105, 110, 103]⟩ : ByteArray), (⟨#[98, 97, 100]⟩ : ByteArray)] e = bsOf t ∧ t.length ≤ 10 ∧ outTail e po ob wd = t := by
              obtain rfl | rfl | rfl | rfl | rfl | rfl | rfl : e = 1 ∨ e = 2 ∨ e = 3 ∨ e = 4 ∨ e = 5 ∨ e = 6 ∨ e = 7 := by omega
              · exact ⟨[116, 114, 97, 112], rfl, by decide, rfl⟩
              · exact ⟨[117, 110, 100, 101, 102, 105, 110, 101, 100], rfl, by decide, rfl⟩
              · exact ⟨[115, 116, 101, 112, 115], rfl, by decide, rfl⟩
              · exact ⟨[100, 101, 112, 116, 104], rfl, by decide, rfl⟩
              · exact ⟨[112, 114, 105, 110, 116, 115], rfl, by decide, rfl⟩
              · exact ⟨[109, 105, 115, 115, 105, 110, 103], rfl, by decide, rfl⟩
              · exact ⟨[98, 97, 100], rfl, by decide, rfl⟩
            rw [ht, ho, strOf_numsB, show (⟨#[10]⟩ : ByteArray) = bsOf [10] from rfl, bsOf_append, bsOf_append]
            refine Ev.pos (by rw [bsOf_size, bsOf_size]; omega) (Ev.pos (by rw [bsOf_size, List.length_append]; omega) (Ev.now _))
          · refine Ev.neg e7 (Ev.pos (by omega) (Ev.some ?_))
            unfold outTail
            rw [if_neg e0, if_neg (by omega), if_neg (by omega), if_neg (by omega), if_neg (by omega), if_neg (by omega), if_neg (by omega), strOf_numsB, List.append_assoc]
            exact bsOf_append _ [98, 97, 100, 10]
        · refine Ev.neg ep (Ev.pos (by omega) (Ev.some ?_))
          unfold outTail
          rw [if_neg e0, if_neg (by omega), if_neg (by omega), if_neg (by omega), if_neg (by omega), if_neg (by omega), if_neg (by omega), strOf_numsB, List.append_assoc]
          exact bsOf_append _ [98, 97, 100, 10]
  have hj1 : ∀ b : Bool, (b = true ↔ e = 0 ∧ po = true) → Ev (fun k => spec_FormatOutcome.j1 k (numsB (outHead l)) b e po ob wd l st) (bsOf (outHead l ++ outTail e po ob wd ++ [10])) := by
    intro b hb
    refine Ev.succ ?_
    simp only [spec_FormatOutcome.j1]
    by_cases c : b = true
    · obtain ⟨rfl, ho⟩ := hb.1 c
      refine Ev.pos c (Ev.pos (by omega) (Ev.some ?_))
      unfold outTail
      rw [if_pos rfl, if_pos ho, strOf_numsB, List.append_assoc]
      exact bsOf_append _ [114, 101, 116, 117, 114, 110, 32, 112, 111, 105, 115, 111, 110, 10]
    · refine Ev.neg c ?_
      have hn : e = 0 → po = true → False := fun h1 h2 => c (hb.2 ⟨h1, h2⟩)
      by_cases e0 : e = 0
      · exact Ev.pos e0 (hj2 _ hn (by rw [bne_iff_ne]; exact Iff.intro (fun h => And.intro e0 h) (fun h => h.2)))
      · exact Ev.neg e0 (hj2 _ hn ⟨(fun h => by cases h), fun h => absurd h.1 e0⟩)
  unfold spec_FormatOutcome.f
  have hloop := for_gen (bsOf (outHead l ++ outTail e po ob wd ++ [10])) l.length (fun k i => spec_FormatOutcome.l0 k (numsB (outHead (l.take i.toNat))) i e po ob wd l st) (fun i hi h => by
    refine Ev.succ ?_
    simp only [spec_FormatOutcome.l0]
    refine Ev.pos (by omega) (Ev.pos (by omega) ?_)
    have hm := hp l[i] (List.getElem_mem hi)
    have e1 : rd l (i : Int) = l[i] := by simp [rd, List.getElem?_eq_getElem hi]
    rw [e1]
    have hn := Lib.itoa_length_le (wrap64 l[i]) (by unfold wrap64; omega) (by unfold wrap64; omega)
    have hq := outHead_len (l.take i)
    have hq2 : (l.take i).length ≤ 1048576 := Nat.le_trans (List.length_take_le _ _) (by omega)
    refine Ev.bind (fmt64 hm.1 hm.2) ?_
    rw [show (⟨#[112, 114, 105, 110, 116, 32]⟩ : ByteArray) = bsOf [112, 114, 105, 110, 116, 32] from rfl, show (⟨#[10]⟩ : ByteArray) = bsOf [10] from rfl, bsOf_append, bsOf_append, bytesOf_bsOf, wrap64_nat (by omega), Int.toNat_natCast, numsB_append, ← outHead_succ l i hi]
    refine Ev.pos (by rw [bsOf_size]; omega) (Ev.pos (by rw [bsOf_size, List.length_append]; simp only [List.length_cons, List.length_nil]; omega) (Ev.pos (by rw [numsB_len, bsOf_size, List.length_append, List.length_append]; simp only [List.length_cons, List.length_nil]; omega) ?_))
    simpa only [Int.toNat_natCast] using h) (by
    refine Ev.succ ?_
    simp only [spec_FormatOutcome.l0]
    refine Ev.neg (by omega) ?_
    rw [Int.toNat_natCast, List.take_of_length_le (Nat.le_refl _)]
    by_cases e0 : e = 0
    · exact Ev.pos e0 (hj1 _ ⟨fun h => ⟨e0, h⟩, fun h => h.2⟩)
    · exact Ev.neg e0 (hj1 _ ⟨(fun h => by cases h), fun h => absurd h.1 e0⟩))
  exact hloop
theorem FnExactFormatOutcome : ∀ (a0_0 : Int) (a0_1 : Bool) (a0_2 : Int) (a0_3 : Int) (l0_4 : List Int) (a0_5 : Int), (Lit.int .i64 a0_0).wf = true → (Lit.int .i64 a0_2).wf = true → (Lit.int .u64 a0_3).wf = true → (l0_4.length ≤ 9223372036854775807 ∧ ∀ y ∈ l0_4, (Lit.int .u64 y).wf = true) → (Lit.int .i64 a0_5).wf = true → ∃ k, laws_FnExactFormatOutcome.f k a0_0 a0_1 a0_2 a0_3 l0_4 a0_5 = some true := by
  intro e po ob wd l st _ _ hwd hl _
  refine Ev.rounds ?_
  have hw : 0 ≤ wd ∧ wd ≤ 18446744073709551615 := bounds_u64 hwd
  have hlw : ∀ y ∈ l, 0 ≤ y ∧ y ≤ 18446744073709551615 := fun y hy => bounds_u64 (hl.2 y hy)
  unfold laws_FnExactFormatOutcome.f
  have hs : laws_szOutcome.f e po ob wd l st 1048576 = some (if (l.length : Int) ≤ 1048576 then 1048576 - (l.length : Int) else -1) := by
    unfold laws_szOutcome.f laws_szUint64S.f
    have := hl.1
    rw [wrap64_id (by omega) (by omega)]
    by_cases c : (l.length : Int) ≤ 1048576
    · rw [if_pos c, if_neg (by omega), Option.bind_some, if_neg (by omega)]
    · rw [if_neg c, if_pos (by omega), Option.bind_some, if_pos (by omega)]
  refine Ev.eq_bind hs ?_
  by_cases c : (l.length : Int) ≤ 1048576
  · rw [if_pos c]
    refine Ev.neg (by omega) ?_
    have hl' : l.length ≤ 1048576 := by omega
    have htu : Ev (fun k => laws_toUint64S.f k l) l := by
      unfold laws_toUint64S.f
      refine Ev.pos (by omega) (Ev.pos (by omega) ?_)
      have h := to_gen (fun x : Int => x) 0 0 l (fun k out i => laws_toUint64S.l0 k l out i) (fun i out r hi ho h => by
        refine Ev.succ ?_
        simp only [laws_toUint64S.l0]
        refine Ev.pos (by omega) (Ev.pos (by omega) (Ev.pos (by omega) ?_))
        rw [wrap64_nat (by omega)]
        simpa [rd] using h) (fun out _ => by
        refine Ev.succ ?_
        simp only [laws_toUint64S.l0]
        exact Ev.neg (by omega) (Ev.now _))
      simpa using h
    have heu : Ev (fun k => laws_eqUint64S.f k l l) true := by
      unfold laws_eqUint64S.f
      refine Ev.pos rfl (all_gen l.length (fun k i => laws_eqUint64S.l0 k l l i) (fun i hi h => ?_) ?_)
      · refine Ev.succ ?_
        simp only [laws_eqUint64S.l0]
        rw [wrap64_nat (by omega)]
        exact Ev.pos (by omega) (Ev.pos (by omega) (Ev.pos (by omega) (Ev.pos (by trivial) h)))
      · refine Ev.succ ?_
        simp only [laws_eqUint64S.l0]
        exact Ev.neg (by omega) (Ev.now _)
    have hto : Ev (fun k => laws_toOutcome.f k e po ob wd l st) (e, po, ob, wd, l, st) := by
      unfold laws_toOutcome.f laws_toValue.f
      exact Ev.some_bind (Ev.bind htu (Ev.now _))
    have heq : Ev (fun k => laws_eqOutcome.f k e po ob wd l st e po ob wd l st) true := by
      unfold laws_eqOutcome.f laws_eqValue.f
      refine Ev.pos rfl (Ev.eq_bind (a := true) (by rw [if_neg (by simp), if_pos rfl, if_pos rfl]) (Ev.pos rfl (Ev.bind heu (Ev.pos rfl (Ev.pos rfl (Ev.now _))))))
    have hi : impl_FormatOutcome.f e po ob wd l st = some (bsOf (outHead l ++ outTail e po ob wd ++ [10])) := by
      unfold impl_FormatOutcome.f
      rw [if_pos hl']
    refine Ev.bind hto (Ev.bind (outcomeS_f e po ob wd l st hl' hlw hw) (Ev.bind hto (Ev.eq_bind hi (Ev.pos rfl (Ev.bind hto (Ev.bind heq (Ev.pos rfl (Ev.now _))))))))
  · rw [if_neg c]
    exact Ev.pos (by omega) (Ev.now _)
end Go.Proofs.YtkohjiajbdkcbaaDoor.Pure


/- From the row's list of package-level variables to the facts of Laid. -/
namespace Go.Proofs.YtkohjiajbdkcbaaDoor.All
open Go.RowKit Go.Proofs.YtkohjiajbdkcbaaDoorW.PrintWords Go.Proofs.YtkohjiajbdkcbaaDoorW.PrintLast Go.Proofs.YtkohjiajbdkcbaaDoorW.PrintMore
set_option linter.unusedVariables false
set_option linter.unusedSimpArgs false
theorem var_kept {P : Program} {W w' : World} {n : String} {cs : Array Value} (h : W.var? P n = some cs) (hb : Below W.heap.size W w') : w'.var? P n = some cs := by
  unfold World.var? at h ⊢
  cases hg : P.globalNamed n with
  | none => rw [hg] at h; cases h
  | some g =>
    rw [hg] at h
    simp only [Option.bind_some] at h ⊢
    have hl : g < W.heap.size := by
      rcases Nat.lt_or_ge g W.heap.size with hl | hl
      · exact hl
      · rw [Array.getElem?_eq_none hl] at h; cases h
    rw [hb.block g hl]
    exact h
theorem ltTab_of {W : World} {x y : String × DataW Unit} {r : List (String × DataW Unit)} (h : laidMet Tryd.prog (x :: y :: ("internal/strconv.uint64pow10", Lib.tabData .u64 Lib.pow10Tab) :: r) W) : LtTab W := fun w' hb => by
  have h2 := Lib.tabIs_of_head (g := 0) (t := 171) (e := 22) (n := 20) (by kernel_rfl) (by kernel_rfl) Tryd.underlying171 Tryd.underlying22 (by kernel_rfl) (by kernel_rfl) h.tail.tail
  exact var_kept h2 hb
end Go.Proofs.YtkohjiajbdkcbaaDoor.All

