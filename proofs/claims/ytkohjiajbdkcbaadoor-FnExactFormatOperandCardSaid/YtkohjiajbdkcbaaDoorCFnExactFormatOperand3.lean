/- Part 3 of the proof of FnExactFormatOperand: functions of the translation with what they return, and plain laws of these. Written by programs of this session over the kit's print, and by hand. -/
import Derived.Test.YtkohjiajbdkcbaaDoorProg
import Derived.Test.YtkohjiajbdkcbaaDoorCFnExactFormatOperandWApart
import Derived.Test.YtkohjiajbdkcbaaDoorCFnExactFormatOperandWArr
import Derived.Test.YtkohjiajbdkcbaaDoorCFnExactFormatOperandWFoot
import Derived.Test.YtkohjiajbdkcbaaDoorCFnExactFormatOperandWGuard
import Derived.Test.YtkohjiajbdkcbaaDoorCFnExactFormatOperandWKept
import Derived.Test.YtkohjiajbdkcbaaDoorCFnExactFormatOperandWLast
import Derived.Test.YtkohjiajbdkcbaaDoorCFnExactFormatOperandWMore
import Derived.Test.YtkohjiajbdkcbaaDoorCFnExactFormatOperandWN
import Derived.Test.YtkohjiajbdkcbaaDoorCFnExactFormatOperandWNEv
import Derived.Test.YtkohjiajbdkcbaaDoorCFnExactFormatOperandWQPut
import Derived.Test.YtkohjiajbdkcbaaDoorCFnExactFormatOperandWRepsOne
import Derived.Test.YtkohjiajbdkcbaaDoorCFnExactFormatOperandWShare
import Derived.Test.YtkohjiajbdkcbaaDoorCFnExactFormatOperandWTab
import Derived.Test.YtkohjiajbdkcbaaDoorCFnExactFormatOperandWWords
import Derived.Test.YtkohjiajbdkcbaaDoorCFnExactFormatOperandWZeros
import Derived.Below
import Derived.Deep.Draws
import Derived.Deep.AppendLies
import Derived.Maps.AppendAt
import Derived.OwnWalk
import Derived.Laws.BytesArg
import Derived.Laws.MakeOwn
import Derived.Laws.OwnMore
import Derived.Deep.OwnRows
import Derived.Tactics
import Derived.Lib.ConvBytes
import Derived.Laws.Slices
import Derived.WalkKit
import Derived.KernelRfl
import Derived.RowKit3
import Derived.Deep.LoopGhost
import Derived.Deep.QuietTactic
import Derived.BigQuiet
import Derived.WideLaws
import Derived.Deep.DeepCutAuto
import Derived.Deep.CutBlock
import Derived.Deep.RegionHeld3
import Derived.Laws.Rows
import Derived.Lib.AppendStr
import Derived.ArgAppend
import Derived.Laws.IdiomCopy
import Derived.OrdersHeld
import Derived.Laws.BitsLemmas
import Derived.RowKit
import Derived.Lib.LaidTab
import Derived.Lib.ItoaNum
import Derived.Sort.Grow
import Derived.Shelf.Strconv.Itoa4
import Derived.Shelf.LaysM
import Derived.Shelf.LaysC
import Derived.Shelf.Strconv.Itoa1
import Derived.Laws.BitsAllLaws
import Derived.Lib.ItoaLen
import Derived.Lib.ParseIntBCases
import Derived.Deep.Slices
import Derived.ChangeArms
import Derived.OpenShut
import Derived.Stop.LaidErr
import Derived.LaidMore
import Derived.ProofKit
import Derived.ShutString
import Derived.ChangeOld
import Derived.SizedLaws
import Derived.Deep.DeepHandedRow
import Derived.Deep.DeepWitnessRowRef
import Derived.SevenTiedAt
import Derived.Test.YtkohjiajbdkcbaaDoorCFnExactFormatOperand1
import Derived.Test.YtkohjiajbdkcbaaDoorCFnExactFormatOperand2
namespace Go.Proofs.YtkohjiajbdkcbaaDoor.All
open Go.RowKit Go.Proofs.YtkohjiajbdkcbaaDoorW.PrintWords Go.Proofs.YtkohjiajbdkcbaaDoorW.PrintLast Go.Proofs.YtkohjiajbdkcbaaDoorW.PrintMore
attribute [local go_sem] max2_int min2_int max_two min_two max_three min_three max_four min_four   -- for this text's walks alone
set_option linter.unusedVariables false
set_option linter.unusedSimpArgs false

/-! ### impl_FormatOperand: function 33 -/
def impl_FormatOperand.f (l0_0 : List (S127)) (l0_1 : List (S149)) (a1_0 : Int) (a1_1 : Int) (a1_2 : Int) (a1_3 : Int) : Option (ByteArray) := if a1_0 = 1 then ((impl_FormatWord.f a1_1 a1_3).bind fun t545 => (some t545)) else (if a1_0 = 2 then (some (⟨#[110, 117, 108, 108]⟩ : ByteArray)) else (if a1_0 = 3 then (some (⟨#[112, 111, 105, 115, 111, 110]⟩ : ByteArray)) else (if a1_0 = 4 then ((strconv_FormatInt_39.f a1_2 10).bind fun t546 => (if 1 + t546.size ≤ 9223372036854775807 then (some ((⟨#[37]⟩ : ByteArray) ++ t546)) else (none))) else (if a1_0 = 5 then (if a1_2 ≥ 0 then (if a1_2 < (l0_0.length : Int) then (if 0 ≤ a1_2 then (if 1 + ((rd_T127 l0_0 a1_2).f0).size ≤ 9223372036854775807 then (some ((⟨#[64]⟩ : ByteArray) ++ ((rd_T127 l0_0 a1_2).f0))) else (none)) else (none)) else (some (⟨#[]⟩ : ByteArray))) else (some (⟨#[]⟩ : ByteArray))) else (some (⟨#[]⟩ : ByteArray))))))
set_option maxHeartbeats 8000000 in
set_option maxRecDepth 100000 in
theorem impl_FormatOperand.calls (A0_0 : Option Addr) (c0_0 : Nat) (l0_0 : List (S127)) (A0_1 : Option Addr) (c0_1 : Nat) (l0_1 : List (S149)) (a1_0 : Int) (a1_1 : Int) (a1_2 : Int) (a1_3 : Int) (r : ByteArray) (w : World) (hLtTab : LtTab w) (hr0_0 : Kd.C k127 w A0_0 l0_0.length l0_0) (hc0_0 : l0_0.length ≤ c0_0) (hr0_1 : Kd.C k149 w A0_1 l0_1.length l0_1) (hc0_1 : l0_1.length ≤ c0_1) (h : impl_FormatOperand.f l0_0 l0_1 a1_0 a1_1 a1_2 a1_3 = some r) :
 Calls Tryd.prog 33 #[.agg #[.slice A0_0 l0_0.length c0_0, .slice A0_1 l0_1.length c0_1], .agg #[.int .i64 a1_0, .int .i64 a1_1, .int .i64 a1_2, .int .u64 a1_3]] w fun e w' => e = .returned (.string r) ∧ Below w.heap.size w w' := by
 have HLtTab := Aside0.mk hLtTab
 clear hLtTab
 have hu75 := Tryd.underlying75
 have hu77 := Tryd.underlying77
 have HR0_0 := Aside0.mk hr0_0
 have HC0_0 := Aside0.mk hc0_0
 clear hr0_0 hc0_0
 have HR0_1 := Aside0.mk hr0_1
 have HC0_1 := Aside0.mk hc0_1
 clear hr0_1 hc0_1
 have HB := Aside0.mk (Below.refl w.heap.size w)
 have H : (if a1_0 = 1 then ((impl_FormatWord.f a1_1 a1_3).bind fun t545 => (some t545)) else (if a1_0 = 2 then (some (⟨#[110, 117, 108, 108]⟩ : ByteArray)) else (if a1_0 = 3 then (some (⟨#[112, 111, 105, 115, 111, 110]⟩ : ByteArray)) else (if a1_0 = 4 then ((strconv_FormatInt_39.f a1_2 10).bind fun t546 => (if 1 + t546.size ≤ 9223372036854775807 then (some ((⟨#[37]⟩ : ByteArray) ++ t546)) else (none))) else (if a1_0 = 5 then (if a1_2 ≥ 0 then (if a1_2 < (l0_0.length : Int) then (if 0 ≤ a1_2 then (if 1 + ((rd_T127 l0_0 a1_2).f0).size ≤ 9223372036854775807 then (some ((⟨#[64]⟩ : ByteArray) ++ ((rd_T127 l0_0 a1_2).f0))) else (none)) else (none)) else (some (⟨#[]⟩ : ByteArray))) else (some (⟨#[]⟩ : ByteArray))) else (some (⟨#[]⟩ : ByteArray))))))) = some r := h
 clear h
 by_cases c3 : a1_0 = 1
 · rw [if_pos c3] at H
   have c3b0 : (a1_0 == 1) = true := beq_iff_eq.mpr c3
   have c3b1 : (a1_0 != 1) = false := bne_eq_false_iff_eq.mpr c3
   clear c3
   replace H := Option.bind_eq_some_iff.mp H
   obtain ⟨t545, A40, H⟩ := H
   replace H : (some t545) = some r := H
   have A4 := Aside0.mk A40
   clear A40
   obtain rfl := Option.some.inj H
   go_enter Tryd.func33, Tryd.ntmps33
   go_wp2_with (first | ((with_reducible refine gate_dst (N := 2) rfl ?_); (try (refine gate_guard (by rfl) ?_; dsimp only)); refine box_event ?hg (N := 2) ?hd (cs := #[.slice A0_0 l0_0.length c0_0, .slice A0_1 l0_1.length c0_1]) (t := 75) ?hr ?_; (case hd => rfl); (case hg => rfl); (case hr => first | (go_simp; done) | (go_simp; rfl)); intro gb543 hg w5 hbox hb; have n0_ := Aside0.mk (below_step (by repeat (first | (with_reducible first | exact HB.out | apply below_alloc | apply pw_below_drewN | apply below_drew1) | exact HB.out)) hb); have n1_ := Aside0.mk (hbox); have n2_ := Aside0.mk ((by rw [hg]; exact (below_size (by repeat (first | (with_reducible first | exact HB.out | apply below_alloc | apply pw_below_drewN | apply below_drew1) | exact HB.out))) : w.heap.size ≤ gb543)); have n3_ := Aside0.mk ((by rw [hg]; exact (below_size (by repeat (first | (with_reducible first | exact HB.out | apply below_alloc | apply pw_below_drewN | apply below_drew1) | exact HB.out))) : w.heap.size ≤ gb543)); clear HB; have HB := n0_; have BK543 := n1_; have GW543 := n2_; have GE543 := n3_; clear n0_ n1_ n2_ n3_; clear hb hbox hg) | ((with_reducible refine gate_dst (N := 3) rfl ?_); (try (refine gate_guard (by rfl) ?_; dsimp only)); refine box_event ?hg (N := 3) ?hd (cs := #[.int .i64 a1_0, .int .i64 a1_1, .int .i64 a1_2, .int .u64 a1_3]) (t := 77) ?hr ?_; (case hd => rfl); (case hg => rfl); (case hr => first | (go_simp; done) | (go_simp; rfl)); intro gb544 hg w6 hbox hb; have n0_ := Aside0.mk (blk_below (g := gb543) (o := .cells #[.slice A0_0 l0_0.length c0_0, .slice A0_1 l0_1.length c0_1] 75 (0, 0)) (by (with_reducible repeat (first | refine blk_drewN ?_ _ | refine blk_drew ?_ | refine blk_alloc ?_ _)); exact BK543.out) hb); have n1_ := Aside0.mk (below_step (by repeat (first | (with_reducible first | exact HB.out | apply below_alloc | apply pw_below_drewN | apply below_drew1 | refine below_set ?_ GE543.out) | exact HB.out)) hb); have n2_ := Aside0.mk (hbox); have n3_ := Aside0.mk ((by rw [hg]; exact (below_size (by repeat (first | (with_reducible first | exact HB.out | apply below_alloc | apply pw_below_drewN | apply below_drew1 | refine below_set ?_ GE543.out) | exact HB.out))) : w.heap.size ≤ gb544)); have n4_ := Aside0.mk ((by rw [hg]; exact (below_size (by repeat (first | (with_reducible first | exact HB.out | apply below_alloc | apply pw_below_drewN | apply below_drew1 | refine below_set ?_ GE543.out) | exact HB.out))) : w.heap.size ≤ gb544)); have n5_ := Aside0.mk ((by rw [hg]; exact Nat.ne_of_lt (blk_lt (g := gb543) (o := .cells #[.slice A0_0 l0_0.length c0_0, .slice A0_1 l0_1.length c0_1] 75 (0, 0)) (by (with_reducible repeat (first | refine blk_drewN ?_ _ | refine blk_drew ?_ | refine blk_alloc ?_ _)); exact BK543.out)) : gb543 ≠ gb544)); have n6_ := Aside0.mk ((by rw [hg]; exact Nat.ne_of_gt (blk_lt (g := gb543) (o := .cells #[.slice A0_0 l0_0.length c0_0, .slice A0_1 l0_1.length c0_1] 75 (0, 0)) (by (with_reducible repeat (first | refine blk_drewN ?_ _ | refine blk_drew ?_ | refine blk_alloc ?_ _)); exact BK543.out)) : gb544 ≠ gb543)); clear BK543; clear HB; have BK543 := n0_; have HB := n1_; have BK544 := n2_; have GW544 := n3_; have GE544 := n4_; have NB543_544 := n5_; have NB544_543 := n6_; clear n0_ n1_ n2_ n3_ n4_ n5_ n6_; clear hb hbox hg; have hnb7 := NB544_543.out; have hnc7 := NB543_544.out; have hcz8_0 : w6.cell? ⟨gb544, 0, none⟩ = some (.int .i64 a1_0) := (blk_cell BK544.out 0).trans rfl; have hcz8_1 : w6.cell? ⟨gb544, 1, none⟩ = some (.int .i64 a1_1) := (blk_cell BK544.out 1).trans rfl; have hcz8_2 : w6.cell? ⟨gb544, 2, none⟩ = some (.int .i64 a1_2) := (blk_cell BK544.out 2).trans rfl; have hcz8_3 : w6.cell? ⟨gb544, 3, none⟩ = some (.int .u64 a1_3) := (blk_cell BK544.out 3).trans rfl; have hfz8_0 := blk_frozen BK544.out 0; have hfz8_1 := blk_frozen BK544.out 1; have hfz8_2 := blk_frozen BK544.out 2; have hfz8_3 := blk_frozen BK544.out 3) | ((with_reducible refine gate_callee (f := 22) rfl ?_); refine goesL_ (some 13) rfl rfl Tryd.func22 (by kernel_rfl) rfl #[.int .i64 a1_1, .int .u64 a1_3] rfl (by (try simp only [List.map_toArray, List.map_cons, List.map_nil]); first | done | rfl | (simp only [List.length_drop, List.length_take]; rfl)) ?_; (with_reducible refine (impl_FormatWord.calls a1_1 a1_3 t545 _ ?tLtTab A4.out).mono ?_); (case tLtTab => exact HLtTab.out.on (by repeat (first | (with_reducible first | exact HB.out | apply below_alloc | apply pw_below_drewN | apply below_drew1 | refine below_set ?_ GE543.out | refine below_set ?_ GE544.out) | exact HB.out))); rintro e w9 ⟨rfl, hb⟩; refine ⟨_, rfl, ?_⟩; have n0_ := Aside0.mk (blk_below (g := gb543) (o := .cells #[.slice A0_0 l0_0.length c0_0, .slice A0_1 l0_1.length c0_1] 75 (0, 0)) (by (with_reducible repeat (first | refine blk_drewN ?_ _ | refine blk_drew ?_ | refine blk_alloc ?_ _)); exact BK543.out) hb); have n1_ := Aside0.mk (blk_below (g := gb544) (o := .cells #[.int .i64 a1_0, .int .i64 a1_1, .int .i64 a1_2, .int .u64 a1_3] 77 (0, 0)) (by (with_reducible repeat (first | refine blk_drewN ?_ _ | refine blk_drew ?_ | refine blk_alloc ?_ _)); exact BK544.out) hb); have n2_ := Aside0.mk (below_step (by repeat (first | (with_reducible first | exact HB.out | apply below_alloc | apply pw_below_drewN | apply below_drew1 | refine below_set ?_ GE543.out | refine below_set ?_ GE544.out) | exact HB.out)) hb); clear BK543; clear BK544; clear HB; have BK543 := n0_; have BK544 := n1_; have HB := n2_; clear n0_ n1_ n2_; (try clear hb); (try clear hb2); (try clear hk); (try clear hi)))
   go_ret
   exact ⟨by first | rfl | (simp [errW_none, errW_some] <;> rfl) | (simp [*, errW_none, errW_some] <;> rfl), by repeat (first | (with_reducible first | exact HB.out | apply below_alloc | apply pw_below_drewN | apply below_drew1 | refine below_set ?_ GE543.out | refine below_set ?_ GE544.out) | exact HB.out)⟩
 · rw [if_neg c3] at H
   have c3b0 : (a1_0 == 1) = false := beq_eq_false_iff_ne.mpr c3
   have c3b1 : (a1_0 != 1) = true := bne_iff_ne.mpr c3
   by_cases c10 : a1_0 = 2
   · rw [if_pos c10] at H
     have c10b0 : (a1_0 == 2) = true := beq_iff_eq.mpr c10
     have c10b1 : (a1_0 != 2) = false := bne_eq_false_iff_eq.mpr c10
     clear c10
     obtain rfl := Option.some.inj H
     go_enter Tryd.func33, Tryd.ntmps33
     go_wp2_with (first | ((with_reducible refine gate_dst (N := 2) rfl ?_); (try (refine gate_guard (by rfl) ?_; dsimp only)); refine box_event ?hg (N := 2) ?hd (cs := #[.slice A0_0 l0_0.length c0_0, .slice A0_1 l0_1.length c0_1]) (t := 75) ?hr ?_; (case hd => rfl); (case hg => rfl); (case hr => first | (go_simp; done) | (go_simp; rfl)); intro gb543 hg w11 hbox hb; have n0_ := Aside0.mk (below_step (by repeat (first | (with_reducible first | exact HB.out | apply below_alloc | apply pw_below_drewN | apply below_drew1) | exact HB.out)) hb); have n1_ := Aside0.mk (hbox); have n2_ := Aside0.mk ((by rw [hg]; exact (below_size (by repeat (first | (with_reducible first | exact HB.out | apply below_alloc | apply pw_below_drewN | apply below_drew1) | exact HB.out))) : w.heap.size ≤ gb543)); have n3_ := Aside0.mk ((by rw [hg]; exact (below_size (by repeat (first | (with_reducible first | exact HB.out | apply below_alloc | apply pw_below_drewN | apply below_drew1) | exact HB.out))) : w.heap.size ≤ gb543)); clear HB; have HB := n0_; have BK543 := n1_; have GW543 := n2_; have GE543 := n3_; clear n0_ n1_ n2_ n3_; clear hb hbox hg) | ((with_reducible refine gate_dst (N := 3) rfl ?_); (try (refine gate_guard (by rfl) ?_; dsimp only)); refine box_event ?hg (N := 3) ?hd (cs := #[.int .i64 a1_0, .int .i64 a1_1, .int .i64 a1_2, .int .u64 a1_3]) (t := 77) ?hr ?_; (case hd => rfl); (case hg => rfl); (case hr => first | (go_simp; done) | (go_simp; rfl)); intro gb544 hg w12 hbox hb; have n0_ := Aside0.mk (blk_below (g := gb543) (o := .cells #[.slice A0_0 l0_0.length c0_0, .slice A0_1 l0_1.length c0_1] 75 (0, 0)) (by (with_reducible repeat (first | refine blk_drewN ?_ _ | refine blk_drew ?_ | refine blk_alloc ?_ _)); exact BK543.out) hb); have n1_ := Aside0.mk (below_step (by repeat (first | (with_reducible first | exact HB.out | apply below_alloc | apply pw_below_drewN | apply below_drew1 | refine below_set ?_ GE543.out) | exact HB.out)) hb); have n2_ := Aside0.mk (hbox); have n3_ := Aside0.mk ((by rw [hg]; exact (below_size (by repeat (first | (with_reducible first | exact HB.out | apply below_alloc | apply pw_below_drewN | apply below_drew1 | refine below_set ?_ GE543.out) | exact HB.out))) : w.heap.size ≤ gb544)); have n4_ := Aside0.mk ((by rw [hg]; exact (below_size (by repeat (first | (with_reducible first | exact HB.out | apply below_alloc | apply pw_below_drewN | apply below_drew1 | refine below_set ?_ GE543.out) | exact HB.out))) : w.heap.size ≤ gb544)); have n5_ := Aside0.mk ((by rw [hg]; exact Nat.ne_of_lt (blk_lt (g := gb543) (o := .cells #[.slice A0_0 l0_0.length c0_0, .slice A0_1 l0_1.length c0_1] 75 (0, 0)) (by (with_reducible repeat (first | refine blk_drewN ?_ _ | refine blk_drew ?_ | refine blk_alloc ?_ _)); exact BK543.out)) : gb543 ≠ gb544)); have n6_ := Aside0.mk ((by rw [hg]; exact Nat.ne_of_gt (blk_lt (g := gb543) (o := .cells #[.slice A0_0 l0_0.length c0_0, .slice A0_1 l0_1.length c0_1] 75 (0, 0)) (by (with_reducible repeat (first | refine blk_drewN ?_ _ | refine blk_drew ?_ | refine blk_alloc ?_ _)); exact BK543.out)) : gb544 ≠ gb543)); clear BK543; clear HB; have BK543 := n0_; have HB := n1_; have BK544 := n2_; have GW544 := n3_; have GE544 := n4_; have NB543_544 := n5_; have NB544_543 := n6_; clear n0_ n1_ n2_ n3_ n4_ n5_ n6_; clear hb hbox hg; have hnb13 := NB544_543.out; have hnc13 := NB543_544.out; have hcz14_0 : w12.cell? ⟨gb544, 0, none⟩ = some (.int .i64 a1_0) := (blk_cell BK544.out 0).trans rfl; have hcz14_1 : w12.cell? ⟨gb544, 1, none⟩ = some (.int .i64 a1_1) := (blk_cell BK544.out 1).trans rfl; have hcz14_2 : w12.cell? ⟨gb544, 2, none⟩ = some (.int .i64 a1_2) := (blk_cell BK544.out 2).trans rfl; have hcz14_3 : w12.cell? ⟨gb544, 3, none⟩ = some (.int .u64 a1_3) := (blk_cell BK544.out 3).trans rfl; have hfz14_0 := blk_frozen BK544.out 0; have hfz14_1 := blk_frozen BK544.out 1; have hfz14_2 := blk_frozen BK544.out 2; have hfz14_3 := blk_frozen BK544.out 3))
     go_ret
     exact ⟨by first | rfl | (simp [errW_none, errW_some] <;> rfl) | (simp [*, errW_none, errW_some] <;> rfl), by repeat (first | (with_reducible first | exact HB.out | apply below_alloc | apply pw_below_drewN | apply below_drew1 | refine below_set ?_ GE543.out | refine below_set ?_ GE544.out) | exact HB.out)⟩
   · rw [if_neg c10] at H
     have c10b0 : (a1_0 == 2) = false := beq_eq_false_iff_ne.mpr c10
     have c10b1 : (a1_0 != 2) = true := bne_iff_ne.mpr c10
     by_cases c15 : a1_0 = 3
     · rw [if_pos c15] at H
       have c15b0 : (a1_0 == 3) = true := beq_iff_eq.mpr c15
       have c15b1 : (a1_0 != 3) = false := bne_eq_false_iff_eq.mpr c15
       clear c15
       obtain rfl := Option.some.inj H
       go_enter Tryd.func33, Tryd.ntmps33
       go_wp2_with (first | ((with_reducible refine gate_dst (N := 2) rfl ?_); (try (refine gate_guard (by rfl) ?_; dsimp only)); refine box_event ?hg (N := 2) ?hd (cs := #[.slice A0_0 l0_0.length c0_0, .slice A0_1 l0_1.length c0_1]) (t := 75) ?hr ?_; (case hd => rfl); (case hg => rfl); (case hr => first | (go_simp; done) | (go_simp; rfl)); intro gb543 hg w16 hbox hb; have n0_ := Aside0.mk (below_step (by repeat (first | (with_reducible first | exact HB.out | apply below_alloc | apply pw_below_drewN | apply below_drew1) | exact HB.out)) hb); have n1_ := Aside0.mk (hbox); have n2_ := Aside0.mk ((by rw [hg]; exact (below_size (by repeat (first | (with_reducible first | exact HB.out | apply below_alloc | apply pw_below_drewN | apply below_drew1) | exact HB.out))) : w.heap.size ≤ gb543)); have n3_ := Aside0.mk ((by rw [hg]; exact (below_size (by repeat (first | (with_reducible first | exact HB.out | apply below_alloc | apply pw_below_drewN | apply below_drew1) | exact HB.out))) : w.heap.size ≤ gb543)); clear HB; have HB := n0_; have BK543 := n1_; have GW543 := n2_; have GE543 := n3_; clear n0_ n1_ n2_ n3_; clear hb hbox hg) | ((with_reducible refine gate_dst (N := 3) rfl ?_); (try (refine gate_guard (by rfl) ?_; dsimp only)); refine box_event ?hg (N := 3) ?hd (cs := #[.int .i64 a1_0, .int .i64 a1_1, .int .i64 a1_2, .int .u64 a1_3]) (t := 77) ?hr ?_; (case hd => rfl); (case hg => rfl); (case hr => first | (go_simp; done) | (go_simp; rfl)); intro gb544 hg w17 hbox hb; have n0_ := Aside0.mk (blk_below (g := gb543) (o := .cells #[.slice A0_0 l0_0.length c0_0, .slice A0_1 l0_1.length c0_1] 75 (0, 0)) (by (with_reducible repeat (first | refine blk_drewN ?_ _ | refine blk_drew ?_ | refine blk_alloc ?_ _)); exact BK543.out) hb); have n1_ := Aside0.mk (below_step (by repeat (first | (with_reducible first | exact HB.out | apply below_alloc | apply pw_below_drewN | apply below_drew1 | refine below_set ?_ GE543.out) | exact HB.out)) hb); have n2_ := Aside0.mk (hbox); have n3_ := Aside0.mk ((by rw [hg]; exact (below_size (by repeat (first | (with_reducible first | exact HB.out | apply below_alloc | apply pw_below_drewN | apply below_drew1 | refine below_set ?_ GE543.out) | exact HB.out))) : w.heap.size ≤ gb544)); have n4_ := Aside0.mk ((by rw [hg]; exact (below_size (by repeat (first | (with_reducible first | exact HB.out | apply below_alloc | apply pw_below_drewN | apply below_drew1 | refine below_set ?_ GE543.out) | exact HB.out))) : w.heap.size ≤ gb544)); have n5_ := Aside0.mk ((by rw [hg]; exact Nat.ne_of_lt (blk_lt (g := gb543) (o := .cells #[.slice A0_0 l0_0.length c0_0, .slice A0_1 l0_1.length c0_1] 75 (0, 0)) (by (with_reducible repeat (first | refine blk_drewN ?_ _ | refine blk_drew ?_ | refine blk_alloc ?_ _)); exact BK543.out)) : gb543 ≠ gb544)); have n6_ := Aside0.mk ((by rw [hg]; exact Nat.ne_of_gt (blk_lt (g := gb543) (o := .cells #[.slice A0_0 l0_0.length c0_0, .slice A0_1 l0_1.length c0_1] 75 (0, 0)) (by (with_reducible repeat (first | refine blk_drewN ?_ _ | refine blk_drew ?_ | refine blk_alloc ?_ _)); exact BK543.out)) : gb544 ≠ gb543)); clear BK543; clear HB; have BK543 := n0_; have HB := n1_; have BK544 := n2_; have GW544 := n3_; have GE544 := n4_; have NB543_544 := n5_; have NB544_543 := n6_; clear n0_ n1_ n2_ n3_ n4_ n5_ n6_; clear hb hbox hg; have hnb18 := NB544_543.out; have hnc18 := NB543_544.out; have hcz19_0 : w17.cell? ⟨gb544, 0, none⟩ = some (.int .i64 a1_0) := (blk_cell BK544.out 0).trans rfl; have hcz19_1 : w17.cell? ⟨gb544, 1, none⟩ = some (.int .i64 a1_1) := (blk_cell BK544.out 1).trans rfl; have hcz19_2 : w17.cell? ⟨gb544, 2, none⟩ = some (.int .i64 a1_2) := (blk_cell BK544.out 2).trans rfl; have hcz19_3 : w17.cell? ⟨gb544, 3, none⟩ = some (.int .u64 a1_3) := (blk_cell BK544.out 3).trans rfl; have hfz19_0 := blk_frozen BK544.out 0; have hfz19_1 := blk_frozen BK544.out 1; have hfz19_2 := blk_frozen BK544.out 2; have hfz19_3 := blk_frozen BK544.out 3))
       go_ret
       exact ⟨by first | rfl | (simp [errW_none, errW_some] <;> rfl) | (simp [*, errW_none, errW_some] <;> rfl), by repeat (first | (with_reducible first | exact HB.out | apply below_alloc | apply pw_below_drewN | apply below_drew1 | refine below_set ?_ GE543.out | refine below_set ?_ GE544.out) | exact HB.out)⟩
     · rw [if_neg c15] at H
       have c15b0 : (a1_0 == 3) = false := beq_eq_false_iff_ne.mpr c15
       have c15b1 : (a1_0 != 3) = true := bne_iff_ne.mpr c15
       by_cases c20 : a1_0 = 4
       · rw [if_pos c20] at H
         have c20b0 : (a1_0 == 4) = true := beq_iff_eq.mpr c20
         have c20b1 : (a1_0 != 4) = false := bne_eq_false_iff_eq.mpr c20
         clear c20
         replace H := Option.bind_eq_some_iff.mp H
         obtain ⟨t546, A210, H⟩ := H
         replace H : (if 1 + t546.size ≤ 9223372036854775807 then (some ((⟨#[37]⟩ : ByteArray) ++ t546)) else (none)) = some r := H
         have A21 := Aside0.mk A210
         clear A210
         by_cases c22 : 1 + t546.size ≤ 9223372036854775807
         · rw [if_pos c22] at H
           have c22b0 := eq_true c22
           have c22b1 : decide (1 + t546.size ≤ 9223372036854775807) = true := decide_eq_true c22
           try have c22b2 : (9223372036854775807 < 1 + t546.size) = False := eq_false (Nat.not_lt.2 c22)
           obtain rfl := Option.some.inj H
           go_enter Tryd.func33, Tryd.ntmps33
           go_wp2_with (first | ((with_reducible refine gate_dst (N := 2) rfl ?_); (try (refine gate_guard (by rfl) ?_; dsimp only)); refine box_event ?hg (N := 2) ?hd (cs := #[.slice A0_0 l0_0.length c0_0, .slice A0_1 l0_1.length c0_1]) (t := 75) ?hr ?_; (case hd => rfl); (case hg => rfl); (case hr => first | (go_simp; done) | (go_simp; rfl)); intro gb543 hg w23 hbox hb; have n0_ := Aside0.mk (below_step (by repeat (first | (with_reducible first | exact HB.out | apply below_alloc | apply pw_below_drewN | apply below_drew1) | exact HB.out)) hb); have n1_ := Aside0.mk (hbox); have n2_ := Aside0.mk ((by rw [hg]; exact (below_size (by repeat (first | (with_reducible first | exact HB.out | apply below_alloc | apply pw_below_drewN | apply below_drew1) | exact HB.out))) : w.heap.size ≤ gb543)); have n3_ := Aside0.mk ((by rw [hg]; exact (below_size (by repeat (first | (with_reducible first | exact HB.out | apply below_alloc | apply pw_below_drewN | apply below_drew1) | exact HB.out))) : w.heap.size ≤ gb543)); clear HB; have HB := n0_; have BK543 := n1_; have GW543 := n2_; have GE543 := n3_; clear n0_ n1_ n2_ n3_; clear hb hbox hg) | ((with_reducible refine gate_dst (N := 3) rfl ?_); (try (refine gate_guard (by rfl) ?_; dsimp only)); refine box_event ?hg (N := 3) ?hd (cs := #[.int .i64 a1_0, .int .i64 a1_1, .int .i64 a1_2, .int .u64 a1_3]) (t := 77) ?hr ?_; (case hd => rfl); (case hg => rfl); (case hr => first | (go_simp; done) | (go_simp; rfl)); intro gb544 hg w24 hbox hb; have n0_ := Aside0.mk (blk_below (g := gb543) (o := .cells #[.slice A0_0 l0_0.length c0_0, .slice A0_1 l0_1.length c0_1] 75 (0, 0)) (by (with_reducible repeat (first | refine blk_drewN ?_ _ | refine blk_drew ?_ | refine blk_alloc ?_ _)); exact BK543.out) hb); have n1_ := Aside0.mk (below_step (by repeat (first | (with_reducible first | exact HB.out | apply below_alloc | apply pw_below_drewN | apply below_drew1 | refine below_set ?_ GE543.out) | exact HB.out)) hb); have n2_ := Aside0.mk (hbox); have n3_ := Aside0.mk ((by rw [hg]; exact (below_size (by repeat (first | (with_reducible first | exact HB.out | apply below_alloc | apply pw_below_drewN | apply below_drew1 | refine below_set ?_ GE543.out) | exact HB.out))) : w.heap.size ≤ gb544)); have n4_ := Aside0.mk ((by rw [hg]; exact (below_size (by repeat (first | (with_reducible first | exact HB.out | apply below_alloc | apply pw_below_drewN | apply below_drew1 | refine below_set ?_ GE543.out) | exact HB.out))) : w.heap.size ≤ gb544)); have n5_ := Aside0.mk ((by rw [hg]; exact Nat.ne_of_lt (blk_lt (g := gb543) (o := .cells #[.slice A0_0 l0_0.length c0_0, .slice A0_1 l0_1.length c0_1] 75 (0, 0)) (by (with_reducible repeat (first | refine blk_drewN ?_ _ | refine blk_drew ?_ | refine blk_alloc ?_ _)); exact BK543.out)) : gb543 ≠ gb544)); have n6_ := Aside0.mk ((by rw [hg]; exact Nat.ne_of_gt (blk_lt (g := gb543) (o := .cells #[.slice A0_0 l0_0.length c0_0, .slice A0_1 l0_1.length c0_1] 75 (0, 0)) (by (with_reducible repeat (first | refine blk_drewN ?_ _ | refine blk_drew ?_ | refine blk_alloc ?_ _)); exact BK543.out)) : gb544 ≠ gb543)); clear BK543; clear HB; have BK543 := n0_; have HB := n1_; have BK544 := n2_; have GW544 := n3_; have GE544 := n4_; have NB543_544 := n5_; have NB544_543 := n6_; clear n0_ n1_ n2_ n3_ n4_ n5_ n6_; clear hb hbox hg; have hnb25 := NB544_543.out; have hnc25 := NB543_544.out; have hcz26_0 : w24.cell? ⟨gb544, 0, none⟩ = some (.int .i64 a1_0) := (blk_cell BK544.out 0).trans rfl; have hcz26_1 : w24.cell? ⟨gb544, 1, none⟩ = some (.int .i64 a1_1) := (blk_cell BK544.out 1).trans rfl; have hcz26_2 : w24.cell? ⟨gb544, 2, none⟩ = some (.int .i64 a1_2) := (blk_cell BK544.out 2).trans rfl; have hcz26_3 : w24.cell? ⟨gb544, 3, none⟩ = some (.int .u64 a1_3) := (blk_cell BK544.out 3).trans rfl; have hfz26_0 := blk_frozen BK544.out 0; have hfz26_1 := blk_frozen BK544.out 1; have hfz26_2 := blk_frozen BK544.out 2; have hfz26_3 := blk_frozen BK544.out 3) | ((with_reducible refine gate_callee (f := 39) rfl ?_); refine goesL_ (some 22) rfl rfl Tryd.func39 (by kernel_rfl) rfl #[.int .i64 a1_2, .int .i64 10] rfl (by (try simp only [List.map_toArray, List.map_cons, List.map_nil]); first | done | rfl | (simp only [List.length_drop, List.length_take]; rfl)) ?_; (with_reducible refine (strconv_FormatInt_39.calls a1_2 10 t546 _ ?tLtTab A21.out).mono ?_); (case tLtTab => exact HLtTab.out.on (by repeat (first | (with_reducible first | exact HB.out | apply below_alloc | apply pw_below_drewN | apply below_drew1 | refine below_set ?_ GE543.out | refine below_set ?_ GE544.out) | exact HB.out))); rintro e w27 ⟨rfl, hb⟩; refine ⟨_, rfl, ?_⟩; have n0_ := Aside0.mk (blk_below (g := gb543) (o := .cells #[.slice A0_0 l0_0.length c0_0, .slice A0_1 l0_1.length c0_1] 75 (0, 0)) (by (with_reducible repeat (first | refine blk_drewN ?_ _ | refine blk_drew ?_ | refine blk_alloc ?_ _)); exact BK543.out) hb); have n1_ := Aside0.mk (blk_below (g := gb544) (o := .cells #[.int .i64 a1_0, .int .i64 a1_1, .int .i64 a1_2, .int .u64 a1_3] 77 (0, 0)) (by (with_reducible repeat (first | refine blk_drewN ?_ _ | refine blk_drew ?_ | refine blk_alloc ?_ _)); exact BK544.out) hb); have n2_ := Aside0.mk (below_step (by repeat (first | (with_reducible first | exact HB.out | apply below_alloc | apply pw_below_drewN | apply below_drew1 | refine below_set ?_ GE543.out | refine below_set ?_ GE544.out) | exact HB.out)) hb); clear BK543; clear BK544; clear HB; have BK543 := n0_; have BK544 := n1_; have HB := n2_; clear n0_ n1_ n2_; (try clear hb); (try clear hb2); (try clear hk); (try clear hi)))
           go_ret
           exact ⟨by first | rfl | (simp [errW_none, errW_some] <;> rfl) | (simp [*, errW_none, errW_some] <;> rfl), by repeat (first | (with_reducible first | exact HB.out | apply below_alloc | apply pw_below_drewN | apply below_drew1 | refine below_set ?_ GE543.out | refine below_set ?_ GE544.out) | exact HB.out)⟩
         · rw [if_neg c22] at H
           exact absurd H (by simp)
       · rw [if_neg c20] at H
         have c20b0 : (a1_0 == 4) = false := beq_eq_false_iff_ne.mpr c20
         have c20b1 : (a1_0 != 4) = true := bne_iff_ne.mpr c20
         by_cases c28 : a1_0 = 5
         · rw [if_pos c28] at H
           have c28b0 : (a1_0 == 5) = true := beq_iff_eq.mpr c28
           have c28b1 : (a1_0 != 5) = false := bne_eq_false_iff_eq.mpr c28
           clear c28
           by_cases c29 : a1_2 ≥ 0
           · rw [if_pos c29] at H
             have c29b0 : decide (0 ≤ a1_2) = true := decide_eq_true c29
             clear c29
             by_cases c30 : a1_2 < (l0_0.length : Int)
             · rw [if_pos c30] at H
               have c30b0 : decide (a1_2 < (l0_0.length : Int)) = true := decide_eq_true c30
               clear c30
               by_cases c31 : 0 ≤ a1_2
               · rw [if_pos c31] at H
                 have c31b0 : decide (0 ≤ a1_2) = true := decide_eq_true c31
                 clear c31
                 by_cases c32 : 1 + ((rd_T127 l0_0 a1_2).f0).size ≤ 9223372036854775807
                 · rw [if_pos c32] at H
                   have c32b0 := eq_true c32
                   have c32b1 : decide (1 + ((rd_T127 l0_0 a1_2).f0).size ≤ 9223372036854775807) = true := decide_eq_true c32
                   try have c32b2 : (9223372036854775807 < 1 + ((rd_T127 l0_0 a1_2).f0).size) = False := eq_false (Nat.not_lt.2 c32)
                   obtain rfl := Option.some.inj H
                   go_enter Tryd.func33, Tryd.ntmps33
                   go_wp2_with (first | ((with_reducible refine gate_dst (N := 2) rfl ?_); (try (refine gate_guard (by rfl) ?_; dsimp only)); refine box_event ?hg (N := 2) ?hd (cs := #[.slice A0_0 l0_0.length c0_0, .slice A0_1 l0_1.length c0_1]) (t := 75) ?hr ?_; (case hd => rfl); (case hg => rfl); (case hr => first | (go_simp; done) | (go_simp; rfl)); intro gb543 hg w33 hbox hb; have n0_ := Aside0.mk (below_step (by repeat (first | (with_reducible first | exact HB.out | apply below_alloc | apply pw_below_drewN | apply below_drew1) | exact HB.out)) hb); have n1_ := Aside0.mk (hbox); have n2_ := Aside0.mk ((by rw [hg]; exact (below_size (by repeat (first | (with_reducible first | exact HB.out | apply below_alloc | apply pw_below_drewN | apply below_drew1) | exact HB.out))) : w.heap.size ≤ gb543)); have n3_ := Aside0.mk ((by rw [hg]; exact (below_size (by repeat (first | (with_reducible first | exact HB.out | apply below_alloc | apply pw_below_drewN | apply below_drew1) | exact HB.out))) : w.heap.size ≤ gb543)); clear HB; have HB := n0_; have BK543 := n1_; have GW543 := n2_; have GE543 := n3_; clear n0_ n1_ n2_ n3_; clear hb hbox hg) | ((with_reducible refine gate_dst (N := 3) rfl ?_); (try (refine gate_guard (by rfl) ?_; dsimp only)); refine box_event ?hg (N := 3) ?hd (cs := #[.int .i64 a1_0, .int .i64 a1_1, .int .i64 a1_2, .int .u64 a1_3]) (t := 77) ?hr ?_; (case hd => rfl); (case hg => rfl); (case hr => first | (go_simp; done) | (go_simp; rfl)); intro gb544 hg w34 hbox hb; have n0_ := Aside0.mk (blk_below (g := gb543) (o := .cells #[.slice A0_0 l0_0.length c0_0, .slice A0_1 l0_1.length c0_1] 75 (0, 0)) (by (with_reducible repeat (first | refine blk_drewN ?_ _ | refine blk_drew ?_ | refine blk_alloc ?_ _)); exact BK543.out) hb); have n1_ := Aside0.mk (below_step (by repeat (first | (with_reducible first | exact HB.out | apply below_alloc | apply pw_below_drewN | apply below_drew1 | refine below_set ?_ GE543.out) | exact HB.out)) hb); have n2_ := Aside0.mk (hbox); have n3_ := Aside0.mk ((by rw [hg]; exact (below_size (by repeat (first | (with_reducible first | exact HB.out | apply below_alloc | apply pw_below_drewN | apply below_drew1 | refine below_set ?_ GE543.out) | exact HB.out))) : w.heap.size ≤ gb544)); have n4_ := Aside0.mk ((by rw [hg]; exact (below_size (by repeat (first | (with_reducible first | exact HB.out | apply below_alloc | apply pw_below_drewN | apply below_drew1 | refine below_set ?_ GE543.out) | exact HB.out))) : w.heap.size ≤ gb544)); have n5_ := Aside0.mk ((by rw [hg]; exact Nat.ne_of_lt (blk_lt (g := gb543) (o := .cells #[.slice A0_0 l0_0.length c0_0, .slice A0_1 l0_1.length c0_1] 75 (0, 0)) (by (with_reducible repeat (first | refine blk_drewN ?_ _ | refine blk_drew ?_ | refine blk_alloc ?_ _)); exact BK543.out)) : gb543 ≠ gb544)); have n6_ := Aside0.mk ((by rw [hg]; exact Nat.ne_of_gt (blk_lt (g := gb543) (o := .cells #[.slice A0_0 l0_0.length c0_0, .slice A0_1 l0_1.length c0_1] 75 (0, 0)) (by (with_reducible repeat (first | refine blk_drewN ?_ _ | refine blk_drew ?_ | refine blk_alloc ?_ _)); exact BK543.out)) : gb544 ≠ gb543)); clear BK543; clear HB; have BK543 := n0_; have HB := n1_; have BK544 := n2_; have GW544 := n3_; have GE544 := n4_; have NB543_544 := n5_; have NB544_543 := n6_; clear n0_ n1_ n2_ n3_ n4_ n5_ n6_; clear hb hbox hg; have hnb35 := NB544_543.out; have hnc35 := NB543_544.out; have hcz36_0 : w34.cell? ⟨gb544, 0, none⟩ = some (.int .i64 a1_0) := (blk_cell BK544.out 0).trans rfl; have hcz36_1 : w34.cell? ⟨gb544, 1, none⟩ = some (.int .i64 a1_1) := (blk_cell BK544.out 1).trans rfl; have hcz36_2 : w34.cell? ⟨gb544, 2, none⟩ = some (.int .i64 a1_2) := (blk_cell BK544.out 2).trans rfl; have hcz36_3 : w34.cell? ⟨gb544, 3, none⟩ = some (.int .u64 a1_3) := (blk_cell BK544.out 3).trans rfl; have hfz36_0 := blk_frozen BK544.out 0; have hfz36_1 := blk_frozen BK544.out 1; have hfz36_2 := blk_frozen BK544.out 2; have hfz36_3 := blk_frozen BK544.out 3; have hcz37_0 : w34.cell? ⟨gb543, 0, none⟩ = some (.slice A0_0 l0_0.length c0_0) := (blk_cell BK543.out 0).trans rfl; have hcz37_1 : w34.cell? ⟨gb543, 1, none⟩ = some (.slice A0_1 l0_1.length c0_1) := (blk_cell BK543.out 1).trans rfl; have hfz37_0 := blk_frozen BK543.out 0; have hfz37_1 := blk_frozen BK543.out 1; have p547 : 0 ≤ (a1_2 : Int) := of_decide_eq_true (by first | (with_reducible assumption) | assumption); have q547 : a1_2 < (l0_0.length : Int) := of_decide_eq_true (by first | (with_reducible assumption) | assumption); obtain ⟨ad547, A547_4, c547_4, e547, hx547_0, hx547_1, hx547_2, hx547_3, hx547_4, hl547_4, hi547_4⟩ := at_T127 HR0_0.out a1_2 p547 q547; cases e547; replace hx547_0 := (HB.out.cell (World.block_lt_of_cell? w _ hx547_0)).trans hx547_0; replace hx547_1 := (HB.out.cell (World.block_lt_of_cell? w _ hx547_1)).trans hx547_1; replace hx547_2 := (HB.out.cell (World.block_lt_of_cell? w _ hx547_2)).trans hx547_2; replace hx547_3 := (HB.out.cell (World.block_lt_of_cell? w _ hx547_3)).trans hx547_3; replace hx547_4 := (HB.out.cell (World.block_lt_of_cell? w _ hx547_4)).trans hx547_4; have HR547_4 := Aside0.mk hi547_4; have HC547_4 := Aside0.mk hl547_4; clear hi547_4 hl547_4; replace p547 := eq_true p547; replace q547 := eq_true q547))
                   go_ret
                   exact ⟨by first | rfl | (simp [errW_none, errW_some] <;> rfl) | (simp [*, errW_none, errW_some] <;> rfl), by repeat (first | (with_reducible first | exact HB.out | apply below_alloc | apply pw_below_drewN | apply below_drew1 | refine below_set ?_ GE543.out | refine below_set ?_ GE544.out) | exact HB.out)⟩
                 · rw [if_neg c32] at H
                   exact absurd H (by simp)
               · rw [if_neg c31] at H
                 exact absurd H (by simp)
             · rw [if_neg c30] at H
               have c30b0 : decide (a1_2 < (l0_0.length : Int)) = false := decide_eq_false c30
               clear c30
               obtain rfl := Option.some.inj H
               go_enter Tryd.func33, Tryd.ntmps33
               go_wp2_with (first | ((with_reducible refine gate_dst (N := 2) rfl ?_); (try (refine gate_guard (by rfl) ?_; dsimp only)); refine box_event ?hg (N := 2) ?hd (cs := #[.slice A0_0 l0_0.length c0_0, .slice A0_1 l0_1.length c0_1]) (t := 75) ?hr ?_; (case hd => rfl); (case hg => rfl); (case hr => first | (go_simp; done) | (go_simp; rfl)); intro gb543 hg w38 hbox hb; have n0_ := Aside0.mk (below_step (by repeat (first | (with_reducible first | exact HB.out | apply below_alloc | apply pw_below_drewN | apply below_drew1) | exact HB.out)) hb); have n1_ := Aside0.mk (hbox); have n2_ := Aside0.mk ((by rw [hg]; exact (below_size (by repeat (first | (with_reducible first | exact HB.out | apply below_alloc | apply pw_below_drewN | apply below_drew1) | exact HB.out))) : w.heap.size ≤ gb543)); have n3_ := Aside0.mk ((by rw [hg]; exact (below_size (by repeat (first | (with_reducible first | exact HB.out | apply below_alloc | apply pw_below_drewN | apply below_drew1) | exact HB.out))) : w.heap.size ≤ gb543)); clear HB; have HB := n0_; have BK543 := n1_; have GW543 := n2_; have GE543 := n3_; clear n0_ n1_ n2_ n3_; clear hb hbox hg) | ((with_reducible refine gate_dst (N := 3) rfl ?_); (try (refine gate_guard (by rfl) ?_; dsimp only)); refine box_event ?hg (N := 3) ?hd (cs := #[.int .i64 a1_0, .int .i64 a1_1, .int .i64 a1_2, .int .u64 a1_3]) (t := 77) ?hr ?_; (case hd => rfl); (case hg => rfl); (case hr => first | (go_simp; done) | (go_simp; rfl)); intro gb544 hg w39 hbox hb; have n0_ := Aside0.mk (blk_below (g := gb543) (o := .cells #[.slice A0_0 l0_0.length c0_0, .slice A0_1 l0_1.length c0_1] 75 (0, 0)) (by (with_reducible repeat (first | refine blk_drewN ?_ _ | refine blk_drew ?_ | refine blk_alloc ?_ _)); exact BK543.out) hb); have n1_ := Aside0.mk (below_step (by repeat (first | (with_reducible first | exact HB.out | apply below_alloc | apply pw_below_drewN | apply below_drew1 | refine below_set ?_ GE543.out) | exact HB.out)) hb); have n2_ := Aside0.mk (hbox); have n3_ := Aside0.mk ((by rw [hg]; exact (below_size (by repeat (first | (with_reducible first | exact HB.out | apply below_alloc | apply pw_below_drewN | apply below_drew1 | refine below_set ?_ GE543.out) | exact HB.out))) : w.heap.size ≤ gb544)); have n4_ := Aside0.mk ((by rw [hg]; exact (below_size (by repeat (first | (with_reducible first | exact HB.out | apply below_alloc | apply pw_below_drewN | apply below_drew1 | refine below_set ?_ GE543.out) | exact HB.out))) : w.heap.size ≤ gb544)); have n5_ := Aside0.mk ((by rw [hg]; exact Nat.ne_of_lt (blk_lt (g := gb543) (o := .cells #[.slice A0_0 l0_0.length c0_0, .slice A0_1 l0_1.length c0_1] 75 (0, 0)) (by (with_reducible repeat (first | refine blk_drewN ?_ _ | refine blk_drew ?_ | refine blk_alloc ?_ _)); exact BK543.out)) : gb543 ≠ gb544)); have n6_ := Aside0.mk ((by rw [hg]; exact Nat.ne_of_gt (blk_lt (g := gb543) (o := .cells #[.slice A0_0 l0_0.length c0_0, .slice A0_1 l0_1.length c0_1] 75 (0, 0)) (by (with_reducible repeat (first | refine blk_drewN ?_ _ | refine blk_drew ?_ | refine blk_alloc ?_ _)); exact BK543.out)) : gb544 ≠ gb543)); clear BK543; clear HB; have BK543 := n0_; have HB := n1_; have BK544 := n2_; have GW544 := n3_; have GE544 := n4_; have NB543_544 := n5_; have NB544_543 := n6_; clear n0_ n1_ n2_ n3_ n4_ n5_ n6_; clear hb hbox hg; have hnb40 := NB544_543.out; have hnc40 := NB543_544.out; have hcz41_0 : w39.cell? ⟨gb544, 0, none⟩ = some (.int .i64 a1_0) := (blk_cell BK544.out 0).trans rfl; have hcz41_1 : w39.cell? ⟨gb544, 1, none⟩ = some (.int .i64 a1_1) := (blk_cell BK544.out 1).trans rfl; have hcz41_2 : w39.cell? ⟨gb544, 2, none⟩ = some (.int .i64 a1_2) := (blk_cell BK544.out 2).trans rfl; have hcz41_3 : w39.cell? ⟨gb544, 3, none⟩ = some (.int .u64 a1_3) := (blk_cell BK544.out 3).trans rfl; have hfz41_0 := blk_frozen BK544.out 0; have hfz41_1 := blk_frozen BK544.out 1; have hfz41_2 := blk_frozen BK544.out 2; have hfz41_3 := blk_frozen BK544.out 3; have hcz42_0 : w39.cell? ⟨gb543, 0, none⟩ = some (.slice A0_0 l0_0.length c0_0) := (blk_cell BK543.out 0).trans rfl; have hcz42_1 : w39.cell? ⟨gb543, 1, none⟩ = some (.slice A0_1 l0_1.length c0_1) := (blk_cell BK543.out 1).trans rfl; have hfz42_0 := blk_frozen BK543.out 0; have hfz42_1 := blk_frozen BK543.out 1))
               go_ret
               exact ⟨by first | rfl | (simp [errW_none, errW_some] <;> rfl) | (simp [*, errW_none, errW_some] <;> rfl), by repeat (first | (with_reducible first | exact HB.out | apply below_alloc | apply pw_below_drewN | apply below_drew1 | refine below_set ?_ GE543.out | refine below_set ?_ GE544.out) | exact HB.out)⟩
           · rw [if_neg c29] at H
             have c29b0 : decide (0 ≤ a1_2) = false := decide_eq_false c29
             clear c29
             obtain rfl := Option.some.inj H
             go_enter Tryd.func33, Tryd.ntmps33
             go_wp2_with (first | ((with_reducible refine gate_dst (N := 2) rfl ?_); (try (refine gate_guard (by rfl) ?_; dsimp only)); refine box_event ?hg (N := 2) ?hd (cs := #[.slice A0_0 l0_0.length c0_0, .slice A0_1 l0_1.length c0_1]) (t := 75) ?hr ?_; (case hd => rfl); (case hg => rfl); (case hr => first | (go_simp; done) | (go_simp; rfl)); intro gb543 hg w43 hbox hb; have n0_ := Aside0.mk (below_step (by repeat (first | (with_reducible first | exact HB.out | apply below_alloc | apply pw_below_drewN | apply below_drew1) | exact HB.out)) hb); have n1_ := Aside0.mk (hbox); have n2_ := Aside0.mk ((by rw [hg]; exact (below_size (by repeat (first | (with_reducible first | exact HB.out | apply below_alloc | apply pw_below_drewN | apply below_drew1) | exact HB.out))) : w.heap.size ≤ gb543)); have n3_ := Aside0.mk ((by rw [hg]; exact (below_size (by repeat (first | (with_reducible first | exact HB.out | apply below_alloc | apply pw_below_drewN | apply below_drew1) | exact HB.out))) : w.heap.size ≤ gb543)); clear HB; have HB := n0_; have BK543 := n1_; have GW543 := n2_; have GE543 := n3_; clear n0_ n1_ n2_ n3_; clear hb hbox hg) | ((with_reducible refine gate_dst (N := 3) rfl ?_); (try (refine gate_guard (by rfl) ?_; dsimp only)); refine box_event ?hg (N := 3) ?hd (cs := #[.int .i64 a1_0, .int .i64 a1_1, .int .i64 a1_2, .int .u64 a1_3]) (t := 77) ?hr ?_; (case hd => rfl); (case hg => rfl); (case hr => first | (go_simp; done) | (go_simp; rfl)); intro gb544 hg w44 hbox hb; have n0_ := Aside0.mk (blk_below (g := gb543) (o := .cells #[.slice A0_0 l0_0.length c0_0, .slice A0_1 l0_1.length c0_1] 75 (0, 0)) (by (with_reducible repeat (first | refine blk_drewN ?_ _ | refine blk_drew ?_ | refine blk_alloc ?_ _)); exact BK543.out) hb); have n1_ := Aside0.mk (below_step (by repeat (first | (with_reducible first | exact HB.out | apply below_alloc | apply pw_below_drewN | apply below_drew1 | refine below_set ?_ GE543.out) | exact HB.out)) hb); have n2_ := Aside0.mk (hbox); have n3_ := Aside0.mk ((by rw [hg]; exact (below_size (by repeat (first | (with_reducible first | exact HB.out | apply below_alloc | apply pw_below_drewN | apply below_drew1 | refine below_set ?_ GE543.out) | exact HB.out))) : w.heap.size ≤ gb544)); have n4_ := Aside0.mk ((by rw [hg]; exact (below_size (by repeat (first | (with_reducible first | exact HB.out | apply below_alloc | apply pw_below_drewN | apply below_drew1 | refine below_set ?_ GE543.out) | exact HB.out))) : w.heap.size ≤ gb544)); have n5_ := Aside0.mk ((by rw [hg]; exact Nat.ne_of_lt (blk_lt (g := gb543) (o := .cells #[.slice A0_0 l0_0.length c0_0, .slice A0_1 l0_1.length c0_1] 75 (0, 0)) (by (with_reducible repeat (first | refine blk_drewN ?_ _ | refine blk_drew ?_ | refine blk_alloc ?_ _)); exact BK543.out)) : gb543 ≠ gb544)); have n6_ := Aside0.mk ((by rw [hg]; exact Nat.ne_of_gt (blk_lt (g := gb543) (o := .cells #[.slice A0_0 l0_0.length c0_0, .slice A0_1 l0_1.length c0_1] 75 (0, 0)) (by (with_reducible repeat (first | refine blk_drewN ?_ _ | refine blk_drew ?_ | refine blk_alloc ?_ _)); exact BK543.out)) : gb544 ≠ gb543)); clear BK543; clear HB; have BK543 := n0_; have HB := n1_; have BK544 := n2_; have GW544 := n3_; have GE544 := n4_; have NB543_544 := n5_; have NB544_543 := n6_; clear n0_ n1_ n2_ n3_ n4_ n5_ n6_; clear hb hbox hg; have hnb45 := NB544_543.out; have hnc45 := NB543_544.out; have hcz46_0 : w44.cell? ⟨gb544, 0, none⟩ = some (.int .i64 a1_0) := (blk_cell BK544.out 0).trans rfl; have hcz46_1 : w44.cell? ⟨gb544, 1, none⟩ = some (.int .i64 a1_1) := (blk_cell BK544.out 1).trans rfl; have hcz46_2 : w44.cell? ⟨gb544, 2, none⟩ = some (.int .i64 a1_2) := (blk_cell BK544.out 2).trans rfl; have hcz46_3 : w44.cell? ⟨gb544, 3, none⟩ = some (.int .u64 a1_3) := (blk_cell BK544.out 3).trans rfl; have hfz46_0 := blk_frozen BK544.out 0; have hfz46_1 := blk_frozen BK544.out 1; have hfz46_2 := blk_frozen BK544.out 2; have hfz46_3 := blk_frozen BK544.out 3))
             go_ret
             exact ⟨by first | rfl | (simp [errW_none, errW_some] <;> rfl) | (simp [*, errW_none, errW_some] <;> rfl), by repeat (first | (with_reducible first | exact HB.out | apply below_alloc | apply pw_below_drewN | apply below_drew1 | refine below_set ?_ GE543.out | refine below_set ?_ GE544.out) | exact HB.out)⟩
         · rw [if_neg c28] at H
           have c28b0 : (a1_0 == 5) = false := beq_eq_false_iff_ne.mpr c28
           have c28b1 : (a1_0 != 5) = true := bne_iff_ne.mpr c28
           obtain rfl := Option.some.inj H
           go_enter Tryd.func33, Tryd.ntmps33
           go_wp2_with (first | ((with_reducible refine gate_dst (N := 2) rfl ?_); (try (refine gate_guard (by rfl) ?_; dsimp only)); refine box_event ?hg (N := 2) ?hd (cs := #[.slice A0_0 l0_0.length c0_0, .slice A0_1 l0_1.length c0_1]) (t := 75) ?hr ?_; (case hd => rfl); (case hg => rfl); (case hr => first | (go_simp; done) | (go_simp; rfl)); intro gb543 hg w47 hbox hb; have n0_ := Aside0.mk (below_step (by repeat (first | (with_reducible first | exact HB.out | apply below_alloc | apply pw_below_drewN | apply below_drew1) | exact HB.out)) hb); have n1_ := Aside0.mk (hbox); have n2_ := Aside0.mk ((by rw [hg]; exact (below_size (by repeat (first | (with_reducible first | exact HB.out | apply below_alloc | apply pw_below_drewN | apply below_drew1) | exact HB.out))) : w.heap.size ≤ gb543)); have n3_ := Aside0.mk ((by rw [hg]; exact (below_size (by repeat (first | (with_reducible first | exact HB.out | apply below_alloc | apply pw_below_drewN | apply below_drew1) | exact HB.out))) : w.heap.size ≤ gb543)); clear HB; have HB := n0_; have BK543 := n1_; have GW543 := n2_; have GE543 := n3_; clear n0_ n1_ n2_ n3_; clear hb hbox hg) | ((with_reducible refine gate_dst (N := 3) rfl ?_); (try (refine gate_guard (by rfl) ?_; dsimp only)); refine box_event ?hg (N := 3) ?hd (cs := #[.int .i64 a1_0, .int .i64 a1_1, .int .i64 a1_2, .int .u64 a1_3]) (t := 77) ?hr ?_; (case hd => rfl); (case hg => rfl); (case hr => first | (go_simp; done) | (go_simp; rfl)); intro gb544 hg w48 hbox hb; have n0_ := Aside0.mk (blk_below (g := gb543) (o := .cells #[.slice A0_0 l0_0.length c0_0, .slice A0_1 l0_1.length c0_1] 75 (0, 0)) (by (with_reducible repeat (first | refine blk_drewN ?_ _ | refine blk_drew ?_ | refine blk_alloc ?_ _)); exact BK543.out) hb); have n1_ := Aside0.mk (below_step (by repeat (first | (with_reducible first | exact HB.out | apply below_alloc | apply pw_below_drewN | apply below_drew1 | refine below_set ?_ GE543.out) | exact HB.out)) hb); have n2_ := Aside0.mk (hbox); have n3_ := Aside0.mk ((by rw [hg]; exact (below_size (by repeat (first | (with_reducible first | exact HB.out | apply below_alloc | apply pw_below_drewN | apply below_drew1 | refine below_set ?_ GE543.out) | exact HB.out))) : w.heap.size ≤ gb544)); have n4_ := Aside0.mk ((by rw [hg]; exact (below_size (by repeat (first | (with_reducible first | exact HB.out | apply below_alloc | apply pw_below_drewN | apply below_drew1 | refine below_set ?_ GE543.out) | exact HB.out))) : w.heap.size ≤ gb544)); have n5_ := Aside0.mk ((by rw [hg]; exact Nat.ne_of_lt (blk_lt (g := gb543) (o := .cells #[.slice A0_0 l0_0.length c0_0, .slice A0_1 l0_1.length c0_1] 75 (0, 0)) (by (with_reducible repeat (first | refine blk_drewN ?_ _ | refine blk_drew ?_ | refine blk_alloc ?_ _)); exact BK543.out)) : gb543 ≠ gb544)); have n6_ := Aside0.mk ((by rw [hg]; exact Nat.ne_of_gt (blk_lt (g := gb543) (o := .cells #[.slice A0_0 l0_0.length c0_0, .slice A0_1 l0_1.length c0_1] 75 (0, 0)) (by (with_reducible repeat (first | refine blk_drewN ?_ _ | refine blk_drew ?_ | refine blk_alloc ?_ _)); exact BK543.out)) : gb544 ≠ gb543)); clear BK543; clear HB; have BK543 := n0_; have HB := n1_; have BK544 := n2_; have GW544 := n3_; have GE544 := n4_; have NB543_544 := n5_; have NB544_543 := n6_; clear n0_ n1_ n2_ n3_ n4_ n5_ n6_; clear hb hbox hg; have hnb49 := NB544_543.out; have hnc49 := NB543_544.out; have hcz50_0 : w48.cell? ⟨gb544, 0, none⟩ = some (.int .i64 a1_0) := (blk_cell BK544.out 0).trans rfl; have hcz50_1 : w48.cell? ⟨gb544, 1, none⟩ = some (.int .i64 a1_1) := (blk_cell BK544.out 1).trans rfl; have hcz50_2 : w48.cell? ⟨gb544, 2, none⟩ = some (.int .i64 a1_2) := (blk_cell BK544.out 2).trans rfl; have hcz50_3 : w48.cell? ⟨gb544, 3, none⟩ = some (.int .u64 a1_3) := (blk_cell BK544.out 3).trans rfl; have hfz50_0 := blk_frozen BK544.out 0; have hfz50_1 := blk_frozen BK544.out 1; have hfz50_2 := blk_frozen BK544.out 2; have hfz50_3 := blk_frozen BK544.out 3))
           go_ret
           exact ⟨by first | rfl | (simp [errW_none, errW_some] <;> rfl) | (simp [*, errW_none, errW_some] <;> rfl), by repeat (first | (with_reducible first | exact HB.out | apply below_alloc | apply pw_below_drewN | apply below_drew1 | refine below_set ?_ GE543.out | refine below_set ?_ GE544.out) | exact HB.out)⟩

end Go.Proofs.YtkohjiajbdkcbaaDoor.All


namespace Go.Proofs.YtkohjiajbdkcbaaDoor.All
open Go.RowKit Go.Proofs.YtkohjiajbdkcbaaDoorW.PrintWords Go.Proofs.YtkohjiajbdkcbaaDoorW.PrintLast Go.Proofs.YtkohjiajbdkcbaaDoorW.PrintMore
attribute [local go_sem] max2_int min2_int max_two min_two max_three min_three max_four min_four   -- for this text's walks alone
set_option linter.unusedVariables false
set_option linter.unusedSimpArgs false

/-! ### laws_eqByteS: function 67 -/
def laws_eqByteS.l0 : Nat → List Int → List Int → Int → Option (Bool)
 | 0, _, _, _ => none
 | k + 1, x0, x1, x5 => if x5 < (x0.length : Int) then (if 0 ≤ x5 then (if x5 < (x1.length : Int) then (if (rd x0 x5) = (rd x1 x5) then (laws_eqByteS.l0 k x0 x1 (wrap64 (x5 + 1))) else (some false)) else (none)) else (none)) else (some true)
def laws_eqByteS.f (k : Nat) (l0 : List Int) (l1 : List Int) : Option (Bool) := if (l0.length : Int) = (l1.length : Int) then (laws_eqByteS.l0 k l0 l1 0) else (some false)
set_option maxHeartbeats 8000000 in
set_option maxRecDepth 100000 in
theorem laws_eqByteS.calls (k : Nat) (A0 : Option Addr) (c0 : Nat) (l0 : List Int) (A1 : Option Addr) (c1 : Nat) (l1 : List Int) (r : Bool) (w : World) (hr0 : Kd.C (Kd.int .u8) w A0 l0.length l0) (hc0 : l0.length ≤ c0) (hr1 : Kd.C (Kd.int .u8) w A1 l1.length l1) (hc1 : l1.length ≤ c1) (h : laws_eqByteS.f k l0 l1 = some r) :
 Calls Tryd.prog 67 #[.slice A0 l0.length c0, .slice A1 l1.length c1] w fun e w' => e = .returned (.bool r) ∧ Drawn0 w w' := by
 have HR0 := Aside0.mk hr0
 have HC0 := Aside0.mk hc0
 clear hr0 hc0
 have HR1 := Aside0.mk hr1
 have HC1 := Aside0.mk hc1
 clear hr1 hc1
 have H : (if (l0.length : Int) = (l1.length : Int) then (laws_eqByteS.l0 k l0 l1 0) else (some false)) = some r := h
 clear h
 by_cases c3 : (l0.length : Int) = (l1.length : Int)
 · rw [if_pos c3] at H
   have c3b0 : ((l0.length : Int) == (l1.length : Int)) = true := beq_iff_eq.mpr c3
   have c3b1 : ((l0.length : Int) != (l1.length : Int)) = false := bne_eq_false_iff_eq.mpr c3
   have c3b2 : (l0.length == l1.length) = true := by first | simpa using c3 | (simp at c3 ⊢; omega)
   clear c3
   have H' := Aside0.mk H
   clear H
   go_enter Tryd.func67, Tryd.ntmps67
   go_wp2
   repeat (go_quiet (fail); try go_wp2)
   go_loopg [5] k (fun kq v5 w' => ∃ (x5_1 : Int), v5 = .int .i64 x5_1 ∧ Aside0 (laws_eqByteS.l0 kq l0 l1 x5_1 = some r) ∧ Aside0 (kq ≤ k) ∧ Drawn0 w w')
   case atStart => exact ⟨(0), (by first | rfl | (simp; done) | (simp [*]; done)), H', ⟨Nat.le_refl _⟩, by repeat (first | exact Drawn0.refl _ | apply Drawn0.step)⟩
   case round =>
    clear H'
    try clear c1
    try clear p2
    try clear c3
    try clear c3b0
    try clear c3b1
    try clear c3b2
    obtain ⟨x5_1, rfl, HA, HK1, ⟨m1, rfl⟩⟩ := hrel
    cases gk with
    | zero => exact absurd HA.out (by simp [laws_eqByteS.l0])
    | succ k1 =>
     have H := HA.out
     clear HA
     simp only [laws_eqByteS.l0] at H
     by_cases c4 : x5_1 < (l0.length : Int)
     · rw [if_pos c4] at H
       have c4b0 : decide (x5_1 < (l0.length : Int)) = true := decide_eq_true c4
       clear c4
       by_cases c5 : 0 ≤ x5_1
       · rw [if_pos c5] at H
         have c5b0 : decide (0 ≤ x5_1) = true := decide_eq_true c5
         clear c5
         by_cases c6 : x5_1 < (l1.length : Int)
         · rw [if_pos c6] at H
           have c6b0 : decide (x5_1 < (l1.length : Int)) = true := decide_eq_true c6
           clear c6
           by_cases c7 : (rd l0 x5_1) = (rd l1 x5_1)
           · rw [if_pos c7] at H
             have c7b0 : ((rd l0 x5_1) == (rd l1 x5_1)) = true := beq_iff_eq.mpr c7
             have c7b1 : ((rd l0 x5_1) != (rd l1 x5_1)) = false := bne_eq_false_iff_eq.mpr c7
             clear c7
             have H' := Aside0.mk H
             clear H
             have p372 : 0 ≤ (x5_1 : Int) := of_decide_eq_true (by first | (with_reducible assumption) | assumption)
             have q372 : x5_1 < (l0.length : Int) := of_decide_eq_true (by first | (with_reducible assumption) | assumption)
             obtain ⟨ad372, e372, hx372_0⟩ := Kd.at_int HR0.out x5_1 p372 q372
             cases e372
             replace p372 := eq_true p372
             replace q372 := eq_true q372
             have p373 : 0 ≤ (x5_1 : Int) := of_decide_eq_true (by first | (with_reducible assumption) | assumption)
             have q373 : x5_1 < (l1.length : Int) := of_decide_eq_true (by first | (with_reducible assumption) | assumption)
             obtain ⟨ad373, e373, hx373_0⟩ := Kd.at_int HR1.out x5_1 p373 q373
             cases e373
             replace p373 := eq_true p373
             replace q373 := eq_true q373
             go_wp2
             repeat (go_quiet (fail); try go_wp2)
             go_roundg k1
             case measure => have := HK1.out; omega
             case rel => exact ⟨(wrap64 (x5_1 + 1)), (by first | rfl | (simp; done) | (simp [*]; done)), H', ⟨by have := HK1.out; omega⟩, by repeat (first | exact Drawn0.refl _ | apply Drawn0.step)⟩
           · rw [if_neg c7] at H
             have c7b0 : ((rd l0 x5_1) == (rd l1 x5_1)) = false := beq_eq_false_iff_ne.mpr c7
             have c7b1 : ((rd l0 x5_1) != (rd l1 x5_1)) = true := bne_iff_ne.mpr c7
             obtain rfl := Option.some.inj H
             have p372 : 0 ≤ (x5_1 : Int) := of_decide_eq_true (by first | (with_reducible assumption) | assumption)
             have q372 : x5_1 < (l0.length : Int) := of_decide_eq_true (by first | (with_reducible assumption) | assumption)
             obtain ⟨ad372, e372, hx372_0⟩ := Kd.at_int HR0.out x5_1 p372 q372
             cases e372
             replace p372 := eq_true p372
             replace q372 := eq_true q372
             have p373 : 0 ≤ (x5_1 : Int) := of_decide_eq_true (by first | (with_reducible assumption) | assumption)
             have q373 : x5_1 < (l1.length : Int) := of_decide_eq_true (by first | (with_reducible assumption) | assumption)
             obtain ⟨ad373, e373, hx373_0⟩ := Kd.at_int HR1.out x5_1 p373 q373
             cases e373
             replace p373 := eq_true p373
             replace q373 := eq_true q373
             go_wp2
             repeat (go_quiet (fail); try go_wp2)
             go_ret
             exact ⟨by first | rfl | (simp; done) | (simp [*]; done), by repeat (first | exact Drawn0.refl _ | apply Drawn0.step)⟩
         · rw [if_neg c6] at H
           exact absurd H (by simp)
       · rw [if_neg c5] at H
         exact absurd H (by simp)
     · rw [if_neg c4] at H
       have c4b0 : decide (x5_1 < (l0.length : Int)) = false := decide_eq_false c4
       clear c4
       obtain rfl := Option.some.inj H
       go_wp2
       repeat (go_quiet (fail); try go_wp2)
       go_ret
       exact ⟨by first | rfl | (simp; done) | (simp [*]; done), by repeat (first | exact Drawn0.refl _ | apply Drawn0.step)⟩
 · rw [if_neg c3] at H
   have c3b0 : ((l0.length : Int) == (l1.length : Int)) = false := beq_eq_false_iff_ne.mpr c3
   have c3b1 : ((l0.length : Int) != (l1.length : Int)) = true := bne_iff_ne.mpr c3
   have c3b2 : (l0.length == l1.length) = false := by first | simpa using c3 | (simp at c3 ⊢; omega)
   obtain rfl := Option.some.inj H
   go_enter Tryd.func67, Tryd.ntmps67
   go_wp2
   repeat (go_quiet (fail); try go_wp2)
   go_ret
   exact ⟨by first | rfl | (simp; done) | (simp [*]; done), by repeat (first | exact Drawn0.refl _ | apply Drawn0.step)⟩

end Go.Proofs.YtkohjiajbdkcbaaDoor.All


namespace Go.Proofs.YtkohjiajbdkcbaaDoor.All
open Go.RowKit Go.Proofs.YtkohjiajbdkcbaaDoorW.PrintWords Go.Proofs.YtkohjiajbdkcbaaDoorW.PrintLast Go.Proofs.YtkohjiajbdkcbaaDoorW.PrintMore
attribute [local go_sem] max2_int min2_int max_two min_two max_three min_three max_four min_four   -- for this text's walks alone
set_option linter.unusedVariables false
set_option linter.unusedSimpArgs false

/-! ### laws_eqGlobal: function 95 -/
def laws_eqGlobal.f (k : Nat) (a0_0 : ByteArray) (a0_1 : Int) (a0_2 : Bool) (a0_3 : Int) (l0_4 : List Int) (a1_0 : ByteArray) (a1_1 : Int) (a1_2 : Bool) (a1_3 : Int) (l1_4 : List Int) : Option (Bool) := if a0_0.toList = a1_0.toList then (if a0_1 = a1_1 then (if (a0_2 != a1_2) = true then (some false) else (if a0_3 = a1_3 then ((laws_eqByteS.f k l0_4 l1_4).bind fun t550 => (if t550 = true then (some true) else (some false))) else (some false))) else (some false)) else (some false)
set_option maxHeartbeats 8000000 in
set_option maxRecDepth 100000 in
theorem laws_eqGlobal.calls (k : Nat) (a0_0 : ByteArray) (a0_1 : Int) (a0_2 : Bool) (a0_3 : Int) (A0_4 : Option Addr) (c0_4 : Nat) (l0_4 : List Int) (a1_0 : ByteArray) (a1_1 : Int) (a1_2 : Bool) (a1_3 : Int) (A1_4 : Option Addr) (c1_4 : Nat) (l1_4 : List Int) (r : Bool) (w : World) (hr0_4 : Kd.C (Kd.int .u8) w A0_4 l0_4.length l0_4) (hc0_4 : l0_4.length ≤ c0_4) (hr1_4 : Kd.C (Kd.int .u8) w A1_4 l1_4.length l1_4) (hc1_4 : l1_4.length ≤ c1_4) (h : laws_eqGlobal.f k a0_0 a0_1 a0_2 a0_3 l0_4 a1_0 a1_1 a1_2 a1_3 l1_4 = some r) :
 Calls Tryd.prog 95 #[.agg #[.string a0_0, .int .i64 a0_1, .bool a0_2, .int .i64 a0_3, .slice A0_4 l0_4.length c0_4], .agg #[.string a1_0, .int .i64 a1_1, .bool a1_2, .int .i64 a1_3, .slice A1_4 l1_4.length c1_4]] w fun e w' => e = .returned (.bool r) ∧ Below w.heap.size w w' := by
 have hu127 := Tryd.underlying127
 have HR0_4 := Aside0.mk hr0_4
 have HC0_4 := Aside0.mk hc0_4
 clear hr0_4 hc0_4
 have HR1_4 := Aside0.mk hr1_4
 have HC1_4 := Aside0.mk hc1_4
 clear hr1_4 hc1_4
 have HB := Aside0.mk (Below.refl w.heap.size w)
 have H : (if a0_0.toList = a1_0.toList then (if a0_1 = a1_1 then (if (a0_2 != a1_2) = true then (some false) else (if a0_3 = a1_3 then ((laws_eqByteS.f k l0_4 l1_4).bind fun t550 => (if t550 = true then (some true) else (some false))) else (some false))) else (some false)) else (some false)) = some r := h
 clear h
 by_cases c3 : a0_0.toList = a1_0.toList
 · rw [if_pos c3] at H
   have c3b0 : (a0_0.toList == a1_0.toList) = true := beq_iff_eq.mpr c3
   have c3b1 : (a0_0.toList != a1_0.toList) = false := bne_eq_false_iff_eq.mpr c3
   clear c3
   by_cases c4 : a0_1 = a1_1
   · rw [if_pos c4] at H
     have c4b0 : (a0_1 == a1_1) = true := beq_iff_eq.mpr c4
     have c4b1 : (a0_1 != a1_1) = false := bne_eq_false_iff_eq.mpr c4
     clear c4
     by_cases c5 : (a0_2 != a1_2) = true
     · rw [if_pos c5] at H
       have c5b0 : (a0_2 != a1_2) = true := c5
       (try (have c5b1 : decide (a0_2 = a1_2) = false := by simpa using c5))
       (try (have c5b2 : (a0_2 == a1_2) = false := by simpa using c5))
       (try (have c5b3 : ¬ (a0_2 = a1_2) := by simpa using c5))
       clear c5
       obtain rfl := Option.some.inj H
       go_enter Tryd.func95, Tryd.ntmps95
       go_wp2_with (first | ((with_reducible refine gate_dst (N := 2) rfl ?_); refine box_event ?hg (N := 2) ?hd (cs := #[.string a0_0, .int .i64 a0_1, .bool a0_2, .int .i64 a0_3, .slice A0_4 l0_4.length c0_4]) (t := 127) ?hr ?_; (case hd => rfl); (case hg => rfl); (case hr => first | (go_simp; done) | (go_simp; rfl)); intro gb548 hg w6 hbox hb; have n0_ := Aside0.mk (below_step (by repeat (first | (with_reducible first | exact HB.out | apply below_alloc | apply pw_below_drewN | apply below_drew1) | exact HB.out)) hb); have n1_ := Aside0.mk (hbox); have n2_ := Aside0.mk ((by rw [hg]; exact (below_size (by repeat (first | (with_reducible first | exact HB.out | apply below_alloc | apply pw_below_drewN | apply below_drew1) | exact HB.out))) : w.heap.size ≤ gb548)); have n3_ := Aside0.mk ((by rw [hg]; exact (below_size (by repeat (first | (with_reducible first | exact HB.out | apply below_alloc | apply pw_below_drewN | apply below_drew1) | exact HB.out))) : w.heap.size ≤ gb548)); clear HB; have HB := n0_; have BK548 := n1_; have GW548 := n2_; have GE548 := n3_; clear n0_ n1_ n2_ n3_; clear hb hbox hg) | ((with_reducible refine gate_dst (N := 3) rfl ?_); refine box_event ?hg (N := 3) ?hd (cs := #[.string a1_0, .int .i64 a1_1, .bool a1_2, .int .i64 a1_3, .slice A1_4 l1_4.length c1_4]) (t := 127) ?hr ?_; (case hd => rfl); (case hg => rfl); (case hr => first | (go_simp; done) | (go_simp; rfl)); intro gb549 hg w7 hbox hb; have n0_ := Aside0.mk (blk_below (g := gb548) (o := .cells #[.string a0_0, .int .i64 a0_1, .bool a0_2, .int .i64 a0_3, .slice A0_4 l0_4.length c0_4] 127 (0, 0)) (by (with_reducible repeat (first | refine blk_drewN ?_ _ | refine blk_drew ?_ | refine blk_alloc ?_ _)); exact BK548.out) hb); have n1_ := Aside0.mk (below_step (by repeat (first | (with_reducible first | exact HB.out | apply below_alloc | apply pw_below_drewN | apply below_drew1 | refine below_set ?_ GE548.out) | exact HB.out)) hb); have n2_ := Aside0.mk (hbox); have n3_ := Aside0.mk ((by rw [hg]; exact (below_size (by repeat (first | (with_reducible first | exact HB.out | apply below_alloc | apply pw_below_drewN | apply below_drew1 | refine below_set ?_ GE548.out) | exact HB.out))) : w.heap.size ≤ gb549)); have n4_ := Aside0.mk ((by rw [hg]; exact (below_size (by repeat (first | (with_reducible first | exact HB.out | apply below_alloc | apply pw_below_drewN | apply below_drew1 | refine below_set ?_ GE548.out) | exact HB.out))) : w.heap.size ≤ gb549)); have n5_ := Aside0.mk ((by rw [hg]; exact Nat.ne_of_lt (blk_lt (g := gb548) (o := .cells #[.string a0_0, .int .i64 a0_1, .bool a0_2, .int .i64 a0_3, .slice A0_4 l0_4.length c0_4] 127 (0, 0)) (by (with_reducible repeat (first | refine blk_drewN ?_ _ | refine blk_drew ?_ | refine blk_alloc ?_ _)); exact BK548.out)) : gb548 ≠ gb549)); have n6_ := Aside0.mk ((by rw [hg]; exact Nat.ne_of_gt (blk_lt (g := gb548) (o := .cells #[.string a0_0, .int .i64 a0_1, .bool a0_2, .int .i64 a0_3, .slice A0_4 l0_4.length c0_4] 127 (0, 0)) (by (with_reducible repeat (first | refine blk_drewN ?_ _ | refine blk_drew ?_ | refine blk_alloc ?_ _)); exact BK548.out)) : gb549 ≠ gb548)); clear BK548; clear HB; have BK548 := n0_; have HB := n1_; have BK549 := n2_; have GW549 := n3_; have GE549 := n4_; have NB548_549 := n5_; have NB549_548 := n6_; clear n0_ n1_ n2_ n3_ n4_ n5_ n6_; clear hb hbox hg; have hnb8 := NB548_549.out; have hnc8 := NB549_548.out; have hcz9_0 : w7.cell? ⟨gb548, 0, none⟩ = some (.string a0_0) := (blk_cell BK548.out 0).trans rfl; have hcz9_1 : w7.cell? ⟨gb548, 1, none⟩ = some (.int .i64 a0_1) := (blk_cell BK548.out 1).trans rfl; have hcz9_2 : w7.cell? ⟨gb548, 2, none⟩ = some (.bool a0_2) := (blk_cell BK548.out 2).trans rfl; have hcz9_3 : w7.cell? ⟨gb548, 3, none⟩ = some (.int .i64 a0_3) := (blk_cell BK548.out 3).trans rfl; have hcz9_4 : w7.cell? ⟨gb548, 4, none⟩ = some (.slice A0_4 l0_4.length c0_4) := (blk_cell BK548.out 4).trans rfl; have hfz9_0 := blk_frozen BK548.out 0; have hfz9_1 := blk_frozen BK548.out 1; have hfz9_2 := blk_frozen BK548.out 2; have hfz9_3 := blk_frozen BK548.out 3; have hfz9_4 := blk_frozen BK548.out 4; have hcz10_0 : w7.cell? ⟨gb549, 0, none⟩ = some (.string a1_0) := (blk_cell BK549.out 0).trans rfl; have hcz10_1 : w7.cell? ⟨gb549, 1, none⟩ = some (.int .i64 a1_1) := (blk_cell BK549.out 1).trans rfl; have hcz10_2 : w7.cell? ⟨gb549, 2, none⟩ = some (.bool a1_2) := (blk_cell BK549.out 2).trans rfl; have hcz10_3 : w7.cell? ⟨gb549, 3, none⟩ = some (.int .i64 a1_3) := (blk_cell BK549.out 3).trans rfl; have hcz10_4 : w7.cell? ⟨gb549, 4, none⟩ = some (.slice A1_4 l1_4.length c1_4) := (blk_cell BK549.out 4).trans rfl; have hfz10_0 := blk_frozen BK549.out 0; have hfz10_1 := blk_frozen BK549.out 1; have hfz10_2 := blk_frozen BK549.out 2; have hfz10_3 := blk_frozen BK549.out 3; have hfz10_4 := blk_frozen BK549.out 4))
       go_ret
       exact ⟨by first | rfl | (simp [errW_none, errW_some] <;> rfl) | (simp [*, errW_none, errW_some] <;> rfl), by repeat (first | (with_reducible first | exact HB.out | apply below_alloc | apply pw_below_drewN | apply below_drew1 | refine below_set ?_ GE548.out | refine below_set ?_ GE549.out) | exact HB.out)⟩
     · rw [if_neg c5] at H
       have c5b0 : (a0_2 != a1_2) = false := by simpa using c5
       (try (have c5b1 : decide (a0_2 = a1_2) = true := by simpa using c5))
       (try (have c5b2 : (a0_2 == a1_2) = true := by simpa using c5))
       clear c5
       by_cases c11 : a0_3 = a1_3
       · rw [if_pos c11] at H
         have c11b0 : (a0_3 == a1_3) = true := beq_iff_eq.mpr c11
         have c11b1 : (a0_3 != a1_3) = false := bne_eq_false_iff_eq.mpr c11
         clear c11
         replace H := Option.bind_eq_some_iff.mp H
         obtain ⟨t550, A120, H⟩ := H
         replace H : (if t550 = true then (some true) else (some false)) = some r := H
         have A12 := Aside0.mk A120
         clear A120
         by_cases c13 : t550 = true
         · subst c13
           have H1 : (some true) = some r := by rw [if_pos rfl] at H; exact H
           clear H
           have H := H1
           clear H1
           obtain rfl := Option.some.inj H
           go_enter Tryd.func95, Tryd.ntmps95
           go_wp2_with (first | ((with_reducible refine gate_dst (N := 2) rfl ?_); refine box_event ?hg (N := 2) ?hd (cs := #[.string a0_0, .int .i64 a0_1, .bool a0_2, .int .i64 a0_3, .slice A0_4 l0_4.length c0_4]) (t := 127) ?hr ?_; (case hd => rfl); (case hg => rfl); (case hr => first | (go_simp; done) | (go_simp; rfl)); intro gb548 hg w14 hbox hb; have n0_ := Aside0.mk (below_step (by repeat (first | (with_reducible first | exact HB.out | apply below_alloc | apply pw_below_drewN | apply below_drew1) | exact HB.out)) hb); have n1_ := Aside0.mk (hbox); have n2_ := Aside0.mk ((by rw [hg]; exact (below_size (by repeat (first | (with_reducible first | exact HB.out | apply below_alloc | apply pw_below_drewN | apply below_drew1) | exact HB.out))) : w.heap.size ≤ gb548)); have n3_ := Aside0.mk ((by rw [hg]; exact (below_size (by repeat (first | (with_reducible first | exact HB.out | apply below_alloc | apply pw_below_drewN | apply below_drew1) | exact HB.out))) : w.heap.size ≤ gb548)); clear HB; have HB := n0_; have BK548 := n1_; have GW548 := n2_; have GE548 := n3_; clear n0_ n1_ n2_ n3_; clear hb hbox hg) | ((with_reducible refine gate_dst (N := 3) rfl ?_); refine box_event ?hg (N := 3) ?hd (cs := #[.string a1_0, .int .i64 a1_1, .bool a1_2, .int .i64 a1_3, .slice A1_4 l1_4.length c1_4]) (t := 127) ?hr ?_; (case hd => rfl); (case hg => rfl); (case hr => first | (go_simp; done) | (go_simp; rfl)); intro gb549 hg w15 hbox hb; have n0_ := Aside0.mk (blk_below (g := gb548) (o := .cells #[.string a0_0, .int .i64 a0_1, .bool a0_2, .int .i64 a0_3, .slice A0_4 l0_4.length c0_4] 127 (0, 0)) (by (with_reducible repeat (first | refine blk_drewN ?_ _ | refine blk_drew ?_ | refine blk_alloc ?_ _)); exact BK548.out) hb); have n1_ := Aside0.mk (below_step (by repeat (first | (with_reducible first | exact HB.out | apply below_alloc | apply pw_below_drewN | apply below_drew1 | refine below_set ?_ GE548.out) | exact HB.out)) hb); have n2_ := Aside0.mk (hbox); have n3_ := Aside0.mk ((by rw [hg]; exact (below_size (by repeat (first | (with_reducible first | exact HB.out | apply below_alloc | apply pw_below_drewN | apply below_drew1 | refine below_set ?_ GE548.out) | exact HB.out))) : w.heap.size ≤ gb549)); have n4_ := Aside0.mk ((by rw [hg]; exact (below_size (by repeat (first | (with_reducible first | exact HB.out | apply below_alloc | apply pw_below_drewN | apply below_drew1 | refine below_set ?_ GE548.out) | exact HB.out))) : w.heap.size ≤ gb549)); have n5_ := Aside0.mk ((by rw [hg]; exact Nat.ne_of_lt (blk_lt (g := gb548) (o := .cells #[.string a0_0, .int .i64 a0_1, .bool a0_2, .int .i64 a0_3, .slice A0_4 l0_4.length c0_4] 127 (0, 0)) (by (with_reducible repeat (first | refine blk_drewN ?_ _ | refine blk_drew ?_ | refine blk_alloc ?_ _)); exact BK548.out)) : gb548 ≠ gb549)); have n6_ := Aside0.mk ((by rw [hg]; exact Nat.ne_of_gt (blk_lt (g := gb548) (o := .cells #[.string a0_0, .int .i64 a0_1, .bool a0_2, .int .i64 a0_3, .slice A0_4 l0_4.length c0_4] 127 (0, 0)) (by (with_reducible repeat (first | refine blk_drewN ?_ _ | refine blk_drew ?_ | refine blk_alloc ?_ _)); exact BK548.out)) : gb549 ≠ gb548)); clear BK548; clear HB; have BK548 := n0_; have HB := n1_; have BK549 := n2_; have GW549 := n3_; have GE549 := n4_; have NB548_549 := n5_; have NB549_548 := n6_; clear n0_ n1_ n2_ n3_ n4_ n5_ n6_; clear hb hbox hg; have hnb16 := NB548_549.out; have hnc16 := NB549_548.out; have hcz17_0 : w15.cell? ⟨gb548, 0, none⟩ = some (.string a0_0) := (blk_cell BK548.out 0).trans rfl; have hcz17_1 : w15.cell? ⟨gb548, 1, none⟩ = some (.int .i64 a0_1) := (blk_cell BK548.out 1).trans rfl; have hcz17_2 : w15.cell? ⟨gb548, 2, none⟩ = some (.bool a0_2) := (blk_cell BK548.out 2).trans rfl; have hcz17_3 : w15.cell? ⟨gb548, 3, none⟩ = some (.int .i64 a0_3) := (blk_cell BK548.out 3).trans rfl; have hcz17_4 : w15.cell? ⟨gb548, 4, none⟩ = some (.slice A0_4 l0_4.length c0_4) := (blk_cell BK548.out 4).trans rfl; have hfz17_0 := blk_frozen BK548.out 0; have hfz17_1 := blk_frozen BK548.out 1; have hfz17_2 := blk_frozen BK548.out 2; have hfz17_3 := blk_frozen BK548.out 3; have hfz17_4 := blk_frozen BK548.out 4; have hcz18_0 : w15.cell? ⟨gb549, 0, none⟩ = some (.string a1_0) := (blk_cell BK549.out 0).trans rfl; have hcz18_1 : w15.cell? ⟨gb549, 1, none⟩ = some (.int .i64 a1_1) := (blk_cell BK549.out 1).trans rfl; have hcz18_2 : w15.cell? ⟨gb549, 2, none⟩ = some (.bool a1_2) := (blk_cell BK549.out 2).trans rfl; have hcz18_3 : w15.cell? ⟨gb549, 3, none⟩ = some (.int .i64 a1_3) := (blk_cell BK549.out 3).trans rfl; have hcz18_4 : w15.cell? ⟨gb549, 4, none⟩ = some (.slice A1_4 l1_4.length c1_4) := (blk_cell BK549.out 4).trans rfl; have hfz18_0 := blk_frozen BK549.out 0; have hfz18_1 := blk_frozen BK549.out 1; have hfz18_2 := blk_frozen BK549.out 2; have hfz18_3 := blk_frozen BK549.out 3; have hfz18_4 := blk_frozen BK549.out 4) | ((with_reducible refine gate_callee (f := 67) rfl ?_); refine goesL_ (some 29) rfl rfl Tryd.func67 (by kernel_rfl) rfl #[.slice A0_4 l0_4.length c0_4, .slice A1_4 l1_4.length c1_4] rfl (by (try simp only [List.map_toArray, List.map_cons, List.map_nil]); first | done | rfl | (simp only [List.length_drop, List.length_take]; rfl)) ?_; (with_reducible refine (laws_eqByteS.calls k _ _ l0_4 _ _ l1_4 true _ ?side1 ?side2 ?side3 ?side4 A12.out).mono ?_); (case side1 => repeat (first | exact (Kd.C_below HR0_4.out HB.out) | (with_reducible refine Kd.C_alloc ?_ _) | (with_reducible refine Kd.C_drewN ?_ _) | (with_reducible refine Kd.C_drew ?_))); (case side2 => exact HC0_4.out); (case side3 => repeat (first | exact (Kd.C_below HR1_4.out HB.out) | (with_reducible refine Kd.C_alloc ?_ _) | (with_reducible refine Kd.C_drewN ?_ _) | (with_reducible refine Kd.C_drew ?_))); (case side4 => exact HC1_4.out); rintro e w' ⟨rfl, ⟨nd, rfl⟩⟩; refine ⟨_, rfl, ?_⟩))
           go_ret
           exact ⟨by first | rfl | (simp [errW_none, errW_some] <;> rfl) | (simp [*, errW_none, errW_some] <;> rfl), by repeat (first | (with_reducible first | exact HB.out | apply below_alloc | apply pw_below_drewN | apply below_drew1 | refine below_set ?_ GE548.out | refine below_set ?_ GE549.out) | exact HB.out)⟩
         · replace c13 := Bool.eq_false_iff.mpr c13
           subst c13
           have H1 : (some false) = some r := by rw [if_neg (show ¬ (false = true) by decide)] at H; exact H
           clear H
           have H := H1
           clear H1
           obtain rfl := Option.some.inj H
           go_enter Tryd.func95, Tryd.ntmps95
           go_wp2_with (first | ((with_reducible refine gate_dst (N := 2) rfl ?_); refine box_event ?hg (N := 2) ?hd (cs := #[.string a0_0, .int .i64 a0_1, .bool a0_2, .int .i64 a0_3, .slice A0_4 l0_4.length c0_4]) (t := 127) ?hr ?_; (case hd => rfl); (case hg => rfl); (case hr => first | (go_simp; done) | (go_simp; rfl)); intro gb548 hg w19 hbox hb; have n0_ := Aside0.mk (below_step (by repeat (first | (with_reducible first | exact HB.out | apply below_alloc | apply pw_below_drewN | apply below_drew1) | exact HB.out)) hb); have n1_ := Aside0.mk (hbox); have n2_ := Aside0.mk ((by rw [hg]; exact (below_size (by repeat (first | (with_reducible first | exact HB.out | apply below_alloc | apply pw_below_drewN | apply below_drew1) | exact HB.out))) : w.heap.size ≤ gb548)); have n3_ := Aside0.mk ((by rw [hg]; exact (below_size (by repeat (first | (with_reducible first | exact HB.out | apply below_alloc | apply pw_below_drewN | apply below_drew1) | exact HB.out))) : w.heap.size ≤ gb548)); clear HB; have HB := n0_; have BK548 := n1_; have GW548 := n2_; have GE548 := n3_; clear n0_ n1_ n2_ n3_; clear hb hbox hg) | ((with_reducible refine gate_dst (N := 3) rfl ?_); refine box_event ?hg (N := 3) ?hd (cs := #[.string a1_0, .int .i64 a1_1, .bool a1_2, .int .i64 a1_3, .slice A1_4 l1_4.length c1_4]) (t := 127) ?hr ?_; (case hd => rfl); (case hg => rfl); (case hr => first | (go_simp; done) | (go_simp; rfl)); intro gb549 hg w20 hbox hb; have n0_ := Aside0.mk (blk_below (g := gb548) (o := .cells #[.string a0_0, .int .i64 a0_1, .bool a0_2, .int .i64 a0_3, .slice A0_4 l0_4.length c0_4] 127 (0, 0)) (by (with_reducible repeat (first | refine blk_drewN ?_ _ | refine blk_drew ?_ | refine blk_alloc ?_ _)); exact BK548.out) hb); have n1_ := Aside0.mk (below_step (by repeat (first | (with_reducible first | exact HB.out | apply below_alloc | apply pw_below_drewN | apply below_drew1 | refine below_set ?_ GE548.out) | exact HB.out)) hb); have n2_ := Aside0.mk (hbox); have n3_ := Aside0.mk ((by rw [hg]; exact (below_size (by repeat (first | (with_reducible first | exact HB.out | apply below_alloc | apply pw_below_drewN | apply below_drew1 | refine below_set ?_ GE548.out) | exact HB.out))) : w.heap.size ≤ gb549)); have n4_ := Aside0.mk ((by rw [hg]; exact (below_size (by repeat (first | (with_reducible first | exact HB.out | apply below_alloc | apply pw_below_drewN | apply below_drew1 | refine below_set ?_ GE548.out) | exact HB.out))) : w.heap.size ≤ gb549)); have n5_ := Aside0.mk ((by rw [hg]; exact Nat.ne_of_lt (blk_lt (g := gb548) (o := .cells #[.string a0_0, .int .i64 a0_1, .bool a0_2, .int .i64 a0_3, .slice A0_4 l0_4.length c0_4] 127 (0, 0)) (by (with_reducible repeat (first | refine blk_drewN ?_ _ | refine blk_drew ?_ | refine blk_alloc ?_ _)); exact BK548.out)) : gb548 ≠ gb549)); have n6_ := Aside0.mk ((by rw [hg]; exact Nat.ne_of_gt (blk_lt (g := gb548) (o := .cells #[.string a0_0, .int .i64 a0_1, .bool a0_2, .int .i64 a0_3, .slice A0_4 l0_4.length c0_4] 127 (0, 0)) (by (with_reducible repeat (first | refine blk_drewN ?_ _ | refine blk_drew ?_ | refine blk_alloc ?_ _)); exact BK548.out)) : gb549 ≠ gb548)); clear BK548; clear HB; have BK548 := n0_; have HB := n1_; have BK549 := n2_; have GW549 := n3_; have GE549 := n4_; have NB548_549 := n5_; have NB549_548 := n6_; clear n0_ n1_ n2_ n3_ n4_ n5_ n6_; clear hb hbox hg; have hnb21 := NB548_549.out; have hnc21 := NB549_548.out; have hcz22_0 : w20.cell? ⟨gb548, 0, none⟩ = some (.string a0_0) := (blk_cell BK548.out 0).trans rfl; have hcz22_1 : w20.cell? ⟨gb548, 1, none⟩ = some (.int .i64 a0_1) := (blk_cell BK548.out 1).trans rfl; have hcz22_2 : w20.cell? ⟨gb548, 2, none⟩ = some (.bool a0_2) := (blk_cell BK548.out 2).trans rfl; have hcz22_3 : w20.cell? ⟨gb548, 3, none⟩ = some (.int .i64 a0_3) := (blk_cell BK548.out 3).trans rfl; have hcz22_4 : w20.cell? ⟨gb548, 4, none⟩ = some (.slice A0_4 l0_4.length c0_4) := (blk_cell BK548.out 4).trans rfl; have hfz22_0 := blk_frozen BK548.out 0; have hfz22_1 := blk_frozen BK548.out 1; have hfz22_2 := blk_frozen BK548.out 2; have hfz22_3 := blk_frozen BK548.out 3; have hfz22_4 := blk_frozen BK548.out 4; have hcz23_0 : w20.cell? ⟨gb549, 0, none⟩ = some (.string a1_0) := (blk_cell BK549.out 0).trans rfl; have hcz23_1 : w20.cell? ⟨gb549, 1, none⟩ = some (.int .i64 a1_1) := (blk_cell BK549.out 1).trans rfl; have hcz23_2 : w20.cell? ⟨gb549, 2, none⟩ = some (.bool a1_2) := (blk_cell BK549.out 2).trans rfl; have hcz23_3 : w20.cell? ⟨gb549, 3, none⟩ = some (.int .i64 a1_3) := (blk_cell BK549.out 3).trans rfl; have hcz23_4 : w20.cell? ⟨gb549, 4, none⟩ = some (.slice A1_4 l1_4.length c1_4) := (blk_cell BK549.out 4).trans rfl; have hfz23_0 := blk_frozen BK549.out 0; have hfz23_1 := blk_frozen BK549.out 1; have hfz23_2 := blk_frozen BK549.out 2; have hfz23_3 := blk_frozen BK549.out 3; have hfz23_4 := blk_frozen BK549.out 4) | ((with_reducible refine gate_callee (f := 67) rfl ?_); refine goesL_ (some 29) rfl rfl Tryd.func67 (by kernel_rfl) rfl #[.slice A0_4 l0_4.length c0_4, .slice A1_4 l1_4.length c1_4] rfl (by (try simp only [List.map_toArray, List.map_cons, List.map_nil]); first | done | rfl | (simp only [List.length_drop, List.length_take]; rfl)) ?_; (with_reducible refine (laws_eqByteS.calls k _ _ l0_4 _ _ l1_4 false _ ?side1 ?side2 ?side3 ?side4 A12.out).mono ?_); (case side1 => repeat (first | exact (Kd.C_below HR0_4.out HB.out) | (with_reducible refine Kd.C_alloc ?_ _) | (with_reducible refine Kd.C_drewN ?_ _) | (with_reducible refine Kd.C_drew ?_))); (case side2 => exact HC0_4.out); (case side3 => repeat (first | exact (Kd.C_below HR1_4.out HB.out) | (with_reducible refine Kd.C_alloc ?_ _) | (with_reducible refine Kd.C_drewN ?_ _) | (with_reducible refine Kd.C_drew ?_))); (case side4 => exact HC1_4.out); rintro e w' ⟨rfl, ⟨nd, rfl⟩⟩; refine ⟨_, rfl, ?_⟩))
           go_ret
           exact ⟨by first | rfl | (simp [errW_none, errW_some] <;> rfl) | (simp [*, errW_none, errW_some] <;> rfl), by repeat (first | (with_reducible first | exact HB.out | apply below_alloc | apply pw_below_drewN | apply below_drew1 | refine below_set ?_ GE548.out | refine below_set ?_ GE549.out) | exact HB.out)⟩
       · rw [if_neg c11] at H
         have c11b0 : (a0_3 == a1_3) = false := beq_eq_false_iff_ne.mpr c11
         have c11b1 : (a0_3 != a1_3) = true := bne_iff_ne.mpr c11
         obtain rfl := Option.some.inj H
         go_enter Tryd.func95, Tryd.ntmps95
         go_wp2_with (first | ((with_reducible refine gate_dst (N := 2) rfl ?_); refine box_event ?hg (N := 2) ?hd (cs := #[.string a0_0, .int .i64 a0_1, .bool a0_2, .int .i64 a0_3, .slice A0_4 l0_4.length c0_4]) (t := 127) ?hr ?_; (case hd => rfl); (case hg => rfl); (case hr => first | (go_simp; done) | (go_simp; rfl)); intro gb548 hg w24 hbox hb; have n0_ := Aside0.mk (below_step (by repeat (first | (with_reducible first | exact HB.out | apply below_alloc | apply pw_below_drewN | apply below_drew1) | exact HB.out)) hb); have n1_ := Aside0.mk (hbox); have n2_ := Aside0.mk ((by rw [hg]; exact (below_size (by repeat (first | (with_reducible first | exact HB.out | apply below_alloc | apply pw_below_drewN | apply below_drew1) | exact HB.out))) : w.heap.size ≤ gb548)); have n3_ := Aside0.mk ((by rw [hg]; exact (below_size (by repeat (first | (with_reducible first | exact HB.out | apply below_alloc | apply pw_below_drewN | apply below_drew1) | exact HB.out))) : w.heap.size ≤ gb548)); clear HB; have HB := n0_; have BK548 := n1_; have GW548 := n2_; have GE548 := n3_; clear n0_ n1_ n2_ n3_; clear hb hbox hg) | ((with_reducible refine gate_dst (N := 3) rfl ?_); refine box_event ?hg (N := 3) ?hd (cs := #[.string a1_0, .int .i64 a1_1, .bool a1_2, .int .i64 a1_3, .slice A1_4 l1_4.length c1_4]) (t := 127) ?hr ?_; (case hd => rfl); (case hg => rfl); (case hr => first | (go_simp; done) | (go_simp; rfl)); intro gb549 hg w25 hbox hb; have n0_ := Aside0.mk (blk_below (g := gb548) (o := .cells #[.string a0_0, .int .i64 a0_1, .bool a0_2, .int .i64 a0_3, .slice A0_4 l0_4.length c0_4] 127 (0, 0)) (by (with_reducible repeat (first | refine blk_drewN ?_ _ | refine blk_drew ?_ | refine blk_alloc ?_ _)); exact BK548.out) hb); have n1_ := Aside0.mk (below_step (by repeat (first | (with_reducible first | exact HB.out | apply below_alloc | apply pw_below_drewN | apply below_drew1 | refine below_set ?_ GE548.out) | exact HB.out)) hb); have n2_ := Aside0.mk (hbox); have n3_ := Aside0.mk ((by rw [hg]; exact (below_size (by repeat (first | (with_reducible first | exact HB.out | apply below_alloc | apply pw_below_drewN | apply below_drew1 | refine below_set ?_ GE548.out) | exact HB.out))) : w.heap.size ≤ gb549)); have n4_ := Aside0.mk ((by rw [hg]; exact (below_size (by repeat (first | (with_reducible first | exact HB.out | apply below_alloc | apply pw_below_drewN | apply below_drew1 | refine below_set ?_ GE548.out) | exact HB.out))) : w.heap.size ≤ gb549)); have n5_ := Aside0.mk ((by rw [hg]; exact Nat.ne_of_lt (blk_lt (g := gb548) (o := .cells #[.string a0_0, .int .i64 a0_1, .bool a0_2, .int .i64 a0_3, .slice A0_4 l0_4.length c0_4] 127 (0, 0)) (by (with_reducible repeat (first | refine blk_drewN ?_ _ | refine blk_drew ?_ | refine blk_alloc ?_ _)); exact BK548.out)) : gb548 ≠ gb549)); have n6_ := Aside0.mk ((by rw [hg]; exact Nat.ne_of_gt (blk_lt (g := gb548) (o := .cells #[.string a0_0, .int .i64 a0_1, .bool a0_2, .int .i64 a0_3, .slice A0_4 l0_4.length c0_4] 127 (0, 0)) (by (with_reducible repeat (first | refine blk_drewN ?_ _ | refine blk_drew ?_ | refine blk_alloc ?_ _)); exact BK548.out)) : gb549 ≠ gb548)); clear BK548; clear HB; have BK548 := n0_; have HB := n1_; have BK549 := n2_; have GW549 := n3_; have GE549 := n4_; have NB548_549 := n5_; have NB549_548 := n6_; clear n0_ n1_ n2_ n3_ n4_ n5_ n6_; clear hb hbox hg; have hnb26 := NB548_549.out; have hnc26 := NB549_548.out; have hcz27_0 : w25.cell? ⟨gb548, 0, none⟩ = some (.string a0_0) := (blk_cell BK548.out 0).trans rfl; have hcz27_1 : w25.cell? ⟨gb548, 1, none⟩ = some (.int .i64 a0_1) := (blk_cell BK548.out 1).trans rfl; have hcz27_2 : w25.cell? ⟨gb548, 2, none⟩ = some (.bool a0_2) := (blk_cell BK548.out 2).trans rfl; have hcz27_3 : w25.cell? ⟨gb548, 3, none⟩ = some (.int .i64 a0_3) := (blk_cell BK548.out 3).trans rfl; have hcz27_4 : w25.cell? ⟨gb548, 4, none⟩ = some (.slice A0_4 l0_4.length c0_4) := (blk_cell BK548.out 4).trans rfl; have hfz27_0 := blk_frozen BK548.out 0; have hfz27_1 := blk_frozen BK548.out 1; have hfz27_2 := blk_frozen BK548.out 2; have hfz27_3 := blk_frozen BK548.out 3; have hfz27_4 := blk_frozen BK548.out 4; have hcz28_0 : w25.cell? ⟨gb549, 0, none⟩ = some (.string a1_0) := (blk_cell BK549.out 0).trans rfl; have hcz28_1 : w25.cell? ⟨gb549, 1, none⟩ = some (.int .i64 a1_1) := (blk_cell BK549.out 1).trans rfl; have hcz28_2 : w25.cell? ⟨gb549, 2, none⟩ = some (.bool a1_2) := (blk_cell BK549.out 2).trans rfl; have hcz28_3 : w25.cell? ⟨gb549, 3, none⟩ = some (.int .i64 a1_3) := (blk_cell BK549.out 3).trans rfl; have hcz28_4 : w25.cell? ⟨gb549, 4, none⟩ = some (.slice A1_4 l1_4.length c1_4) := (blk_cell BK549.out 4).trans rfl; have hfz28_0 := blk_frozen BK549.out 0; have hfz28_1 := blk_frozen BK549.out 1; have hfz28_2 := blk_frozen BK549.out 2; have hfz28_3 := blk_frozen BK549.out 3; have hfz28_4 := blk_frozen BK549.out 4))
         go_ret
         exact ⟨by first | rfl | (simp [errW_none, errW_some] <;> rfl) | (simp [*, errW_none, errW_some] <;> rfl), by repeat (first | (with_reducible first | exact HB.out | apply below_alloc | apply pw_below_drewN | apply below_drew1 | refine below_set ?_ GE548.out | refine below_set ?_ GE549.out) | exact HB.out)⟩
   · rw [if_neg c4] at H
     have c4b0 : (a0_1 == a1_1) = false := beq_eq_false_iff_ne.mpr c4
     have c4b1 : (a0_1 != a1_1) = true := bne_iff_ne.mpr c4
     obtain rfl := Option.some.inj H
     go_enter Tryd.func95, Tryd.ntmps95
     go_wp2_with (first | ((with_reducible refine gate_dst (N := 2) rfl ?_); refine box_event ?hg (N := 2) ?hd (cs := #[.string a0_0, .int .i64 a0_1, .bool a0_2, .int .i64 a0_3, .slice A0_4 l0_4.length c0_4]) (t := 127) ?hr ?_; (case hd => rfl); (case hg => rfl); (case hr => first | (go_simp; done) | (go_simp; rfl)); intro gb548 hg w29 hbox hb; have n0_ := Aside0.mk (below_step (by repeat (first | (with_reducible first | exact HB.out | apply below_alloc | apply pw_below_drewN | apply below_drew1) | exact HB.out)) hb); have n1_ := Aside0.mk (hbox); have n2_ := Aside0.mk ((by rw [hg]; exact (below_size (by repeat (first | (with_reducible first | exact HB.out | apply below_alloc | apply pw_below_drewN | apply below_drew1) | exact HB.out))) : w.heap.size ≤ gb548)); have n3_ := Aside0.mk ((by rw [hg]; exact (below_size (by repeat (first | (with_reducible first | exact HB.out | apply below_alloc | apply pw_below_drewN | apply below_drew1) | exact HB.out))) : w.heap.size ≤ gb548)); clear HB; have HB := n0_; have BK548 := n1_; have GW548 := n2_; have GE548 := n3_; clear n0_ n1_ n2_ n3_; clear hb hbox hg) | ((with_reducible refine gate_dst (N := 3) rfl ?_); refine box_event ?hg (N := 3) ?hd (cs := #[.string a1_0, .int .i64 a1_1, .bool a1_2, .int .i64 a1_3, .slice A1_4 l1_4.length c1_4]) (t := 127) ?hr ?_; (case hd => rfl); (case hg => rfl); (case hr => first | (go_simp; done) | (go_simp; rfl)); intro gb549 hg w30 hbox hb; have n0_ := Aside0.mk (blk_below (g := gb548) (o := .cells #[.string a0_0, .int .i64 a0_1, .bool a0_2, .int .i64 a0_3, .slice A0_4 l0_4.length c0_4] 127 (0, 0)) (by (with_reducible repeat (first | refine blk_drewN ?_ _ | refine blk_drew ?_ | refine blk_alloc ?_ _)); exact BK548.out) hb); have n1_ := Aside0.mk (below_step (by repeat (first | (with_reducible first | exact HB.out | apply below_alloc | apply pw_below_drewN | apply below_drew1 | refine below_set ?_ GE548.out) | exact HB.out)) hb); have n2_ := Aside0.mk (hbox); have n3_ := Aside0.mk ((by rw [hg]; exact (below_size (by repeat (first | (with_reducible first | exact HB.out | apply below_alloc | apply pw_below_drewN | apply below_drew1 | refine below_set ?_ GE548.out) | exact HB.out))) : w.heap.size ≤ gb549)); have n4_ := Aside0.mk ((by rw [hg]; exact (below_size (by repeat (first | (with_reducible first | exact HB.out | apply below_alloc | apply pw_below_drewN | apply below_drew1 | refine below_set ?_ GE548.out) | exact HB.out))) : w.heap.size ≤ gb549)); have n5_ := Aside0.mk ((by rw [hg]; exact Nat.ne_of_lt (blk_lt (g := gb548) (o := .cells #[.string a0_0, .int .i64 a0_1, .bool a0_2, .int .i64 a0_3, .slice A0_4 l0_4.length c0_4] 127 (0, 0)) (by (with_reducible repeat (first | refine blk_drewN ?_ _ | refine blk_drew ?_ | refine blk_alloc ?_ _)); exact BK548.out)) : gb548 ≠ gb549)); have n6_ := Aside0.mk ((by rw [hg]; exact Nat.ne_of_gt (blk_lt (g := gb548) (o := .cells #[.string a0_0, .int .i64 a0_1, .bool a0_2, .int .i64 a0_3, .slice A0_4 l0_4.length c0_4] 127 (0, 0)) (by (with_reducible repeat (first | refine blk_drewN ?_ _ | refine blk_drew ?_ | refine blk_alloc ?_ _)); exact BK548.out)) : gb549 ≠ gb548)); clear BK548; clear HB; have BK548 := n0_; have HB := n1_; have BK549 := n2_; have GW549 := n3_; have GE549 := n4_; have NB548_549 := n5_; have NB549_548 := n6_; clear n0_ n1_ n2_ n3_ n4_ n5_ n6_; clear hb hbox hg; have hnb31 := NB548_549.out; have hnc31 := NB549_548.out; have hcz32_0 : w30.cell? ⟨gb548, 0, none⟩ = some (.string a0_0) := (blk_cell BK548.out 0).trans rfl; have hcz32_1 : w30.cell? ⟨gb548, 1, none⟩ = some (.int .i64 a0_1) := (blk_cell BK548.out 1).trans rfl; have hcz32_2 : w30.cell? ⟨gb548, 2, none⟩ = some (.bool a0_2) := (blk_cell BK548.out 2).trans rfl; have hcz32_3 : w30.cell? ⟨gb548, 3, none⟩ = some (.int .i64 a0_3) := (blk_cell BK548.out 3).trans rfl; have hcz32_4 : w30.cell? ⟨gb548, 4, none⟩ = some (.slice A0_4 l0_4.length c0_4) := (blk_cell BK548.out 4).trans rfl; have hfz32_0 := blk_frozen BK548.out 0; have hfz32_1 := blk_frozen BK548.out 1; have hfz32_2 := blk_frozen BK548.out 2; have hfz32_3 := blk_frozen BK548.out 3; have hfz32_4 := blk_frozen BK548.out 4; have hcz33_0 : w30.cell? ⟨gb549, 0, none⟩ = some (.string a1_0) := (blk_cell BK549.out 0).trans rfl; have hcz33_1 : w30.cell? ⟨gb549, 1, none⟩ = some (.int .i64 a1_1) := (blk_cell BK549.out 1).trans rfl; have hcz33_2 : w30.cell? ⟨gb549, 2, none⟩ = some (.bool a1_2) := (blk_cell BK549.out 2).trans rfl; have hcz33_3 : w30.cell? ⟨gb549, 3, none⟩ = some (.int .i64 a1_3) := (blk_cell BK549.out 3).trans rfl; have hcz33_4 : w30.cell? ⟨gb549, 4, none⟩ = some (.slice A1_4 l1_4.length c1_4) := (blk_cell BK549.out 4).trans rfl; have hfz33_0 := blk_frozen BK549.out 0; have hfz33_1 := blk_frozen BK549.out 1; have hfz33_2 := blk_frozen BK549.out 2; have hfz33_3 := blk_frozen BK549.out 3; have hfz33_4 := blk_frozen BK549.out 4))
     go_ret
     exact ⟨by first | rfl | (simp [errW_none, errW_some] <;> rfl) | (simp [*, errW_none, errW_some] <;> rfl), by repeat (first | (with_reducible first | exact HB.out | apply below_alloc | apply pw_below_drewN | apply below_drew1 | refine below_set ?_ GE548.out | refine below_set ?_ GE549.out) | exact HB.out)⟩
 · rw [if_neg c3] at H
   have c3b0 : (a0_0.toList == a1_0.toList) = false := beq_eq_false_iff_ne.mpr c3
   have c3b1 : (a0_0.toList != a1_0.toList) = true := bne_iff_ne.mpr c3
   obtain rfl := Option.some.inj H
   go_enter Tryd.func95, Tryd.ntmps95
   go_wp2_with (first | ((with_reducible refine gate_dst (N := 2) rfl ?_); refine box_event ?hg (N := 2) ?hd (cs := #[.string a0_0, .int .i64 a0_1, .bool a0_2, .int .i64 a0_3, .slice A0_4 l0_4.length c0_4]) (t := 127) ?hr ?_; (case hd => rfl); (case hg => rfl); (case hr => first | (go_simp; done) | (go_simp; rfl)); intro gb548 hg w34 hbox hb; have n0_ := Aside0.mk (below_step (by repeat (first | (with_reducible first | exact HB.out | apply below_alloc | apply pw_below_drewN | apply below_drew1) | exact HB.out)) hb); have n1_ := Aside0.mk (hbox); have n2_ := Aside0.mk ((by rw [hg]; exact (below_size (by repeat (first | (with_reducible first | exact HB.out | apply below_alloc | apply pw_below_drewN | apply below_drew1) | exact HB.out))) : w.heap.size ≤ gb548)); have n3_ := Aside0.mk ((by rw [hg]; exact (below_size (by repeat (first | (with_reducible first | exact HB.out | apply below_alloc | apply pw_below_drewN | apply below_drew1) | exact HB.out))) : w.heap.size ≤ gb548)); clear HB; have HB := n0_; have BK548 := n1_; have GW548 := n2_; have GE548 := n3_; clear n0_ n1_ n2_ n3_; clear hb hbox hg) | ((with_reducible refine gate_dst (N := 3) rfl ?_); refine box_event ?hg (N := 3) ?hd (cs := #[.string a1_0, .int .i64 a1_1, .bool a1_2, .int .i64 a1_3, .slice A1_4 l1_4.length c1_4]) (t := 127) ?hr ?_; (case hd => rfl); (case hg => rfl); (case hr => first | (go_simp; done) | (go_simp; rfl)); intro gb549 hg w35 hbox hb; have n0_ := Aside0.mk (blk_below (g := gb548) (o := .cells #[.string a0_0, .int .i64 a0_1, .bool a0_2, .int .i64 a0_3, .slice A0_4 l0_4.length c0_4] 127 (0, 0)) (by (with_reducible repeat (first | refine blk_drewN ?_ _ | refine blk_drew ?_ | refine blk_alloc ?_ _)); exact BK548.out) hb); have n1_ := Aside0.mk (below_step (by repeat (first | (with_reducible first | exact HB.out | apply below_alloc | apply pw_below_drewN | apply below_drew1 | refine below_set ?_ GE548.out) | exact HB.out)) hb); have n2_ := Aside0.mk (hbox); have n3_ := Aside0.mk ((by rw [hg]; exact (below_size (by repeat (first | (with_reducible first | exact HB.out | apply below_alloc | apply pw_below_drewN | apply below_drew1 | refine below_set ?_ GE548.out) | exact HB.out))) : w.heap.size ≤ gb549)); have n4_ := Aside0.mk ((by rw [hg]; exact (below_size (by repeat (first | (with_reducible first | exact HB.out | apply below_alloc | apply pw_below_drewN | apply below_drew1 | refine below_set ?_ GE548.out) | exact HB.out))) : w.heap.size ≤ gb549)); have n5_ := Aside0.mk ((by rw [hg]; exact Nat.ne_of_lt (blk_lt (g := gb548) (o := .cells #[.string a0_0, .int .i64 a0_1, .bool a0_2, .int .i64 a0_3, .slice A0_4 l0_4.length c0_4] 127 (0, 0)) (by (with_reducible repeat (first | refine blk_drewN ?_ _ | refine blk_drew ?_ | refine blk_alloc ?_ _)); exact BK548.out)) : gb548 ≠ gb549)); have n6_ := Aside0.mk ((by rw [hg]; exact Nat.ne_of_gt (blk_lt (g := gb548) (o := .cells #[.string a0_0, .int .i64 a0_1, .bool a0_2, .int .i64 a0_3, .slice A0_4 l0_4.length c0_4] 127 (0, 0)) (by (with_reducible repeat (first | refine blk_drewN ?_ _ | refine blk_drew ?_ | refine blk_alloc ?_ _)); exact BK548.out)) : gb549 ≠ gb548)); clear BK548; clear HB; have BK548 := n0_; have HB := n1_; have BK549 := n2_; have GW549 := n3_; have GE549 := n4_; have NB548_549 := n5_; have NB549_548 := n6_; clear n0_ n1_ n2_ n3_ n4_ n5_ n6_; clear hb hbox hg; have hnb36 := NB548_549.out; have hnc36 := NB549_548.out; have hcz37_0 : w35.cell? ⟨gb548, 0, none⟩ = some (.string a0_0) := (blk_cell BK548.out 0).trans rfl; have hcz37_1 : w35.cell? ⟨gb548, 1, none⟩ = some (.int .i64 a0_1) := (blk_cell BK548.out 1).trans rfl; have hcz37_2 : w35.cell? ⟨gb548, 2, none⟩ = some (.bool a0_2) := (blk_cell BK548.out 2).trans rfl; have hcz37_3 : w35.cell? ⟨gb548, 3, none⟩ = some (.int .i64 a0_3) := (blk_cell BK548.out 3).trans rfl; have hcz37_4 : w35.cell? ⟨gb548, 4, none⟩ = some (.slice A0_4 l0_4.length c0_4) := (blk_cell BK548.out 4).trans rfl; have hfz37_0 := blk_frozen BK548.out 0; have hfz37_1 := blk_frozen BK548.out 1; have hfz37_2 := blk_frozen BK548.out 2; have hfz37_3 := blk_frozen BK548.out 3; have hfz37_4 := blk_frozen BK548.out 4; have hcz38_0 : w35.cell? ⟨gb549, 0, none⟩ = some (.string a1_0) := (blk_cell BK549.out 0).trans rfl; have hcz38_1 : w35.cell? ⟨gb549, 1, none⟩ = some (.int .i64 a1_1) := (blk_cell BK549.out 1).trans rfl; have hcz38_2 : w35.cell? ⟨gb549, 2, none⟩ = some (.bool a1_2) := (blk_cell BK549.out 2).trans rfl; have hcz38_3 : w35.cell? ⟨gb549, 3, none⟩ = some (.int .i64 a1_3) := (blk_cell BK549.out 3).trans rfl; have hcz38_4 : w35.cell? ⟨gb549, 4, none⟩ = some (.slice A1_4 l1_4.length c1_4) := (blk_cell BK549.out 4).trans rfl; have hfz38_0 := blk_frozen BK549.out 0; have hfz38_1 := blk_frozen BK549.out 1; have hfz38_2 := blk_frozen BK549.out 2; have hfz38_3 := blk_frozen BK549.out 3; have hfz38_4 := blk_frozen BK549.out 4))
   go_ret
   exact ⟨by first | rfl | (simp [errW_none, errW_some] <;> rfl) | (simp [*, errW_none, errW_some] <;> rfl), by repeat (first | (with_reducible first | exact HB.out | apply below_alloc | apply pw_below_drewN | apply below_drew1 | refine below_set ?_ GE548.out | refine below_set ?_ GE549.out) | exact HB.out)⟩

end Go.Proofs.YtkohjiajbdkcbaaDoor.All


namespace Go.Proofs.YtkohjiajbdkcbaaDoor.All
open Go.RowKit Go.Proofs.YtkohjiajbdkcbaaDoorW.PrintWords Go.Proofs.YtkohjiajbdkcbaaDoorW.PrintLast Go.Proofs.YtkohjiajbdkcbaaDoorW.PrintMore
attribute [local go_sem] max2_int min2_int max_two min_two max_three min_three max_four min_four   -- for this text's walks alone
set_option linter.unusedVariables false
set_option linter.unusedSimpArgs false

/-! ### laws_eqGlobalS: function 74 -/
def laws_eqGlobalS.l0 : Nat → List (S127) → List (S127) → Int → Option (Bool)
 | 0, _, _, _ => none
 | k + 1, x0, x1, x5 => if x5 < (x0.length : Int) then (if 0 ≤ x5 then (if x5 < (x1.length : Int) then ((laws_eqGlobal.f k ((rd_T127 x0 x5).f0) ((rd_T127 x0 x5).f1) ((rd_T127 x0 x5).f2) ((rd_T127 x0 x5).f3) ((rd_T127 x0 x5).f4) ((rd_T127 x1 x5).f0) ((rd_T127 x1 x5).f1) ((rd_T127 x1 x5).f2) ((rd_T127 x1 x5).f3) ((rd_T127 x1 x5).f4)).bind fun t553 => (if t553 = true then (laws_eqGlobalS.l0 k x0 x1 (wrap64 (x5 + 1))) else (some false))) else (none)) else (none)) else (some true)
def laws_eqGlobalS.f (k : Nat) (l0 : List (S127)) (l1 : List (S127)) : Option (Bool) := if (l0.length : Int) = (l1.length : Int) then (laws_eqGlobalS.l0 k l0 l1 0) else (some false)
def laws_eqGlobalS.T6 : Bool × List (List Nat × List Nat) := (true, [([], []), ([], []), ([0, 1], [0, 1]), ([2], [2]), ([], []), ([], []), ([4, 5], [4, 5]), ([6], [6]), ([3, 7], [3, 7]), ([8], [8])])
def laws_eqGlobalS.B6 : List Nat := [0, 0, 3, 7, 0, 0, 48, 112, 255, 511]
theorem laws_eqGlobalS.tab6 : rtab .any (opsOf Tryd.f74 6) = laws_eqGlobalS.T6 := by kernel_rfl
theorem laws_eqGlobalS.bits6 : waitsOk laws_eqGlobalS.T6.2 laws_eqGlobalS.B6 = true := by kernel_rfl
set_option maxHeartbeats 8000000 in
set_option maxRecDepth 100000 in
theorem laws_eqGlobalS.calls (k : Nat) (A0 : Option Addr) (c0 : Nat) (l0 : List (S127)) (A1 : Option Addr) (c1 : Nat) (l1 : List (S127)) (r : Bool) (w : World) (hr0 : Kd.C k127 w A0 l0.length l0) (hc0 : l0.length ≤ c0) (hr1 : Kd.C k127 w A1 l1.length l1) (hc1 : l1.length ≤ c1) (h : laws_eqGlobalS.f k l0 l1 = some r) :
 Calls Tryd.prog 74 #[.slice A0 l0.length c0, .slice A1 l1.length c1] w fun e w' => e = .returned (.bool r) ∧ Below w.heap.size w w' := by
 have hu127 := Tryd.underlying127
 have HR0 := Aside0.mk hr0
 have HC0 := Aside0.mk hc0
 clear hr0 hc0
 have HR1 := Aside0.mk hr1
 have HC1 := Aside0.mk hc1
 clear hr1 hc1
 have HB := Aside0.mk (Below.refl w.heap.size w)
 have H : (if (l0.length : Int) = (l1.length : Int) then (laws_eqGlobalS.l0 k l0 l1 0) else (some false)) = some r := h
 clear h
 by_cases c3 : (l0.length : Int) = (l1.length : Int)
 · rw [if_pos c3] at H
   have c3b0 : ((l0.length : Int) == (l1.length : Int)) = true := beq_iff_eq.mpr c3
   have c3b1 : ((l0.length : Int) != (l1.length : Int)) = false := bne_eq_false_iff_eq.mpr c3
   have c3b2 : (l0.length == l1.length) = true := by first | simpa using c3 | (simp at c3 ⊢; omega)
   clear c3
   have H' := Aside0.mk H
   clear H
   go_enter Tryd.func74, Tryd.ntmps74
   go_wp2
   go_loopg [5] k (fun kq v5 w' => ∃ (x5_1 : Int), v5 = .int .i64 x5_1 ∧ Aside0 (laws_eqGlobalS.l0 kq l0 l1 x5_1 = some r) ∧ Aside0 (kq ≤ k) ∧ Aside0 (Below w.heap.size w w'))
   case atStart => exact ⟨(0), (by first | rfl | (simp; done) | (simp [*]; done)), H', ⟨Nat.le_refl _⟩, ⟨by repeat (first | (with_reducible first | exact HB.out | apply below_alloc | apply pw_below_drewN | apply below_drew1) | exact HB.out)⟩⟩
   case round =>
    clear H'
    try clear c1
    try clear p2
    try clear c3
    try clear c3b0
    try clear c3b1
    try clear c3b2
    obtain ⟨x5_1, rfl, HA, HK1, HB⟩ := hrel
    cases gk with
    | zero => exact absurd HA.out (by simp [laws_eqGlobalS.l0])
    | succ k1 =>
     have H := HA.out
     clear HA
     simp only [laws_eqGlobalS.l0] at H
     by_cases c4 : x5_1 < (l0.length : Int)
     · rw [if_pos c4] at H
       have c4b0 : decide (x5_1 < (l0.length : Int)) = true := decide_eq_true c4
       clear c4
       by_cases c5 : 0 ≤ x5_1
       · rw [if_pos c5] at H
         have c5b0 : decide (0 ≤ x5_1) = true := decide_eq_true c5
         clear c5
         by_cases c6 : x5_1 < (l1.length : Int)
         · rw [if_pos c6] at H
           have c6b0 : decide (x5_1 < (l1.length : Int)) = true := decide_eq_true c6
           clear c6
           replace H := Option.bind_eq_some_iff.mp H
           obtain ⟨t553, A70, H⟩ := H
           replace H : (if t553 = true then (laws_eqGlobalS.l0 k1 l0 l1 (wrap64 (x5_1 + 1))) else (some false)) = some r := H
           have A7 := Aside0.mk A70
           clear A70
           by_cases c8 : t553 = true
           · subst c8
             have H1 : (laws_eqGlobalS.l0 k1 l0 l1 (wrap64 (x5_1 + 1))) = some r := by rw [if_pos rfl] at H; exact H
             clear H
             have H := H1
             clear H1
             have H' := Aside0.mk H
             clear H
             try go_wp2
             have n0_ := Aside0.mk (below_drew1 HB.out)
             clear HB
             have HB := n0_
             clear n0_
             have p551 : 0 ≤ (x5_1 : Int) := of_decide_eq_true (by first | (with_reducible assumption) | assumption)
             have q551 : x5_1 < (l0.length : Int) := of_decide_eq_true (by first | (with_reducible assumption) | assumption)
             obtain ⟨ad551, A551_4, c551_4, e551, hx551_0, hx551_1, hx551_2, hx551_3, hx551_4, hl551_4, hi551_4⟩ := at_T127 HR0.out x5_1 p551 q551
             have hw551_4 := hx551_4
             have hw551_3 := hx551_3
             have hw551_2 := hx551_2
             have hw551_1 := hx551_1
             have hw551_0 := hx551_0
             cases e551
             replace hx551_0 := (HB.out.cell (World.block_lt_of_cell? w _ hx551_0)).trans hx551_0
             replace hx551_1 := (HB.out.cell (World.block_lt_of_cell? w _ hx551_1)).trans hx551_1
             replace hx551_2 := (HB.out.cell (World.block_lt_of_cell? w _ hx551_2)).trans hx551_2
             replace hx551_3 := (HB.out.cell (World.block_lt_of_cell? w _ hx551_3)).trans hx551_3
             replace hx551_4 := (HB.out.cell (World.block_lt_of_cell? w _ hx551_4)).trans hx551_4
             have HR551_4 := Aside0.mk hi551_4
             have HC551_4 := Aside0.mk hl551_4
             clear hi551_4 hl551_4
             replace p551 := eq_true p551
             replace q551 := eq_true q551
             have p552 : 0 ≤ (x5_1 : Int) := of_decide_eq_true (by first | (with_reducible assumption) | assumption)
             have q552 : x5_1 < (l1.length : Int) := of_decide_eq_true (by first | (with_reducible assumption) | assumption)
             obtain ⟨ad552, A552_4, c552_4, e552, hx552_0, hx552_1, hx552_2, hx552_3, hx552_4, hl552_4, hi552_4⟩ := at_T127 HR1.out x5_1 p552 q552
             have hw552_4 := hx552_4
             have hw552_3 := hx552_3
             have hw552_2 := hx552_2
             have hw552_1 := hx552_1
             have hw552_0 := hx552_0
             cases e552
             replace hx552_0 := (HB.out.cell (World.block_lt_of_cell? w _ hx552_0)).trans hx552_0
             replace hx552_1 := (HB.out.cell (World.block_lt_of_cell? w _ hx552_1)).trans hx552_1
             replace hx552_2 := (HB.out.cell (World.block_lt_of_cell? w _ hx552_2)).trans hx552_2
             replace hx552_3 := (HB.out.cell (World.block_lt_of_cell? w _ hx552_3)).trans hx552_3
             replace hx552_4 := (HB.out.cell (World.block_lt_of_cell? w _ hx552_4)).trans hx552_4
             have HR552_4 := Aside0.mk hi552_4
             have HC552_4 := Aside0.mk hl552_4
             clear hi552_4 hl552_4
             replace p552 := eq_true p552
             replace q552 := eq_true q552
             refine start_ (n := 10) (S := fun w' => w'.cell? (ad551.add ((x5_1).toNat * 5)) = some (.string ((rd_T127 l0 x5_1).f0)) ∧ w'.cell? ⟨(ad551.add ((x5_1).toNat * 5)).block, (ad551.add ((x5_1).toNat * 5)).off + 1, none⟩ = some (.int .i64 ((rd_T127 l0 x5_1).f1)) ∧ w'.cell? ⟨(ad551.add ((x5_1).toNat * 5)).block, (ad551.add ((x5_1).toNat * 5)).off + 2, none⟩ = some (.bool ((rd_T127 l0 x5_1).f2)) ∧ w'.cell? ⟨(ad551.add ((x5_1).toNat * 5)).block, (ad551.add ((x5_1).toNat * 5)).off + 3, none⟩ = some (.int .i64 ((rd_T127 l0 x5_1).f3)) ∧ w'.cell? ⟨(ad551.add ((x5_1).toNat * 5)).block, (ad551.add ((x5_1).toNat * 5)).off + 4, none⟩ = some (.slice A551_4 ((rd_T127 l0 x5_1).f4).length c551_4) ∧ w'.cell? (ad552.add ((x5_1).toNat * 5)) = some (.string ((rd_T127 l1 x5_1).f0)) ∧ w'.cell? ⟨(ad552.add ((x5_1).toNat * 5)).block, (ad552.add ((x5_1).toNat * 5)).off + 1, none⟩ = some (.int .i64 ((rd_T127 l1 x5_1).f1)) ∧ w'.cell? ⟨(ad552.add ((x5_1).toNat * 5)).block, (ad552.add ((x5_1).toNat * 5)).off + 2, none⟩ = some (.bool ((rd_T127 l1 x5_1).f2)) ∧ w'.cell? ⟨(ad552.add ((x5_1).toNat * 5)).block, (ad552.add ((x5_1).toNat * 5)).off + 3, none⟩ = some (.int .i64 ((rd_T127 l1 x5_1).f3)) ∧ w'.cell? ⟨(ad552.add ((x5_1).toNat * 5)).block, (ad552.add ((x5_1).toNat * 5)).off + 4, none⟩ = some (.slice A552_4 ((rd_T127 l1 x5_1).f4).length c552_4)) (ds := []) #[false, false, false, false, false, false, false, false, false, false] (by kernel_rfl) rfl rfl ⟨((HB.out.cell (World.block_lt_of_cell? w _ hw551_0)).trans hw551_0), ((HB.out.cell (World.block_lt_of_cell? w _ hw551_1)).trans hw551_1), ((HB.out.cell (World.block_lt_of_cell? w _ hw551_2)).trans hw551_2), ((HB.out.cell (World.block_lt_of_cell? w _ hw551_3)).trans hw551_3), ((HB.out.cell (World.block_lt_of_cell? w _ hw551_4)).trans hw551_4), ((HB.out.cell (World.block_lt_of_cell? w _ hw552_0)).trans hw552_0), ((HB.out.cell (World.block_lt_of_cell? w _ hw552_1)).trans hw552_1), ((HB.out.cell (World.block_lt_of_cell? w _ hw552_2)).trans hw552_2), ((HB.out.cell (World.block_lt_of_cell? w _ hw552_3)).trans hw552_3), ((HB.out.cell (World.block_lt_of_cell? w _ hw552_4)).trans hw552_4)⟩ (fun hHeld => ?_); refine with_tabW laws_eqGlobalS.tab6 laws_eqGlobalS.bits6 (fun HT_ HW_ => ?_)
             generalize wr.drew = w9 at HB HR551_4 HR552_4 hx551_0 hx551_1 hx551_2 hx551_3 hx551_4 hx552_0 hx552_1 hx552_2 hx552_3 hx552_4 hHeld ⊢
             refine pure_ (i := 0) (N := some 17) (v := ?_) (a' := ?_) #[true, false, false, false, false, false, false, false, false, false] rfl rfl (any_of HT_.out (by kernel_rfl)) (fun _ _ _ h => h) (Or.inl ⟨by rfl, ?_⟩) ?_ ?_
             rotate_left
             · intro w'
               go_simp
               with_reducible rfl
             rotate_left
             · simp only [Act.put, List.setIfInBounds_toArray, List.set_cons_zero, List.set_cons_succ, i64_w, i32_w]
               rfl
             refine pure_ (i := 1) (N := some 18) (v := ?_) (a' := ?_) #[true, true, false, false, false, false, false, false, false, false] rfl rfl (any_of HT_.out (by kernel_rfl)) (fun _ _ _ h => h) (Or.inl ⟨by rfl, ?_⟩) ?_ ?_
             rotate_left
             · intro w'
               go_simp
               with_reducible rfl
             rotate_left
             · simp only [Act.put, List.setIfInBounds_toArray, List.set_cons_zero, List.set_cons_succ, i64_w, i32_w]
               rfl
             refine pure_ (i := 2) (N := some 19) (v := ?_) (a' := ?_) #[true, true, true, false, false, false, false, false, false, false] rfl rfl (any_of HT_.out (by kernel_rfl)) (fun _ _ _ h => h) (Or.inl ⟨by rfl, ?_⟩) ?_ ?_
             rotate_left
             · intro w'
               go_simp
               with_reducible rfl
             rotate_left
             · simp only [Act.put, List.setIfInBounds_toArray, List.set_cons_zero, List.set_cons_succ, i64_w, i32_w]
               rfl
             refine pure_ (i := 4) (N := some 21) (v := ?_) (a' := ?_) #[true, true, true, false, true, false, false, false, false, false] rfl rfl (any_of HT_.out (by kernel_rfl)) (fun _ _ _ h => h) (Or.inl ⟨by rfl, ?_⟩) ?_ ?_
             rotate_left
             · intro w'
               go_simp
               with_reducible rfl
             rotate_left
             · simp only [Act.put, List.setIfInBounds_toArray, List.set_cons_zero, List.set_cons_succ, i64_w, i32_w]
               rfl
             refine pure_ (i := 5) (N := some 22) (v := ?_) (a' := ?_) #[true, true, true, false, true, true, false, false, false, false] rfl rfl (any_of HT_.out (by kernel_rfl)) (fun _ _ _ h => h) (Or.inl ⟨by rfl, ?_⟩) ?_ ?_
             rotate_left
             · intro w'
               go_simp
               with_reducible rfl
             rotate_left
             · simp only [Act.put, List.setIfInBounds_toArray, List.set_cons_zero, List.set_cons_succ, i64_w, i32_w]
               rfl
             refine pure_ (i := 6) (N := some 23) (v := ?_) (a' := ?_) #[true, true, true, false, true, true, true, false, false, false] rfl rfl (any_of HT_.out (by kernel_rfl)) (fun _ _ _ h => h) (Or.inl ⟨by rfl, ?_⟩) ?_ ?_
             rotate_left
             · intro w'
               go_simp
               with_reducible rfl
             rotate_left
             · simp only [Act.put, List.setIfInBounds_toArray, List.set_cons_zero, List.set_cons_succ, i64_w, i32_w]
               rfl
             refine take_ (i := 3) (N := some 20) (v := ?_) (a' := ?_) #[true, true, true, true, true, true, true, false, false, false] rfl rfl (take_ofW HT_.out HW_.out (by kernel_rfl)) (fun _ _ _ h => h) (Or.inl ⟨by rfl, ?_⟩) hHeld ?_ ?_
             rotate_left
             · rintro w' ⟨s0, s1, s2, s3, s4, s5, s6, s7, s8, s9⟩
               go_simp
               with_reducible rfl
             rotate_left
             · simp only [Act.put, List.setIfInBounds_toArray, List.set_cons_zero, List.set_cons_succ, i64_w, i32_w]
               rfl
             refine take_ (i := 7) (N := some 24) (v := ?_) (a' := ?_) #[true, true, true, true, true, true, true, true, false, false] rfl rfl (take_ofW HT_.out HW_.out (by kernel_rfl)) (fun _ _ _ h => h) (Or.inl ⟨by rfl, ?_⟩) hHeld ?_ ?_
             rotate_left
             · rintro w' ⟨s0, s1, s2, s3, s4, s5, s6, s7, s8, s9⟩
               go_simp
               with_reducible rfl
             rotate_left
             · simp only [Act.put, List.setIfInBounds_toArray, List.set_cons_zero, List.set_cons_succ, i64_w, i32_w]
               rfl
             refine one_ (i := 8) (N := some 25) #[true, true, true, true, true, true, true, true, true, false] rfl rfl (one_of HT_.out (by kernel_rfl)) (by decide) (fun K hK => ?_)
             refine goes_ Tryd.func95 (by kernel_rfl) rfl #[.agg #[.string ((rd_T127 l0 x5_1).f0), .int .i64 ((rd_T127 l0 x5_1).f1), .bool ((rd_T127 l0 x5_1).f2), .int .i64 ((rd_T127 l0 x5_1).f3), .slice A551_4 ((rd_T127 l0 x5_1).f4).length c551_4], .agg #[.string ((rd_T127 l1 x5_1).f0), .int .i64 ((rd_T127 l1 x5_1).f1), .bool ((rd_T127 l1 x5_1).f2), .int .i64 ((rd_T127 l1 x5_1).f3), .slice A552_4 ((rd_T127 l1 x5_1).f4).length c552_4]] (by rfl) rfl rfl (by (try simp only [List.map_toArray, List.map_cons, List.map_nil]); first | done | rfl | (simp only [List.length_drop, List.length_take]; rfl)) ?_
             with_reducible refine (laws_eqGlobal.calls k1 ((rd_T127 l0 x5_1).f0) ((rd_T127 l0 x5_1).f1) ((rd_T127 l0 x5_1).f2) ((rd_T127 l0 x5_1).f3) _ _ ((rd_T127 l0 x5_1).f4) ((rd_T127 l1 x5_1).f0) ((rd_T127 l1 x5_1).f1) ((rd_T127 l1 x5_1).f2) ((rd_T127 l1 x5_1).f3) _ _ ((rd_T127 l1 x5_1).f4) true _ ?side1 ?side2 ?side3 ?side4 A7.out).mono ?_
             (case side1 => repeat (first | exact (Kd.C_below HR551_4.out HB.out) | (with_reducible refine Kd.C_alloc ?_ _) | (with_reducible refine Kd.C_drewN ?_ _) | (with_reducible refine Kd.C_drew ?_)))
             (case side2 => exact HC551_4.out)
             (case side3 => repeat (first | exact (Kd.C_below HR552_4.out HB.out) | (with_reducible refine Kd.C_alloc ?_ _) | (with_reducible refine Kd.C_drewN ?_ _) | (with_reducible refine Kd.C_drew ?_)))
             (case side4 => exact HC552_4.out)
             rintro e w10 ⟨rfl, hb⟩
             refine ⟨_, rfl, ?_⟩
             have n0_ := Aside0.mk (below_step (by repeat (first | (with_reducible first | exact HB.out | apply below_alloc | apply pw_below_drewN | apply below_drew1) | exact HB.out)) hb)
             clear HB
             have HB := n0_
             clear n0_
             (try clear hb)
             (try clear hb2)
             (try clear hk)
             (try clear hi)
             refine hK.out _ _ ⟨((HB.out.cell (World.block_lt_of_cell? w _ hw551_0)).trans hw551_0), ((HB.out.cell (World.block_lt_of_cell? w _ hw551_1)).trans hw551_1), ((HB.out.cell (World.block_lt_of_cell? w _ hw551_2)).trans hw551_2), ((HB.out.cell (World.block_lt_of_cell? w _ hw551_3)).trans hw551_3), ((HB.out.cell (World.block_lt_of_cell? w _ hw551_4)).trans hw551_4), ((HB.out.cell (World.block_lt_of_cell? w _ hw552_0)).trans hw552_0), ((HB.out.cell (World.block_lt_of_cell? w _ hw552_1)).trans hw552_1), ((HB.out.cell (World.block_lt_of_cell? w _ hw552_2)).trans hw552_2), ((HB.out.cell (World.block_lt_of_cell? w _ hw552_3)).trans hw552_3), ((HB.out.cell (World.block_lt_of_cell? w _ hw552_4)).trans hw552_4)⟩ (fun hHeld => ?_)
             clear hK K
             refine norm_ (a' := ?_) ?_ ?_
             rotate_left
             · show Act.put _ (some 25) _ = _
               simp only [Act.put, List.setIfInBounds_toArray, List.set_cons_zero, List.set_cons_succ, i64_w, i32_w]
               rfl
             refine pure_ (i := 9) (N := some 26) (v := ?_) (a' := ?_) #[true, true, true, true, true, true, true, true, true, true] rfl rfl (any_of HT_.out (by kernel_rfl)) (fun _ _ _ h => h) (Or.inl ⟨by rfl, ?_⟩) ?_ ?_
             rotate_left
             · intro w'
               go_simp
               with_reducible rfl
             rotate_left
             · simp only [Act.put, List.setIfInBounds_toArray, List.set_cons_zero, List.set_cons_succ, i64_w, i32_w]
               rfl
             refine done_ (done_of HT_.out (by kernel_rfl)) ?_
             try go_wp2
             go_roundg k1
             case measure => have := HK1.out; omega
             case rel => exact ⟨(wrap64 (x5_1 + 1)), (by first | rfl | (simp; done) | (simp [*]; done)), H', ⟨by have := HK1.out; omega⟩, ⟨by repeat (first | (with_reducible first | exact HB.out | apply below_alloc | apply pw_below_drewN | apply below_drew1) | exact HB.out)⟩⟩
           · replace c8 := Bool.eq_false_iff.mpr c8
             subst c8
             have H1 : (some false) = some r := by rw [if_neg (show ¬ (false = true) by decide)] at H; exact H
             clear H
             have H := H1
             clear H1
             obtain rfl := Option.some.inj H
             try go_wp2
             have n0_ := Aside0.mk (below_drew1 HB.out)
             clear HB
             have HB := n0_
             clear n0_
             have p551 : 0 ≤ (x5_1 : Int) := of_decide_eq_true (by first | (with_reducible assumption) | assumption)
             have q551 : x5_1 < (l0.length : Int) := of_decide_eq_true (by first | (with_reducible assumption) | assumption)
             obtain ⟨ad551, A551_4, c551_4, e551, hx551_0, hx551_1, hx551_2, hx551_3, hx551_4, hl551_4, hi551_4⟩ := at_T127 HR0.out x5_1 p551 q551
             have hw551_4 := hx551_4
             have hw551_3 := hx551_3
             have hw551_2 := hx551_2
             have hw551_1 := hx551_1
             have hw551_0 := hx551_0
             cases e551
             replace hx551_0 := (HB.out.cell (World.block_lt_of_cell? w _ hx551_0)).trans hx551_0
             replace hx551_1 := (HB.out.cell (World.block_lt_of_cell? w _ hx551_1)).trans hx551_1
             replace hx551_2 := (HB.out.cell (World.block_lt_of_cell? w _ hx551_2)).trans hx551_2
             replace hx551_3 := (HB.out.cell (World.block_lt_of_cell? w _ hx551_3)).trans hx551_3
             replace hx551_4 := (HB.out.cell (World.block_lt_of_cell? w _ hx551_4)).trans hx551_4
             have HR551_4 := Aside0.mk hi551_4
             have HC551_4 := Aside0.mk hl551_4
             clear hi551_4 hl551_4
             replace p551 := eq_true p551
             replace q551 := eq_true q551
             have p552 : 0 ≤ (x5_1 : Int) := of_decide_eq_true (by first | (with_reducible assumption) | assumption)
             have q552 : x5_1 < (l1.length : Int) := of_decide_eq_true (by first | (with_reducible assumption) | assumption)
             obtain ⟨ad552, A552_4, c552_4, e552, hx552_0, hx552_1, hx552_2, hx552_3, hx552_4, hl552_4, hi552_4⟩ := at_T127 HR1.out x5_1 p552 q552
             have hw552_4 := hx552_4
             have hw552_3 := hx552_3
             have hw552_2 := hx552_2
             have hw552_1 := hx552_1
             have hw552_0 := hx552_0
             cases e552
             replace hx552_0 := (HB.out.cell (World.block_lt_of_cell? w _ hx552_0)).trans hx552_0
             replace hx552_1 := (HB.out.cell (World.block_lt_of_cell? w _ hx552_1)).trans hx552_1
             replace hx552_2 := (HB.out.cell (World.block_lt_of_cell? w _ hx552_2)).trans hx552_2
             replace hx552_3 := (HB.out.cell (World.block_lt_of_cell? w _ hx552_3)).trans hx552_3
             replace hx552_4 := (HB.out.cell (World.block_lt_of_cell? w _ hx552_4)).trans hx552_4
             have HR552_4 := Aside0.mk hi552_4
             have HC552_4 := Aside0.mk hl552_4
             clear hi552_4 hl552_4
             replace p552 := eq_true p552
             replace q552 := eq_true q552
             refine start_ (n := 10) (S := fun w' => w'.cell? (ad551.add ((x5_1).toNat * 5)) = some (.string ((rd_T127 l0 x5_1).f0)) ∧ w'.cell? ⟨(ad551.add ((x5_1).toNat * 5)).block, (ad551.add ((x5_1).toNat * 5)).off + 1, none⟩ = some (.int .i64 ((rd_T127 l0 x5_1).f1)) ∧ w'.cell? ⟨(ad551.add ((x5_1).toNat * 5)).block, (ad551.add ((x5_1).toNat * 5)).off + 2, none⟩ = some (.bool ((rd_T127 l0 x5_1).f2)) ∧ w'.cell? ⟨(ad551.add ((x5_1).toNat * 5)).block, (ad551.add ((x5_1).toNat * 5)).off + 3, none⟩ = some (.int .i64 ((rd_T127 l0 x5_1).f3)) ∧ w'.cell? ⟨(ad551.add ((x5_1).toNat * 5)).block, (ad551.add ((x5_1).toNat * 5)).off + 4, none⟩ = some (.slice A551_4 ((rd_T127 l0 x5_1).f4).length c551_4) ∧ w'.cell? (ad552.add ((x5_1).toNat * 5)) = some (.string ((rd_T127 l1 x5_1).f0)) ∧ w'.cell? ⟨(ad552.add ((x5_1).toNat * 5)).block, (ad552.add ((x5_1).toNat * 5)).off + 1, none⟩ = some (.int .i64 ((rd_T127 l1 x5_1).f1)) ∧ w'.cell? ⟨(ad552.add ((x5_1).toNat * 5)).block, (ad552.add ((x5_1).toNat * 5)).off + 2, none⟩ = some (.bool ((rd_T127 l1 x5_1).f2)) ∧ w'.cell? ⟨(ad552.add ((x5_1).toNat * 5)).block, (ad552.add ((x5_1).toNat * 5)).off + 3, none⟩ = some (.int .i64 ((rd_T127 l1 x5_1).f3)) ∧ w'.cell? ⟨(ad552.add ((x5_1).toNat * 5)).block, (ad552.add ((x5_1).toNat * 5)).off + 4, none⟩ = some (.slice A552_4 ((rd_T127 l1 x5_1).f4).length c552_4)) (ds := []) #[false, false, false, false, false, false, false, false, false, false] (by kernel_rfl) rfl rfl ⟨((HB.out.cell (World.block_lt_of_cell? w _ hw551_0)).trans hw551_0), ((HB.out.cell (World.block_lt_of_cell? w _ hw551_1)).trans hw551_1), ((HB.out.cell (World.block_lt_of_cell? w _ hw551_2)).trans hw551_2), ((HB.out.cell (World.block_lt_of_cell? w _ hw551_3)).trans hw551_3), ((HB.out.cell (World.block_lt_of_cell? w _ hw551_4)).trans hw551_4), ((HB.out.cell (World.block_lt_of_cell? w _ hw552_0)).trans hw552_0), ((HB.out.cell (World.block_lt_of_cell? w _ hw552_1)).trans hw552_1), ((HB.out.cell (World.block_lt_of_cell? w _ hw552_2)).trans hw552_2), ((HB.out.cell (World.block_lt_of_cell? w _ hw552_3)).trans hw552_3), ((HB.out.cell (World.block_lt_of_cell? w _ hw552_4)).trans hw552_4)⟩ (fun hHeld => ?_); refine with_tabW laws_eqGlobalS.tab6 laws_eqGlobalS.bits6 (fun HT_ HW_ => ?_)
             generalize wr.drew = w11 at HB HR551_4 HR552_4 hx551_0 hx551_1 hx551_2 hx551_3 hx551_4 hx552_0 hx552_1 hx552_2 hx552_3 hx552_4 hHeld ⊢
             refine pure_ (i := 0) (N := some 17) (v := ?_) (a' := ?_) #[true, false, false, false, false, false, false, false, false, false] rfl rfl (any_of HT_.out (by kernel_rfl)) (fun _ _ _ h => h) (Or.inl ⟨by rfl, ?_⟩) ?_ ?_
             rotate_left
             · intro w'
               go_simp
               with_reducible rfl
             rotate_left
             · simp only [Act.put, List.setIfInBounds_toArray, List.set_cons_zero, List.set_cons_succ, i64_w, i32_w]
               rfl
             refine pure_ (i := 1) (N := some 18) (v := ?_) (a' := ?_) #[true, true, false, false, false, false, false, false, false, false] rfl rfl (any_of HT_.out (by kernel_rfl)) (fun _ _ _ h => h) (Or.inl ⟨by rfl, ?_⟩) ?_ ?_
             rotate_left
             · intro w'
               go_simp
               with_reducible rfl
             rotate_left
             · simp only [Act.put, List.setIfInBounds_toArray, List.set_cons_zero, List.set_cons_succ, i64_w, i32_w]
               rfl
             refine pure_ (i := 2) (N := some 19) (v := ?_) (a' := ?_) #[true, true, true, false, false, false, false, false, false, false] rfl rfl (any_of HT_.out (by kernel_rfl)) (fun _ _ _ h => h) (Or.inl ⟨by rfl, ?_⟩) ?_ ?_
             rotate_left
             · intro w'
               go_simp
               with_reducible rfl
             rotate_left
             · simp only [Act.put, List.setIfInBounds_toArray, List.set_cons_zero, List.set_cons_succ, i64_w, i32_w]
               rfl
             refine pure_ (i := 4) (N := some 21) (v := ?_) (a' := ?_) #[true, true, true, false, true, false, false, false, false, false] rfl rfl (any_of HT_.out (by kernel_rfl)) (fun _ _ _ h => h) (Or.inl ⟨by rfl, ?_⟩) ?_ ?_
             rotate_left
             · intro w'
               go_simp
               with_reducible rfl
             rotate_left
             · simp only [Act.put, List.setIfInBounds_toArray, List.set_cons_zero, List.set_cons_succ, i64_w, i32_w]
               rfl
             refine pure_ (i := 5) (N := some 22) (v := ?_) (a' := ?_) #[true, true, true, false, true, true, false, false, false, false] rfl rfl (any_of HT_.out (by kernel_rfl)) (fun _ _ _ h => h) (Or.inl ⟨by rfl, ?_⟩) ?_ ?_
             rotate_left
             · intro w'
               go_simp
               with_reducible rfl
             rotate_left
             · simp only [Act.put, List.setIfInBounds_toArray, List.set_cons_zero, List.set_cons_succ, i64_w, i32_w]
               rfl
             refine pure_ (i := 6) (N := some 23) (v := ?_) (a' := ?_) #[true, true, true, false, true, true, true, false, false, false] rfl rfl (any_of HT_.out (by kernel_rfl)) (fun _ _ _ h => h) (Or.inl ⟨by rfl, ?_⟩) ?_ ?_
             rotate_left
             · intro w'
               go_simp
               with_reducible rfl
             rotate_left
             · simp only [Act.put, List.setIfInBounds_toArray, List.set_cons_zero, List.set_cons_succ, i64_w, i32_w]
               rfl
             refine take_ (i := 3) (N := some 20) (v := ?_) (a' := ?_) #[true, true, true, true, true, true, true, false, false, false] rfl rfl (take_ofW HT_.out HW_.out (by kernel_rfl)) (fun _ _ _ h => h) (Or.inl ⟨by rfl, ?_⟩) hHeld ?_ ?_
             rotate_left
             · rintro w' ⟨s0, s1, s2, s3, s4, s5, s6, s7, s8, s9⟩
               go_simp
               with_reducible rfl
             rotate_left
             · simp only [Act.put, List.setIfInBounds_toArray, List.set_cons_zero, List.set_cons_succ, i64_w, i32_w]
               rfl
             refine take_ (i := 7) (N := some 24) (v := ?_) (a' := ?_) #[true, true, true, true, true, true, true, true, false, false] rfl rfl (take_ofW HT_.out HW_.out (by kernel_rfl)) (fun _ _ _ h => h) (Or.inl ⟨by rfl, ?_⟩) hHeld ?_ ?_
             rotate_left
             · rintro w' ⟨s0, s1, s2, s3, s4, s5, s6, s7, s8, s9⟩
               go_simp
               with_reducible rfl
             rotate_left
             · simp only [Act.put, List.setIfInBounds_toArray, List.set_cons_zero, List.set_cons_succ, i64_w, i32_w]
               rfl
             refine one_ (i := 8) (N := some 25) #[true, true, true, true, true, true, true, true, true, false] rfl rfl (one_of HT_.out (by kernel_rfl)) (by decide) (fun K hK => ?_)
             refine goes_ Tryd.func95 (by kernel_rfl) rfl #[.agg #[.string ((rd_T127 l0 x5_1).f0), .int .i64 ((rd_T127 l0 x5_1).f1), .bool ((rd_T127 l0 x5_1).f2), .int .i64 ((rd_T127 l0 x5_1).f3), .slice A551_4 ((rd_T127 l0 x5_1).f4).length c551_4], .agg #[.string ((rd_T127 l1 x5_1).f0), .int .i64 ((rd_T127 l1 x5_1).f1), .bool ((rd_T127 l1 x5_1).f2), .int .i64 ((rd_T127 l1 x5_1).f3), .slice A552_4 ((rd_T127 l1 x5_1).f4).length c552_4]] (by rfl) rfl rfl (by (try simp only [List.map_toArray, List.map_cons, List.map_nil]); first | done | rfl | (simp only [List.length_drop, List.length_take]; rfl)) ?_
             with_reducible refine (laws_eqGlobal.calls k1 ((rd_T127 l0 x5_1).f0) ((rd_T127 l0 x5_1).f1) ((rd_T127 l0 x5_1).f2) ((rd_T127 l0 x5_1).f3) _ _ ((rd_T127 l0 x5_1).f4) ((rd_T127 l1 x5_1).f0) ((rd_T127 l1 x5_1).f1) ((rd_T127 l1 x5_1).f2) ((rd_T127 l1 x5_1).f3) _ _ ((rd_T127 l1 x5_1).f4) false _ ?side1 ?side2 ?side3 ?side4 A7.out).mono ?_
             (case side1 => repeat (first | exact (Kd.C_below HR551_4.out HB.out) | (with_reducible refine Kd.C_alloc ?_ _) | (with_reducible refine Kd.C_drewN ?_ _) | (with_reducible refine Kd.C_drew ?_)))
             (case side2 => exact HC551_4.out)
             (case side3 => repeat (first | exact (Kd.C_below HR552_4.out HB.out) | (with_reducible refine Kd.C_alloc ?_ _) | (with_reducible refine Kd.C_drewN ?_ _) | (with_reducible refine Kd.C_drew ?_)))
             (case side4 => exact HC552_4.out)
             rintro e w12 ⟨rfl, hb⟩
             refine ⟨_, rfl, ?_⟩
             have n0_ := Aside0.mk (below_step (by repeat (first | (with_reducible first | exact HB.out | apply below_alloc | apply pw_below_drewN | apply below_drew1) | exact HB.out)) hb)
             clear HB
             have HB := n0_
             clear n0_
             (try clear hb)
             (try clear hb2)
             (try clear hk)
             (try clear hi)
             refine hK.out _ _ ⟨((HB.out.cell (World.block_lt_of_cell? w _ hw551_0)).trans hw551_0), ((HB.out.cell (World.block_lt_of_cell? w _ hw551_1)).trans hw551_1), ((HB.out.cell (World.block_lt_of_cell? w _ hw551_2)).trans hw551_2), ((HB.out.cell (World.block_lt_of_cell? w _ hw551_3)).trans hw551_3), ((HB.out.cell (World.block_lt_of_cell? w _ hw551_4)).trans hw551_4), ((HB.out.cell (World.block_lt_of_cell? w _ hw552_0)).trans hw552_0), ((HB.out.cell (World.block_lt_of_cell? w _ hw552_1)).trans hw552_1), ((HB.out.cell (World.block_lt_of_cell? w _ hw552_2)).trans hw552_2), ((HB.out.cell (World.block_lt_of_cell? w _ hw552_3)).trans hw552_3), ((HB.out.cell (World.block_lt_of_cell? w _ hw552_4)).trans hw552_4)⟩ (fun hHeld => ?_)
             clear hK K
             refine norm_ (a' := ?_) ?_ ?_
             rotate_left
             · show Act.put _ (some 25) _ = _
               simp only [Act.put, List.setIfInBounds_toArray, List.set_cons_zero, List.set_cons_succ, i64_w, i32_w]
               rfl
             refine pure_ (i := 9) (N := some 26) (v := ?_) (a' := ?_) #[true, true, true, true, true, true, true, true, true, true] rfl rfl (any_of HT_.out (by kernel_rfl)) (fun _ _ _ h => h) (Or.inl ⟨by rfl, ?_⟩) ?_ ?_
             rotate_left
             · intro w'
               go_simp
               with_reducible rfl
             rotate_left
             · simp only [Act.put, List.setIfInBounds_toArray, List.set_cons_zero, List.set_cons_succ, i64_w, i32_w]
               rfl
             refine done_ (done_of HT_.out (by kernel_rfl)) ?_
             try go_wp2
             go_ret
             exact ⟨by first | rfl | (simp [errW_none, errW_some] <;> rfl) | (simp [*, errW_none, errW_some] <;> rfl), by repeat (first | (with_reducible first | exact HB.out | apply below_alloc | apply pw_below_drewN | apply below_drew1) | exact HB.out)⟩
         · rw [if_neg c6] at H
           exact absurd H (by simp)
       · rw [if_neg c5] at H
         exact absurd H (by simp)
     · rw [if_neg c4] at H
       have c4b0 : decide (x5_1 < (l0.length : Int)) = false := decide_eq_false c4
       clear c4
       obtain rfl := Option.some.inj H
       go_wp2
       go_ret
       exact ⟨by first | rfl | (simp [errW_none, errW_some] <;> rfl) | (simp [*, errW_none, errW_some] <;> rfl), by repeat (first | (with_reducible first | exact HB.out | apply below_alloc | apply pw_below_drewN | apply below_drew1) | exact HB.out)⟩
 · rw [if_neg c3] at H
   have c3b0 : ((l0.length : Int) == (l1.length : Int)) = false := beq_eq_false_iff_ne.mpr c3
   have c3b1 : ((l0.length : Int) != (l1.length : Int)) = true := bne_iff_ne.mpr c3
   have c3b2 : (l0.length == l1.length) = false := by first | simpa using c3 | (simp at c3 ⊢; omega)
   obtain rfl := Option.some.inj H
   go_enter Tryd.func74, Tryd.ntmps74
   go_wp2
   go_ret
   exact ⟨by first | rfl | (simp [errW_none, errW_some] <;> rfl) | (simp [*, errW_none, errW_some] <;> rfl), by repeat (first | (with_reducible first | exact HB.out | apply below_alloc | apply pw_below_drewN | apply below_drew1) | exact HB.out)⟩

end Go.Proofs.YtkohjiajbdkcbaaDoor.All


namespace Go.Proofs.YtkohjiajbdkcbaaDoor.All
open Go.RowKit Go.Proofs.YtkohjiajbdkcbaaDoorW.PrintWords Go.Proofs.YtkohjiajbdkcbaaDoorW.PrintLast Go.Proofs.YtkohjiajbdkcbaaDoorW.PrintMore
attribute [local go_sem] max2_int min2_int max_two min_two max_three min_three max_four min_four   -- for this text's walks alone
set_option linter.unusedVariables false
set_option linter.unusedSimpArgs false

/-! ### laws_eqInt64S: function 68 -/
def laws_eqInt64S.l0 : Nat → List Int → List Int → Int → Option (Bool)
 | 0, _, _, _ => none
 | k + 1, x0, x1, x5 => if x5 < (x0.length : Int) then (if 0 ≤ x5 then (if x5 < (x1.length : Int) then (if (rd x0 x5) = (rd x1 x5) then (laws_eqInt64S.l0 k x0 x1 (wrap64 (x5 + 1))) else (some false)) else (none)) else (none)) else (some true)
def laws_eqInt64S.f (k : Nat) (l0 : List Int) (l1 : List Int) : Option (Bool) := if (l0.length : Int) = (l1.length : Int) then (laws_eqInt64S.l0 k l0 l1 0) else (some false)
set_option maxHeartbeats 8000000 in
set_option maxRecDepth 100000 in
theorem laws_eqInt64S.calls (k : Nat) (A0 : Option Addr) (c0 : Nat) (l0 : List Int) (A1 : Option Addr) (c1 : Nat) (l1 : List Int) (r : Bool) (w : World) (hr0 : Kd.C (Kd.int .i64) w A0 l0.length l0) (hc0 : l0.length ≤ c0) (hr1 : Kd.C (Kd.int .i64) w A1 l1.length l1) (hc1 : l1.length ≤ c1) (h : laws_eqInt64S.f k l0 l1 = some r) :
 Calls Tryd.prog 68 #[.slice A0 l0.length c0, .slice A1 l1.length c1] w fun e w' => e = .returned (.bool r) ∧ Drawn0 w w' := by
 have HR0 := Aside0.mk hr0
 have HC0 := Aside0.mk hc0
 clear hr0 hc0
 have HR1 := Aside0.mk hr1
 have HC1 := Aside0.mk hc1
 clear hr1 hc1
 have H : (if (l0.length : Int) = (l1.length : Int) then (laws_eqInt64S.l0 k l0 l1 0) else (some false)) = some r := h
 clear h
 by_cases c3 : (l0.length : Int) = (l1.length : Int)
 · rw [if_pos c3] at H
   have c3b0 : ((l0.length : Int) == (l1.length : Int)) = true := beq_iff_eq.mpr c3
   have c3b1 : ((l0.length : Int) != (l1.length : Int)) = false := bne_eq_false_iff_eq.mpr c3
   have c3b2 : (l0.length == l1.length) = true := by first | simpa using c3 | (simp at c3 ⊢; omega)
   clear c3
   have H' := Aside0.mk H
   clear H
   go_enter Tryd.func68, Tryd.ntmps68
   go_wp2
   repeat (go_quiet (fail); try go_wp2)
   go_loopg [5] k (fun kq v5 w' => ∃ (x5_1 : Int), v5 = .int .i64 x5_1 ∧ Aside0 (laws_eqInt64S.l0 kq l0 l1 x5_1 = some r) ∧ Aside0 (kq ≤ k) ∧ Drawn0 w w')
   case atStart => exact ⟨(0), (by first | rfl | (simp; done) | (simp [*]; done)), H', ⟨Nat.le_refl _⟩, by repeat (first | exact Drawn0.refl _ | apply Drawn0.step)⟩
   case round =>
    clear H'
    try clear c1
    try clear p2
    try clear c3
    try clear c3b0
    try clear c3b1
    try clear c3b2
    obtain ⟨x5_1, rfl, HA, HK1, ⟨m1, rfl⟩⟩ := hrel
    cases gk with
    | zero => exact absurd HA.out (by simp [laws_eqInt64S.l0])
    | succ k1 =>
     have H := HA.out
     clear HA
     simp only [laws_eqInt64S.l0] at H
     by_cases c4 : x5_1 < (l0.length : Int)
     · rw [if_pos c4] at H
       have c4b0 : decide (x5_1 < (l0.length : Int)) = true := decide_eq_true c4
       clear c4
       by_cases c5 : 0 ≤ x5_1
       · rw [if_pos c5] at H
         have c5b0 : decide (0 ≤ x5_1) = true := decide_eq_true c5
         clear c5
         by_cases c6 : x5_1 < (l1.length : Int)
         · rw [if_pos c6] at H
           have c6b0 : decide (x5_1 < (l1.length : Int)) = true := decide_eq_true c6
           clear c6
           by_cases c7 : (rd l0 x5_1) = (rd l1 x5_1)
           · rw [if_pos c7] at H
             have c7b0 : ((rd l0 x5_1) == (rd l1 x5_1)) = true := beq_iff_eq.mpr c7
             have c7b1 : ((rd l0 x5_1) != (rd l1 x5_1)) = false := bne_eq_false_iff_eq.mpr c7
             clear c7
             have H' := Aside0.mk H
             clear H
             have p374 : 0 ≤ (x5_1 : Int) := of_decide_eq_true (by first | (with_reducible assumption) | assumption)
             have q374 : x5_1 < (l0.length : Int) := of_decide_eq_true (by first | (with_reducible assumption) | assumption)
             obtain ⟨ad374, e374, hx374_0⟩ := Kd.at_int HR0.out x5_1 p374 q374
             cases e374
             replace p374 := eq_true p374
             replace q374 := eq_true q374
             have p375 : 0 ≤ (x5_1 : Int) := of_decide_eq_true (by first | (with_reducible assumption) | assumption)
             have q375 : x5_1 < (l1.length : Int) := of_decide_eq_true (by first | (with_reducible assumption) | assumption)
             obtain ⟨ad375, e375, hx375_0⟩ := Kd.at_int HR1.out x5_1 p375 q375
             cases e375
             replace p375 := eq_true p375
             replace q375 := eq_true q375
             go_wp2
             repeat (go_quiet (fail); try go_wp2)
             go_roundg k1
             case measure => have := HK1.out; omega
             case rel => exact ⟨(wrap64 (x5_1 + 1)), (by first | rfl | (simp; done) | (simp [*]; done)), H', ⟨by have := HK1.out; omega⟩, by repeat (first | exact Drawn0.refl _ | apply Drawn0.step)⟩
           · rw [if_neg c7] at H
             have c7b0 : ((rd l0 x5_1) == (rd l1 x5_1)) = false := beq_eq_false_iff_ne.mpr c7
             have c7b1 : ((rd l0 x5_1) != (rd l1 x5_1)) = true := bne_iff_ne.mpr c7
             obtain rfl := Option.some.inj H
             have p374 : 0 ≤ (x5_1 : Int) := of_decide_eq_true (by first | (with_reducible assumption) | assumption)
             have q374 : x5_1 < (l0.length : Int) := of_decide_eq_true (by first | (with_reducible assumption) | assumption)
             obtain ⟨ad374, e374, hx374_0⟩ := Kd.at_int HR0.out x5_1 p374 q374
             cases e374
             replace p374 := eq_true p374
             replace q374 := eq_true q374
             have p375 : 0 ≤ (x5_1 : Int) := of_decide_eq_true (by first | (with_reducible assumption) | assumption)
             have q375 : x5_1 < (l1.length : Int) := of_decide_eq_true (by first | (with_reducible assumption) | assumption)
             obtain ⟨ad375, e375, hx375_0⟩ := Kd.at_int HR1.out x5_1 p375 q375
             cases e375
             replace p375 := eq_true p375
             replace q375 := eq_true q375
             go_wp2
             repeat (go_quiet (fail); try go_wp2)
             go_ret
             exact ⟨by first | rfl | (simp; done) | (simp [*]; done), by repeat (first | exact Drawn0.refl _ | apply Drawn0.step)⟩
         · rw [if_neg c6] at H
           exact absurd H (by simp)
       · rw [if_neg c5] at H
         exact absurd H (by simp)
     · rw [if_neg c4] at H
       have c4b0 : decide (x5_1 < (l0.length : Int)) = false := decide_eq_false c4
       clear c4
       obtain rfl := Option.some.inj H
       go_wp2
       repeat (go_quiet (fail); try go_wp2)
       go_ret
       exact ⟨by first | rfl | (simp; done) | (simp [*]; done), by repeat (first | exact Drawn0.refl _ | apply Drawn0.step)⟩
 · rw [if_neg c3] at H
   have c3b0 : ((l0.length : Int) == (l1.length : Int)) = false := beq_eq_false_iff_ne.mpr c3
   have c3b1 : ((l0.length : Int) != (l1.length : Int)) = true := bne_iff_ne.mpr c3
   have c3b2 : (l0.length == l1.length) = false := by first | simpa using c3 | (simp at c3 ⊢; omega)
   obtain rfl := Option.some.inj H
   go_enter Tryd.func68, Tryd.ntmps68
   go_wp2
   repeat (go_quiet (fail); try go_wp2)
   go_ret
   exact ⟨by first | rfl | (simp; done) | (simp [*]; done), by repeat (first | exact Drawn0.refl _ | apply Drawn0.step)⟩

end Go.Proofs.YtkohjiajbdkcbaaDoor.All


namespace Go.Proofs.YtkohjiajbdkcbaaDoor.All
open Go.RowKit Go.Proofs.YtkohjiajbdkcbaaDoorW.PrintWords Go.Proofs.YtkohjiajbdkcbaaDoorW.PrintLast Go.Proofs.YtkohjiajbdkcbaaDoorW.PrintMore
attribute [local go_sem] max2_int min2_int max_two min_two max_three min_three max_four min_four   -- for this text's walks alone
set_option linter.unusedVariables false
set_option linter.unusedSimpArgs false

/-! ### laws_eqUint64S: function 43 -/
def laws_eqUint64S.l0 : Nat → List Int → List Int → Int → Option (Bool)
 | 0, _, _, _ => none
 | k + 1, x0, x1, x5 => if x5 < (x0.length : Int) then (if 0 ≤ x5 then (if x5 < (x1.length : Int) then (if (rd x0 x5) = (rd x1 x5) then (laws_eqUint64S.l0 k x0 x1 (wrap64 (x5 + 1))) else (some false)) else (none)) else (none)) else (some true)
def laws_eqUint64S.f (k : Nat) (l0 : List Int) (l1 : List Int) : Option (Bool) := if (l0.length : Int) = (l1.length : Int) then (laws_eqUint64S.l0 k l0 l1 0) else (some false)
set_option maxHeartbeats 8000000 in
set_option maxRecDepth 100000 in
theorem laws_eqUint64S.calls (k : Nat) (A0 : Option Addr) (c0 : Nat) (l0 : List Int) (A1 : Option Addr) (c1 : Nat) (l1 : List Int) (r : Bool) (w : World) (hr0 : Kd.C (Kd.int .u64) w A0 l0.length l0) (hc0 : l0.length ≤ c0) (hr1 : Kd.C (Kd.int .u64) w A1 l1.length l1) (hc1 : l1.length ≤ c1) (h : laws_eqUint64S.f k l0 l1 = some r) :
 Calls Tryd.prog 43 #[.slice A0 l0.length c0, .slice A1 l1.length c1] w fun e w' => e = .returned (.bool r) ∧ Drawn0 w w' := by
 have HR0 := Aside0.mk hr0
 have HC0 := Aside0.mk hc0
 clear hr0 hc0
 have HR1 := Aside0.mk hr1
 have HC1 := Aside0.mk hc1
 clear hr1 hc1
 have H : (if (l0.length : Int) = (l1.length : Int) then (laws_eqUint64S.l0 k l0 l1 0) else (some false)) = some r := h
 clear h
 by_cases c3 : (l0.length : Int) = (l1.length : Int)
 · rw [if_pos c3] at H
   have c3b0 : ((l0.length : Int) == (l1.length : Int)) = true := beq_iff_eq.mpr c3
   have c3b1 : ((l0.length : Int) != (l1.length : Int)) = false := bne_eq_false_iff_eq.mpr c3
   have c3b2 : (l0.length == l1.length) = true := by first | simpa using c3 | (simp at c3 ⊢; omega)
   clear c3
   have H' := Aside0.mk H
   clear H
   go_enter Tryd.func43, Tryd.ntmps43
   go_wp2
   repeat (go_quiet (fail); try go_wp2)
   go_loopg [5] k (fun kq v5 w' => ∃ (x5_1 : Int), v5 = .int .i64 x5_1 ∧ Aside0 (laws_eqUint64S.l0 kq l0 l1 x5_1 = some r) ∧ Aside0 (kq ≤ k) ∧ Drawn0 w w')
   case atStart => exact ⟨(0), (by first | rfl | (simp; done) | (simp [*]; done)), H', ⟨Nat.le_refl _⟩, by repeat (first | exact Drawn0.refl _ | apply Drawn0.step)⟩
   case round =>
    clear H'
    try clear c1
    try clear p2
    try clear c3
    try clear c3b0
    try clear c3b1
    try clear c3b2
    obtain ⟨x5_1, rfl, HA, HK1, ⟨m1, rfl⟩⟩ := hrel
    cases gk with
    | zero => exact absurd HA.out (by simp [laws_eqUint64S.l0])
    | succ k1 =>
     have H := HA.out
     clear HA
     simp only [laws_eqUint64S.l0] at H
     by_cases c4 : x5_1 < (l0.length : Int)
     · rw [if_pos c4] at H
       have c4b0 : decide (x5_1 < (l0.length : Int)) = true := decide_eq_true c4
       clear c4
       by_cases c5 : 0 ≤ x5_1
       · rw [if_pos c5] at H
         have c5b0 : decide (0 ≤ x5_1) = true := decide_eq_true c5
         clear c5
         by_cases c6 : x5_1 < (l1.length : Int)
         · rw [if_pos c6] at H
           have c6b0 : decide (x5_1 < (l1.length : Int)) = true := decide_eq_true c6
           clear c6
           by_cases c7 : (rd l0 x5_1) = (rd l1 x5_1)
           · rw [if_pos c7] at H
             have c7b0 : ((rd l0 x5_1) == (rd l1 x5_1)) = true := beq_iff_eq.mpr c7
             have c7b1 : ((rd l0 x5_1) != (rd l1 x5_1)) = false := bne_eq_false_iff_eq.mpr c7
             clear c7
             have H' := Aside0.mk H
             clear H
             have p554 : 0 ≤ (x5_1 : Int) := of_decide_eq_true (by first | (with_reducible assumption) | assumption)
             have q554 : x5_1 < (l0.length : Int) := of_decide_eq_true (by first | (with_reducible assumption) | assumption)
             obtain ⟨ad554, e554, hx554_0⟩ := Kd.at_int HR0.out x5_1 p554 q554
             cases e554
             replace p554 := eq_true p554
             replace q554 := eq_true q554
             have p555 : 0 ≤ (x5_1 : Int) := of_decide_eq_true (by first | (with_reducible assumption) | assumption)
             have q555 : x5_1 < (l1.length : Int) := of_decide_eq_true (by first | (with_reducible assumption) | assumption)
             obtain ⟨ad555, e555, hx555_0⟩ := Kd.at_int HR1.out x5_1 p555 q555
             cases e555
             replace p555 := eq_true p555
             replace q555 := eq_true q555
             go_wp2
             repeat (go_quiet (fail); try go_wp2)
             go_roundg k1
             case measure => have := HK1.out; omega
             case rel => exact ⟨(wrap64 (x5_1 + 1)), (by first | rfl | (simp; done) | (simp [*]; done)), H', ⟨by have := HK1.out; omega⟩, by repeat (first | exact Drawn0.refl _ | apply Drawn0.step)⟩
           · rw [if_neg c7] at H
             have c7b0 : ((rd l0 x5_1) == (rd l1 x5_1)) = false := beq_eq_false_iff_ne.mpr c7
             have c7b1 : ((rd l0 x5_1) != (rd l1 x5_1)) = true := bne_iff_ne.mpr c7
             obtain rfl := Option.some.inj H
             have p554 : 0 ≤ (x5_1 : Int) := of_decide_eq_true (by first | (with_reducible assumption) | assumption)
             have q554 : x5_1 < (l0.length : Int) := of_decide_eq_true (by first | (with_reducible assumption) | assumption)
             obtain ⟨ad554, e554, hx554_0⟩ := Kd.at_int HR0.out x5_1 p554 q554
             cases e554
             replace p554 := eq_true p554
             replace q554 := eq_true q554
             have p555 : 0 ≤ (x5_1 : Int) := of_decide_eq_true (by first | (with_reducible assumption) | assumption)
             have q555 : x5_1 < (l1.length : Int) := of_decide_eq_true (by first | (with_reducible assumption) | assumption)
             obtain ⟨ad555, e555, hx555_0⟩ := Kd.at_int HR1.out x5_1 p555 q555
             cases e555
             replace p555 := eq_true p555
             replace q555 := eq_true q555
             go_wp2
             repeat (go_quiet (fail); try go_wp2)
             go_ret
             exact ⟨by first | rfl | (simp; done) | (simp [*]; done), by repeat (first | exact Drawn0.refl _ | apply Drawn0.step)⟩
         · rw [if_neg c6] at H
           exact absurd H (by simp)
       · rw [if_neg c5] at H
         exact absurd H (by simp)
     · rw [if_neg c4] at H
       have c4b0 : decide (x5_1 < (l0.length : Int)) = false := decide_eq_false c4
       clear c4
       obtain rfl := Option.some.inj H
       go_wp2
       repeat (go_quiet (fail); try go_wp2)
       go_ret
       exact ⟨by first | rfl | (simp; done) | (simp [*]; done), by repeat (first | exact Drawn0.refl _ | apply Drawn0.step)⟩
 · rw [if_neg c3] at H
   have c3b0 : ((l0.length : Int) == (l1.length : Int)) = false := beq_eq_false_iff_ne.mpr c3
   have c3b1 : ((l0.length : Int) != (l1.length : Int)) = true := bne_iff_ne.mpr c3
   have c3b2 : (l0.length == l1.length) = false := by first | simpa using c3 | (simp at c3 ⊢; omega)
   obtain rfl := Option.some.inj H
   go_enter Tryd.func43, Tryd.ntmps43
   go_wp2
   repeat (go_quiet (fail); try go_wp2)
   go_ret
   exact ⟨by first | rfl | (simp; done) | (simp [*]; done), by repeat (first | exact Drawn0.refl _ | apply Drawn0.step)⟩

end Go.Proofs.YtkohjiajbdkcbaaDoor.All


namespace Go.Proofs.YtkohjiajbdkcbaaDoor.All
open Go.RowKit Go.Proofs.YtkohjiajbdkcbaaDoorW.PrintWords Go.Proofs.YtkohjiajbdkcbaaDoorW.PrintLast Go.Proofs.YtkohjiajbdkcbaaDoorW.PrintMore
attribute [local go_sem] max2_int min2_int max_two min_two max_three min_three max_four min_four   -- for this text's walks alone
set_option linter.unusedVariables false
set_option linter.unusedSimpArgs false

/-! ### laws_eqOperand: function 143 -/
def laws_eqOperand.f (a0_0 : Int) (a0_1 : Int) (a0_2 : Int) (a0_3 : Int) (a1_0 : Int) (a1_1 : Int) (a1_2 : Int) (a1_3 : Int) : Option (Bool) := if a0_0 = a1_0 then (if a0_1 = a1_1 then (if a0_2 = a1_2 then (if a0_3 = a1_3 then (some true) else (some false)) else (some false)) else (some false)) else (some false)
set_option maxHeartbeats 8000000 in
set_option maxRecDepth 100000 in
theorem laws_eqOperand.calls (a0_0 : Int) (a0_1 : Int) (a0_2 : Int) (a0_3 : Int) (a1_0 : Int) (a1_1 : Int) (a1_2 : Int) (a1_3 : Int) (r : Bool) (w : World) (h : laws_eqOperand.f a0_0 a0_1 a0_2 a0_3 a1_0 a1_1 a1_2 a1_3 = some r) :
 Calls Tryd.prog 143 #[.agg #[.int .i64 a0_0, .int .i64 a0_1, .int .i64 a0_2, .int .u64 a0_3], .agg #[.int .i64 a1_0, .int .i64 a1_1, .int .i64 a1_2, .int .u64 a1_3]] w fun e w' => e = .returned (.bool r) ∧ Below w.heap.size w w' := by
 have hu77 := Tryd.underlying77
 have HB := Aside0.mk (Below.refl w.heap.size w)
 have H : (if a0_0 = a1_0 then (if a0_1 = a1_1 then (if a0_2 = a1_2 then (if a0_3 = a1_3 then (some true) else (some false)) else (some false)) else (some false)) else (some false)) = some r := h
 clear h
 by_cases c3 : a0_0 = a1_0
 · rw [if_pos c3] at H
   have c3b0 : (a0_0 == a1_0) = true := beq_iff_eq.mpr c3
   have c3b1 : (a0_0 != a1_0) = false := bne_eq_false_iff_eq.mpr c3
   clear c3
   by_cases c4 : a0_1 = a1_1
   · rw [if_pos c4] at H
     have c4b0 : (a0_1 == a1_1) = true := beq_iff_eq.mpr c4
     have c4b1 : (a0_1 != a1_1) = false := bne_eq_false_iff_eq.mpr c4
     clear c4
     by_cases c5 : a0_2 = a1_2
     · rw [if_pos c5] at H
       have c5b0 : (a0_2 == a1_2) = true := beq_iff_eq.mpr c5
       have c5b1 : (a0_2 != a1_2) = false := bne_eq_false_iff_eq.mpr c5
       clear c5
       by_cases c6 : a0_3 = a1_3
       · rw [if_pos c6] at H
         have c6b0 : (a0_3 == a1_3) = true := beq_iff_eq.mpr c6
         have c6b1 : (a0_3 != a1_3) = false := bne_eq_false_iff_eq.mpr c6
         clear c6
         obtain rfl := Option.some.inj H
         go_enter Tryd.func143, Tryd.ntmps143
         go_wp2_with (first | ((with_reducible refine gate_dst (N := 2) rfl ?_); refine box_event ?hg (N := 2) ?hd (cs := #[.int .i64 a0_0, .int .i64 a0_1, .int .i64 a0_2, .int .u64 a0_3]) (t := 77) ?hr ?_; (case hd => rfl); (case hg => rfl); (case hr => first | (go_simp; done) | (go_simp; rfl)); intro gb556 hg w7 hbox hb; have n0_ := Aside0.mk (below_step (by repeat (first | (with_reducible first | exact HB.out | apply below_alloc | apply pw_below_drewN | apply below_drew1) | exact HB.out)) hb); have n1_ := Aside0.mk (hbox); have n2_ := Aside0.mk ((by rw [hg]; exact (below_size (by repeat (first | (with_reducible first | exact HB.out | apply below_alloc | apply pw_below_drewN | apply below_drew1) | exact HB.out))) : w.heap.size ≤ gb556)); have n3_ := Aside0.mk ((by rw [hg]; exact (below_size (by repeat (first | (with_reducible first | exact HB.out | apply below_alloc | apply pw_below_drewN | apply below_drew1) | exact HB.out))) : w.heap.size ≤ gb556)); clear HB; have HB := n0_; have BK556 := n1_; have GW556 := n2_; have GE556 := n3_; clear n0_ n1_ n2_ n3_; clear hb hbox hg) | ((with_reducible refine gate_dst (N := 3) rfl ?_); refine box_event ?hg (N := 3) ?hd (cs := #[.int .i64 a1_0, .int .i64 a1_1, .int .i64 a1_2, .int .u64 a1_3]) (t := 77) ?hr ?_; (case hd => rfl); (case hg => rfl); (case hr => first | (go_simp; done) | (go_simp; rfl)); intro gb557 hg w8 hbox hb; have n0_ := Aside0.mk (blk_below (g := gb556) (o := .cells #[.int .i64 a0_0, .int .i64 a0_1, .int .i64 a0_2, .int .u64 a0_3] 77 (0, 0)) (by (with_reducible repeat (first | refine blk_drewN ?_ _ | refine blk_drew ?_ | refine blk_alloc ?_ _)); exact BK556.out) hb); have n1_ := Aside0.mk (below_step (by repeat (first | (with_reducible first | exact HB.out | apply below_alloc | apply pw_below_drewN | apply below_drew1 | refine below_set ?_ GE556.out) | exact HB.out)) hb); have n2_ := Aside0.mk (hbox); have n3_ := Aside0.mk ((by rw [hg]; exact (below_size (by repeat (first | (with_reducible first | exact HB.out | apply below_alloc | apply pw_below_drewN | apply below_drew1 | refine below_set ?_ GE556.out) | exact HB.out))) : w.heap.size ≤ gb557)); have n4_ := Aside0.mk ((by rw [hg]; exact (below_size (by repeat (first | (with_reducible first | exact HB.out | apply below_alloc | apply pw_below_drewN | apply below_drew1 | refine below_set ?_ GE556.out) | exact HB.out))) : w.heap.size ≤ gb557)); have n5_ := Aside0.mk ((by rw [hg]; exact Nat.ne_of_lt (blk_lt (g := gb556) (o := .cells #[.int .i64 a0_0, .int .i64 a0_1, .int .i64 a0_2, .int .u64 a0_3] 77 (0, 0)) (by (with_reducible repeat (first | refine blk_drewN ?_ _ | refine blk_drew ?_ | refine blk_alloc ?_ _)); exact BK556.out)) : gb556 ≠ gb557)); have n6_ := Aside0.mk ((by rw [hg]; exact Nat.ne_of_gt (blk_lt (g := gb556) (o := .cells #[.int .i64 a0_0, .int .i64 a0_1, .int .i64 a0_2, .int .u64 a0_3] 77 (0, 0)) (by (with_reducible repeat (first | refine blk_drewN ?_ _ | refine blk_drew ?_ | refine blk_alloc ?_ _)); exact BK556.out)) : gb557 ≠ gb556)); clear BK556; clear HB; have BK556 := n0_; have HB := n1_; have BK557 := n2_; have GW557 := n3_; have GE557 := n4_; have NB556_557 := n5_; have NB557_556 := n6_; clear n0_ n1_ n2_ n3_ n4_ n5_ n6_; clear hb hbox hg; have hnb9 := NB556_557.out; have hnc9 := NB557_556.out; have hcz10_0 : w8.cell? ⟨gb556, 0, none⟩ = some (.int .i64 a0_0) := (blk_cell BK556.out 0).trans rfl; have hcz10_1 : w8.cell? ⟨gb556, 1, none⟩ = some (.int .i64 a0_1) := (blk_cell BK556.out 1).trans rfl; have hcz10_2 : w8.cell? ⟨gb556, 2, none⟩ = some (.int .i64 a0_2) := (blk_cell BK556.out 2).trans rfl; have hcz10_3 : w8.cell? ⟨gb556, 3, none⟩ = some (.int .u64 a0_3) := (blk_cell BK556.out 3).trans rfl; have hfz10_0 := blk_frozen BK556.out 0; have hfz10_1 := blk_frozen BK556.out 1; have hfz10_2 := blk_frozen BK556.out 2; have hfz10_3 := blk_frozen BK556.out 3; have hcz11_0 : w8.cell? ⟨gb557, 0, none⟩ = some (.int .i64 a1_0) := (blk_cell BK557.out 0).trans rfl; have hcz11_1 : w8.cell? ⟨gb557, 1, none⟩ = some (.int .i64 a1_1) := (blk_cell BK557.out 1).trans rfl; have hcz11_2 : w8.cell? ⟨gb557, 2, none⟩ = some (.int .i64 a1_2) := (blk_cell BK557.out 2).trans rfl; have hcz11_3 : w8.cell? ⟨gb557, 3, none⟩ = some (.int .u64 a1_3) := (blk_cell BK557.out 3).trans rfl; have hfz11_0 := blk_frozen BK557.out 0; have hfz11_1 := blk_frozen BK557.out 1; have hfz11_2 := blk_frozen BK557.out 2; have hfz11_3 := blk_frozen BK557.out 3))
         go_ret
         exact ⟨by first | rfl | (simp [errW_none, errW_some] <;> rfl) | (simp [*, errW_none, errW_some] <;> rfl), by repeat (first | (with_reducible first | exact HB.out | apply below_alloc | apply pw_below_drewN | apply below_drew1 | refine below_set ?_ GE556.out | refine below_set ?_ GE557.out) | exact HB.out)⟩
       · rw [if_neg c6] at H
         have c6b0 : (a0_3 == a1_3) = false := beq_eq_false_iff_ne.mpr c6
         have c6b1 : (a0_3 != a1_3) = true := bne_iff_ne.mpr c6
         obtain rfl := Option.some.inj H
         go_enter Tryd.func143, Tryd.ntmps143
         go_wp2_with (first | ((with_reducible refine gate_dst (N := 2) rfl ?_); refine box_event ?hg (N := 2) ?hd (cs := #[.int .i64 a0_0, .int .i64 a0_1, .int .i64 a0_2, .int .u64 a0_3]) (t := 77) ?hr ?_; (case hd => rfl); (case hg => rfl); (case hr => first | (go_simp; done) | (go_simp; rfl)); intro gb556 hg w12 hbox hb; have n0_ := Aside0.mk (below_step (by repeat (first | (with_reducible first | exact HB.out | apply below_alloc | apply pw_below_drewN | apply below_drew1) | exact HB.out)) hb); have n1_ := Aside0.mk (hbox); have n2_ := Aside0.mk ((by rw [hg]; exact (below_size (by repeat (first | (with_reducible first | exact HB.out | apply below_alloc | apply pw_below_drewN | apply below_drew1) | exact HB.out))) : w.heap.size ≤ gb556)); have n3_ := Aside0.mk ((by rw [hg]; exact (below_size (by repeat (first | (with_reducible first | exact HB.out | apply below_alloc | apply pw_below_drewN | apply below_drew1) | exact HB.out))) : w.heap.size ≤ gb556)); clear HB; have HB := n0_; have BK556 := n1_; have GW556 := n2_; have GE556 := n3_; clear n0_ n1_ n2_ n3_; clear hb hbox hg) | ((with_reducible refine gate_dst (N := 3) rfl ?_); refine box_event ?hg (N := 3) ?hd (cs := #[.int .i64 a1_0, .int .i64 a1_1, .int .i64 a1_2, .int .u64 a1_3]) (t := 77) ?hr ?_; (case hd => rfl); (case hg => rfl); (case hr => first | (go_simp; done) | (go_simp; rfl)); intro gb557 hg w13 hbox hb; have n0_ := Aside0.mk (blk_below (g := gb556) (o := .cells #[.int .i64 a0_0, .int .i64 a0_1, .int .i64 a0_2, .int .u64 a0_3] 77 (0, 0)) (by (with_reducible repeat (first | refine blk_drewN ?_ _ | refine blk_drew ?_ | refine blk_alloc ?_ _)); exact BK556.out) hb); have n1_ := Aside0.mk (below_step (by repeat (first | (with_reducible first | exact HB.out | apply below_alloc | apply pw_below_drewN | apply below_drew1 | refine below_set ?_ GE556.out) | exact HB.out)) hb); have n2_ := Aside0.mk (hbox); have n3_ := Aside0.mk ((by rw [hg]; exact (below_size (by repeat (first | (with_reducible first | exact HB.out | apply below_alloc | apply pw_below_drewN | apply below_drew1 | refine below_set ?_ GE556.out) | exact HB.out))) : w.heap.size ≤ gb557)); have n4_ := Aside0.mk ((by rw [hg]; exact (below_size (by repeat (first | (with_reducible first | exact HB.out | apply below_alloc | apply pw_below_drewN | apply below_drew1 | refine below_set ?_ GE556.out) | exact HB.out))) : w.heap.size ≤ gb557)); have n5_ := Aside0.mk ((by rw [hg]; exact Nat.ne_of_lt (blk_lt (g := gb556) (o := .cells #[.int .i64 a0_0, .int .i64 a0_1, .int .i64 a0_2, .int .u64 a0_3] 77 (0, 0)) (by (with_reducible repeat (first | refine blk_drewN ?_ _ | refine blk_drew ?_ | refine blk_alloc ?_ _)); exact BK556.out)) : gb556 ≠ gb557)); have n6_ := Aside0.mk ((by rw [hg]; exact Nat.ne_of_gt (blk_lt (g := gb556) (o := .cells #[.int .i64 a0_0, .int .i64 a0_1, .int .i64 a0_2, .int .u64 a0_3] 77 (0, 0)) (by (with_reducible repeat (first | refine blk_drewN ?_ _ | refine blk_drew ?_ | refine blk_alloc ?_ _)); exact BK556.out)) : gb557 ≠ gb556)); clear BK556; clear HB; have BK556 := n0_; have HB := n1_; have BK557 := n2_; have GW557 := n3_; have GE557 := n4_; have NB556_557 := n5_; have NB557_556 := n6_; clear n0_ n1_ n2_ n3_ n4_ n5_ n6_; clear hb hbox hg; have hnb14 := NB556_557.out; have hnc14 := NB557_556.out; have hcz15_0 : w13.cell? ⟨gb556, 0, none⟩ = some (.int .i64 a0_0) := (blk_cell BK556.out 0).trans rfl; have hcz15_1 : w13.cell? ⟨gb556, 1, none⟩ = some (.int .i64 a0_1) := (blk_cell BK556.out 1).trans rfl; have hcz15_2 : w13.cell? ⟨gb556, 2, none⟩ = some (.int .i64 a0_2) := (blk_cell BK556.out 2).trans rfl; have hcz15_3 : w13.cell? ⟨gb556, 3, none⟩ = some (.int .u64 a0_3) := (blk_cell BK556.out 3).trans rfl; have hfz15_0 := blk_frozen BK556.out 0; have hfz15_1 := blk_frozen BK556.out 1; have hfz15_2 := blk_frozen BK556.out 2; have hfz15_3 := blk_frozen BK556.out 3; have hcz16_0 : w13.cell? ⟨gb557, 0, none⟩ = some (.int .i64 a1_0) := (blk_cell BK557.out 0).trans rfl; have hcz16_1 : w13.cell? ⟨gb557, 1, none⟩ = some (.int .i64 a1_1) := (blk_cell BK557.out 1).trans rfl; have hcz16_2 : w13.cell? ⟨gb557, 2, none⟩ = some (.int .i64 a1_2) := (blk_cell BK557.out 2).trans rfl; have hcz16_3 : w13.cell? ⟨gb557, 3, none⟩ = some (.int .u64 a1_3) := (blk_cell BK557.out 3).trans rfl; have hfz16_0 := blk_frozen BK557.out 0; have hfz16_1 := blk_frozen BK557.out 1; have hfz16_2 := blk_frozen BK557.out 2; have hfz16_3 := blk_frozen BK557.out 3))
         go_ret
         exact ⟨by first | rfl | (simp [errW_none, errW_some] <;> rfl) | (simp [*, errW_none, errW_some] <;> rfl), by repeat (first | (with_reducible first | exact HB.out | apply below_alloc | apply pw_below_drewN | apply below_drew1 | refine below_set ?_ GE556.out | refine below_set ?_ GE557.out) | exact HB.out)⟩
     · rw [if_neg c5] at H
       have c5b0 : (a0_2 == a1_2) = false := beq_eq_false_iff_ne.mpr c5
       have c5b1 : (a0_2 != a1_2) = true := bne_iff_ne.mpr c5
       obtain rfl := Option.some.inj H
       go_enter Tryd.func143, Tryd.ntmps143
       go_wp2_with (first | ((with_reducible refine gate_dst (N := 2) rfl ?_); refine box_event ?hg (N := 2) ?hd (cs := #[.int .i64 a0_0, .int .i64 a0_1, .int .i64 a0_2, .int .u64 a0_3]) (t := 77) ?hr ?_; (case hd => rfl); (case hg => rfl); (case hr => first | (go_simp; done) | (go_simp; rfl)); intro gb556 hg w17 hbox hb; have n0_ := Aside0.mk (below_step (by repeat (first | (with_reducible first | exact HB.out | apply below_alloc | apply pw_below_drewN | apply below_drew1) | exact HB.out)) hb); have n1_ := Aside0.mk (hbox); have n2_ := Aside0.mk ((by rw [hg]; exact (below_size (by repeat (first | (with_reducible first | exact HB.out | apply below_alloc | apply pw_below_drewN | apply below_drew1) | exact HB.out))) : w.heap.size ≤ gb556)); have n3_ := Aside0.mk ((by rw [hg]; exact (below_size (by repeat (first | (with_reducible first | exact HB.out | apply below_alloc | apply pw_below_drewN | apply below_drew1) | exact HB.out))) : w.heap.size ≤ gb556)); clear HB; have HB := n0_; have BK556 := n1_; have GW556 := n2_; have GE556 := n3_; clear n0_ n1_ n2_ n3_; clear hb hbox hg) | ((with_reducible refine gate_dst (N := 3) rfl ?_); refine box_event ?hg (N := 3) ?hd (cs := #[.int .i64 a1_0, .int .i64 a1_1, .int .i64 a1_2, .int .u64 a1_3]) (t := 77) ?hr ?_; (case hd => rfl); (case hg => rfl); (case hr => first | (go_simp; done) | (go_simp; rfl)); intro gb557 hg w18 hbox hb; have n0_ := Aside0.mk (blk_below (g := gb556) (o := .cells #[.int .i64 a0_0, .int .i64 a0_1, .int .i64 a0_2, .int .u64 a0_3] 77 (0, 0)) (by (with_reducible repeat (first | refine blk_drewN ?_ _ | refine blk_drew ?_ | refine blk_alloc ?_ _)); exact BK556.out) hb); have n1_ := Aside0.mk (below_step (by repeat (first | (with_reducible first | exact HB.out | apply below_alloc | apply pw_below_drewN | apply below_drew1 | refine below_set ?_ GE556.out) | exact HB.out)) hb); have n2_ := Aside0.mk (hbox); have n3_ := Aside0.mk ((by rw [hg]; exact (below_size (by repeat (first | (with_reducible first | exact HB.out | apply below_alloc | apply pw_below_drewN | apply below_drew1 | refine below_set ?_ GE556.out) | exact HB.out))) : w.heap.size ≤ gb557)); have n4_ := Aside0.mk ((by rw [hg]; exact (below_size (by repeat (first | (with_reducible first | exact HB.out | apply below_alloc | apply pw_below_drewN | apply below_drew1 | refine below_set ?_ GE556.out) | exact HB.out))) : w.heap.size ≤ gb557)); have n5_ := Aside0.mk ((by rw [hg]; exact Nat.ne_of_lt (blk_lt (g := gb556) (o := .cells #[.int .i64 a0_0, .int .i64 a0_1, .int .i64 a0_2, .int .u64 a0_3] 77 (0, 0)) (by (with_reducible repeat (first | refine blk_drewN ?_ _ | refine blk_drew ?_ | refine blk_alloc ?_ _)); exact BK556.out)) : gb556 ≠ gb557)); have n6_ := Aside0.mk ((by rw [hg]; exact Nat.ne_of_gt (blk_lt (g := gb556) (o := .cells #[.int .i64 a0_0, .int .i64 a0_1, .int .i64 a0_2, .int .u64 a0_3] 77 (0, 0)) (by (with_reducible repeat (first | refine blk_drewN ?_ _ | refine blk_drew ?_ | refine blk_alloc ?_ _)); exact BK556.out)) : gb557 ≠ gb556)); clear BK556; clear HB; have BK556 := n0_; have HB := n1_; have BK557 := n2_; have GW557 := n3_; have GE557 := n4_; have NB556_557 := n5_; have NB557_556 := n6_; clear n0_ n1_ n2_ n3_ n4_ n5_ n6_; clear hb hbox hg; have hnb19 := NB556_557.out; have hnc19 := NB557_556.out; have hcz20_0 : w18.cell? ⟨gb556, 0, none⟩ = some (.int .i64 a0_0) := (blk_cell BK556.out 0).trans rfl; have hcz20_1 : w18.cell? ⟨gb556, 1, none⟩ = some (.int .i64 a0_1) := (blk_cell BK556.out 1).trans rfl; have hcz20_2 : w18.cell? ⟨gb556, 2, none⟩ = some (.int .i64 a0_2) := (blk_cell BK556.out 2).trans rfl; have hcz20_3 : w18.cell? ⟨gb556, 3, none⟩ = some (.int .u64 a0_3) := (blk_cell BK556.out 3).trans rfl; have hfz20_0 := blk_frozen BK556.out 0; have hfz20_1 := blk_frozen BK556.out 1; have hfz20_2 := blk_frozen BK556.out 2; have hfz20_3 := blk_frozen BK556.out 3; have hcz21_0 : w18.cell? ⟨gb557, 0, none⟩ = some (.int .i64 a1_0) := (blk_cell BK557.out 0).trans rfl; have hcz21_1 : w18.cell? ⟨gb557, 1, none⟩ = some (.int .i64 a1_1) := (blk_cell BK557.out 1).trans rfl; have hcz21_2 : w18.cell? ⟨gb557, 2, none⟩ = some (.int .i64 a1_2) := (blk_cell BK557.out 2).trans rfl; have hcz21_3 : w18.cell? ⟨gb557, 3, none⟩ = some (.int .u64 a1_3) := (blk_cell BK557.out 3).trans rfl; have hfz21_0 := blk_frozen BK557.out 0; have hfz21_1 := blk_frozen BK557.out 1; have hfz21_2 := blk_frozen BK557.out 2; have hfz21_3 := blk_frozen BK557.out 3))
       go_ret
       exact ⟨by first | rfl | (simp [errW_none, errW_some] <;> rfl) | (simp [*, errW_none, errW_some] <;> rfl), by repeat (first | (with_reducible first | exact HB.out | apply below_alloc | apply pw_below_drewN | apply below_drew1 | refine below_set ?_ GE556.out | refine below_set ?_ GE557.out) | exact HB.out)⟩
   · rw [if_neg c4] at H
     have c4b0 : (a0_1 == a1_1) = false := beq_eq_false_iff_ne.mpr c4
     have c4b1 : (a0_1 != a1_1) = true := bne_iff_ne.mpr c4
     obtain rfl := Option.some.inj H
     go_enter Tryd.func143, Tryd.ntmps143
     go_wp2_with (first | ((with_reducible refine gate_dst (N := 2) rfl ?_); refine box_event ?hg (N := 2) ?hd (cs := #[.int .i64 a0_0, .int .i64 a0_1, .int .i64 a0_2, .int .u64 a0_3]) (t := 77) ?hr ?_; (case hd => rfl); (case hg => rfl); (case hr => first | (go_simp; done) | (go_simp; rfl)); intro gb556 hg w22 hbox hb; have n0_ := Aside0.mk (below_step (by repeat (first | (with_reducible first | exact HB.out | apply below_alloc | apply pw_below_drewN | apply below_drew1) | exact HB.out)) hb); have n1_ := Aside0.mk (hbox); have n2_ := Aside0.mk ((by rw [hg]; exact (below_size (by repeat (first | (with_reducible first | exact HB.out | apply below_alloc | apply pw_below_drewN | apply below_drew1) | exact HB.out))) : w.heap.size ≤ gb556)); have n3_ := Aside0.mk ((by rw [hg]; exact (below_size (by repeat (first | (with_reducible first | exact HB.out | apply below_alloc | apply pw_below_drewN | apply below_drew1) | exact HB.out))) : w.heap.size ≤ gb556)); clear HB; have HB := n0_; have BK556 := n1_; have GW556 := n2_; have GE556 := n3_; clear n0_ n1_ n2_ n3_; clear hb hbox hg) | ((with_reducible refine gate_dst (N := 3) rfl ?_); refine box_event ?hg (N := 3) ?hd (cs := #[.int .i64 a1_0, .int .i64 a1_1, .int .i64 a1_2, .int .u64 a1_3]) (t := 77) ?hr ?_; (case hd => rfl); (case hg => rfl); (case hr => first | (go_simp; done) | (go_simp; rfl)); intro gb557 hg w23 hbox hb; have n0_ := Aside0.mk (blk_below (g := gb556) (o := .cells #[.int .i64 a0_0, .int .i64 a0_1, .int .i64 a0_2, .int .u64 a0_3] 77 (0, 0)) (by (with_reducible repeat (first | refine blk_drewN ?_ _ | refine blk_drew ?_ | refine blk_alloc ?_ _)); exact BK556.out) hb); have n1_ := Aside0.mk (below_step (by repeat (first | (with_reducible first | exact HB.out | apply below_alloc | apply pw_below_drewN | apply below_drew1 | refine below_set ?_ GE556.out) | exact HB.out)) hb); have n2_ := Aside0.mk (hbox); have n3_ := Aside0.mk ((by rw [hg]; exact (below_size (by repeat (first | (with_reducible first | exact HB.out | apply below_alloc | apply pw_below_drewN | apply below_drew1 | refine below_set ?_ GE556.out) | exact HB.out))) : w.heap.size ≤ gb557)); have n4_ := Aside0.mk ((by rw [hg]; exact (below_size (by repeat (first | (with_reducible first | exact HB.out | apply below_alloc | apply pw_below_drewN | apply below_drew1 | refine below_set ?_ GE556.out) | exact HB.out))) : w.heap.size ≤ gb557)); have n5_ := Aside0.mk ((by rw [hg]; exact Nat.ne_of_lt (blk_lt (g := gb556) (o := .cells #[.int .i64 a0_0, .int .i64 a0_1, .int .i64 a0_2, .int .u64 a0_3] 77 (0, 0)) (by (with_reducible repeat (first | refine blk_drewN ?_ _ | refine blk_drew ?_ | refine blk_alloc ?_ _)); exact BK556.out)) : gb556 ≠ gb557)); have n6_ := Aside0.mk ((by rw [hg]; exact Nat.ne_of_gt (blk_lt (g := gb556) (o := .cells #[.int .i64 a0_0, .int .i64 a0_1, .int .i64 a0_2, .int .u64 a0_3] 77 (0, 0)) (by (with_reducible repeat (first | refine blk_drewN ?_ _ | refine blk_drew ?_ | refine blk_alloc ?_ _)); exact BK556.out)) : gb557 ≠ gb556)); clear BK556; clear HB; have BK556 := n0_; have HB := n1_; have BK557 := n2_; have GW557 := n3_; have GE557 := n4_; have NB556_557 := n5_; have NB557_556 := n6_; clear n0_ n1_ n2_ n3_ n4_ n5_ n6_; clear hb hbox hg; have hnb24 := NB556_557.out; have hnc24 := NB557_556.out; have hcz25_0 : w23.cell? ⟨gb556, 0, none⟩ = some (.int .i64 a0_0) := (blk_cell BK556.out 0).trans rfl; have hcz25_1 : w23.cell? ⟨gb556, 1, none⟩ = some (.int .i64 a0_1) := (blk_cell BK556.out 1).trans rfl; have hcz25_2 : w23.cell? ⟨gb556, 2, none⟩ = some (.int .i64 a0_2) := (blk_cell BK556.out 2).trans rfl; have hcz25_3 : w23.cell? ⟨gb556, 3, none⟩ = some (.int .u64 a0_3) := (blk_cell BK556.out 3).trans rfl; have hfz25_0 := blk_frozen BK556.out 0; have hfz25_1 := blk_frozen BK556.out 1; have hfz25_2 := blk_frozen BK556.out 2; have hfz25_3 := blk_frozen BK556.out 3; have hcz26_0 : w23.cell? ⟨gb557, 0, none⟩ = some (.int .i64 a1_0) := (blk_cell BK557.out 0).trans rfl; have hcz26_1 : w23.cell? ⟨gb557, 1, none⟩ = some (.int .i64 a1_1) := (blk_cell BK557.out 1).trans rfl; have hcz26_2 : w23.cell? ⟨gb557, 2, none⟩ = some (.int .i64 a1_2) := (blk_cell BK557.out 2).trans rfl; have hcz26_3 : w23.cell? ⟨gb557, 3, none⟩ = some (.int .u64 a1_3) := (blk_cell BK557.out 3).trans rfl; have hfz26_0 := blk_frozen BK557.out 0; have hfz26_1 := blk_frozen BK557.out 1; have hfz26_2 := blk_frozen BK557.out 2; have hfz26_3 := blk_frozen BK557.out 3))
     go_ret
     exact ⟨by first | rfl | (simp [errW_none, errW_some] <;> rfl) | (simp [*, errW_none, errW_some] <;> rfl), by repeat (first | (with_reducible first | exact HB.out | apply below_alloc | apply pw_below_drewN | apply below_drew1 | refine below_set ?_ GE556.out | refine below_set ?_ GE557.out) | exact HB.out)⟩
 · rw [if_neg c3] at H
   have c3b0 : (a0_0 == a1_0) = false := beq_eq_false_iff_ne.mpr c3
   have c3b1 : (a0_0 != a1_0) = true := bne_iff_ne.mpr c3
   obtain rfl := Option.some.inj H
   go_enter Tryd.func143, Tryd.ntmps143
   go_wp2_with (first | ((with_reducible refine gate_dst (N := 2) rfl ?_); refine box_event ?hg (N := 2) ?hd (cs := #[.int .i64 a0_0, .int .i64 a0_1, .int .i64 a0_2, .int .u64 a0_3]) (t := 77) ?hr ?_; (case hd => rfl); (case hg => rfl); (case hr => first | (go_simp; done) | (go_simp; rfl)); intro gb556 hg w27 hbox hb; have n0_ := Aside0.mk (below_step (by repeat (first | (with_reducible first | exact HB.out | apply below_alloc | apply pw_below_drewN | apply below_drew1) | exact HB.out)) hb); have n1_ := Aside0.mk (hbox); have n2_ := Aside0.mk ((by rw [hg]; exact (below_size (by repeat (first | (with_reducible first | exact HB.out | apply below_alloc | apply pw_below_drewN | apply below_drew1) | exact HB.out))) : w.heap.size ≤ gb556)); have n3_ := Aside0.mk ((by rw [hg]; exact (below_size (by repeat (first | (with_reducible first | exact HB.out | apply below_alloc | apply pw_below_drewN | apply below_drew1) | exact HB.out))) : w.heap.size ≤ gb556)); clear HB; have HB := n0_; have BK556 := n1_; have GW556 := n2_; have GE556 := n3_; clear n0_ n1_ n2_ n3_; clear hb hbox hg) | ((with_reducible refine gate_dst (N := 3) rfl ?_); refine box_event ?hg (N := 3) ?hd (cs := #[.int .i64 a1_0, .int .i64 a1_1, .int .i64 a1_2, .int .u64 a1_3]) (t := 77) ?hr ?_; (case hd => rfl); (case hg => rfl); (case hr => first | (go_simp; done) | (go_simp; rfl)); intro gb557 hg w28 hbox hb; have n0_ := Aside0.mk (blk_below (g := gb556) (o := .cells #[.int .i64 a0_0, .int .i64 a0_1, .int .i64 a0_2, .int .u64 a0_3] 77 (0, 0)) (by (with_reducible repeat (first | refine blk_drewN ?_ _ | refine blk_drew ?_ | refine blk_alloc ?_ _)); exact BK556.out) hb); have n1_ := Aside0.mk (below_step (by repeat (first | (with_reducible first | exact HB.out | apply below_alloc | apply pw_below_drewN | apply below_drew1 | refine below_set ?_ GE556.out) | exact HB.out)) hb); have n2_ := Aside0.mk (hbox); have n3_ := Aside0.mk ((by rw [hg]; exact (below_size (by repeat (first | (with_reducible first | exact HB.out | apply below_alloc | apply pw_below_drewN | apply below_drew1 | refine below_set ?_ GE556.out) | exact HB.out))) : w.heap.size ≤ gb557)); have n4_ := Aside0.mk ((by rw [hg]; exact (below_size (by repeat (first | (with_reducible first | exact HB.out | apply below_alloc | apply pw_below_drewN | apply below_drew1 | refine below_set ?_ GE556.out) | exact HB.out))) : w.heap.size ≤ gb557)); have n5_ := Aside0.mk ((by rw [hg]; exact Nat.ne_of_lt (blk_lt (g := gb556) (o := .cells #[.int .i64 a0_0, .int .i64 a0_1, .int .i64 a0_2, .int .u64 a0_3] 77 (0, 0)) (by (with_reducible repeat (first | refine blk_drewN ?_ _ | refine blk_drew ?_ | refine blk_alloc ?_ _)); exact BK556.out)) : gb556 ≠ gb557)); have n6_ := Aside0.mk ((by rw [hg]; exact Nat.ne_of_gt (blk_lt (g := gb556) (o := .cells #[.int .i64 a0_0, .int .i64 a0_1, .int .i64 a0_2, .int .u64 a0_3] 77 (0, 0)) (by (with_reducible repeat (first | refine blk_drewN ?_ _ | refine blk_drew ?_ | refine blk_alloc ?_ _)); exact BK556.out)) : gb557 ≠ gb556)); clear BK556; clear HB; have BK556 := n0_; have HB := n1_; have BK557 := n2_; have GW557 := n3_; have GE557 := n4_; have NB556_557 := n5_; have NB557_556 := n6_; clear n0_ n1_ n2_ n3_ n4_ n5_ n6_; clear hb hbox hg; have hnb29 := NB556_557.out; have hnc29 := NB557_556.out; have hcz30_0 : w28.cell? ⟨gb556, 0, none⟩ = some (.int .i64 a0_0) := (blk_cell BK556.out 0).trans rfl; have hcz30_1 : w28.cell? ⟨gb556, 1, none⟩ = some (.int .i64 a0_1) := (blk_cell BK556.out 1).trans rfl; have hcz30_2 : w28.cell? ⟨gb556, 2, none⟩ = some (.int .i64 a0_2) := (blk_cell BK556.out 2).trans rfl; have hcz30_3 : w28.cell? ⟨gb556, 3, none⟩ = some (.int .u64 a0_3) := (blk_cell BK556.out 3).trans rfl; have hfz30_0 := blk_frozen BK556.out 0; have hfz30_1 := blk_frozen BK556.out 1; have hfz30_2 := blk_frozen BK556.out 2; have hfz30_3 := blk_frozen BK556.out 3; have hcz31_0 : w28.cell? ⟨gb557, 0, none⟩ = some (.int .i64 a1_0) := (blk_cell BK557.out 0).trans rfl; have hcz31_1 : w28.cell? ⟨gb557, 1, none⟩ = some (.int .i64 a1_1) := (blk_cell BK557.out 1).trans rfl; have hcz31_2 : w28.cell? ⟨gb557, 2, none⟩ = some (.int .i64 a1_2) := (blk_cell BK557.out 2).trans rfl; have hcz31_3 : w28.cell? ⟨gb557, 3, none⟩ = some (.int .u64 a1_3) := (blk_cell BK557.out 3).trans rfl; have hfz31_0 := blk_frozen BK557.out 0; have hfz31_1 := blk_frozen BK557.out 1; have hfz31_2 := blk_frozen BK557.out 2; have hfz31_3 := blk_frozen BK557.out 3))
   go_ret
   exact ⟨by first | rfl | (simp [errW_none, errW_some] <;> rfl) | (simp [*, errW_none, errW_some] <;> rfl), by repeat (first | (with_reducible first | exact HB.out | apply below_alloc | apply pw_below_drewN | apply below_drew1 | refine below_set ?_ GE556.out | refine below_set ?_ GE557.out) | exact HB.out)⟩

end Go.Proofs.YtkohjiajbdkcbaaDoor.All


namespace Go.Proofs.YtkohjiajbdkcbaaDoor.All
open Go.RowKit Go.Proofs.YtkohjiajbdkcbaaDoorW.PrintWords Go.Proofs.YtkohjiajbdkcbaaDoorW.PrintLast Go.Proofs.YtkohjiajbdkcbaaDoorW.PrintMore
attribute [local go_sem] max2_int min2_int max_two min_two max_three min_three max_four min_four   -- for this text's walks alone
set_option linter.unusedVariables false
set_option linter.unusedSimpArgs false

/-! ### laws_eqOperandS: function 142 -/
def laws_eqOperandS.l0 : Nat → List (S77) → List (S77) → Int → Option (Bool)
 | 0, _, _, _ => none
 | k + 1, x0, x1, x5 => if x5 < (x0.length : Int) then (if 0 ≤ x5 then (if x5 < (x1.length : Int) then ((laws_eqOperand.f ((rd_T77 x0 x5).f0) ((rd_T77 x0 x5).f1) ((rd_T77 x0 x5).f2) ((rd_T77 x0 x5).f3) ((rd_T77 x1 x5).f0) ((rd_T77 x1 x5).f1) ((rd_T77 x1 x5).f2) ((rd_T77 x1 x5).f3)).bind fun t560 => (if t560 = true then (laws_eqOperandS.l0 k x0 x1 (wrap64 (x5 + 1))) else (some false))) else (none)) else (none)) else (some true)
def laws_eqOperandS.f (k : Nat) (l0 : List (S77)) (l1 : List (S77)) : Option (Bool) := if (l0.length : Int) = (l1.length : Int) then (laws_eqOperandS.l0 k l0 l1 0) else (some false)
def laws_eqOperandS.T6 : Bool × List (List Nat × List Nat) := (true, [([], []), ([], []), ([0, 1], [0, 1]), ([2], [2]), ([], []), ([], []), ([4, 5], [4, 5]), ([6], [6]), ([3, 7], [3, 7]), ([8], [8])])
def laws_eqOperandS.B6 : List Nat := [0, 0, 3, 7, 0, 0, 48, 112, 255, 511]
theorem laws_eqOperandS.tab6 : rtab .any (opsOf Tryd.f142 6) = laws_eqOperandS.T6 := by kernel_rfl
theorem laws_eqOperandS.bits6 : waitsOk laws_eqOperandS.T6.2 laws_eqOperandS.B6 = true := by kernel_rfl
set_option maxHeartbeats 8000000 in
set_option maxRecDepth 100000 in
theorem laws_eqOperandS.calls (k : Nat) (A0 : Option Addr) (c0 : Nat) (l0 : List (S77)) (A1 : Option Addr) (c1 : Nat) (l1 : List (S77)) (r : Bool) (w : World) (hr0 : Kd.C k77 w A0 l0.length l0) (hc0 : l0.length ≤ c0) (hr1 : Kd.C k77 w A1 l1.length l1) (hc1 : l1.length ≤ c1) (h : laws_eqOperandS.f k l0 l1 = some r) :
 Calls Tryd.prog 142 #[.slice A0 l0.length c0, .slice A1 l1.length c1] w fun e w' => e = .returned (.bool r) ∧ Below w.heap.size w w' := by
 have hu77 := Tryd.underlying77
 have HR0 := Aside0.mk hr0
 have HC0 := Aside0.mk hc0
 clear hr0 hc0
 have HR1 := Aside0.mk hr1
 have HC1 := Aside0.mk hc1
 clear hr1 hc1
 have HB := Aside0.mk (Below.refl w.heap.size w)
 have H : (if (l0.length : Int) = (l1.length : Int) then (laws_eqOperandS.l0 k l0 l1 0) else (some false)) = some r := h
 clear h
 by_cases c3 : (l0.length : Int) = (l1.length : Int)
 · rw [if_pos c3] at H
   have c3b0 : ((l0.length : Int) == (l1.length : Int)) = true := beq_iff_eq.mpr c3
   have c3b1 : ((l0.length : Int) != (l1.length : Int)) = false := bne_eq_false_iff_eq.mpr c3
   have c3b2 : (l0.length == l1.length) = true := by first | simpa using c3 | (simp at c3 ⊢; omega)
   clear c3
   have H' := Aside0.mk H
   clear H
   go_enter Tryd.func142, Tryd.ntmps142
   go_wp2
   go_loopg [5] k (fun kq v5 w' => ∃ (x5_1 : Int), v5 = .int .i64 x5_1 ∧ Aside0 (laws_eqOperandS.l0 kq l0 l1 x5_1 = some r) ∧ Aside0 (kq ≤ k) ∧ Aside0 (Below w.heap.size w w'))
   case atStart => exact ⟨(0), (by first | rfl | (simp; done) | (simp [*]; done)), H', ⟨Nat.le_refl _⟩, ⟨by repeat (first | (with_reducible first | exact HB.out | apply below_alloc | apply pw_below_drewN | apply below_drew1) | exact HB.out)⟩⟩
   case round =>
    clear H'
    try clear c1
    try clear p2
    try clear c3
    try clear c3b0
    try clear c3b1
    try clear c3b2
    obtain ⟨x5_1, rfl, HA, HK1, HB⟩ := hrel
    cases gk with
    | zero => exact absurd HA.out (by simp [laws_eqOperandS.l0])
    | succ k1 =>
     have H := HA.out
     clear HA
     simp only [laws_eqOperandS.l0] at H
     by_cases c4 : x5_1 < (l0.length : Int)
     · rw [if_pos c4] at H
       have c4b0 : decide (x5_1 < (l0.length : Int)) = true := decide_eq_true c4
       clear c4
       by_cases c5 : 0 ≤ x5_1
       · rw [if_pos c5] at H
         have c5b0 : decide (0 ≤ x5_1) = true := decide_eq_true c5
         clear c5
         by_cases c6 : x5_1 < (l1.length : Int)
         · rw [if_pos c6] at H
           have c6b0 : decide (x5_1 < (l1.length : Int)) = true := decide_eq_true c6
           clear c6
           replace H := Option.bind_eq_some_iff.mp H
           obtain ⟨t560, A70, H⟩ := H
           replace H : (if t560 = true then (laws_eqOperandS.l0 k1 l0 l1 (wrap64 (x5_1 + 1))) else (some false)) = some r := H
           have A7 := Aside0.mk A70
           clear A70
           by_cases c8 : t560 = true
           · subst c8
             have H1 : (laws_eqOperandS.l0 k1 l0 l1 (wrap64 (x5_1 + 1))) = some r := by rw [if_pos rfl] at H; exact H
             clear H
             have H := H1
             clear H1
             have H' := Aside0.mk H
             clear H
             try go_wp2
             have n0_ := Aside0.mk (below_drew1 HB.out)
             clear HB
             have HB := n0_
             clear n0_
             have p558 : 0 ≤ (x5_1 : Int) := of_decide_eq_true (by first | (with_reducible assumption) | assumption)
             have q558 : x5_1 < (l0.length : Int) := of_decide_eq_true (by first | (with_reducible assumption) | assumption)
             obtain ⟨ad558, e558, hx558_0, hx558_1, hx558_2, hx558_3⟩ := at_T77 HR0.out x5_1 p558 q558
             have hw558_3 := hx558_3
             have hw558_2 := hx558_2
             have hw558_1 := hx558_1
             have hw558_0 := hx558_0
             cases e558
             replace hx558_0 := (HB.out.cell (World.block_lt_of_cell? w _ hx558_0)).trans hx558_0
             replace hx558_1 := (HB.out.cell (World.block_lt_of_cell? w _ hx558_1)).trans hx558_1
             replace hx558_2 := (HB.out.cell (World.block_lt_of_cell? w _ hx558_2)).trans hx558_2
             replace hx558_3 := (HB.out.cell (World.block_lt_of_cell? w _ hx558_3)).trans hx558_3
             replace p558 := eq_true p558
             replace q558 := eq_true q558
             have p559 : 0 ≤ (x5_1 : Int) := of_decide_eq_true (by first | (with_reducible assumption) | assumption)
             have q559 : x5_1 < (l1.length : Int) := of_decide_eq_true (by first | (with_reducible assumption) | assumption)
             obtain ⟨ad559, e559, hx559_0, hx559_1, hx559_2, hx559_3⟩ := at_T77 HR1.out x5_1 p559 q559
             have hw559_3 := hx559_3
             have hw559_2 := hx559_2
             have hw559_1 := hx559_1
             have hw559_0 := hx559_0
             cases e559
             replace hx559_0 := (HB.out.cell (World.block_lt_of_cell? w _ hx559_0)).trans hx559_0
             replace hx559_1 := (HB.out.cell (World.block_lt_of_cell? w _ hx559_1)).trans hx559_1
             replace hx559_2 := (HB.out.cell (World.block_lt_of_cell? w _ hx559_2)).trans hx559_2
             replace hx559_3 := (HB.out.cell (World.block_lt_of_cell? w _ hx559_3)).trans hx559_3
             replace p559 := eq_true p559
             replace q559 := eq_true q559
             refine start_ (n := 10) (S := fun w' => w'.cell? (ad558.add ((x5_1).toNat * 4)) = some (.int .i64 ((rd_T77 l0 x5_1).f0)) ∧ w'.cell? ⟨(ad558.add ((x5_1).toNat * 4)).block, (ad558.add ((x5_1).toNat * 4)).off + 1, none⟩ = some (.int .i64 ((rd_T77 l0 x5_1).f1)) ∧ w'.cell? ⟨(ad558.add ((x5_1).toNat * 4)).block, (ad558.add ((x5_1).toNat * 4)).off + 2, none⟩ = some (.int .i64 ((rd_T77 l0 x5_1).f2)) ∧ w'.cell? ⟨(ad558.add ((x5_1).toNat * 4)).block, (ad558.add ((x5_1).toNat * 4)).off + 3, none⟩ = some (.int .u64 ((rd_T77 l0 x5_1).f3)) ∧ w'.cell? (ad559.add ((x5_1).toNat * 4)) = some (.int .i64 ((rd_T77 l1 x5_1).f0)) ∧ w'.cell? ⟨(ad559.add ((x5_1).toNat * 4)).block, (ad559.add ((x5_1).toNat * 4)).off + 1, none⟩ = some (.int .i64 ((rd_T77 l1 x5_1).f1)) ∧ w'.cell? ⟨(ad559.add ((x5_1).toNat * 4)).block, (ad559.add ((x5_1).toNat * 4)).off + 2, none⟩ = some (.int .i64 ((rd_T77 l1 x5_1).f2)) ∧ w'.cell? ⟨(ad559.add ((x5_1).toNat * 4)).block, (ad559.add ((x5_1).toNat * 4)).off + 3, none⟩ = some (.int .u64 ((rd_T77 l1 x5_1).f3))) (ds := []) #[false, false, false, false, false, false, false, false, false, false] (by kernel_rfl) rfl rfl ⟨((HB.out.cell (World.block_lt_of_cell? w _ hw558_0)).trans hw558_0), ((HB.out.cell (World.block_lt_of_cell? w _ hw558_1)).trans hw558_1), ((HB.out.cell (World.block_lt_of_cell? w _ hw558_2)).trans hw558_2), ((HB.out.cell (World.block_lt_of_cell? w _ hw558_3)).trans hw558_3), ((HB.out.cell (World.block_lt_of_cell? w _ hw559_0)).trans hw559_0), ((HB.out.cell (World.block_lt_of_cell? w _ hw559_1)).trans hw559_1), ((HB.out.cell (World.block_lt_of_cell? w _ hw559_2)).trans hw559_2), ((HB.out.cell (World.block_lt_of_cell? w _ hw559_3)).trans hw559_3)⟩ (fun hHeld => ?_); refine with_tabW laws_eqOperandS.tab6 laws_eqOperandS.bits6 (fun HT_ HW_ => ?_)
             generalize wr.drew = w9 at HB hx558_0 hx558_1 hx558_2 hx558_3 hx559_0 hx559_1 hx559_2 hx559_3 hHeld ⊢
             refine pure_ (i := 0) (N := some 17) (v := ?_) (a' := ?_) #[true, false, false, false, false, false, false, false, false, false] rfl rfl (any_of HT_.out (by kernel_rfl)) (fun _ _ _ h => h) (Or.inl ⟨by rfl, ?_⟩) ?_ ?_
             rotate_left
             · intro w'
               go_simp
               with_reducible rfl
             rotate_left
             · simp only [Act.put, List.setIfInBounds_toArray, List.set_cons_zero, List.set_cons_succ, i64_w, i32_w]
               rfl
             refine pure_ (i := 1) (N := some 18) (v := ?_) (a' := ?_) #[true, true, false, false, false, false, false, false, false, false] rfl rfl (any_of HT_.out (by kernel_rfl)) (fun _ _ _ h => h) (Or.inl ⟨by rfl, ?_⟩) ?_ ?_
             rotate_left
             · intro w'
               go_simp
               with_reducible rfl
             rotate_left
             · simp only [Act.put, List.setIfInBounds_toArray, List.set_cons_zero, List.set_cons_succ, i64_w, i32_w]
               rfl
             refine pure_ (i := 2) (N := some 19) (v := ?_) (a' := ?_) #[true, true, true, false, false, false, false, false, false, false] rfl rfl (any_of HT_.out (by kernel_rfl)) (fun _ _ _ h => h) (Or.inl ⟨by rfl, ?_⟩) ?_ ?_
             rotate_left
             · intro w'
               go_simp
               with_reducible rfl
             rotate_left
             · simp only [Act.put, List.setIfInBounds_toArray, List.set_cons_zero, List.set_cons_succ, i64_w, i32_w]
               rfl
             refine pure_ (i := 4) (N := some 21) (v := ?_) (a' := ?_) #[true, true, true, false, true, false, false, false, false, false] rfl rfl (any_of HT_.out (by kernel_rfl)) (fun _ _ _ h => h) (Or.inl ⟨by rfl, ?_⟩) ?_ ?_
             rotate_left
             · intro w'
               go_simp
               with_reducible rfl
             rotate_left
             · simp only [Act.put, List.setIfInBounds_toArray, List.set_cons_zero, List.set_cons_succ, i64_w, i32_w]
               rfl
             refine pure_ (i := 5) (N := some 22) (v := ?_) (a' := ?_) #[true, true, true, false, true, true, false, false, false, false] rfl rfl (any_of HT_.out (by kernel_rfl)) (fun _ _ _ h => h) (Or.inl ⟨by rfl, ?_⟩) ?_ ?_
             rotate_left
             · intro w'
               go_simp
               with_reducible rfl
             rotate_left
             · simp only [Act.put, List.setIfInBounds_toArray, List.set_cons_zero, List.set_cons_succ, i64_w, i32_w]
               rfl
             refine pure_ (i := 6) (N := some 23) (v := ?_) (a' := ?_) #[true, true, true, false, true, true, true, false, false, false] rfl rfl (any_of HT_.out (by kernel_rfl)) (fun _ _ _ h => h) (Or.inl ⟨by rfl, ?_⟩) ?_ ?_
             rotate_left
             · intro w'
               go_simp
               with_reducible rfl
             rotate_left
             · simp only [Act.put, List.setIfInBounds_toArray, List.set_cons_zero, List.set_cons_succ, i64_w, i32_w]
               rfl
             refine take_ (i := 3) (N := some 20) (v := ?_) (a' := ?_) #[true, true, true, true, true, true, true, false, false, false] rfl rfl (take_ofW HT_.out HW_.out (by kernel_rfl)) (fun _ _ _ h => h) (Or.inl ⟨by rfl, ?_⟩) hHeld ?_ ?_
             rotate_left
             · rintro w' ⟨s0, s1, s2, s3, s4, s5, s6, s7⟩
               go_simp
               with_reducible rfl
             rotate_left
             · simp only [Act.put, List.setIfInBounds_toArray, List.set_cons_zero, List.set_cons_succ, i64_w, i32_w]
               rfl
             refine take_ (i := 7) (N := some 24) (v := ?_) (a' := ?_) #[true, true, true, true, true, true, true, true, false, false] rfl rfl (take_ofW HT_.out HW_.out (by kernel_rfl)) (fun _ _ _ h => h) (Or.inl ⟨by rfl, ?_⟩) hHeld ?_ ?_
             rotate_left
             · rintro w' ⟨s0, s1, s2, s3, s4, s5, s6, s7⟩
               go_simp
               with_reducible rfl
             rotate_left
             · simp only [Act.put, List.setIfInBounds_toArray, List.set_cons_zero, List.set_cons_succ, i64_w, i32_w]
               rfl
             refine one_ (i := 8) (N := some 25) #[true, true, true, true, true, true, true, true, true, false] rfl rfl (one_of HT_.out (by kernel_rfl)) (by decide) (fun K hK => ?_)
             refine goes_ Tryd.func143 (by kernel_rfl) rfl #[.agg #[.int .i64 ((rd_T77 l0 x5_1).f0), .int .i64 ((rd_T77 l0 x5_1).f1), .int .i64 ((rd_T77 l0 x5_1).f2), .int .u64 ((rd_T77 l0 x5_1).f3)], .agg #[.int .i64 ((rd_T77 l1 x5_1).f0), .int .i64 ((rd_T77 l1 x5_1).f1), .int .i64 ((rd_T77 l1 x5_1).f2), .int .u64 ((rd_T77 l1 x5_1).f3)]] (by rfl) rfl rfl (by (try simp only [List.map_toArray, List.map_cons, List.map_nil]); first | done | rfl | (simp only [List.length_drop, List.length_take]; rfl)) ?_
             with_reducible refine (laws_eqOperand.calls ((rd_T77 l0 x5_1).f0) ((rd_T77 l0 x5_1).f1) ((rd_T77 l0 x5_1).f2) ((rd_T77 l0 x5_1).f3) ((rd_T77 l1 x5_1).f0) ((rd_T77 l1 x5_1).f1) ((rd_T77 l1 x5_1).f2) ((rd_T77 l1 x5_1).f3) true _ A7.out).mono ?_
             rintro e w10 ⟨rfl, hb⟩
             refine ⟨_, rfl, ?_⟩
             have n0_ := Aside0.mk (below_step (by repeat (first | (with_reducible first | exact HB.out | apply below_alloc | apply pw_below_drewN | apply below_drew1) | exact HB.out)) hb)
             clear HB
             have HB := n0_
             clear n0_
             (try clear hb)
             (try clear hb2)
             (try clear hk)
             (try clear hi)
             refine hK.out _ _ ⟨((HB.out.cell (World.block_lt_of_cell? w _ hw558_0)).trans hw558_0), ((HB.out.cell (World.block_lt_of_cell? w _ hw558_1)).trans hw558_1), ((HB.out.cell (World.block_lt_of_cell? w _ hw558_2)).trans hw558_2), ((HB.out.cell (World.block_lt_of_cell? w _ hw558_3)).trans hw558_3), ((HB.out.cell (World.block_lt_of_cell? w _ hw559_0)).trans hw559_0), ((HB.out.cell (World.block_lt_of_cell? w _ hw559_1)).trans hw559_1), ((HB.out.cell (World.block_lt_of_cell? w _ hw559_2)).trans hw559_2), ((HB.out.cell (World.block_lt_of_cell? w _ hw559_3)).trans hw559_3)⟩ (fun hHeld => ?_)
             clear hK K
             refine norm_ (a' := ?_) ?_ ?_
             rotate_left
             · show Act.put _ (some 25) _ = _
               simp only [Act.put, List.setIfInBounds_toArray, List.set_cons_zero, List.set_cons_succ, i64_w, i32_w]
               rfl
             refine pure_ (i := 9) (N := some 26) (v := ?_) (a' := ?_) #[true, true, true, true, true, true, true, true, true, true] rfl rfl (any_of HT_.out (by kernel_rfl)) (fun _ _ _ h => h) (Or.inl ⟨by rfl, ?_⟩) ?_ ?_
             rotate_left
             · intro w'
               go_simp
               with_reducible rfl
             rotate_left
             · simp only [Act.put, List.setIfInBounds_toArray, List.set_cons_zero, List.set_cons_succ, i64_w, i32_w]
               rfl
             refine done_ (done_of HT_.out (by kernel_rfl)) ?_
             try go_wp2
             go_roundg k1
             case measure => have := HK1.out; omega
             case rel => exact ⟨(wrap64 (x5_1 + 1)), (by first | rfl | (simp; done) | (simp [*]; done)), H', ⟨by have := HK1.out; omega⟩, ⟨by repeat (first | (with_reducible first | exact HB.out | apply below_alloc | apply pw_below_drewN | apply below_drew1) | exact HB.out)⟩⟩
           · replace c8 := Bool.eq_false_iff.mpr c8
             subst c8
             have H1 : (some false) = some r := by rw [if_neg (show ¬ (false = true) by decide)] at H; exact H
             clear H
             have H := H1
             clear H1
             obtain rfl := Option.some.inj H
             try go_wp2
             have n0_ := Aside0.mk (below_drew1 HB.out)
             clear HB
             have HB := n0_
             clear n0_
             have p558 : 0 ≤ (x5_1 : Int) := of_decide_eq_true (by first | (with_reducible assumption) | assumption)
             have q558 : x5_1 < (l0.length : Int) := of_decide_eq_true (by first | (with_reducible assumption) | assumption)
             obtain ⟨ad558, e558, hx558_0, hx558_1, hx558_2, hx558_3⟩ := at_T77 HR0.out x5_1 p558 q558
             have hw558_3 := hx558_3
             have hw558_2 := hx558_2
             have hw558_1 := hx558_1
             have hw558_0 := hx558_0
             cases e558
             replace hx558_0 := (HB.out.cell (World.block_lt_of_cell? w _ hx558_0)).trans hx558_0
             replace hx558_1 := (HB.out.cell (World.block_lt_of_cell? w _ hx558_1)).trans hx558_1
             replace hx558_2 := (HB.out.cell (World.block_lt_of_cell? w _ hx558_2)).trans hx558_2
             replace hx558_3 := (HB.out.cell (World.block_lt_of_cell? w _ hx558_3)).trans hx558_3
             replace p558 := eq_true p558
             replace q558 := eq_true q558
             have p559 : 0 ≤ (x5_1 : Int) := of_decide_eq_true (by first | (with_reducible assumption) | assumption)
             have q559 : x5_1 < (l1.length : Int) := of_decide_eq_true (by first | (with_reducible assumption) | assumption)
             obtain ⟨ad559, e559, hx559_0, hx559_1, hx559_2, hx559_3⟩ := at_T77 HR1.out x5_1 p559 q559
             have hw559_3 := hx559_3
             have hw559_2 := hx559_2
             have hw559_1 := hx559_1
             have hw559_0 := hx559_0
             cases e559
             replace hx559_0 := (HB.out.cell (World.block_lt_of_cell? w _ hx559_0)).trans hx559_0
             replace hx559_1 := (HB.out.cell (World.block_lt_of_cell? w _ hx559_1)).trans hx559_1
             replace hx559_2 := (HB.out.cell (World.block_lt_of_cell? w _ hx559_2)).trans hx559_2
             replace hx559_3 := (HB.out.cell (World.block_lt_of_cell? w _ hx559_3)).trans hx559_3
             replace p559 := eq_true p559
             replace q559 := eq_true q559
             refine start_ (n := 10) (S := fun w' => w'.cell? (ad558.add ((x5_1).toNat * 4)) = some (.int .i64 ((rd_T77 l0 x5_1).f0)) ∧ w'.cell? ⟨(ad558.add ((x5_1).toNat * 4)).block, (ad558.add ((x5_1).toNat * 4)).off + 1, none⟩ = some (.int .i64 ((rd_T77 l0 x5_1).f1)) ∧ w'.cell? ⟨(ad558.add ((x5_1).toNat * 4)).block, (ad558.add ((x5_1).toNat * 4)).off + 2, none⟩ = some (.int .i64 ((rd_T77 l0 x5_1).f2)) ∧ w'.cell? ⟨(ad558.add ((x5_1).toNat * 4)).block, (ad558.add ((x5_1).toNat * 4)).off + 3, none⟩ = some (.int .u64 ((rd_T77 l0 x5_1).f3)) ∧ w'.cell? (ad559.add ((x5_1).toNat * 4)) = some (.int .i64 ((rd_T77 l1 x5_1).f0)) ∧ w'.cell? ⟨(ad559.add ((x5_1).toNat * 4)).block, (ad559.add ((x5_1).toNat * 4)).off + 1, none⟩ = some (.int .i64 ((rd_T77 l1 x5_1).f1)) ∧ w'.cell? ⟨(ad559.add ((x5_1).toNat * 4)).block, (ad559.add ((x5_1).toNat * 4)).off + 2, none⟩ = some (.int .i64 ((rd_T77 l1 x5_1).f2)) ∧ w'.cell? ⟨(ad559.add ((x5_1).toNat * 4)).block, (ad559.add ((x5_1).toNat * 4)).off + 3, none⟩ = some (.int .u64 ((rd_T77 l1 x5_1).f3))) (ds := []) #[false, false, false, false, false, false, false, false, false, false] (by kernel_rfl) rfl rfl ⟨((HB.out.cell (World.block_lt_of_cell? w _ hw558_0)).trans hw558_0), ((HB.out.cell (World.block_lt_of_cell? w _ hw558_1)).trans hw558_1), ((HB.out.cell (World.block_lt_of_cell? w _ hw558_2)).trans hw558_2), ((HB.out.cell (World.block_lt_of_cell? w _ hw558_3)).trans hw558_3), ((HB.out.cell (World.block_lt_of_cell? w _ hw559_0)).trans hw559_0), ((HB.out.cell (World.block_lt_of_cell? w _ hw559_1)).trans hw559_1), ((HB.out.cell (World.block_lt_of_cell? w _ hw559_2)).trans hw559_2), ((HB.out.cell (World.block_lt_of_cell? w _ hw559_3)).trans hw559_3)⟩ (fun hHeld => ?_); refine with_tabW laws_eqOperandS.tab6 laws_eqOperandS.bits6 (fun HT_ HW_ => ?_)
             generalize wr.drew = w11 at HB hx558_0 hx558_1 hx558_2 hx558_3 hx559_0 hx559_1 hx559_2 hx559_3 hHeld ⊢
             refine pure_ (i := 0) (N := some 17) (v := ?_) (a' := ?_) #[true, false, false, false, false, false, false, false, false, false] rfl rfl (any_of HT_.out (by kernel_rfl)) (fun _ _ _ h => h) (Or.inl ⟨by rfl, ?_⟩) ?_ ?_
             rotate_left
             · intro w'
               go_simp
               with_reducible rfl
             rotate_left
             · simp only [Act.put, List.setIfInBounds_toArray, List.set_cons_zero, List.set_cons_succ, i64_w, i32_w]
               rfl
             refine pure_ (i := 1) (N := some 18) (v := ?_) (a' := ?_) #[true, true, false, false, false, false, false, false, false, false] rfl rfl (any_of HT_.out (by kernel_rfl)) (fun _ _ _ h => h) (Or.inl ⟨by rfl, ?_⟩) ?_ ?_
             rotate_left
             · intro w'
               go_simp
               with_reducible rfl
             rotate_left
             · simp only [Act.put, List.setIfInBounds_toArray, List.set_cons_zero, List.set_cons_succ, i64_w, i32_w]
               rfl
             refine pure_ (i := 2) (N := some 19) (v := ?_) (a' := ?_) #[true, true, true, false, false, false, false, false, false, false] rfl rfl (any_of HT_.out (by kernel_rfl)) (fun _ _ _ h => h) (Or.inl ⟨by rfl, ?_⟩) ?_ ?_
             rotate_left
             · intro w'
               go_simp
               with_reducible rfl
             rotate_left
             · simp only [Act.put, List.setIfInBounds_toArray, List.set_cons_zero, List.set_cons_succ, i64_w, i32_w]
               rfl
             refine pure_ (i := 4) (N := some 21) (v := ?_) (a' := ?_) #[true, true, true, false, true, false, false, false, false, false] rfl rfl (any_of HT_.out (by kernel_rfl)) (fun _ _ _ h => h) (Or.inl ⟨by rfl, ?_⟩) ?_ ?_
             rotate_left
             · intro w'
               go_simp
               with_reducible rfl
             rotate_left
             · simp only [Act.put, List.setIfInBounds_toArray, List.set_cons_zero, List.set_cons_succ, i64_w, i32_w]
               rfl
             refine pure_ (i := 5) (N := some 22) (v := ?_) (a' := ?_) #[true, true, true, false, true, true, false, false, false, false] rfl rfl (any_of HT_.out (by kernel_rfl)) (fun _ _ _ h => h) (Or.inl ⟨by rfl, ?_⟩) ?_ ?_
             rotate_left
             · intro w'
               go_simp
               with_reducible rfl
             rotate_left
             · simp only [Act.put, List.setIfInBounds_toArray, List.set_cons_zero, List.set_cons_succ, i64_w, i32_w]
               rfl
             refine pure_ (i := 6) (N := some 23) (v := ?_) (a' := ?_) #[true, true, true, false, true, true, true, false, false, false] rfl rfl (any_of HT_.out (by kernel_rfl)) (fun _ _ _ h => h) (Or.inl ⟨by rfl, ?_⟩) ?_ ?_
             rotate_left
             · intro w'
               go_simp
               with_reducible rfl
             rotate_left
             · simp only [Act.put, List.setIfInBounds_toArray, List.set_cons_zero, List.set_cons_succ, i64_w, i32_w]
               rfl
             refine take_ (i := 3) (N := some 20) (v := ?_) (a' := ?_) #[true, true, true, true, true, true, true, false, false, false] rfl rfl (take_ofW HT_.out HW_.out (by kernel_rfl)) (fun _ _ _ h => h) (Or.inl ⟨by rfl, ?_⟩) hHeld ?_ ?_
             rotate_left
             · rintro w' ⟨s0, s1, s2, s3, s4, s5, s6, s7⟩
               go_simp
               with_reducible rfl
             rotate_left
             · simp only [Act.put, List.setIfInBounds_toArray, List.set_cons_zero, List.set_cons_succ, i64_w, i32_w]
               rfl
             refine take_ (i := 7) (N := some 24) (v := ?_) (a' := ?_) #[true, true, true, true, true, true, true, true, false, false] rfl rfl (take_ofW HT_.out HW_.out (by kernel_rfl)) (fun _ _ _ h => h) (Or.inl ⟨by rfl, ?_⟩) hHeld ?_ ?_
             rotate_left
             · rintro w' ⟨s0, s1, s2, s3, s4, s5, s6, s7⟩
               go_simp
               with_reducible rfl
             rotate_left
             · simp only [Act.put, List.setIfInBounds_toArray, List.set_cons_zero, List.set_cons_succ, i64_w, i32_w]
               rfl
             refine one_ (i := 8) (N := some 25) #[true, true, true, true, true, true, true, true, true, false] rfl rfl (one_of HT_.out (by kernel_rfl)) (by decide) (fun K hK => ?_)
             refine goes_ Tryd.func143 (by kernel_rfl) rfl #[.agg #[.int .i64 ((rd_T77 l0 x5_1).f0), .int .i64 ((rd_T77 l0 x5_1).f1), .int .i64 ((rd_T77 l0 x5_1).f2), .int .u64 ((rd_T77 l0 x5_1).f3)], .agg #[.int .i64 ((rd_T77 l1 x5_1).f0), .int .i64 ((rd_T77 l1 x5_1).f1), .int .i64 ((rd_T77 l1 x5_1).f2), .int .u64 ((rd_T77 l1 x5_1).f3)]] (by rfl) rfl rfl (by (try simp only [List.map_toArray, List.map_cons, List.map_nil]); first | done | rfl | (simp only [List.length_drop, List.length_take]; rfl)) ?_
             with_reducible refine (laws_eqOperand.calls ((rd_T77 l0 x5_1).f0) ((rd_T77 l0 x5_1).f1) ((rd_T77 l0 x5_1).f2) ((rd_T77 l0 x5_1).f3) ((rd_T77 l1 x5_1).f0) ((rd_T77 l1 x5_1).f1) ((rd_T77 l1 x5_1).f2) ((rd_T77 l1 x5_1).f3) false _ A7.out).mono ?_
             rintro e w12 ⟨rfl, hb⟩
             refine ⟨_, rfl, ?_⟩
             have n0_ := Aside0.mk (below_step (by repeat (first | (with_reducible first | exact HB.out | apply below_alloc | apply pw_below_drewN | apply below_drew1) | exact HB.out)) hb)
             clear HB
             have HB := n0_
             clear n0_
             (try clear hb)
             (try clear hb2)
             (try clear hk)
             (try clear hi)
             refine hK.out _ _ ⟨((HB.out.cell (World.block_lt_of_cell? w _ hw558_0)).trans hw558_0), ((HB.out.cell (World.block_lt_of_cell? w _ hw558_1)).trans hw558_1), ((HB.out.cell (World.block_lt_of_cell? w _ hw558_2)).trans hw558_2), ((HB.out.cell (World.block_lt_of_cell? w _ hw558_3)).trans hw558_3), ((HB.out.cell (World.block_lt_of_cell? w _ hw559_0)).trans hw559_0), ((HB.out.cell (World.block_lt_of_cell? w _ hw559_1)).trans hw559_1), ((HB.out.cell (World.block_lt_of_cell? w _ hw559_2)).trans hw559_2), ((HB.out.cell (World.block_lt_of_cell? w _ hw559_3)).trans hw559_3)⟩ (fun hHeld => ?_)
             clear hK K
             refine norm_ (a' := ?_) ?_ ?_
             rotate_left
             · show Act.put _ (some 25) _ = _
               simp only [Act.put, List.setIfInBounds_toArray, List.set_cons_zero, List.set_cons_succ, i64_w, i32_w]
               rfl
             refine pure_ (i := 9) (N := some 26) (v := ?_) (a' := ?_) #[true, true, true, true, true, true, true, true, true, true] rfl rfl (any_of HT_.out (by kernel_rfl)) (fun _ _ _ h => h) (Or.inl ⟨by rfl, ?_⟩) ?_ ?_
             rotate_left
             · intro w'
               go_simp
               with_reducible rfl
             rotate_left
             · simp only [Act.put, List.setIfInBounds_toArray, List.set_cons_zero, List.set_cons_succ, i64_w, i32_w]
               rfl
             refine done_ (done_of HT_.out (by kernel_rfl)) ?_
             try go_wp2
             go_ret
             exact ⟨by first | rfl | (simp [errW_none, errW_some] <;> rfl) | (simp [*, errW_none, errW_some] <;> rfl), by repeat (first | (with_reducible first | exact HB.out | apply below_alloc | apply pw_below_drewN | apply below_drew1) | exact HB.out)⟩
         · rw [if_neg c6] at H
           exact absurd H (by simp)
       · rw [if_neg c5] at H
         exact absurd H (by simp)
     · rw [if_neg c4] at H
       have c4b0 : decide (x5_1 < (l0.length : Int)) = false := decide_eq_false c4
       clear c4
       obtain rfl := Option.some.inj H
       go_wp2
       go_ret
       exact ⟨by first | rfl | (simp [errW_none, errW_some] <;> rfl) | (simp [*, errW_none, errW_some] <;> rfl), by repeat (first | (with_reducible first | exact HB.out | apply below_alloc | apply pw_below_drewN | apply below_drew1) | exact HB.out)⟩
 · rw [if_neg c3] at H
   have c3b0 : ((l0.length : Int) == (l1.length : Int)) = false := beq_eq_false_iff_ne.mpr c3
   have c3b1 : ((l0.length : Int) != (l1.length : Int)) = true := bne_iff_ne.mpr c3
   have c3b2 : (l0.length == l1.length) = false := by first | simpa using c3 | (simp at c3 ⊢; omega)
   obtain rfl := Option.some.inj H
   go_enter Tryd.func142, Tryd.ntmps142
   go_wp2
   go_ret
   exact ⟨by first | rfl | (simp [errW_none, errW_some] <;> rfl) | (simp [*, errW_none, errW_some] <;> rfl), by repeat (first | (with_reducible first | exact HB.out | apply below_alloc | apply pw_below_drewN | apply below_drew1) | exact HB.out)⟩

end Go.Proofs.YtkohjiajbdkcbaaDoor.All

