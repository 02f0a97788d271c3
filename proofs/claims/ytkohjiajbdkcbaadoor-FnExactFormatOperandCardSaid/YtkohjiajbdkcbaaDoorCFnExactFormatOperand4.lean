/- Part 4 of the proof of FnExactFormatOperand: functions of the translation with what they return, and plain laws of these. Written by programs of this session over the kit's print, and by hand. -/
import Derived.Test.YtkohjiajbdkcbaaDoorProg
import Derived.Test.YtkohjiajbdkcbaaDoorCFnExactFormatOperandWApart
import Derived.Test.YtkohjiajbdkcbaaDoorCFnExactFormatOperandWArr
import Derived.Test.YtkohjiajbdkcbaaDoorCFnExactFormatOperandWFoot
import Derived.Test.YtkohjiajbdkcbaaDoorCFnExactFormatOperandWGuard
import Derived.Test.YtkohjiajbdkcbaaDoorCFnExactFormatOperandWKept
import Derived.Test.YtkohjiajbdkcbaaDoorCFnExactFormatOperandWLast
import Derived.Test.YtkohjiajbdkcbaaDoorCFnExactFormatOperandWMore
import Derived.Test.YtkohjiajbdkcbaaDoorCFnExactFormatOperandWN
import Derived.Test.YtkohjiajbdkcbaaDoorCFnExactFormatOperandWNEv
import Derived.Test.YtkohjiajbdkcbaaDoorCFnExactFormatOperandWQPut
import Derived.Test.YtkohjiajbdkcbaaDoorCFnExactFormatOperandWRepsOne
import Derived.Test.YtkohjiajbdkcbaaDoorCFnExactFormatOperandWShare
import Derived.Test.YtkohjiajbdkcbaaDoorCFnExactFormatOperandWTab
import Derived.Test.YtkohjiajbdkcbaaDoorCFnExactFormatOperandWWords
import Derived.Test.YtkohjiajbdkcbaaDoorCFnExactFormatOperandWZeros
import Derived.Below
import Derived.Deep.Draws
import Derived.Deep.AppendLies
import Derived.Maps.AppendAt
import Derived.OwnWalk
import Derived.Laws.BytesArg
import Derived.Laws.MakeOwn
import Derived.Laws.OwnMore
import Derived.Deep.OwnRows
import Derived.Tactics
import Derived.Lib.ConvBytes
import Derived.Laws.Slices
import Derived.WalkKit
import Derived.KernelRfl
import Derived.RowKit3
import Derived.Deep.LoopGhost
import Derived.Deep.QuietTactic
import Derived.BigQuiet
import Derived.WideLaws
import Derived.Deep.DeepCutAuto
import Derived.Deep.CutBlock
import Derived.Deep.RegionHeld3
import Derived.Laws.Rows
import Derived.Lib.AppendStr
import Derived.ArgAppend
import Derived.Laws.IdiomCopy
import Derived.OrdersHeld
import Derived.Laws.BitsLemmas
import Derived.RowKit
import Derived.Lib.LaidTab
import Derived.Lib.ItoaNum
import Derived.Sort.Grow
import Derived.Shelf.Strconv.Itoa4
import Derived.Shelf.LaysM
import Derived.Shelf.LaysC
import Derived.Shelf.Strconv.Itoa1
import Derived.Laws.BitsAllLaws
import Derived.Lib.ItoaLen
import Derived.Lib.ParseIntBCases
import Derived.Deep.Slices
import Derived.ChangeArms
import Derived.OpenShut
import Derived.Stop.LaidErr
import Derived.LaidMore
import Derived.ProofKit
import Derived.ShutString
import Derived.ChangeOld
import Derived.SizedLaws
import Derived.Deep.DeepHandedRow
import Derived.Deep.DeepWitnessRowRef
import Derived.SevenTiedAt
import Derived.Test.YtkohjiajbdkcbaaDoorCFnExactFormatOperand1
import Derived.Test.YtkohjiajbdkcbaaDoorCFnExactFormatOperand2
import Derived.Test.YtkohjiajbdkcbaaDoorCFnExactFormatOperand3
namespace Go.Proofs.YtkohjiajbdkcbaaDoor.All
open Go.RowKit Go.Proofs.YtkohjiajbdkcbaaDoorW.PrintWords Go.Proofs.YtkohjiajbdkcbaaDoorW.PrintLast Go.Proofs.YtkohjiajbdkcbaaDoorW.PrintMore
attribute [local go_sem] max2_int min2_int max_two min_two max_three min_three max_four min_four   -- for this text's walks alone
set_option linter.unusedVariables false
set_option linter.unusedSimpArgs false

/-! ### laws_eqInstr: function 139 -/
def laws_eqInstr.f (k : Nat) (a0_0 : Int) (a0_1 : Int) (a0_2 : Int) (a0_3 : Int) (a0_4 : Int) (a0_5 : Int) (l0_6 : List (S77)) (l0_7 : List Int) (l0_8 : List Int) (a1_0 : Int) (a1_1 : Int) (a1_2 : Int) (a1_3 : Int) (a1_4 : Int) (a1_5 : Int) (l1_6 : List (S77)) (l1_7 : List Int) (l1_8 : List Int) : Option (Bool) := if a0_0 = a1_0 then (if a0_1 = a1_1 then (if a0_2 = a1_2 then (if a0_3 = a1_3 then (if a0_4 = a1_4 then (if a0_5 = a1_5 then ((laws_eqOperandS.f k l0_6 l1_6).bind fun t563 => (if t563 = true then ((laws_eqInt64S.f k l0_7 l1_7).bind fun t564 => (if t564 = true then ((laws_eqUint64S.f k l0_8 l1_8).bind fun t565 => (if t565 = true then (some true) else (some false))) else (some false))) else (some false))) else (some false)) else (some false)) else (some false)) else (some false)) else (some false)) else (some false)
set_option maxHeartbeats 8000000 in
set_option maxRecDepth 100000 in
theorem laws_eqInstr.calls (k : Nat) (a0_0 : Int) (a0_1 : Int) (a0_2 : Int) (a0_3 : Int) (a0_4 : Int) (a0_5 : Int) (A0_6 : Option Addr) (c0_6 : Nat) (l0_6 : List (S77)) (A0_7 : Option Addr) (c0_7 : Nat) (l0_7 : List Int) (A0_8 : Option Addr) (c0_8 : Nat) (l0_8 : List Int) (a1_0 : Int) (a1_1 : Int) (a1_2 : Int) (a1_3 : Int) (a1_4 : Int) (a1_5 : Int) (A1_6 : Option Addr) (c1_6 : Nat) (l1_6 : List (S77)) (A1_7 : Option Addr) (c1_7 : Nat) (l1_7 : List Int) (A1_8 : Option Addr) (c1_8 : Nat) (l1_8 : List Int) (r : Bool) (w : World) (hr0_6 : Kd.C k77 w A0_6 l0_6.length l0_6) (hc0_6 : l0_6.length ≤ c0_6) (hr0_7 : Kd.C (Kd.int .i64) w A0_7 l0_7.length l0_7) (hc0_7 : l0_7.length ≤ c0_7) (hr0_8 : Kd.C (Kd.int .u64) w A0_8 l0_8.length l0_8) (hc0_8 : l0_8.length ≤ c0_8) (hr1_6 : Kd.C k77 w A1_6 l1_6.length l1_6) (hc1_6 : l1_6.length ≤ c1_6) (hr1_7 : Kd.C (Kd.int .i64) w A1_7 l1_7.length l1_7) (hc1_7 : l1_7.length ≤ c1_7) (hr1_8 : Kd.C (Kd.int .u64) w A1_8 l1_8.length l1_8) (hc1_8 : l1_8.length ≤ c1_8) (h : laws_eqInstr.f k a0_0 a0_1 a0_2 a0_3 a0_4 a0_5 l0_6 l0_7 l0_8 a1_0 a1_1 a1_2 a1_3 a1_4 a1_5 l1_6 l1_7 l1_8 = some r) :
 Calls Tryd.prog 139 #[.agg #[.int .i64 a0_0, .int .i64 a0_1, .int .i64 a0_2, .int .i64 a0_3, .int .i64 a0_4, .int .i64 a0_5, .slice A0_6 l0_6.length c0_6, .slice A0_7 l0_7.length c0_7, .slice A0_8 l0_8.length c0_8], .agg #[.int .i64 a1_0, .int .i64 a1_1, .int .i64 a1_2, .int .i64 a1_3, .int .i64 a1_4, .int .i64 a1_5, .slice A1_6 l1_6.length c1_6, .slice A1_7 l1_7.length c1_7, .slice A1_8 l1_8.length c1_8]] w fun e w' => e = .returned (.bool r) ∧ Below w.heap.size w w' := by
 have hu205 := Tryd.underlying205
 have HR0_6 := Aside0.mk hr0_6
 have HC0_6 := Aside0.mk hc0_6
 clear hr0_6 hc0_6
 have HR0_7 := Aside0.mk hr0_7
 have HC0_7 := Aside0.mk hc0_7
 clear hr0_7 hc0_7
 have HR0_8 := Aside0.mk hr0_8
 have HC0_8 := Aside0.mk hc0_8
 clear hr0_8 hc0_8
 have HR1_6 := Aside0.mk hr1_6
 have HC1_6 := Aside0.mk hc1_6
 clear hr1_6 hc1_6
 have HR1_7 := Aside0.mk hr1_7
 have HC1_7 := Aside0.mk hc1_7
 clear hr1_7 hc1_7
 have HR1_8 := Aside0.mk hr1_8
 have HC1_8 := Aside0.mk hc1_8
 clear hr1_8 hc1_8
 have HB := Aside0.mk (Below.refl w.heap.size w)
 have H : (if a0_0 = a1_0 then (if a0_1 = a1_1 then (if a0_2 = a1_2 then (if a0_3 = a1_3 then (if a0_4 = a1_4 then (if a0_5 = a1_5 then ((laws_eqOperandS.f k l0_6 l1_6).bind fun t563 => (if t563 = true then ((laws_eqInt64S.f k l0_7 l1_7).bind fun t564 => (if t564 = true then ((laws_eqUint64S.f k l0_8 l1_8).bind fun t565 => (if t565 = true then (some true) else (some false))) else (some false))) else (some false))) else (some false)) else (some false)) else (some false)) else (some false)) else (some false)) else (some false)) = some r := h
 clear h
 by_cases c3 : a0_0 = a1_0
 · rw [if_pos c3] at H
   have c3b0 : (a0_0 == a1_0) = true := beq_iff_eq.mpr c3
   have c3b1 : (a0_0 != a1_0) = false := bne_eq_false_iff_eq.mpr c3
   clear c3
   by_cases c4 : a0_1 = a1_1
   · rw [if_pos c4] at H
     have c4b0 : (a0_1 == a1_1) = true := beq_iff_eq.mpr c4
     have c4b1 : (a0_1 != a1_1) = false := bne_eq_false_iff_eq.mpr c4
     clear c4
     by_cases c5 : a0_2 = a1_2
     · rw [if_pos c5] at H
       have c5b0 : (a0_2 == a1_2) = true := beq_iff_eq.mpr c5
       have c5b1 : (a0_2 != a1_2) = false := bne_eq_false_iff_eq.mpr c5
       clear c5
       by_cases c6 : a0_3 = a1_3
       · rw [if_pos c6] at H
         have c6b0 : (a0_3 == a1_3) = true := beq_iff_eq.mpr c6
         have c6b1 : (a0_3 != a1_3) = false := bne_eq_false_iff_eq.mpr c6
         clear c6
         by_cases c7 : a0_4 = a1_4
         · rw [if_pos c7] at H
           have c7b0 : (a0_4 == a1_4) = true := beq_iff_eq.mpr c7
           have c7b1 : (a0_4 != a1_4) = false := bne_eq_false_iff_eq.mpr c7
           clear c7
           by_cases c8 : a0_5 = a1_5
           · rw [if_pos c8] at H
             have c8b0 : (a0_5 == a1_5) = true := beq_iff_eq.mpr c8
             have c8b1 : (a0_5 != a1_5) = false := bne_eq_false_iff_eq.mpr c8
             clear c8
             replace H := Option.bind_eq_some_iff.mp H
             obtain ⟨t563, A90, H⟩ := H
             replace H : (if t563 = true then ((laws_eqInt64S.f k l0_7 l1_7).bind fun t564 => (if t564 = true then ((laws_eqUint64S.f k l0_8 l1_8).bind fun t565 => (if t565 = true then (some true) else (some false))) else (some false))) else (some false)) = some r := H
             have A9 := Aside0.mk A90
             clear A90
             by_cases c10 : t563 = true
             · subst c10
               have H1 : ((laws_eqInt64S.f k l0_7 l1_7).bind fun t564 => (if t564 = true then ((laws_eqUint64S.f k l0_8 l1_8).bind fun t565 => (if t565 = true then (some true) else (some false))) else (some false))) = some r := by rw [if_pos rfl] at H; exact H
               clear H
               have H := H1
               clear H1
               replace H := Option.bind_eq_some_iff.mp H
               obtain ⟨t564, A110, H⟩ := H
               replace H : (if t564 = true then ((laws_eqUint64S.f k l0_8 l1_8).bind fun t565 => (if t565 = true then (some true) else (some false))) else (some false)) = some r := H
               have A11 := Aside0.mk A110
               clear A110
               by_cases c12 : t564 = true
               · subst c12
                 have H1 : ((laws_eqUint64S.f k l0_8 l1_8).bind fun t565 => (if t565 = true then (some true) else (some false))) = some r := by rw [if_pos rfl] at H; exact H
                 clear H
                 have H := H1
                 clear H1
                 replace H := Option.bind_eq_some_iff.mp H
                 obtain ⟨t565, A130, H⟩ := H
                 replace H : (if t565 = true then (some true) else (some false)) = some r := H
                 have A13 := Aside0.mk A130
                 clear A130
                 by_cases c14 : t565 = true
                 · subst c14
                   have H1 : (some true) = some r := by rw [if_pos rfl] at H; exact H
                   clear H
                   have H := H1
                   clear H1
                   obtain rfl := Option.some.inj H
                   go_enter Tryd.func139, Tryd.ntmps139
                   go_wp2_with (first | ((with_reducible refine gate_dst (N := 2) rfl ?_); refine box_event ?hg (N := 2) ?hd (cs := #[.int .i64 a0_0, .int .i64 a0_1, .int .i64 a0_2, .int .i64 a0_3, .int .i64 a0_4, .int .i64 a0_5, .slice A0_6 l0_6.length c0_6, .slice A0_7 l0_7.length c0_7, .slice A0_8 l0_8.length c0_8]) (t := 205) ?hr ?_; (case hd => rfl); (case hg => rfl); (case hr => first | (go_simp; done) | (go_simp; rfl)); intro gb561 hg w15 hbox hb; have n0_ := Aside0.mk (below_step (by repeat (first | (with_reducible first | exact HB.out | apply below_alloc | apply pw_below_drewN | apply below_drew1) | exact HB.out)) hb); have n1_ := Aside0.mk (hbox); have n2_ := Aside0.mk ((by rw [hg]; exact (below_size (by repeat (first | (with_reducible first | exact HB.out | apply below_alloc | apply pw_below_drewN | apply below_drew1) | exact HB.out))) : w.heap.size ≤ gb561)); have n3_ := Aside0.mk ((by rw [hg]; exact (below_size (by repeat (first | (with_reducible first | exact HB.out | apply below_alloc | apply pw_below_drewN | apply below_drew1) | exact HB.out))) : w.heap.size ≤ gb561)); clear HB; have HB := n0_; have BK561 := n1_; have GW561 := n2_; have GE561 := n3_; clear n0_ n1_ n2_ n3_; clear hb hbox hg) | ((with_reducible refine gate_dst (N := 3) rfl ?_); refine box_event ?hg (N := 3) ?hd (cs := #[.int .i64 a1_0, .int .i64 a1_1, .int .i64 a1_2, .int .i64 a1_3, .int .i64 a1_4, .int .i64 a1_5, .slice A1_6 l1_6.length c1_6, .slice A1_7 l1_7.length c1_7, .slice A1_8 l1_8.length c1_8]) (t := 205) ?hr ?_; (case hd => rfl); (case hg => rfl); (case hr => first | (go_simp; done) | (go_simp; rfl)); intro gb562 hg w16 hbox hb; have n0_ := Aside0.mk (blk_below (g := gb561) (o := .cells #[.int .i64 a0_0, .int .i64 a0_1, .int .i64 a0_2, .int .i64 a0_3, .int .i64 a0_4, .int .i64 a0_5, .slice A0_6 l0_6.length c0_6, .slice A0_7 l0_7.length c0_7, .slice A0_8 l0_8.length c0_8] 205 (0, 0)) (by (with_reducible repeat (first | refine blk_drewN ?_ _ | refine blk_drew ?_ | refine blk_alloc ?_ _)); exact BK561.out) hb); have n1_ := Aside0.mk (below_step (by repeat (first | (with_reducible first | exact HB.out | apply below_alloc | apply pw_below_drewN | apply below_drew1 | refine below_set ?_ GE561.out) | exact HB.out)) hb); have n2_ := Aside0.mk (hbox); have n3_ := Aside0.mk ((by rw [hg]; exact (below_size (by repeat (first | (with_reducible first | exact HB.out | apply below_alloc | apply pw_below_drewN | apply below_drew1 | refine below_set ?_ GE561.out) | exact HB.out))) : w.heap.size ≤ gb562)); have n4_ := Aside0.mk ((by rw [hg]; exact (below_size (by repeat (first | (with_reducible first | exact HB.out | apply below_alloc | apply pw_below_drewN | apply below_drew1 | refine below_set ?_ GE561.out) | exact HB.out))) : w.heap.size ≤ gb562)); have n5_ := Aside0.mk ((by rw [hg]; exact Nat.ne_of_lt (blk_lt (g := gb561) (o := .cells #[.int .i64 a0_0, .int .i64 a0_1, .int .i64 a0_2, .int .i64 a0_3, .int .i64 a0_4, .int .i64 a0_5, .slice A0_6 l0_6.length c0_6, .slice A0_7 l0_7.length c0_7, .slice A0_8 l0_8.length c0_8] 205 (0, 0)) (by (with_reducible repeat (first | refine blk_drewN ?_ _ | refine blk_drew ?_ | refine blk_alloc ?_ _)); exact BK561.out)) : gb561 ≠ gb562)); have n6_ := Aside0.mk ((by rw [hg]; exact Nat.ne_of_gt (blk_lt (g := gb561) (o := .cells #[.int .i64 a0_0, .int .i64 a0_1, .int .i64 a0_2, .int .i64 a0_3, .int .i64 a0_4, .int .i64 a0_5, .slice A0_6 l0_6.length c0_6, .slice A0_7 l0_7.length c0_7, .slice A0_8 l0_8.length c0_8] 205 (0, 0)) (by (with_reducible repeat (first | refine blk_drewN ?_ _ | refine blk_drew ?_ | refine blk_alloc ?_ _)); exact BK561.out)) : gb562 ≠ gb561)); clear BK561; clear HB; have BK561 := n0_; have HB := n1_; have BK562 := n2_; have GW562 := n3_; have GE562 := n4_; have NB561_562 := n5_; have NB562_561 := n6_; clear n0_ n1_ n2_ n3_ n4_ n5_ n6_; clear hb hbox hg; have hnb17 := NB561_562.out; have hnc17 := NB562_561.out; have hcz18_0 : w16.cell? ⟨gb561, 0, none⟩ = some (.int .i64 a0_0) := (blk_cell BK561.out 0).trans rfl; have hcz18_1 : w16.cell? ⟨gb561, 1, none⟩ = some (.int .i64 a0_1) := (blk_cell BK561.out 1).trans rfl; have hcz18_2 : w16.cell? ⟨gb561, 2, none⟩ = some (.int .i64 a0_2) := (blk_cell BK561.out 2).trans rfl; have hcz18_3 : w16.cell? ⟨gb561, 3, none⟩ = some (.int .i64 a0_3) := (blk_cell BK561.out 3).trans rfl; have hcz18_4 : w16.cell? ⟨gb561, 4, none⟩ = some (.int .i64 a0_4) := (blk_cell BK561.out 4).trans rfl; have hcz18_5 : w16.cell? ⟨gb561, 5, none⟩ = some (.int .i64 a0_5) := (blk_cell BK561.out 5).trans rfl; have hcz18_6 : w16.cell? ⟨gb561, 6, none⟩ = some (.slice A0_6 l0_6.length c0_6) := (blk_cell BK561.out 6).trans rfl; have hcz18_7 : w16.cell? ⟨gb561, 7, none⟩ = some (.slice A0_7 l0_7.length c0_7) := (blk_cell BK561.out 7).trans rfl; have hcz18_8 : w16.cell? ⟨gb561, 8, none⟩ = some (.slice A0_8 l0_8.length c0_8) := (blk_cell BK561.out 8).trans rfl; have hfz18_0 := blk_frozen BK561.out 0; have hfz18_1 := blk_frozen BK561.out 1; have hfz18_2 := blk_frozen BK561.out 2; have hfz18_3 := blk_frozen BK561.out 3; have hfz18_4 := blk_frozen BK561.out 4; have hfz18_5 := blk_frozen BK561.out 5; have hfz18_6 := blk_frozen BK561.out 6; have hfz18_7 := blk_frozen BK561.out 7; have hfz18_8 := blk_frozen BK561.out 8; have hcz19_0 : w16.cell? ⟨gb562, 0, none⟩ = some (.int .i64 a1_0) := (blk_cell BK562.out 0).trans rfl; have hcz19_1 : w16.cell? ⟨gb562, 1, none⟩ = some (.int .i64 a1_1) := (blk_cell BK562.out 1).trans rfl; have hcz19_2 : w16.cell? ⟨gb562, 2, none⟩ = some (.int .i64 a1_2) := (blk_cell BK562.out 2).trans rfl; have hcz19_3 : w16.cell? ⟨gb562, 3, none⟩ = some (.int .i64 a1_3) := (blk_cell BK562.out 3).trans rfl; have hcz19_4 : w16.cell? ⟨gb562, 4, none⟩ = some (.int .i64 a1_4) := (blk_cell BK562.out 4).trans rfl; have hcz19_5 : w16.cell? ⟨gb562, 5, none⟩ = some (.int .i64 a1_5) := (blk_cell BK562.out 5).trans rfl; have hcz19_6 : w16.cell? ⟨gb562, 6, none⟩ = some (.slice A1_6 l1_6.length c1_6) := (blk_cell BK562.out 6).trans rfl; have hcz19_7 : w16.cell? ⟨gb562, 7, none⟩ = some (.slice A1_7 l1_7.length c1_7) := (blk_cell BK562.out 7).trans rfl; have hcz19_8 : w16.cell? ⟨gb562, 8, none⟩ = some (.slice A1_8 l1_8.length c1_8) := (blk_cell BK562.out 8).trans rfl; have hfz19_0 := blk_frozen BK562.out 0; have hfz19_1 := blk_frozen BK562.out 1; have hfz19_2 := blk_frozen BK562.out 2; have hfz19_3 := blk_frozen BK562.out 3; have hfz19_4 := blk_frozen BK562.out 4; have hfz19_5 := blk_frozen BK562.out 5; have hfz19_6 := blk_frozen BK562.out 6; have hfz19_7 := blk_frozen BK562.out 7; have hfz19_8 := blk_frozen BK562.out 8) | ((with_reducible refine gate_callee (f := 142) rfl ?_); refine goesL_ (some 39) rfl rfl Tryd.func142 (by kernel_rfl) rfl #[.slice A0_6 l0_6.length c0_6, .slice A1_6 l1_6.length c1_6] rfl (by (try simp only [List.map_toArray, List.map_cons, List.map_nil]); first | done | rfl | (simp only [List.length_drop, List.length_take]; rfl)) ?_; (with_reducible refine (laws_eqOperandS.calls k _ _ l0_6 _ _ l1_6 true _ ?side1 ?side2 ?side3 ?side4 A9.out).mono ?_); (case side1 => repeat (first | exact (Kd.C_below HR0_6.out HB.out) | (with_reducible refine Kd.C_alloc ?_ _) | (with_reducible refine Kd.C_drewN ?_ _) | (with_reducible refine Kd.C_drew ?_))); (case side2 => exact HC0_6.out); (case side3 => repeat (first | exact (Kd.C_below HR1_6.out HB.out) | (with_reducible refine Kd.C_alloc ?_ _) | (with_reducible refine Kd.C_drewN ?_ _) | (with_reducible refine Kd.C_drew ?_))); (case side4 => exact HC1_6.out); rintro e w20 ⟨rfl, hb⟩; refine ⟨_, rfl, ?_⟩; have n0_ := Aside0.mk (blk_below (g := gb561) (o := .cells #[.int .i64 a0_0, .int .i64 a0_1, .int .i64 a0_2, .int .i64 a0_3, .int .i64 a0_4, .int .i64 a0_5, .slice A0_6 l0_6.length c0_6, .slice A0_7 l0_7.length c0_7, .slice A0_8 l0_8.length c0_8] 205 (0, 0)) (by (with_reducible repeat (first | refine blk_drewN ?_ _ | refine blk_drew ?_ | refine blk_alloc ?_ _)); exact BK561.out) hb); have n1_ := Aside0.mk (blk_below (g := gb562) (o := .cells #[.int .i64 a1_0, .int .i64 a1_1, .int .i64 a1_2, .int .i64 a1_3, .int .i64 a1_4, .int .i64 a1_5, .slice A1_6 l1_6.length c1_6, .slice A1_7 l1_7.length c1_7, .slice A1_8 l1_8.length c1_8] 205 (0, 0)) (by (with_reducible repeat (first | refine blk_drewN ?_ _ | refine blk_drew ?_ | refine blk_alloc ?_ _)); exact BK562.out) hb); have n2_ := Aside0.mk (below_step (by repeat (first | (with_reducible first | exact HB.out | apply below_alloc | apply pw_below_drewN | apply below_drew1 | refine below_set ?_ GE561.out | refine below_set ?_ GE562.out) | exact HB.out)) hb); clear BK561; clear BK562; clear HB; have BK561 := n0_; have BK562 := n1_; have HB := n2_; clear n0_ n1_ n2_; (try clear hb); (try clear hb2); (try clear hk); (try clear hi); have hcz21_0 : w20.cell? ⟨gb561, 0, none⟩ = some (.int .i64 a0_0) := (blk_cell BK561.out 0).trans rfl; have hcz21_1 : w20.cell? ⟨gb561, 1, none⟩ = some (.int .i64 a0_1) := (blk_cell BK561.out 1).trans rfl; have hcz21_2 : w20.cell? ⟨gb561, 2, none⟩ = some (.int .i64 a0_2) := (blk_cell BK561.out 2).trans rfl; have hcz21_3 : w20.cell? ⟨gb561, 3, none⟩ = some (.int .i64 a0_3) := (blk_cell BK561.out 3).trans rfl; have hcz21_4 : w20.cell? ⟨gb561, 4, none⟩ = some (.int .i64 a0_4) := (blk_cell BK561.out 4).trans rfl; have hcz21_5 : w20.cell? ⟨gb561, 5, none⟩ = some (.int .i64 a0_5) := (blk_cell BK561.out 5).trans rfl; have hcz21_6 : w20.cell? ⟨gb561, 6, none⟩ = some (.slice A0_6 l0_6.length c0_6) := (blk_cell BK561.out 6).trans rfl; have hcz21_7 : w20.cell? ⟨gb561, 7, none⟩ = some (.slice A0_7 l0_7.length c0_7) := (blk_cell BK561.out 7).trans rfl; have hcz21_8 : w20.cell? ⟨gb561, 8, none⟩ = some (.slice A0_8 l0_8.length c0_8) := (blk_cell BK561.out 8).trans rfl; have hfz21_0 := blk_frozen BK561.out 0; have hfz21_1 := blk_frozen BK561.out 1; have hfz21_2 := blk_frozen BK561.out 2; have hfz21_3 := blk_frozen BK561.out 3; have hfz21_4 := blk_frozen BK561.out 4; have hfz21_5 := blk_frozen BK561.out 5; have hfz21_6 := blk_frozen BK561.out 6; have hfz21_7 := blk_frozen BK561.out 7; have hfz21_8 := blk_frozen BK561.out 8; have hcz22_0 : w20.cell? ⟨gb562, 0, none⟩ = some (.int .i64 a1_0) := (blk_cell BK562.out 0).trans rfl; have hcz22_1 : w20.cell? ⟨gb562, 1, none⟩ = some (.int .i64 a1_1) := (blk_cell BK562.out 1).trans rfl; have hcz22_2 : w20.cell? ⟨gb562, 2, none⟩ = some (.int .i64 a1_2) := (blk_cell BK562.out 2).trans rfl; have hcz22_3 : w20.cell? ⟨gb562, 3, none⟩ = some (.int .i64 a1_3) := (blk_cell BK562.out 3).trans rfl; have hcz22_4 : w20.cell? ⟨gb562, 4, none⟩ = some (.int .i64 a1_4) := (blk_cell BK562.out 4).trans rfl; have hcz22_5 : w20.cell? ⟨gb562, 5, none⟩ = some (.int .i64 a1_5) := (blk_cell BK562.out 5).trans rfl; have hcz22_6 : w20.cell? ⟨gb562, 6, none⟩ = some (.slice A1_6 l1_6.length c1_6) := (blk_cell BK562.out 6).trans rfl; have hcz22_7 : w20.cell? ⟨gb562, 7, none⟩ = some (.slice A1_7 l1_7.length c1_7) := (blk_cell BK562.out 7).trans rfl; have hcz22_8 : w20.cell? ⟨gb562, 8, none⟩ = some (.slice A1_8 l1_8.length c1_8) := (blk_cell BK562.out 8).trans rfl; have hfz22_0 := blk_frozen BK562.out 0; have hfz22_1 := blk_frozen BK562.out 1; have hfz22_2 := blk_frozen BK562.out 2; have hfz22_3 := blk_frozen BK562.out 3; have hfz22_4 := blk_frozen BK562.out 4; have hfz22_5 := blk_frozen BK562.out 5; have hfz22_6 := blk_frozen BK562.out 6; have hfz22_7 := blk_frozen BK562.out 7; have hfz22_8 := blk_frozen BK562.out 8) | ((with_reducible refine gate_callee (f := 68) rfl ?_); refine goesL_ (some 45) rfl rfl Tryd.func68 (by kernel_rfl) rfl #[.slice A0_7 l0_7.length c0_7, .slice A1_7 l1_7.length c1_7] rfl (by (try simp only [List.map_toArray, List.map_cons, List.map_nil]); first | done | rfl | (simp only [List.length_drop, List.length_take]; rfl)) ?_; (with_reducible refine (laws_eqInt64S.calls k _ _ l0_7 _ _ l1_7 true _ ?side1 ?side2 ?side3 ?side4 A11.out).mono ?_); (case side1 => repeat (first | exact (Kd.C_below HR0_7.out HB.out) | (with_reducible refine Kd.C_alloc ?_ _) | (with_reducible refine Kd.C_drewN ?_ _) | (with_reducible refine Kd.C_drew ?_))); (case side2 => exact HC0_7.out); (case side3 => repeat (first | exact (Kd.C_below HR1_7.out HB.out) | (with_reducible refine Kd.C_alloc ?_ _) | (with_reducible refine Kd.C_drewN ?_ _) | (with_reducible refine Kd.C_drew ?_))); (case side4 => exact HC1_7.out); rintro e w' ⟨rfl, ⟨nd, rfl⟩⟩; refine ⟨_, rfl, ?_⟩) | ((with_reducible refine gate_callee (f := 43) rfl ?_); refine goesL_ (some 51) rfl rfl Tryd.func43 (by kernel_rfl) rfl #[.slice A0_8 l0_8.length c0_8, .slice A1_8 l1_8.length c1_8] rfl (by (try simp only [List.map_toArray, List.map_cons, List.map_nil]); first | done | rfl | (simp only [List.length_drop, List.length_take]; rfl)) ?_; (with_reducible refine (laws_eqUint64S.calls k _ _ l0_8 _ _ l1_8 true _ ?side1 ?side2 ?side3 ?side4 A13.out).mono ?_); (case side1 => repeat (first | exact (Kd.C_below HR0_8.out (by repeat (first | (with_reducible first | exact HB.out | apply below_alloc | apply pw_below_drewN | apply below_drew1 | refine below_set ?_ GE561.out | refine below_set ?_ GE562.out) | exact HB.out))) | (with_reducible refine Kd.C_alloc ?_ _) | (with_reducible refine Kd.C_drewN ?_ _) | (with_reducible refine Kd.C_drew ?_))); (case side2 => exact HC0_8.out); (case side3 => repeat (first | exact (Kd.C_below HR1_8.out (by repeat (first | (with_reducible first | exact HB.out | apply below_alloc | apply pw_below_drewN | apply below_drew1 | refine below_set ?_ GE561.out | refine below_set ?_ GE562.out) | exact HB.out))) | (with_reducible refine Kd.C_alloc ?_ _) | (with_reducible refine Kd.C_drewN ?_ _) | (with_reducible refine Kd.C_drew ?_))); (case side4 => exact HC1_8.out); rintro e w' ⟨rfl, ⟨nd, rfl⟩⟩; refine ⟨_, rfl, ?_⟩))
                   go_ret
                   exact ⟨by first | rfl | (simp [errW_none, errW_some] <;> rfl) | (simp [*, errW_none, errW_some] <;> rfl), by repeat (first | (with_reducible first | exact HB.out | apply below_alloc | apply pw_below_drewN | apply below_drew1 | refine below_set ?_ GE561.out | refine below_set ?_ GE562.out) | exact HB.out)⟩
                 · replace c14 := Bool.eq_false_iff.mpr c14
                   subst c14
                   have H1 : (some false) = some r := by rw [if_neg (show ¬ (false = true) by decide)] at H; exact H
                   clear H
                   have H := H1
                   clear H1
                   obtain rfl := Option.some.inj H
                   go_enter Tryd.func139, Tryd.ntmps139
                   go_wp2_with (first | ((with_reducible refine gate_dst (N := 2) rfl ?_); refine box_event ?hg (N := 2) ?hd (cs := #[.int .i64 a0_0, .int .i64 a0_1, .int .i64 a0_2, .int .i64 a0_3, .int .i64 a0_4, .int .i64 a0_5, .slice A0_6 l0_6.length c0_6, .slice A0_7 l0_7.length c0_7, .slice A0_8 l0_8.length c0_8]) (t := 205) ?hr ?_; (case hd => rfl); (case hg => rfl); (case hr => first | (go_simp; done) | (go_simp; rfl)); intro gb561 hg w23 hbox hb; have n0_ := Aside0.mk (below_step (by repeat (first | (with_reducible first | exact HB.out | apply below_alloc | apply pw_below_drewN | apply below_drew1) | exact HB.out)) hb); have n1_ := Aside0.mk (hbox); have n2_ := Aside0.mk ((by rw [hg]; exact (below_size (by repeat (first | (with_reducible first | exact HB.out | apply below_alloc | apply pw_below_drewN | apply below_drew1) | exact HB.out))) : w.heap.size ≤ gb561)); have n3_ := Aside0.mk ((by rw [hg]; exact (below_size (by repeat (first | (with_reducible first | exact HB.out | apply below_alloc | apply pw_below_drewN | apply below_drew1) | exact HB.out))) : w.heap.size ≤ gb561)); clear HB; have HB := n0_; have BK561 := n1_; have GW561 := n2_; have GE561 := n3_; clear n0_ n1_ n2_ n3_; clear hb hbox hg) | ((with_reducible refine gate_dst (N := 3) rfl ?_); refine box_event ?hg (N := 3) ?hd (cs := #[.int .i64 a1_0, .int .i64 a1_1, .int .i64 a1_2, .int .i64 a1_3, .int .i64 a1_4, .int .i64 a1_5, .slice A1_6 l1_6.length c1_6, .slice A1_7 l1_7.length c1_7, .slice A1_8 l1_8.length c1_8]) (t := 205) ?hr ?_; (case hd => rfl); (case hg => rfl); (case hr => first | (go_simp; done) | (go_simp; rfl)); intro gb562 hg w24 hbox hb; have n0_ := Aside0.mk (blk_below (g := gb561) (o := .cells #[.int .i64 a0_0, .int .i64 a0_1, .int .i64 a0_2, .int .i64 a0_3, .int .i64 a0_4, .int .i64 a0_5, .slice A0_6 l0_6.length c0_6, .slice A0_7 l0_7.length c0_7, .slice A0_8 l0_8.length c0_8] 205 (0, 0)) (by (with_reducible repeat (first | refine blk_drewN ?_ _ | refine blk_drew ?_ | refine blk_alloc ?_ _)); exact BK561.out) hb); have n1_ := Aside0.mk (below_step (by repeat (first | (with_reducible first | exact HB.out | apply below_alloc | apply pw_below_drewN | apply below_drew1 | refine below_set ?_ GE561.out) | exact HB.out)) hb); have n2_ := Aside0.mk (hbox); have n3_ := Aside0.mk ((by rw [hg]; exact (below_size (by repeat (first | (with_reducible first | exact HB.out | apply below_alloc | apply pw_below_drewN | apply below_drew1 | refine below_set ?_ GE561.out) | exact HB.out))) : w.heap.size ≤ gb562)); have n4_ := Aside0.mk ((by rw [hg]; exact (below_size (by repeat (first | (with_reducible first | exact HB.out | apply below_alloc | apply pw_below_drewN | apply below_drew1 | refine below_set ?_ GE561.out) | exact HB.out))) : w.heap.size ≤ gb562)); have n5_ := Aside0.mk ((by rw [hg]; exact Nat.ne_of_lt (blk_lt (g := gb561) (o := .cells #[.int .i64 a0_0, .int .i64 a0_1, .int .i64 a0_2, .int .i64 a0_3, .int .i64 a0_4, .int .i64 a0_5, .slice A0_6 l0_6.length c0_6, .slice A0_7 l0_7.length c0_7, .slice A0_8 l0_8.length c0_8] 205 (0, 0)) (by (with_reducible repeat (first | refine blk_drewN ?_ _ | refine blk_drew ?_ | refine blk_alloc ?_ _)); exact BK561.out)) : gb561 ≠ gb562)); have n6_ := Aside0.mk ((by rw [hg]; exact Nat.ne_of_gt (blk_lt (g := gb561) (o := .cells #[.int .i64 a0_0, .int .i64 a0_1, .int .i64 a0_2, .int .i64 a0_3, .int .i64 a0_4, .int .i64 a0_5, .slice A0_6 l0_6.length c0_6, .slice A0_7 l0_7.length c0_7, .slice A0_8 l0_8.length c0_8] 205 (0, 0)) (by (with_reducible repeat (first | refine blk_drewN ?_ _ | refine blk_drew ?_ | refine blk_alloc ?_ _)); exact BK561.out)) : gb562 ≠ gb561)); clear BK561; clear HB; have BK561 := n0_; have HB := n1_; have BK562 := n2_; have GW562 := n3_; have GE562 := n4_; have NB561_562 := n5_; have NB562_561 := n6_; clear n0_ n1_ n2_ n3_ n4_ n5_ n6_; clear hb hbox hg; have hnb25 := NB561_562.out; have hnc25 := NB562_561.out; have hcz26_0 : w24.cell? ⟨gb561, 0, none⟩ = some (.int .i64 a0_0) := (blk_cell BK561.out 0).trans rfl; have hcz26_1 : w24.cell? ⟨gb561, 1, none⟩ = some (.int .i64 a0_1) := (blk_cell BK561.out 1).trans rfl; have hcz26_2 : w24.cell? ⟨gb561, 2, none⟩ = some (.int .i64 a0_2) := (blk_cell BK561.out 2).trans rfl; have hcz26_3 : w24.cell? ⟨gb561, 3, none⟩ = some (.int .i64 a0_3) := (blk_cell BK561.out 3).trans rfl; have hcz26_4 : w24.cell? ⟨gb561, 4, none⟩ = some (.int .i64 a0_4) := (blk_cell BK561.out 4).trans rfl; have hcz26_5 : w24.cell? ⟨gb561, 5, none⟩ = some (.int .i64 a0_5) := (blk_cell BK561.out 5).trans rfl; have hcz26_6 : w24.cell? ⟨gb561, 6, none⟩ = some (.slice A0_6 l0_6.length c0_6) := (blk_cell BK561.out 6).trans rfl; have hcz26_7 : w24.cell? ⟨gb561, 7, none⟩ = some (.slice A0_7 l0_7.length c0_7) := (blk_cell BK561.out 7).trans rfl; have hcz26_8 : w24.cell? ⟨gb561, 8, none⟩ = some (.slice A0_8 l0_8.length c0_8) := (blk_cell BK561.out 8).trans rfl; have hfz26_0 := blk_frozen BK561.out 0; have hfz26_1 := blk_frozen BK561.out 1; have hfz26_2 := blk_frozen BK561.out 2; have hfz26_3 := blk_frozen BK561.out 3; have hfz26_4 := blk_frozen BK561.out 4; have hfz26_5 := blk_frozen BK561.out 5; have hfz26_6 := blk_frozen BK561.out 6; have hfz26_7 := blk_frozen BK561.out 7; have hfz26_8 := blk_frozen BK561.out 8; have hcz27_0 : w24.cell? ⟨gb562, 0, none⟩ = some (.int .i64 a1_0) := (blk_cell BK562.out 0).trans rfl; have hcz27_1 : w24.cell? ⟨gb562, 1, none⟩ = some (.int .i64 a1_1) := (blk_cell BK562.out 1).trans rfl; have hcz27_2 : w24.cell? ⟨gb562, 2, none⟩ = some (.int .i64 a1_2) := (blk_cell BK562.out 2).trans rfl; have hcz27_3 : w24.cell? ⟨gb562, 3, none⟩ = some (.int .i64 a1_3) := (blk_cell BK562.out 3).trans rfl; have hcz27_4 : w24.cell? ⟨gb562, 4, none⟩ = some (.int .i64 a1_4) := (blk_cell BK562.out 4).trans rfl; have hcz27_5 : w24.cell? ⟨gb562, 5, none⟩ = some (.int .i64 a1_5) := (blk_cell BK562.out 5).trans rfl; have hcz27_6 : w24.cell? ⟨gb562, 6, none⟩ = some (.slice A1_6 l1_6.length c1_6) := (blk_cell BK562.out 6).trans rfl; have hcz27_7 : w24.cell? ⟨gb562, 7, none⟩ = some (.slice A1_7 l1_7.length c1_7) := (blk_cell BK562.out 7).trans rfl; have hcz27_8 : w24.cell? ⟨gb562, 8, none⟩ = some (.slice A1_8 l1_8.length c1_8) := (blk_cell BK562.out 8).trans rfl; have hfz27_0 := blk_frozen BK562.out 0; have hfz27_1 := blk_frozen BK562.out 1; have hfz27_2 := blk_frozen BK562.out 2; have hfz27_3 := blk_frozen BK562.out 3; have hfz27_4 := blk_frozen BK562.out 4; have hfz27_5 := blk_frozen BK562.out 5; have hfz27_6 := blk_frozen BK562.out 6; have hfz27_7 := blk_frozen BK562.out 7; have hfz27_8 := blk_frozen BK562.out 8) | ((with_reducible refine gate_callee (f := 142) rfl ?_); refine goesL_ (some 39) rfl rfl Tryd.func142 (by kernel_rfl) rfl #[.slice A0_6 l0_6.length c0_6, .slice A1_6 l1_6.length c1_6] rfl (by (try simp only [List.map_toArray, List.map_cons, List.map_nil]); first | done | rfl | (simp only [List.length_drop, List.length_take]; rfl)) ?_; (with_reducible refine (laws_eqOperandS.calls k _ _ l0_6 _ _ l1_6 true _ ?side1 ?side2 ?side3 ?side4 A9.out).mono ?_); (case side1 => repeat (first | exact (Kd.C_below HR0_6.out HB.out) | (with_reducible refine Kd.C_alloc ?_ _) | (with_reducible refine Kd.C_drewN ?_ _) | (with_reducible refine Kd.C_drew ?_))); (case side2 => exact HC0_6.out); (case side3 => repeat (first | exact (Kd.C_below HR1_6.out HB.out) | (with_reducible refine Kd.C_alloc ?_ _) | (with_reducible refine Kd.C_drewN ?_ _) | (with_reducible refine Kd.C_drew ?_))); (case side4 => exact HC1_6.out); rintro e w28 ⟨rfl, hb⟩; refine ⟨_, rfl, ?_⟩; have n0_ := Aside0.mk (blk_below (g := gb561) (o := .cells #[.int .i64 a0_0, .int .i64 a0_1, .int .i64 a0_2, .int .i64 a0_3, .int .i64 a0_4, .int .i64 a0_5, .slice A0_6 l0_6.length c0_6, .slice A0_7 l0_7.length c0_7, .slice A0_8 l0_8.length c0_8] 205 (0, 0)) (by (with_reducible repeat (first | refine blk_drewN ?_ _ | refine blk_drew ?_ | refine blk_alloc ?_ _)); exact BK561.out) hb); have n1_ := Aside0.mk (blk_below (g := gb562) (o := .cells #[.int .i64 a1_0, .int .i64 a1_1, .int .i64 a1_2, .int .i64 a1_3, .int .i64 a1_4, .int .i64 a1_5, .slice A1_6 l1_6.length c1_6, .slice A1_7 l1_7.length c1_7, .slice A1_8 l1_8.length c1_8] 205 (0, 0)) (by (with_reducible repeat (first | refine blk_drewN ?_ _ | refine blk_drew ?_ | refine blk_alloc ?_ _)); exact BK562.out) hb); have n2_ := Aside0.mk (below_step (by repeat (first | (with_reducible first | exact HB.out | apply below_alloc | apply pw_below_drewN | apply below_drew1 | refine below_set ?_ GE561.out | refine below_set ?_ GE562.out) | exact HB.out)) hb); clear BK561; clear BK562; clear HB; have BK561 := n0_; have BK562 := n1_; have HB := n2_; clear n0_ n1_ n2_; (try clear hb); (try clear hb2); (try clear hk); (try clear hi); have hcz29_0 : w28.cell? ⟨gb561, 0, none⟩ = some (.int .i64 a0_0) := (blk_cell BK561.out 0).trans rfl; have hcz29_1 : w28.cell? ⟨gb561, 1, none⟩ = some (.int .i64 a0_1) := (blk_cell BK561.out 1).trans rfl; have hcz29_2 : w28.cell? ⟨gb561, 2, none⟩ = some (.int .i64 a0_2) := (blk_cell BK561.out 2).trans rfl; have hcz29_3 : w28.cell? ⟨gb561, 3, none⟩ = some (.int .i64 a0_3) := (blk_cell BK561.out 3).trans rfl; have hcz29_4 : w28.cell? ⟨gb561, 4, none⟩ = some (.int .i64 a0_4) := (blk_cell BK561.out 4).trans rfl; have hcz29_5 : w28.cell? ⟨gb561, 5, none⟩ = some (.int .i64 a0_5) := (blk_cell BK561.out 5).trans rfl; have hcz29_6 : w28.cell? ⟨gb561, 6, none⟩ = some (.slice A0_6 l0_6.length c0_6) := (blk_cell BK561.out 6).trans rfl; have hcz29_7 : w28.cell? ⟨gb561, 7, none⟩ = some (.slice A0_7 l0_7.length c0_7) := (blk_cell BK561.out 7).trans rfl; have hcz29_8 : w28.cell? ⟨gb561, 8, none⟩ = some (.slice A0_8 l0_8.length c0_8) := (blk_cell BK561.out 8).trans rfl; have hfz29_0 := blk_frozen BK561.out 0; have hfz29_1 := blk_frozen BK561.out 1; have hfz29_2 := blk_frozen BK561.out 2; have hfz29_3 := blk_frozen BK561.out 3; have hfz29_4 := blk_frozen BK561.out 4; have hfz29_5 := blk_frozen BK561.out 5; have hfz29_6 := blk_frozen BK561.out 6; have hfz29_7 := blk_frozen BK561.out 7; have hfz29_8 := blk_frozen BK561.out 8; have hcz30_0 : w28.cell? ⟨gb562, 0, none⟩ = some (.int .i64 a1_0) := (blk_cell BK562.out 0).trans rfl; have hcz30_1 : w28.cell? ⟨gb562, 1, none⟩ = some (.int .i64 a1_1) := (blk_cell BK562.out 1).trans rfl; have hcz30_2 : w28.cell? ⟨gb562, 2, none⟩ = some (.int .i64 a1_2) := (blk_cell BK562.out 2).trans rfl; have hcz30_3 : w28.cell? ⟨gb562, 3, none⟩ = some (.int .i64 a1_3) := (blk_cell BK562.out 3).trans rfl; have hcz30_4 : w28.cell? ⟨gb562, 4, none⟩ = some (.int .i64 a1_4) := (blk_cell BK562.out 4).trans rfl; have hcz30_5 : w28.cell? ⟨gb562, 5, none⟩ = some (.int .i64 a1_5) := (blk_cell BK562.out 5).trans rfl; have hcz30_6 : w28.cell? ⟨gb562, 6, none⟩ = some (.slice A1_6 l1_6.length c1_6) := (blk_cell BK562.out 6).trans rfl; have hcz30_7 : w28.cell? ⟨gb562, 7, none⟩ = some (.slice A1_7 l1_7.length c1_7) := (blk_cell BK562.out 7).trans rfl; have hcz30_8 : w28.cell? ⟨gb562, 8, none⟩ = some (.slice A1_8 l1_8.length c1_8) := (blk_cell BK562.out 8).trans rfl; have hfz30_0 := blk_frozen BK562.out 0; have hfz30_1 := blk_frozen BK562.out 1; have hfz30_2 := blk_frozen BK562.out 2; have hfz30_3 := blk_frozen BK562.out 3; have hfz30_4 := blk_frozen BK562.out 4; have hfz30_5 := blk_frozen BK562.out 5; have hfz30_6 := blk_frozen BK562.out 6; have hfz30_7 := blk_frozen BK562.out 7; have hfz30_8 := blk_frozen BK562.out 8) | ((with_reducible refine gate_callee (f := 68) rfl ?_); refine goesL_ (some 45) rfl rfl Tryd.func68 (by kernel_rfl) rfl #[.slice A0_7 l0_7.length c0_7, .slice A1_7 l1_7.length c1_7] rfl (by (try simp only [List.map_toArray, List.map_cons, List.map_nil]); first | done | rfl | (simp only [List.length_drop, List.length_take]; rfl)) ?_; (with_reducible refine (laws_eqInt64S.calls k _ _ l0_7 _ _ l1_7 true _ ?side1 ?side2 ?side3 ?side4 A11.out).mono ?_); (case side1 => repeat (first | exact (Kd.C_below HR0_7.out HB.out) | (with_reducible refine Kd.C_alloc ?_ _) | (with_reducible refine Kd.C_drewN ?_ _) | (with_reducible refine Kd.C_drew ?_))); (case side2 => exact HC0_7.out); (case side3 => repeat (first | exact (Kd.C_below HR1_7.out HB.out) | (with_reducible refine Kd.C_alloc ?_ _) | (with_reducible refine Kd.C_drewN ?_ _) | (with_reducible refine Kd.C_drew ?_))); (case side4 => exact HC1_7.out); rintro e w' ⟨rfl, ⟨nd, rfl⟩⟩; refine ⟨_, rfl, ?_⟩) | ((with_reducible refine gate_callee (f := 43) rfl ?_); refine goesL_ (some 51) rfl rfl Tryd.func43 (by kernel_rfl) rfl #[.slice A0_8 l0_8.length c0_8, .slice A1_8 l1_8.length c1_8] rfl (by (try simp only [List.map_toArray, List.map_cons, List.map_nil]); first | done | rfl | (simp only [List.length_drop, List.length_take]; rfl)) ?_; (with_reducible refine (laws_eqUint64S.calls k _ _ l0_8 _ _ l1_8 false _ ?side1 ?side2 ?side3 ?side4 A13.out).mono ?_); (case side1 => repeat (first | exact (Kd.C_below HR0_8.out (by repeat (first | (with_reducible first | exact HB.out | apply below_alloc | apply pw_below_drewN | apply below_drew1 | refine below_set ?_ GE561.out | refine below_set ?_ GE562.out) | exact HB.out))) | (with_reducible refine Kd.C_alloc ?_ _) | (with_reducible refine Kd.C_drewN ?_ _) | (with_reducible refine Kd.C_drew ?_))); (case side2 => exact HC0_8.out); (case side3 => repeat (first | exact (Kd.C_below HR1_8.out (by repeat (first | (with_reducible first | exact HB.out | apply below_alloc | apply pw_below_drewN | apply below_drew1 | refine below_set ?_ GE561.out | refine below_set ?_ GE562.out) | exact HB.out))) | (with_reducible refine Kd.C_alloc ?_ _) | (with_reducible refine Kd.C_drewN ?_ _) | (with_reducible refine Kd.C_drew ?_))); (case side4 => exact HC1_8.out); rintro e w' ⟨rfl, ⟨nd, rfl⟩⟩; refine ⟨_, rfl, ?_⟩))
                   go_ret
                   exact ⟨by first | rfl | (simp [errW_none, errW_some] <;> rfl) | (simp [*, errW_none, errW_some] <;> rfl), by repeat (first | (with_reducible first | exact HB.out | apply below_alloc | apply pw_below_drewN | apply below_drew1 | refine below_set ?_ GE561.out | refine below_set ?_ GE562.out) | exact HB.out)⟩
               · replace c12 := Bool.eq_false_iff.mpr c12
                 subst c12
                 have H1 : (some false) = some r := by rw [if_neg (show ¬ (false = true) by decide)] at H; exact H
                 clear H
                 have H := H1
                 clear H1
                 obtain rfl := Option.some.inj H
                 go_enter Tryd.func139, Tryd.ntmps139
                 go_wp2_with (first | ((with_reducible refine gate_dst (N := 2) rfl ?_); refine box_event ?hg (N := 2) ?hd (cs := #[.int .i64 a0_0, .int .i64 a0_1, .int .i64 a0_2, .int .i64 a0_3, .int .i64 a0_4, .int .i64 a0_5, .slice A0_6 l0_6.length c0_6, .slice A0_7 l0_7.length c0_7, .slice A0_8 l0_8.length c0_8]) (t := 205) ?hr ?_; (case hd => rfl); (case hg => rfl); (case hr => first | (go_simp; done) | (go_simp; rfl)); intro gb561 hg w31 hbox hb; have n0_ := Aside0.mk (below_step (by repeat (first | (with_reducible first | exact HB.out | apply below_alloc | apply pw_below_drewN | apply below_drew1) | exact HB.out)) hb); have n1_ := Aside0.mk (hbox); have n2_ := Aside0.mk ((by rw [hg]; exact (below_size (by repeat (first | (with_reducible first | exact HB.out | apply below_alloc | apply pw_below_drewN | apply below_drew1) | exact HB.out))) : w.heap.size ≤ gb561)); have n3_ := Aside0.mk ((by rw [hg]; exact (below_size (by repeat (first | (with_reducible first | exact HB.out | apply below_alloc | apply pw_below_drewN | apply below_drew1) | exact HB.out))) : w.heap.size ≤ gb561)); clear HB; have HB := n0_; have BK561 := n1_; have GW561 := n2_; have GE561 := n3_; clear n0_ n1_ n2_ n3_; clear hb hbox hg) | ((with_reducible refine gate_dst (N := 3) rfl ?_); refine box_event ?hg (N := 3) ?hd (cs := #[.int .i64 a1_0, .int .i64 a1_1, .int .i64 a1_2, .int .i64 a1_3, .int .i64 a1_4, .int .i64 a1_5, .slice A1_6 l1_6.length c1_6, .slice A1_7 l1_7.length c1_7, .slice A1_8 l1_8.length c1_8]) (t := 205) ?hr ?_; (case hd => rfl); (case hg => rfl); (case hr => first | (go_simp; done) | (go_simp; rfl)); intro gb562 hg w32 hbox hb; have n0_ := Aside0.mk (blk_below (g := gb561) (o := .cells #[.int .i64 a0_0, .int .i64 a0_1, .int .i64 a0_2, .int .i64 a0_3, .int .i64 a0_4, .int .i64 a0_5, .slice A0_6 l0_6.length c0_6, .slice A0_7 l0_7.length c0_7, .slice A0_8 l0_8.length c0_8] 205 (0, 0)) (by (with_reducible repeat (first | refine blk_drewN ?_ _ | refine blk_drew ?_ | refine blk_alloc ?_ _)); exact BK561.out) hb); have n1_ := Aside0.mk (below_step (by repeat (first | (with_reducible first | exact HB.out | apply below_alloc | apply pw_below_drewN | apply below_drew1 | refine below_set ?_ GE561.out) | exact HB.out)) hb); have n2_ := Aside0.mk (hbox); have n3_ := Aside0.mk ((by rw [hg]; exact (below_size (by repeat (first | (with_reducible first | exact HB.out | apply below_alloc | apply pw_below_drewN | apply below_drew1 | refine below_set ?_ GE561.out) | exact HB.out))) : w.heap.size ≤ gb562)); have n4_ := Aside0.mk ((by rw [hg]; exact (below_size (by repeat (first | (with_reducible first | exact HB.out | apply below_alloc | apply pw_below_drewN | apply below_drew1 | refine below_set ?_ GE561.out) | exact HB.out))) : w.heap.size ≤ gb562)); have n5_ := Aside0.mk ((by rw [hg]; exact Nat.ne_of_lt (blk_lt (g := gb561) (o := .cells #[.int .i64 a0_0, .int .i64 a0_1, .int .i64 a0_2, .int .i64 a0_3, .int .i64 a0_4, .int .i64 a0_5, .slice A0_6 l0_6.length c0_6, .slice A0_7 l0_7.length c0_7, .slice A0_8 l0_8.length c0_8] 205 (0, 0)) (by (with_reducible repeat (first | refine blk_drewN ?_ _ | refine blk_drew ?_ | refine blk_alloc ?_ _)); exact BK561.out)) : gb561 ≠ gb562)); have n6_ := Aside0.mk ((by rw [hg]; exact Nat.ne_of_gt (blk_lt (g := gb561) (o := .cells #[.int .i64 a0_0, .int .i64 a0_1, .int .i64 a0_2, .int .i64 a0_3, .int .i64 a0_4, .int .i64 a0_5, .slice A0_6 l0_6.length c0_6, .slice A0_7 l0_7.length c0_7, .slice A0_8 l0_8.length c0_8] 205 (0, 0)) (by (with_reducible repeat (first | refine blk_drewN ?_ _ | refine blk_drew ?_ | refine blk_alloc ?_ _)); exact BK561.out)) : gb562 ≠ gb561)); clear BK561; clear HB; have BK561 := n0_; have HB := n1_; have BK562 := n2_; have GW562 := n3_; have GE562 := n4_; have NB561_562 := n5_; have NB562_561 := n6_; clear n0_ n1_ n2_ n3_ n4_ n5_ n6_; clear hb hbox hg; have hnb33 := NB561_562.out; have hnc33 := NB562_561.out; have hcz34_0 : w32.cell? ⟨gb561, 0, none⟩ = some (.int .i64 a0_0) := (blk_cell BK561.out 0).trans rfl; have hcz34_1 : w32.cell? ⟨gb561, 1, none⟩ = some (.int .i64 a0_1) := (blk_cell BK561.out 1).trans rfl; have hcz34_2 : w32.cell? ⟨gb561, 2, none⟩ = some (.int .i64 a0_2) := (blk_cell BK561.out 2).trans rfl; have hcz34_3 : w32.cell? ⟨gb561, 3, none⟩ = some (.int .i64 a0_3) := (blk_cell BK561.out 3).trans rfl; have hcz34_4 : w32.cell? ⟨gb561, 4, none⟩ = some (.int .i64 a0_4) := (blk_cell BK561.out 4).trans rfl; have hcz34_5 : w32.cell? ⟨gb561, 5, none⟩ = some (.int .i64 a0_5) := (blk_cell BK561.out 5).trans rfl; have hcz34_6 : w32.cell? ⟨gb561, 6, none⟩ = some (.slice A0_6 l0_6.length c0_6) := (blk_cell BK561.out 6).trans rfl; have hcz34_7 : w32.cell? ⟨gb561, 7, none⟩ = some (.slice A0_7 l0_7.length c0_7) := (blk_cell BK561.out 7).trans rfl; have hcz34_8 : w32.cell? ⟨gb561, 8, none⟩ = some (.slice A0_8 l0_8.length c0_8) := (blk_cell BK561.out 8).trans rfl; have hfz34_0 := blk_frozen BK561.out 0; have hfz34_1 := blk_frozen BK561.out 1; have hfz34_2 := blk_frozen BK561.out 2; have hfz34_3 := blk_frozen BK561.out 3; have hfz34_4 := blk_frozen BK561.out 4; have hfz34_5 := blk_frozen BK561.out 5; have hfz34_6 := blk_frozen BK561.out 6; have hfz34_7 := blk_frozen BK561.out 7; have hfz34_8 := blk_frozen BK561.out 8; have hcz35_0 : w32.cell? ⟨gb562, 0, none⟩ = some (.int .i64 a1_0) := (blk_cell BK562.out 0).trans rfl; have hcz35_1 : w32.cell? ⟨gb562, 1, none⟩ = some (.int .i64 a1_1) := (blk_cell BK562.out 1).trans rfl; have hcz35_2 : w32.cell? ⟨gb562, 2, none⟩ = some (.int .i64 a1_2) := (blk_cell BK562.out 2).trans rfl; have hcz35_3 : w32.cell? ⟨gb562, 3, none⟩ = some (.int .i64 a1_3) := (blk_cell BK562.out 3).trans rfl; have hcz35_4 : w32.cell? ⟨gb562, 4, none⟩ = some (.int .i64 a1_4) := (blk_cell BK562.out 4).trans rfl; have hcz35_5 : w32.cell? ⟨gb562, 5, none⟩ = some (.int .i64 a1_5) := (blk_cell BK562.out 5).trans rfl; have hcz35_6 : w32.cell? ⟨gb562, 6, none⟩ = some (.slice A1_6 l1_6.length c1_6) := (blk_cell BK562.out 6).trans rfl; have hcz35_7 : w32.cell? ⟨gb562, 7, none⟩ = some (.slice A1_7 l1_7.length c1_7) := (blk_cell BK562.out 7).trans rfl; have hcz35_8 : w32.cell? ⟨gb562, 8, none⟩ = some (.slice A1_8 l1_8.length c1_8) := (blk_cell BK562.out 8).trans rfl; have hfz35_0 := blk_frozen BK562.out 0; have hfz35_1 := blk_frozen BK562.out 1; have hfz35_2 := blk_frozen BK562.out 2; have hfz35_3 := blk_frozen BK562.out 3; have hfz35_4 := blk_frozen BK562.out 4; have hfz35_5 := blk_frozen BK562.out 5; have hfz35_6 := blk_frozen BK562.out 6; have hfz35_7 := blk_frozen BK562.out 7; have hfz35_8 := blk_frozen BK562.out 8) | ((with_reducible refine gate_callee (f := 142) rfl ?_); refine goesL_ (some 39) rfl rfl Tryd.func142 (by kernel_rfl) rfl #[.slice A0_6 l0_6.length c0_6, .slice A1_6 l1_6.length c1_6] rfl (by (try simp only [List.map_toArray, List.map_cons, List.map_nil]); first | done | rfl | (simp only [List.length_drop, List.length_take]; rfl)) ?_; (with_reducible refine (laws_eqOperandS.calls k _ _ l0_6 _ _ l1_6 true _ ?side1 ?side2 ?side3 ?side4 A9.out).mono ?_); (case side1 => repeat (first | exact (Kd.C_below HR0_6.out HB.out) | (with_reducible refine Kd.C_alloc ?_ _) | (with_reducible refine Kd.C_drewN ?_ _) | (with_reducible refine Kd.C_drew ?_))); (case side2 => exact HC0_6.out); (case side3 => repeat (first | exact (Kd.C_below HR1_6.out HB.out) | (with_reducible refine Kd.C_alloc ?_ _) | (with_reducible refine Kd.C_drewN ?_ _) | (with_reducible refine Kd.C_drew ?_))); (case side4 => exact HC1_6.out); rintro e w36 ⟨rfl, hb⟩; refine ⟨_, rfl, ?_⟩; have n0_ := Aside0.mk (blk_below (g := gb561) (o := .cells #[.int .i64 a0_0, .int .i64 a0_1, .int .i64 a0_2, .int .i64 a0_3, .int .i64 a0_4, .int .i64 a0_5, .slice A0_6 l0_6.length c0_6, .slice A0_7 l0_7.length c0_7, .slice A0_8 l0_8.length c0_8] 205 (0, 0)) (by (with_reducible repeat (first | refine blk_drewN ?_ _ | refine blk_drew ?_ | refine blk_alloc ?_ _)); exact BK561.out) hb); have n1_ := Aside0.mk (blk_below (g := gb562) (o := .cells #[.int .i64 a1_0, .int .i64 a1_1, .int .i64 a1_2, .int .i64 a1_3, .int .i64 a1_4, .int .i64 a1_5, .slice A1_6 l1_6.length c1_6, .slice A1_7 l1_7.length c1_7, .slice A1_8 l1_8.length c1_8] 205 (0, 0)) (by (with_reducible repeat (first | refine blk_drewN ?_ _ | refine blk_drew ?_ | refine blk_alloc ?_ _)); exact BK562.out) hb); have n2_ := Aside0.mk (below_step (by repeat (first | (with_reducible first | exact HB.out | apply below_alloc | apply pw_below_drewN | apply below_drew1 | refine below_set ?_ GE561.out | refine below_set ?_ GE562.out) | exact HB.out)) hb); clear BK561; clear BK562; clear HB; have BK561 := n0_; have BK562 := n1_; have HB := n2_; clear n0_ n1_ n2_; (try clear hb); (try clear hb2); (try clear hk); (try clear hi); have hcz37_0 : w36.cell? ⟨gb561, 0, none⟩ = some (.int .i64 a0_0) := (blk_cell BK561.out 0).trans rfl; have hcz37_1 : w36.cell? ⟨gb561, 1, none⟩ = some (.int .i64 a0_1) := (blk_cell BK561.out 1).trans rfl; have hcz37_2 : w36.cell? ⟨gb561, 2, none⟩ = some (.int .i64 a0_2) := (blk_cell BK561.out 2).trans rfl; have hcz37_3 : w36.cell? ⟨gb561, 3, none⟩ = some (.int .i64 a0_3) := (blk_cell BK561.out 3).trans rfl; have hcz37_4 : w36.cell? ⟨gb561, 4, none⟩ = some (.int .i64 a0_4) := (blk_cell BK561.out 4).trans rfl; have hcz37_5 : w36.cell? ⟨gb561, 5, none⟩ = some (.int .i64 a0_5) := (blk_cell BK561.out 5).trans rfl; have hcz37_6 : w36.cell? ⟨gb561, 6, none⟩ = some (.slice A0_6 l0_6.length c0_6) := (blk_cell BK561.out 6).trans rfl; have hcz37_7 : w36.cell? ⟨gb561, 7, none⟩ = some (.slice A0_7 l0_7.length c0_7) := (blk_cell BK561.out 7).trans rfl; have hcz37_8 : w36.cell? ⟨gb561, 8, none⟩ = some (.slice A0_8 l0_8.length c0_8) := (blk_cell BK561.out 8).trans rfl; have hfz37_0 := blk_frozen BK561.out 0; have hfz37_1 := blk_frozen BK561.out 1; have hfz37_2 := blk_frozen BK561.out 2; have hfz37_3 := blk_frozen BK561.out 3; have hfz37_4 := blk_frozen BK561.out 4; have hfz37_5 := blk_frozen BK561.out 5; have hfz37_6 := blk_frozen BK561.out 6; have hfz37_7 := blk_frozen BK561.out 7; have hfz37_8 := blk_frozen BK561.out 8; have hcz38_0 : w36.cell? ⟨gb562, 0, none⟩ = some (.int .i64 a1_0) := (blk_cell BK562.out 0).trans rfl; have hcz38_1 : w36.cell? ⟨gb562, 1, none⟩ = some (.int .i64 a1_1) := (blk_cell BK562.out 1).trans rfl; have hcz38_2 : w36.cell? ⟨gb562, 2, none⟩ = some (.int .i64 a1_2) := (blk_cell BK562.out 2).trans rfl; have hcz38_3 : w36.cell? ⟨gb562, 3, none⟩ = some (.int .i64 a1_3) := (blk_cell BK562.out 3).trans rfl; have hcz38_4 : w36.cell? ⟨gb562, 4, none⟩ = some (.int .i64 a1_4) := (blk_cell BK562.out 4).trans rfl; have hcz38_5 : w36.cell? ⟨gb562, 5, none⟩ = some (.int .i64 a1_5) := (blk_cell BK562.out 5).trans rfl; have hcz38_6 : w36.cell? ⟨gb562, 6, none⟩ = some (.slice A1_6 l1_6.length c1_6) := (blk_cell BK562.out 6).trans rfl; have hcz38_7 : w36.cell? ⟨gb562, 7, none⟩ = some (.slice A1_7 l1_7.length c1_7) := (blk_cell BK562.out 7).trans rfl; have hcz38_8 : w36.cell? ⟨gb562, 8, none⟩ = some (.slice A1_8 l1_8.length c1_8) := (blk_cell BK562.out 8).trans rfl; have hfz38_0 := blk_frozen BK562.out 0; have hfz38_1 := blk_frozen BK562.out 1; have hfz38_2 := blk_frozen BK562.out 2; have hfz38_3 := blk_frozen BK562.out 3; have hfz38_4 := blk_frozen BK562.out 4; have hfz38_5 := blk_frozen BK562.out 5; have hfz38_6 := blk_frozen BK562.out 6; have hfz38_7 := blk_frozen BK562.out 7; have hfz38_8 := blk_frozen BK562.out 8) | ((with_reducible refine gate_callee (f := 68) rfl ?_); refine goesL_ (some 45) rfl rfl Tryd.func68 (by kernel_rfl) rfl #[.slice A0_7 l0_7.length c0_7, .slice A1_7 l1_7.length c1_7] rfl (by (try simp only [List.map_toArray, List.map_cons, List.map_nil]); first | done | rfl | (simp only [List.length_drop, List.length_take]; rfl)) ?_; (with_reducible refine (laws_eqInt64S.calls k _ _ l0_7 _ _ l1_7 false _ ?side1 ?side2 ?side3 ?side4 A11.out).mono ?_); (case side1 => repeat (first | exact (Kd.C_below HR0_7.out HB.out) | (with_reducible refine Kd.C_alloc ?_ _) | (with_reducible refine Kd.C_drewN ?_ _) | (with_reducible refine Kd.C_drew ?_))); (case side2 => exact HC0_7.out); (case side3 => repeat (first | exact (Kd.C_below HR1_7.out HB.out) | (with_reducible refine Kd.C_alloc ?_ _) | (with_reducible refine Kd.C_drewN ?_ _) | (with_reducible refine Kd.C_drew ?_))); (case side4 => exact HC1_7.out); rintro e w' ⟨rfl, ⟨nd, rfl⟩⟩; refine ⟨_, rfl, ?_⟩))
                 go_ret
                 exact ⟨by first | rfl | (simp [errW_none, errW_some] <;> rfl) | (simp [*, errW_none, errW_some] <;> rfl), by repeat (first | (with_reducible first | exact HB.out | apply below_alloc | apply pw_below_drewN | apply below_drew1 | refine below_set ?_ GE561.out | refine below_set ?_ GE562.out) | exact HB.out)⟩
             · replace c10 := Bool.eq_false_iff.mpr c10
               subst c10
               have H1 : (some false) = some r := by rw [if_neg (show ¬ (false = true) by decide)] at H; exact H
               clear H
               have H := H1
               clear H1
               obtain rfl := Option.some.inj H
               go_enter Tryd.func139, Tryd.ntmps139
               go_wp2_with (first | ((with_reducible refine gate_dst (N := 2) rfl ?_); refine box_event ?hg (N := 2) ?hd (cs := #[.int .i64 a0_0, .int .i64 a0_1, .int .i64 a0_2, .int .i64 a0_3, .int .i64 a0_4, .int .i64 a0_5, .slice A0_6 l0_6.length c0_6, .slice A0_7 l0_7.length c0_7, .slice A0_8 l0_8.length c0_8]) (t := 205) ?hr ?_; (case hd => rfl); (case hg => rfl); (case hr => first | (go_simp; done) | (go_simp; rfl)); intro gb561 hg w39 hbox hb; have n0_ := Aside0.mk (below_step (by repeat (first | (with_reducible first | exact HB.out | apply below_alloc | apply pw_below_drewN | apply below_drew1) | exact HB.out)) hb); have n1_ := Aside0.mk (hbox); have n2_ := Aside0.mk ((by rw [hg]; exact (below_size (by repeat (first | (with_reducible first | exact HB.out | apply below_alloc | apply pw_below_drewN | apply below_drew1) | exact HB.out))) : w.heap.size ≤ gb561)); have n3_ := Aside0.mk ((by rw [hg]; exact (below_size (by repeat (first | (with_reducible first | exact HB.out | apply below_alloc | apply pw_below_drewN | apply below_drew1) | exact HB.out))) : w.heap.size ≤ gb561)); clear HB; have HB := n0_; have BK561 := n1_; have GW561 := n2_; have GE561 := n3_; clear n0_ n1_ n2_ n3_; clear hb hbox hg) | ((with_reducible refine gate_dst (N := 3) rfl ?_); refine box_event ?hg (N := 3) ?hd (cs := #[.int .i64 a1_0, .int .i64 a1_1, .int .i64 a1_2, .int .i64 a1_3, .int .i64 a1_4, .int .i64 a1_5, .slice A1_6 l1_6.length c1_6, .slice A1_7 l1_7.length c1_7, .slice A1_8 l1_8.length c1_8]) (t := 205) ?hr ?_; (case hd => rfl); (case hg => rfl); (case hr => first | (go_simp; done) | (go_simp; rfl)); intro gb562 hg w40 hbox hb; have n0_ := Aside0.mk (blk_below (g := gb561) (o := .cells #[.int .i64 a0_0, .int .i64 a0_1, .int .i64 a0_2, .int .i64 a0_3, .int .i64 a0_4, .int .i64 a0_5, .slice A0_6 l0_6.length c0_6, .slice A0_7 l0_7.length c0_7, .slice A0_8 l0_8.length c0_8] 205 (0, 0)) (by (with_reducible repeat (first | refine blk_drewN ?_ _ | refine blk_drew ?_ | refine blk_alloc ?_ _)); exact BK561.out) hb); have n1_ := Aside0.mk (below_step (by repeat (first | (with_reducible first | exact HB.out | apply below_alloc | apply pw_below_drewN | apply below_drew1 | refine below_set ?_ GE561.out) | exact HB.out)) hb); have n2_ := Aside0.mk (hbox); have n3_ := Aside0.mk ((by rw [hg]; exact (below_size (by repeat (first | (with_reducible first | exact HB.out | apply below_alloc | apply pw_below_drewN | apply below_drew1 | refine below_set ?_ GE561.out) | exact HB.out))) : w.heap.size ≤ gb562)); have n4_ := Aside0.mk ((by rw [hg]; exact (below_size (by repeat (first | (with_reducible first | exact HB.out | apply below_alloc | apply pw_below_drewN | apply below_drew1 | refine below_set ?_ GE561.out) | exact HB.out))) : w.heap.size ≤ gb562)); have n5_ := Aside0.mk ((by rw [hg]; exact Nat.ne_of_lt (blk_lt (g := gb561) (o := .cells #[.int .i64 a0_0, .int .i64 a0_1, .int .i64 a0_2, .int .i64 a0_3, .int .i64 a0_4, .int .i64 a0_5, .slice A0_6 l0_6.length c0_6, .slice A0_7 l0_7.length c0_7, .slice A0_8 l0_8.length c0_8] 205 (0, 0)) (by (with_reducible repeat (first | refine blk_drewN ?_ _ | refine blk_drew ?_ | refine blk_alloc ?_ _)); exact BK561.out)) : gb561 ≠ gb562)); have n6_ := Aside0.mk ((by rw [hg]; exact Nat.ne_of_gt (blk_lt (g := gb561) (o := .cells #[.int .i64 a0_0, .int .i64 a0_1, .int .i64 a0_2, .int .i64 a0_3, .int .i64 a0_4, .int .i64 a0_5, .slice A0_6 l0_6.length c0_6, .slice A0_7 l0_7.length c0_7, .slice A0_8 l0_8.length c0_8] 205 (0, 0)) (by (with_reducible repeat (first | refine blk_drewN ?_ _ | refine blk_drew ?_ | refine blk_alloc ?_ _)); exact BK561.out)) : gb562 ≠ gb561)); clear BK561; clear HB; have BK561 := n0_; have HB := n1_; have BK562 := n2_; have GW562 := n3_; have GE562 := n4_; have NB561_562 := n5_; have NB562_561 := n6_; clear n0_ n1_ n2_ n3_ n4_ n5_ n6_; clear hb hbox hg; have hnb41 := NB561_562.out; have hnc41 := NB562_561.out; have hcz42_0 : w40.cell? ⟨gb561, 0, none⟩ = some (.int .i64 a0_0) := (blk_cell BK561.out 0).trans rfl; have hcz42_1 : w40.cell? ⟨gb561, 1, none⟩ = some (.int .i64 a0_1) := (blk_cell BK561.out 1).trans rfl; have hcz42_2 : w40.cell? ⟨gb561, 2, none⟩ = some (.int .i64 a0_2) := (blk_cell BK561.out 2).trans rfl; have hcz42_3 : w40.cell? ⟨gb561, 3, none⟩ = some (.int .i64 a0_3) := (blk_cell BK561.out 3).trans rfl; have hcz42_4 : w40.cell? ⟨gb561, 4, none⟩ = some (.int .i64 a0_4) := (blk_cell BK561.out 4).trans rfl; have hcz42_5 : w40.cell? ⟨gb561, 5, none⟩ = some (.int .i64 a0_5) := (blk_cell BK561.out 5).trans rfl; have hcz42_6 : w40.cell? ⟨gb561, 6, none⟩ = some (.slice A0_6 l0_6.length c0_6) := (blk_cell BK561.out 6).trans rfl; have hcz42_7 : w40.cell? ⟨gb561, 7, none⟩ = some (.slice A0_7 l0_7.length c0_7) := (blk_cell BK561.out 7).trans rfl; have hcz42_8 : w40.cell? ⟨gb561, 8, none⟩ = some (.slice A0_8 l0_8.length c0_8) := (blk_cell BK561.out 8).trans rfl; have hfz42_0 := blk_frozen BK561.out 0; have hfz42_1 := blk_frozen BK561.out 1; have hfz42_2 := blk_frozen BK561.out 2; have hfz42_3 := blk_frozen BK561.out 3; have hfz42_4 := blk_frozen BK561.out 4; have hfz42_5 := blk_frozen BK561.out 5; have hfz42_6 := blk_frozen BK561.out 6; have hfz42_7 := blk_frozen BK561.out 7; have hfz42_8 := blk_frozen BK561.out 8; have hcz43_0 : w40.cell? ⟨gb562, 0, none⟩ = some (.int .i64 a1_0) := (blk_cell BK562.out 0).trans rfl; have hcz43_1 : w40.cell? ⟨gb562, 1, none⟩ = some (.int .i64 a1_1) := (blk_cell BK562.out 1).trans rfl; have hcz43_2 : w40.cell? ⟨gb562, 2, none⟩ = some (.int .i64 a1_2) := (blk_cell BK562.out 2).trans rfl; have hcz43_3 : w40.cell? ⟨gb562, 3, none⟩ = some (.int .i64 a1_3) := (blk_cell BK562.out 3).trans rfl; have hcz43_4 : w40.cell? ⟨gb562, 4, none⟩ = some (.int .i64 a1_4) := (blk_cell BK562.out 4).trans rfl; have hcz43_5 : w40.cell? ⟨gb562, 5, none⟩ = some (.int .i64 a1_5) := (blk_cell BK562.out 5).trans rfl; have hcz43_6 : w40.cell? ⟨gb562, 6, none⟩ = some (.slice A1_6 l1_6.length c1_6) := (blk_cell BK562.out 6).trans rfl; have hcz43_7 : w40.cell? ⟨gb562, 7, none⟩ = some (.slice A1_7 l1_7.length c1_7) := (blk_cell BK562.out 7).trans rfl; have hcz43_8 : w40.cell? ⟨gb562, 8, none⟩ = some (.slice A1_8 l1_8.length c1_8) := (blk_cell BK562.out 8).trans rfl; have hfz43_0 := blk_frozen BK562.out 0; have hfz43_1 := blk_frozen BK562.out 1; have hfz43_2 := blk_frozen BK562.out 2; have hfz43_3 := blk_frozen BK562.out 3; have hfz43_4 := blk_frozen BK562.out 4; have hfz43_5 := blk_frozen BK562.out 5; have hfz43_6 := blk_frozen BK562.out 6; have hfz43_7 := blk_frozen BK562.out 7; have hfz43_8 := blk_frozen BK562.out 8) | ((with_reducible refine gate_callee (f := 142) rfl ?_); refine goesL_ (some 39) rfl rfl Tryd.func142 (by kernel_rfl) rfl #[.slice A0_6 l0_6.length c0_6, .slice A1_6 l1_6.length c1_6] rfl (by (try simp only [List.map_toArray, List.map_cons, List.map_nil]); first | done | rfl | (simp only [List.length_drop, List.length_take]; rfl)) ?_; (with_reducible refine (laws_eqOperandS.calls k _ _ l0_6 _ _ l1_6 false _ ?side1 ?side2 ?side3 ?side4 A9.out).mono ?_); (case side1 => repeat (first | exact (Kd.C_below HR0_6.out HB.out) | (with_reducible refine Kd.C_alloc ?_ _) | (with_reducible refine Kd.C_drewN ?_ _) | (with_reducible refine Kd.C_drew ?_))); (case side2 => exact HC0_6.out); (case side3 => repeat (first | exact (Kd.C_below HR1_6.out HB.out) | (with_reducible refine Kd.C_alloc ?_ _) | (with_reducible refine Kd.C_drewN ?_ _) | (with_reducible refine Kd.C_drew ?_))); (case side4 => exact HC1_6.out); rintro e w44 ⟨rfl, hb⟩; refine ⟨_, rfl, ?_⟩; have n0_ := Aside0.mk (blk_below (g := gb561) (o := .cells #[.int .i64 a0_0, .int .i64 a0_1, .int .i64 a0_2, .int .i64 a0_3, .int .i64 a0_4, .int .i64 a0_5, .slice A0_6 l0_6.length c0_6, .slice A0_7 l0_7.length c0_7, .slice A0_8 l0_8.length c0_8] 205 (0, 0)) (by (with_reducible repeat (first | refine blk_drewN ?_ _ | refine blk_drew ?_ | refine blk_alloc ?_ _)); exact BK561.out) hb); have n1_ := Aside0.mk (blk_below (g := gb562) (o := .cells #[.int .i64 a1_0, .int .i64 a1_1, .int .i64 a1_2, .int .i64 a1_3, .int .i64 a1_4, .int .i64 a1_5, .slice A1_6 l1_6.length c1_6, .slice A1_7 l1_7.length c1_7, .slice A1_8 l1_8.length c1_8] 205 (0, 0)) (by (with_reducible repeat (first | refine blk_drewN ?_ _ | refine blk_drew ?_ | refine blk_alloc ?_ _)); exact BK562.out) hb); have n2_ := Aside0.mk (below_step (by repeat (first | (with_reducible first | exact HB.out | apply below_alloc | apply pw_below_drewN | apply below_drew1 | refine below_set ?_ GE561.out | refine below_set ?_ GE562.out) | exact HB.out)) hb); clear BK561; clear BK562; clear HB; have BK561 := n0_; have BK562 := n1_; have HB := n2_; clear n0_ n1_ n2_; (try clear hb); (try clear hb2); (try clear hk); (try clear hi)))
               go_ret
               exact ⟨by first | rfl | (simp [errW_none, errW_some] <;> rfl) | (simp [*, errW_none, errW_some] <;> rfl), by repeat (first | (with_reducible first | exact HB.out | apply below_alloc | apply pw_below_drewN | apply below_drew1 | refine below_set ?_ GE561.out | refine below_set ?_ GE562.out) | exact HB.out)⟩
           · rw [if_neg c8] at H
             have c8b0 : (a0_5 == a1_5) = false := beq_eq_false_iff_ne.mpr c8
             have c8b1 : (a0_5 != a1_5) = true := bne_iff_ne.mpr c8
             obtain rfl := Option.some.inj H
             go_enter Tryd.func139, Tryd.ntmps139
             go_wp2_with (first | ((with_reducible refine gate_dst (N := 2) rfl ?_); refine box_event ?hg (N := 2) ?hd (cs := #[.int .i64 a0_0, .int .i64 a0_1, .int .i64 a0_2, .int .i64 a0_3, .int .i64 a0_4, .int .i64 a0_5, .slice A0_6 l0_6.length c0_6, .slice A0_7 l0_7.length c0_7, .slice A0_8 l0_8.length c0_8]) (t := 205) ?hr ?_; (case hd => rfl); (case hg => rfl); (case hr => first | (go_simp; done) | (go_simp; rfl)); intro gb561 hg w45 hbox hb; have n0_ := Aside0.mk (below_step (by repeat (first | (with_reducible first | exact HB.out | apply below_alloc | apply pw_below_drewN | apply below_drew1) | exact HB.out)) hb); have n1_ := Aside0.mk (hbox); have n2_ := Aside0.mk ((by rw [hg]; exact (below_size (by repeat (first | (with_reducible first | exact HB.out | apply below_alloc | apply pw_below_drewN | apply below_drew1) | exact HB.out))) : w.heap.size ≤ gb561)); have n3_ := Aside0.mk ((by rw [hg]; exact (below_size (by repeat (first | (with_reducible first | exact HB.out | apply below_alloc | apply pw_below_drewN | apply below_drew1) | exact HB.out))) : w.heap.size ≤ gb561)); clear HB; have HB := n0_; have BK561 := n1_; have GW561 := n2_; have GE561 := n3_; clear n0_ n1_ n2_ n3_; clear hb hbox hg) | ((with_reducible refine gate_dst (N := 3) rfl ?_); refine box_event ?hg (N := 3) ?hd (cs := #[.int .i64 a1_0, .int .i64 a1_1, .int .i64 a1_2, .int .i64 a1_3, .int .i64 a1_4, .int .i64 a1_5, .slice A1_6 l1_6.length c1_6, .slice A1_7 l1_7.length c1_7, .slice A1_8 l1_8.length c1_8]) (t := 205) ?hr ?_; (case hd => rfl); (case hg => rfl); (case hr => first | (go_simp; done) | (go_simp; rfl)); intro gb562 hg w46 hbox hb; have n0_ := Aside0.mk (blk_below (g := gb561) (o := .cells #[.int .i64 a0_0, .int .i64 a0_1, .int .i64 a0_2, .int .i64 a0_3, .int .i64 a0_4, .int .i64 a0_5, .slice A0_6 l0_6.length c0_6, .slice A0_7 l0_7.length c0_7, .slice A0_8 l0_8.length c0_8] 205 (0, 0)) (by (with_reducible repeat (first | refine blk_drewN ?_ _ | refine blk_drew ?_ | refine blk_alloc ?_ _)); exact BK561.out) hb); have n1_ := Aside0.mk (below_step (by repeat (first | (with_reducible first | exact HB.out | apply below_alloc | apply pw_below_drewN | apply below_drew1 | refine below_set ?_ GE561.out) | exact HB.out)) hb); have n2_ := Aside0.mk (hbox); have n3_ := Aside0.mk ((by rw [hg]; exact (below_size (by repeat (first | (with_reducible first | exact HB.out | apply below_alloc | apply pw_below_drewN | apply below_drew1 | refine below_set ?_ GE561.out) | exact HB.out))) : w.heap.size ≤ gb562)); have n4_ := Aside0.mk ((by rw [hg]; exact (below_size (by repeat (first | (with_reducible first | exact HB.out | apply below_alloc | apply pw_below_drewN | apply below_drew1 | refine below_set ?_ GE561.out) | exact HB.out))) : w.heap.size ≤ gb562)); have n5_ := Aside0.mk ((by rw [hg]; exact Nat.ne_of_lt (blk_lt (g := gb561) (o := .cells #[.int .i64 a0_0, .int .i64 a0_1, .int .i64 a0_2, .int .i64 a0_3, .int .i64 a0_4, .int .i64 a0_5, .slice A0_6 l0_6.length c0_6, .slice A0_7 l0_7.length c0_7, .slice A0_8 l0_8.length c0_8] 205 (0, 0)) (by (with_reducible repeat (first | refine blk_drewN ?_ _ | refine blk_drew ?_ | refine blk_alloc ?_ _)); exact BK561.out)) : gb561 ≠ gb562)); have n6_ := Aside0.mk ((by rw [hg]; exact Nat.ne_of_gt (blk_lt (g := gb561) (o := .cells #[.int .i64 a0_0, .int .i64 a0_1, .int .i64 a0_2, .int .i64 a0_3, .int .i64 a0_4, .int .i64 a0_5, .slice A0_6 l0_6.length c0_6, .slice A0_7 l0_7.length c0_7, .slice A0_8 l0_8.length c0_8] 205 (0, 0)) (by (with_reducible repeat (first | refine blk_drewN ?_ _ | refine blk_drew ?_ | refine blk_alloc ?_ _)); exact BK561.out)) : gb562 ≠ gb561)); clear BK561; clear HB; have BK561 := n0_; have HB := n1_; have BK562 := n2_; have GW562 := n3_; have GE562 := n4_; have NB561_562 := n5_; have NB562_561 := n6_; clear n0_ n1_ n2_ n3_ n4_ n5_ n6_; clear hb hbox hg; have hnb47 := NB561_562.out; have hnc47 := NB562_561.out; have hcz48_0 : w46.cell? ⟨gb561, 0, none⟩ = some (.int .i64 a0_0) := (blk_cell BK561.out 0).trans rfl; have hcz48_1 : w46.cell? ⟨gb561, 1, none⟩ = some (.int .i64 a0_1) := (blk_cell BK561.out 1).trans rfl; have hcz48_2 : w46.cell? ⟨gb561, 2, none⟩ = some (.int .i64 a0_2) := (blk_cell BK561.out 2).trans rfl; have hcz48_3 : w46.cell? ⟨gb561, 3, none⟩ = some (.int .i64 a0_3) := (blk_cell BK561.out 3).trans rfl; have hcz48_4 : w46.cell? ⟨gb561, 4, none⟩ = some (.int .i64 a0_4) := (blk_cell BK561.out 4).trans rfl; have hcz48_5 : w46.cell? ⟨gb561, 5, none⟩ = some (.int .i64 a0_5) := (blk_cell BK561.out 5).trans rfl; have hcz48_6 : w46.cell? ⟨gb561, 6, none⟩ = some (.slice A0_6 l0_6.length c0_6) := (blk_cell BK561.out 6).trans rfl; have hcz48_7 : w46.cell? ⟨gb561, 7, none⟩ = some (.slice A0_7 l0_7.length c0_7) := (blk_cell BK561.out 7).trans rfl; have hcz48_8 : w46.cell? ⟨gb561, 8, none⟩ = some (.slice A0_8 l0_8.length c0_8) := (blk_cell BK561.out 8).trans rfl; have hfz48_0 := blk_frozen BK561.out 0; have hfz48_1 := blk_frozen BK561.out 1; have hfz48_2 := blk_frozen BK561.out 2; have hfz48_3 := blk_frozen BK561.out 3; have hfz48_4 := blk_frozen BK561.out 4; have hfz48_5 := blk_frozen BK561.out 5; have hfz48_6 := blk_frozen BK561.out 6; have hfz48_7 := blk_frozen BK561.out 7; have hfz48_8 := blk_frozen BK561.out 8; have hcz49_0 : w46.cell? ⟨gb562, 0, none⟩ = some (.int .i64 a1_0) := (blk_cell BK562.out 0).trans rfl; have hcz49_1 : w46.cell? ⟨gb562, 1, none⟩ = some (.int .i64 a1_1) := (blk_cell BK562.out 1).trans rfl; have hcz49_2 : w46.cell? ⟨gb562, 2, none⟩ = some (.int .i64 a1_2) := (blk_cell BK562.out 2).trans rfl; have hcz49_3 : w46.cell? ⟨gb562, 3, none⟩ = some (.int .i64 a1_3) := (blk_cell BK562.out 3).trans rfl; have hcz49_4 : w46.cell? ⟨gb562, 4, none⟩ = some (.int .i64 a1_4) := (blk_cell BK562.out 4).trans rfl; have hcz49_5 : w46.cell? ⟨gb562, 5, none⟩ = some (.int .i64 a1_5) := (blk_cell BK562.out 5).trans rfl; have hcz49_6 : w46.cell? ⟨gb562, 6, none⟩ = some (.slice A1_6 l1_6.length c1_6) := (blk_cell BK562.out 6).trans rfl; have hcz49_7 : w46.cell? ⟨gb562, 7, none⟩ = some (.slice A1_7 l1_7.length c1_7) := (blk_cell BK562.out 7).trans rfl; have hcz49_8 : w46.cell? ⟨gb562, 8, none⟩ = some (.slice A1_8 l1_8.length c1_8) := (blk_cell BK562.out 8).trans rfl; have hfz49_0 := blk_frozen BK562.out 0; have hfz49_1 := blk_frozen BK562.out 1; have hfz49_2 := blk_frozen BK562.out 2; have hfz49_3 := blk_frozen BK562.out 3; have hfz49_4 := blk_frozen BK562.out 4; have hfz49_5 := blk_frozen BK562.out 5; have hfz49_6 := blk_frozen BK562.out 6; have hfz49_7 := blk_frozen BK562.out 7; have hfz49_8 := blk_frozen BK562.out 8))
             go_ret
             exact ⟨by first | rfl | (simp [errW_none, errW_some] <;> rfl) | (simp [*, errW_none, errW_some] <;> rfl), by repeat (first | (with_reducible first | exact HB.out | apply below_alloc | apply pw_below_drewN | apply below_drew1 | refine below_set ?_ GE561.out | refine below_set ?_ GE562.out) | exact HB.out)⟩
         · rw [if_neg c7] at H
           have c7b0 : (a0_4 == a1_4) = false := beq_eq_false_iff_ne.mpr c7
           have c7b1 : (a0_4 != a1_4) = true := bne_iff_ne.mpr c7
           obtain rfl := Option.some.inj H
           go_enter Tryd.func139, Tryd.ntmps139
           go_wp2_with (first | ((with_reducible refine gate_dst (N := 2) rfl ?_); refine box_event ?hg (N := 2) ?hd (cs := #[.int .i64 a0_0, .int .i64 a0_1, .int .i64 a0_2, .int .i64 a0_3, .int .i64 a0_4, .int .i64 a0_5, .slice A0_6 l0_6.length c0_6, .slice A0_7 l0_7.length c0_7, .slice A0_8 l0_8.length c0_8]) (t := 205) ?hr ?_; (case hd => rfl); (case hg => rfl); (case hr => first | (go_simp; done) | (go_simp; rfl)); intro gb561 hg w50 hbox hb; have n0_ := Aside0.mk (below_step (by repeat (first | (with_reducible first | exact HB.out | apply below_alloc | apply pw_below_drewN | apply below_drew1) | exact HB.out)) hb); have n1_ := Aside0.mk (hbox); have n2_ := Aside0.mk ((by rw [hg]; exact (below_size (by repeat (first | (with_reducible first | exact HB.out | apply below_alloc | apply pw_below_drewN | apply below_drew1) | exact HB.out))) : w.heap.size ≤ gb561)); have n3_ := Aside0.mk ((by rw [hg]; exact (below_size (by repeat (first | (with_reducible first | exact HB.out | apply below_alloc | apply pw_below_drewN | apply below_drew1) | exact HB.out))) : w.heap.size ≤ gb561)); clear HB; have HB := n0_; have BK561 := n1_; have GW561 := n2_; have GE561 := n3_; clear n0_ n1_ n2_ n3_; clear hb hbox hg) | ((with_reducible refine gate_dst (N := 3) rfl ?_); refine box_event ?hg (N := 3) ?hd (cs := #[.int .i64 a1_0, .int .i64 a1_1, .int .i64 a1_2, .int .i64 a1_3, .int .i64 a1_4, .int .i64 a1_5, .slice A1_6 l1_6.length c1_6, .slice A1_7 l1_7.length c1_7, .slice A1_8 l1_8.length c1_8]) (t := 205) ?hr ?_; (case hd => rfl); (case hg => rfl); (case hr => first | (go_simp; done) | (go_simp; rfl)); intro gb562 hg w51 hbox hb; have n0_ := Aside0.mk (blk_below (g := gb561) (o := .cells #[.int .i64 a0_0, .int .i64 a0_1, .int .i64 a0_2, .int .i64 a0_3, .int .i64 a0_4, .int .i64 a0_5, .slice A0_6 l0_6.length c0_6, .slice A0_7 l0_7.length c0_7, .slice A0_8 l0_8.length c0_8] 205 (0, 0)) (by (with_reducible repeat (first | refine blk_drewN ?_ _ | refine blk_drew ?_ | refine blk_alloc ?_ _)); exact BK561.out) hb); have n1_ := Aside0.mk (below_step (by repeat (first | (with_reducible first | exact HB.out | apply below_alloc | apply pw_below_drewN | apply below_drew1 | refine below_set ?_ GE561.out) | exact HB.out)) hb); have n2_ := Aside0.mk (hbox); have n3_ := Aside0.mk ((by rw [hg]; exact (below_size (by repeat (first | (with_reducible first | exact HB.out | apply below_alloc | apply pw_below_drewN | apply below_drew1 | refine below_set ?_ GE561.out) | exact HB.out))) : w.heap.size ≤ gb562)); have n4_ := Aside0.mk ((by rw [hg]; exact (below_size (by repeat (first | (with_reducible first | exact HB.out | apply below_alloc | apply pw_below_drewN | apply below_drew1 | refine below_set ?_ GE561.out) | exact HB.out))) : w.heap.size ≤ gb562)); have n5_ := Aside0.mk ((by rw [hg]; exact Nat.ne_of_lt (blk_lt (g := gb561) (o := .cells #[.int .i64 a0_0, .int .i64 a0_1, .int .i64 a0_2, .int .i64 a0_3, .int .i64 a0_4, .int .i64 a0_5, .slice A0_6 l0_6.length c0_6, .slice A0_7 l0_7.length c0_7, .slice A0_8 l0_8.length c0_8] 205 (0, 0)) (by (with_reducible repeat (first | refine blk_drewN ?_ _ | refine blk_drew ?_ | refine blk_alloc ?_ _)); exact BK561.out)) : gb561 ≠ gb562)); have n6_ := Aside0.mk ((by rw [hg]; exact Nat.ne_of_gt (blk_lt (g := gb561) (o := .cells #[.int .i64 a0_0, .int .i64 a0_1, .int .i64 a0_2, .int .i64 a0_3, .int .i64 a0_4, .int .i64 a0_5, .slice A0_6 l0_6.length c0_6, .slice A0_7 l0_7.length c0_7, .slice A0_8 l0_8.length c0_8] 205 (0, 0)) (by (with_reducible repeat (first | refine blk_drewN ?_ _ | refine blk_drew ?_ | refine blk_alloc ?_ _)); exact BK561.out)) : gb562 ≠ gb561)); clear BK561; clear HB; have BK561 := n0_; have HB := n1_; have BK562 := n2_; have GW562 := n3_; have GE562 := n4_; have NB561_562 := n5_; have NB562_561 := n6_; clear n0_ n1_ n2_ n3_ n4_ n5_ n6_; clear hb hbox hg; have hnb52 := NB561_562.out; have hnc52 := NB562_561.out; have hcz53_0 : w51.cell? ⟨gb561, 0, none⟩ = some (.int .i64 a0_0) := (blk_cell BK561.out 0).trans rfl; have hcz53_1 : w51.cell? ⟨gb561, 1, none⟩ = some (.int .i64 a0_1) := (blk_cell BK561.out 1).trans rfl; have hcz53_2 : w51.cell? ⟨gb561, 2, none⟩ = some (.int .i64 a0_2) := (blk_cell BK561.out 2).trans rfl; have hcz53_3 : w51.cell? ⟨gb561, 3, none⟩ = some (.int .i64 a0_3) := (blk_cell BK561.out 3).trans rfl; have hcz53_4 : w51.cell? ⟨gb561, 4, none⟩ = some (.int .i64 a0_4) := (blk_cell BK561.out 4).trans rfl; have hcz53_5 : w51.cell? ⟨gb561, 5, none⟩ = some (.int .i64 a0_5) := (blk_cell BK561.out 5).trans rfl; have hcz53_6 : w51.cell? ⟨gb561, 6, none⟩ = some (.slice A0_6 l0_6.length c0_6) := (blk_cell BK561.out 6).trans rfl; have hcz53_7 : w51.cell? ⟨gb561, 7, none⟩ = some (.slice A0_7 l0_7.length c0_7) := (blk_cell BK561.out 7).trans rfl; have hcz53_8 : w51.cell? ⟨gb561, 8, none⟩ = some (.slice A0_8 l0_8.length c0_8) := (blk_cell BK561.out 8).trans rfl; have hfz53_0 := blk_frozen BK561.out 0; have hfz53_1 := blk_frozen BK561.out 1; have hfz53_2 := blk_frozen BK561.out 2; have hfz53_3 := blk_frozen BK561.out 3; have hfz53_4 := blk_frozen BK561.out 4; have hfz53_5 := blk_frozen BK561.out 5; have hfz53_6 := blk_frozen BK561.out 6; have hfz53_7 := blk_frozen BK561.out 7; have hfz53_8 := blk_frozen BK561.out 8; have hcz54_0 : w51.cell? ⟨gb562, 0, none⟩ = some (.int .i64 a1_0) := (blk_cell BK562.out 0).trans rfl; have hcz54_1 : w51.cell? ⟨gb562, 1, none⟩ = some (.int .i64 a1_1) := (blk_cell BK562.out 1).trans rfl; have hcz54_2 : w51.cell? ⟨gb562, 2, none⟩ = some (.int .i64 a1_2) := (blk_cell BK562.out 2).trans rfl; have hcz54_3 : w51.cell? ⟨gb562, 3, none⟩ = some (.int .i64 a1_3) := (blk_cell BK562.out 3).trans rfl; have hcz54_4 : w51.cell? ⟨gb562, 4, none⟩ = some (.int .i64 a1_4) := (blk_cell BK562.out 4).trans rfl; have hcz54_5 : w51.cell? ⟨gb562, 5, none⟩ = some (.int .i64 a1_5) := (blk_cell BK562.out 5).trans rfl; have hcz54_6 : w51.cell? ⟨gb562, 6, none⟩ = some (.slice A1_6 l1_6.length c1_6) := (blk_cell BK562.out 6).trans rfl; have hcz54_7 : w51.cell? ⟨gb562, 7, none⟩ = some (.slice A1_7 l1_7.length c1_7) := (blk_cell BK562.out 7).trans rfl; have hcz54_8 : w51.cell? ⟨gb562, 8, none⟩ = some (.slice A1_8 l1_8.length c1_8) := (blk_cell BK562.out 8).trans rfl; have hfz54_0 := blk_frozen BK562.out 0; have hfz54_1 := blk_frozen BK562.out 1; have hfz54_2 := blk_frozen BK562.out 2; have hfz54_3 := blk_frozen BK562.out 3; have hfz54_4 := blk_frozen BK562.out 4; have hfz54_5 := blk_frozen BK562.out 5; have hfz54_6 := blk_frozen BK562.out 6; have hfz54_7 := blk_frozen BK562.out 7; have hfz54_8 := blk_frozen BK562.out 8))
           go_ret
           exact ⟨by first | rfl | (simp [errW_none, errW_some] <;> rfl) | (simp [*, errW_none, errW_some] <;> rfl), by repeat (first | (with_reducible first | exact HB.out | apply below_alloc | apply pw_below_drewN | apply below_drew1 | refine below_set ?_ GE561.out | refine below_set ?_ GE562.out) | exact HB.out)⟩
       · rw [if_neg c6] at H
         have c6b0 : (a0_3 == a1_3) = false := beq_eq_false_iff_ne.mpr c6
         have c6b1 : (a0_3 != a1_3) = true := bne_iff_ne.mpr c6
         obtain rfl := Option.some.inj H
         go_enter Tryd.func139, Tryd.ntmps139
         go_wp2_with (first | ((with_reducible refine gate_dst (N := 2) rfl ?_); refine box_event ?hg (N := 2) ?hd (cs := #[.int .i64 a0_0, .int .i64 a0_1, .int .i64 a0_2, .int .i64 a0_3, .int .i64 a0_4, .int .i64 a0_5, .slice A0_6 l0_6.length c0_6, .slice A0_7 l0_7.length c0_7, .slice A0_8 l0_8.length c0_8]) (t := 205) ?hr ?_; (case hd => rfl); (case hg => rfl); (case hr => first | (go_simp; done) | (go_simp; rfl)); intro gb561 hg w55 hbox hb; have n0_ := Aside0.mk (below_step (by repeat (first | (with_reducible first | exact HB.out | apply below_alloc | apply pw_below_drewN | apply below_drew1) | exact HB.out)) hb); have n1_ := Aside0.mk (hbox); have n2_ := Aside0.mk ((by rw [hg]; exact (below_size (by repeat (first | (with_reducible first | exact HB.out | apply below_alloc | apply pw_below_drewN | apply below_drew1) | exact HB.out))) : w.heap.size ≤ gb561)); have n3_ := Aside0.mk ((by rw [hg]; exact (below_size (by repeat (first | (with_reducible first | exact HB.out | apply below_alloc | apply pw_below_drewN | apply below_drew1) | exact HB.out))) : w.heap.size ≤ gb561)); clear HB; have HB := n0_; have BK561 := n1_; have GW561 := n2_; have GE561 := n3_; clear n0_ n1_ n2_ n3_; clear hb hbox hg) | ((with_reducible refine gate_dst (N := 3) rfl ?_); refine box_event ?hg (N := 3) ?hd (cs := #[.int .i64 a1_0, .int .i64 a1_1, .int .i64 a1_2, .int .i64 a1_3, .int .i64 a1_4, .int .i64 a1_5, .slice A1_6 l1_6.length c1_6, .slice A1_7 l1_7.length c1_7, .slice A1_8 l1_8.length c1_8]) (t := 205) ?hr ?_; (case hd => rfl); (case hg => rfl); (case hr => first | (go_simp; done) | (go_simp; rfl)); intro gb562 hg w56 hbox hb; have n0_ := Aside0.mk (blk_below (g := gb561) (o := .cells #[.int .i64 a0_0, .int .i64 a0_1, .int .i64 a0_2, .int .i64 a0_3, .int .i64 a0_4, .int .i64 a0_5, .slice A0_6 l0_6.length c0_6, .slice A0_7 l0_7.length c0_7, .slice A0_8 l0_8.length c0_8] 205 (0, 0)) (by (with_reducible repeat (first | refine blk_drewN ?_ _ | refine blk_drew ?_ | refine blk_alloc ?_ _)); exact BK561.out) hb); have n1_ := Aside0.mk (below_step (by repeat (first | (with_reducible first | exact HB.out | apply below_alloc | apply pw_below_drewN | apply below_drew1 | refine below_set ?_ GE561.out) | exact HB.out)) hb); have n2_ := Aside0.mk (hbox); have n3_ := Aside0.mk ((by rw [hg]; exact (below_size (by repeat (first | (with_reducible first | exact HB.out | apply below_alloc | apply pw_below_drewN | apply below_drew1 | refine below_set ?_ GE561.out) | exact HB.out))) : w.heap.size ≤ gb562)); have n4_ := Aside0.mk ((by rw [hg]; exact (below_size (by repeat (first | (with_reducible first | exact HB.out | apply below_alloc | apply pw_below_drewN | apply below_drew1 | refine below_set ?_ GE561.out) | exact HB.out))) : w.heap.size ≤ gb562)); have n5_ := Aside0.mk ((by rw [hg]; exact Nat.ne_of_lt (blk_lt (g := gb561) (o := .cells #[.int .i64 a0_0, .int .i64 a0_1, .int .i64 a0_2, .int .i64 a0_3, .int .i64 a0_4, .int .i64 a0_5, .slice A0_6 l0_6.length c0_6, .slice A0_7 l0_7.length c0_7, .slice A0_8 l0_8.length c0_8] 205 (0, 0)) (by (with_reducible repeat (first | refine blk_drewN ?_ _ | refine blk_drew ?_ | refine blk_alloc ?_ _)); exact BK561.out)) : gb561 ≠ gb562)); have n6_ := Aside0.mk ((by rw [hg]; exact Nat.ne_of_gt (blk_lt (g := gb561) (o := .cells #[.int .i64 a0_0, .int .i64 a0_1, .int .i64 a0_2, .int .i64 a0_3, .int .i64 a0_4, .int .i64 a0_5, .slice A0_6 l0_6.length c0_6, .slice A0_7 l0_7.length c0_7, .slice A0_8 l0_8.length c0_8] 205 (0, 0)) (by (with_reducible repeat (first | refine blk_drewN ?_ _ | refine blk_drew ?_ | refine blk_alloc ?_ _)); exact BK561.out)) : gb562 ≠ gb561)); clear BK561; clear HB; have BK561 := n0_; have HB := n1_; have BK562 := n2_; have GW562 := n3_; have GE562 := n4_; have NB561_562 := n5_; have NB562_561 := n6_; clear n0_ n1_ n2_ n3_ n4_ n5_ n6_; clear hb hbox hg; have hnb57 := NB561_562.out; have hnc57 := NB562_561.out; have hcz58_0 : w56.cell? ⟨gb561, 0, none⟩ = some (.int .i64 a0_0) := (blk_cell BK561.out 0).trans rfl; have hcz58_1 : w56.cell? ⟨gb561, 1, none⟩ = some (.int .i64 a0_1) := (blk_cell BK561.out 1).trans rfl; have hcz58_2 : w56.cell? ⟨gb561, 2, none⟩ = some (.int .i64 a0_2) := (blk_cell BK561.out 2).trans rfl; have hcz58_3 : w56.cell? ⟨gb561, 3, none⟩ = some (.int .i64 a0_3) := (blk_cell BK561.out 3).trans rfl; have hcz58_4 : w56.cell? ⟨gb561, 4, none⟩ = some (.int .i64 a0_4) := (blk_cell BK561.out 4).trans rfl; have hcz58_5 : w56.cell? ⟨gb561, 5, none⟩ = some (.int .i64 a0_5) := (blk_cell BK561.out 5).trans rfl; have hcz58_6 : w56.cell? ⟨gb561, 6, none⟩ = some (.slice A0_6 l0_6.length c0_6) := (blk_cell BK561.out 6).trans rfl; have hcz58_7 : w56.cell? ⟨gb561, 7, none⟩ = some (.slice A0_7 l0_7.length c0_7) := (blk_cell BK561.out 7).trans rfl; have hcz58_8 : w56.cell? ⟨gb561, 8, none⟩ = some (.slice A0_8 l0_8.length c0_8) := (blk_cell BK561.out 8).trans rfl; have hfz58_0 := blk_frozen BK561.out 0; have hfz58_1 := blk_frozen BK561.out 1; have hfz58_2 := blk_frozen BK561.out 2; have hfz58_3 := blk_frozen BK561.out 3; have hfz58_4 := blk_frozen BK561.out 4; have hfz58_5 := blk_frozen BK561.out 5; have hfz58_6 := blk_frozen BK561.out 6; have hfz58_7 := blk_frozen BK561.out 7; have hfz58_8 := blk_frozen BK561.out 8; have hcz59_0 : w56.cell? ⟨gb562, 0, none⟩ = some (.int .i64 a1_0) := (blk_cell BK562.out 0).trans rfl; have hcz59_1 : w56.cell? ⟨gb562, 1, none⟩ = some (.int .i64 a1_1) := (blk_cell BK562.out 1).trans rfl; have hcz59_2 : w56.cell? ⟨gb562, 2, none⟩ = some (.int .i64 a1_2) := (blk_cell BK562.out 2).trans rfl; have hcz59_3 : w56.cell? ⟨gb562, 3, none⟩ = some (.int .i64 a1_3) := (blk_cell BK562.out 3).trans rfl; have hcz59_4 : w56.cell? ⟨gb562, 4, none⟩ = some (.int .i64 a1_4) := (blk_cell BK562.out 4).trans rfl; have hcz59_5 : w56.cell? ⟨gb562, 5, none⟩ = some (.int .i64 a1_5) := (blk_cell BK562.out 5).trans rfl; have hcz59_6 : w56.cell? ⟨gb562, 6, none⟩ = some (.slice A1_6 l1_6.length c1_6) := (blk_cell BK562.out 6).trans rfl; have hcz59_7 : w56.cell? ⟨gb562, 7, none⟩ = some (.slice A1_7 l1_7.length c1_7) := (blk_cell BK562.out 7).trans rfl; have hcz59_8 : w56.cell? ⟨gb562, 8, none⟩ = some (.slice A1_8 l1_8.length c1_8) := (blk_cell BK562.out 8).trans rfl; have hfz59_0 := blk_frozen BK562.out 0; have hfz59_1 := blk_frozen BK562.out 1; have hfz59_2 := blk_frozen BK562.out 2; have hfz59_3 := blk_frozen BK562.out 3; have hfz59_4 := blk_frozen BK562.out 4; have hfz59_5 := blk_frozen BK562.out 5; have hfz59_6 := blk_frozen BK562.out 6; have hfz59_7 := blk_frozen BK562.out 7; have hfz59_8 := blk_frozen BK562.out 8))
         go_ret
         exact ⟨by first | rfl | (simp [errW_none, errW_some] <;> rfl) | (simp [*, errW_none, errW_some] <;> rfl), by repeat (first | (with_reducible first | exact HB.out | apply below_alloc | apply pw_below_drewN | apply below_drew1 | refine below_set ?_ GE561.out | refine below_set ?_ GE562.out) | exact HB.out)⟩
     · rw [if_neg c5] at H
       have c5b0 : (a0_2 == a1_2) = false := beq_eq_false_iff_ne.mpr c5
       have c5b1 : (a0_2 != a1_2) = true := bne_iff_ne.mpr c5
       obtain rfl := Option.some.inj H
       go_enter Tryd.func139, Tryd.ntmps139
       go_wp2_with (first | ((with_reducible refine gate_dst (N := 2) rfl ?_); refine box_event ?hg (N := 2) ?hd (cs := #[.int .i64 a0_0, .int .i64 a0_1, .int .i64 a0_2, .int .i64 a0_3, .int .i64 a0_4, .int .i64 a0_5, .slice A0_6 l0_6.length c0_6, .slice A0_7 l0_7.length c0_7, .slice A0_8 l0_8.length c0_8]) (t := 205) ?hr ?_; (case hd => rfl); (case hg => rfl); (case hr => first | (go_simp; done) | (go_simp; rfl)); intro gb561 hg w60 hbox hb; have n0_ := Aside0.mk (below_step (by repeat (first | (with_reducible first | exact HB.out | apply below_alloc | apply pw_below_drewN | apply below_drew1) | exact HB.out)) hb); have n1_ := Aside0.mk (hbox); have n2_ := Aside0.mk ((by rw [hg]; exact (below_size (by repeat (first | (with_reducible first | exact HB.out | apply below_alloc | apply pw_below_drewN | apply below_drew1) | exact HB.out))) : w.heap.size ≤ gb561)); have n3_ := Aside0.mk ((by rw [hg]; exact (below_size (by repeat (first | (with_reducible first | exact HB.out | apply below_alloc | apply pw_below_drewN | apply below_drew1) | exact HB.out))) : w.heap.size ≤ gb561)); clear HB; have HB := n0_; have BK561 := n1_; have GW561 := n2_; have GE561 := n3_; clear n0_ n1_ n2_ n3_; clear hb hbox hg) | ((with_reducible refine gate_dst (N := 3) rfl ?_); refine box_event ?hg (N := 3) ?hd (cs := #[.int .i64 a1_0, .int .i64 a1_1, .int .i64 a1_2, .int .i64 a1_3, .int .i64 a1_4, .int .i64 a1_5, .slice A1_6 l1_6.length c1_6, .slice A1_7 l1_7.length c1_7, .slice A1_8 l1_8.length c1_8]) (t := 205) ?hr ?_; (case hd => rfl); (case hg => rfl); (case hr => first | (go_simp; done) | (go_simp; rfl)); intro gb562 hg w61 hbox hb; have n0_ := Aside0.mk (blk_below (g := gb561) (o := .cells #[.int .i64 a0_0, .int .i64 a0_1, .int .i64 a0_2, .int .i64 a0_3, .int .i64 a0_4, .int .i64 a0_5, .slice A0_6 l0_6.length c0_6, .slice A0_7 l0_7.length c0_7, .slice A0_8 l0_8.length c0_8] 205 (0, 0)) (by (with_reducible repeat (first | refine blk_drewN ?_ _ | refine blk_drew ?_ | refine blk_alloc ?_ _)); exact BK561.out) hb); have n1_ := Aside0.mk (below_step (by repeat (first | (with_reducible first | exact HB.out | apply below_alloc | apply pw_below_drewN | apply below_drew1 | refine below_set ?_ GE561.out) | exact HB.out)) hb); have n2_ := Aside0.mk (hbox); have n3_ := Aside0.mk ((by rw [hg]; exact (below_size (by repeat (first | (with_reducible first | exact HB.out | apply below_alloc | apply pw_below_drewN | apply below_drew1 | refine below_set ?_ GE561.out) | exact HB.out))) : w.heap.size ≤ gb562)); have n4_ := Aside0.mk ((by rw [hg]; exact (below_size (by repeat (first | (with_reducible first | exact HB.out | apply below_alloc | apply pw_below_drewN | apply below_drew1 | refine below_set ?_ GE561.out) | exact HB.out))) : w.heap.size ≤ gb562)); have n5_ := Aside0.mk ((by rw [hg]; exact Nat.ne_of_lt (blk_lt (g := gb561) (o := .cells #[.int .i64 a0_0, .int .i64 a0_1, .int .i64 a0_2, .int .i64 a0_3, .int .i64 a0_4, .int .i64 a0_5, .slice A0_6 l0_6.length c0_6, .slice A0_7 l0_7.length c0_7, .slice A0_8 l0_8.length c0_8] 205 (0, 0)) (by (with_reducible repeat (first | refine blk_drewN ?_ _ | refine blk_drew ?_ | refine blk_alloc ?_ _)); exact BK561.out)) : gb561 ≠ gb562)); have n6_ := Aside0.mk ((by rw [hg]; exact Nat.ne_of_gt (blk_lt (g := gb561) (o := .cells #[.int .i64 a0_0, .int .i64 a0_1, .int .i64 a0_2, .int .i64 a0_3, .int .i64 a0_4, .int .i64 a0_5, .slice A0_6 l0_6.length c0_6, .slice A0_7 l0_7.length c0_7, .slice A0_8 l0_8.length c0_8] 205 (0, 0)) (by (with_reducible repeat (first | refine blk_drewN ?_ _ | refine blk_drew ?_ | refine blk_alloc ?_ _)); exact BK561.out)) : gb562 ≠ gb561)); clear BK561; clear HB; have BK561 := n0_; have HB := n1_; have BK562 := n2_; have GW562 := n3_; have GE562 := n4_; have NB561_562 := n5_; have NB562_561 := n6_; clear n0_ n1_ n2_ n3_ n4_ n5_ n6_; clear hb hbox hg; have hnb62 := NB561_562.out; have hnc62 := NB562_561.out; have hcz63_0 : w61.cell? ⟨gb561, 0, none⟩ = some (.int .i64 a0_0) := (blk_cell BK561.out 0).trans rfl; have hcz63_1 : w61.cell? ⟨gb561, 1, none⟩ = some (.int .i64 a0_1) := (blk_cell BK561.out 1).trans rfl; have hcz63_2 : w61.cell? ⟨gb561, 2, none⟩ = some (.int .i64 a0_2) := (blk_cell BK561.out 2).trans rfl; have hcz63_3 : w61.cell? ⟨gb561, 3, none⟩ = some (.int .i64 a0_3) := (blk_cell BK561.out 3).trans rfl; have hcz63_4 : w61.cell? ⟨gb561, 4, none⟩ = some (.int .i64 a0_4) := (blk_cell BK561.out 4).trans rfl; have hcz63_5 : w61.cell? ⟨gb561, 5, none⟩ = some (.int .i64 a0_5) := (blk_cell BK561.out 5).trans rfl; have hcz63_6 : w61.cell? ⟨gb561, 6, none⟩ = some (.slice A0_6 l0_6.length c0_6) := (blk_cell BK561.out 6).trans rfl; have hcz63_7 : w61.cell? ⟨gb561, 7, none⟩ = some (.slice A0_7 l0_7.length c0_7) := (blk_cell BK561.out 7).trans rfl; have hcz63_8 : w61.cell? ⟨gb561, 8, none⟩ = some (.slice A0_8 l0_8.length c0_8) := (blk_cell BK561.out 8).trans rfl; have hfz63_0 := blk_frozen BK561.out 0; have hfz63_1 := blk_frozen BK561.out 1; have hfz63_2 := blk_frozen BK561.out 2; have hfz63_3 := blk_frozen BK561.out 3; have hfz63_4 := blk_frozen BK561.out 4; have hfz63_5 := blk_frozen BK561.out 5; have hfz63_6 := blk_frozen BK561.out 6; have hfz63_7 := blk_frozen BK561.out 7; have hfz63_8 := blk_frozen BK561.out 8; have hcz64_0 : w61.cell? ⟨gb562, 0, none⟩ = some (.int .i64 a1_0) := (blk_cell BK562.out 0).trans rfl; have hcz64_1 : w61.cell? ⟨gb562, 1, none⟩ = some (.int .i64 a1_1) := (blk_cell BK562.out 1).trans rfl; have hcz64_2 : w61.cell? ⟨gb562, 2, none⟩ = some (.int .i64 a1_2) := (blk_cell BK562.out 2).trans rfl; have hcz64_3 : w61.cell? ⟨gb562, 3, none⟩ = some (.int .i64 a1_3) := (blk_cell BK562.out 3).trans rfl; have hcz64_4 : w61.cell? ⟨gb562, 4, none⟩ = some (.int .i64 a1_4) := (blk_cell BK562.out 4).trans rfl; have hcz64_5 : w61.cell? ⟨gb562, 5, none⟩ = some (.int .i64 a1_5) := (blk_cell BK562.out 5).trans rfl; have hcz64_6 : w61.cell? ⟨gb562, 6, none⟩ = some (.slice A1_6 l1_6.length c1_6) := (blk_cell BK562.out 6).trans rfl; have hcz64_7 : w61.cell? ⟨gb562, 7, none⟩ = some (.slice A1_7 l1_7.length c1_7) := (blk_cell BK562.out 7).trans rfl; have hcz64_8 : w61.cell? ⟨gb562, 8, none⟩ = some (.slice A1_8 l1_8.length c1_8) := (blk_cell BK562.out 8).trans rfl; have hfz64_0 := blk_frozen BK562.out 0; have hfz64_1 := blk_frozen BK562.out 1; have hfz64_2 := blk_frozen BK562.out 2; have hfz64_3 := blk_frozen BK562.out 3; have hfz64_4 := blk_frozen BK562.out 4; have hfz64_5 := blk_frozen BK562.out 5; have hfz64_6 := blk_frozen BK562.out 6; have hfz64_7 := blk_frozen BK562.out 7; have hfz64_8 := blk_frozen BK562.out 8))
       go_ret
       exact ⟨by first | rfl | (simp [errW_none, errW_some] <;> rfl) | (simp [*, errW_none, errW_some] <;> rfl), by repeat (first | (with_reducible first | exact HB.out | apply below_alloc | apply pw_below_drewN | apply below_drew1 | refine below_set ?_ GE561.out | refine below_set ?_ GE562.out) | exact HB.out)⟩
   · rw [if_neg c4] at H
     have c4b0 : (a0_1 == a1_1) = false := beq_eq_false_iff_ne.mpr c4
     have c4b1 : (a0_1 != a1_1) = true := bne_iff_ne.mpr c4
     obtain rfl := Option.some.inj H
     go_enter Tryd.func139, Tryd.ntmps139
     go_wp2_with (first | ((with_reducible refine gate_dst (N := 2) rfl ?_); refine box_event ?hg (N := 2) ?hd (cs := #[.int .i64 a0_0, .int .i64 a0_1, .int .i64 a0_2, .int .i64 a0_3, .int .i64 a0_4, .int .i64 a0_5, .slice A0_6 l0_6.length c0_6, .slice A0_7 l0_7.length c0_7, .slice A0_8 l0_8.length c0_8]) (t := 205) ?hr ?_; (case hd => rfl); (case hg => rfl); (case hr => first | (go_simp; done) | (go_simp; rfl)); intro gb561 hg w65 hbox hb; have n0_ := Aside0.mk (below_step (by repeat (first | (with_reducible first | exact HB.out | apply below_alloc | apply pw_below_drewN | apply below_drew1) | exact HB.out)) hb); have n1_ := Aside0.mk (hbox); have n2_ := Aside0.mk ((by rw [hg]; exact (below_size (by repeat (first | (with_reducible first | exact HB.out | apply below_alloc | apply pw_below_drewN | apply below_drew1) | exact HB.out))) : w.heap.size ≤ gb561)); have n3_ := Aside0.mk ((by rw [hg]; exact (below_size (by repeat (first | (with_reducible first | exact HB.out | apply below_alloc | apply pw_below_drewN | apply below_drew1) | exact HB.out))) : w.heap.size ≤ gb561)); clear HB; have HB := n0_; have BK561 := n1_; have GW561 := n2_; have GE561 := n3_; clear n0_ n1_ n2_ n3_; clear hb hbox hg) | ((with_reducible refine gate_dst (N := 3) rfl ?_); refine box_event ?hg (N := 3) ?hd (cs := #[.int .i64 a1_0, .int .i64 a1_1, .int .i64 a1_2, .int .i64 a1_3, .int .i64 a1_4, .int .i64 a1_5, .slice A1_6 l1_6.length c1_6, .slice A1_7 l1_7.length c1_7, .slice A1_8 l1_8.length c1_8]) (t := 205) ?hr ?_; (case hd => rfl); (case hg => rfl); (case hr => first | (go_simp; done) | (go_simp; rfl)); intro gb562 hg w66 hbox hb; have n0_ := Aside0.mk (blk_below (g := gb561) (o := .cells #[.int .i64 a0_0, .int .i64 a0_1, .int .i64 a0_2, .int .i64 a0_3, .int .i64 a0_4, .int .i64 a0_5, .slice A0_6 l0_6.length c0_6, .slice A0_7 l0_7.length c0_7, .slice A0_8 l0_8.length c0_8] 205 (0, 0)) (by (with_reducible repeat (first | refine blk_drewN ?_ _ | refine blk_drew ?_ | refine blk_alloc ?_ _)); exact BK561.out) hb); have n1_ := Aside0.mk (below_step (by repeat (first | (with_reducible first | exact HB.out | apply below_alloc | apply pw_below_drewN | apply below_drew1 | refine below_set ?_ GE561.out) | exact HB.out)) hb); have n2_ := Aside0.mk (hbox); have n3_ := Aside0.mk ((by rw [hg]; exact (below_size (by repeat (first | (with_reducible first | exact HB.out | apply below_alloc | apply pw_below_drewN | apply below_drew1 | refine below_set ?_ GE561.out) | exact HB.out))) : w.heap.size ≤ gb562)); have n4_ := Aside0.mk ((by rw [hg]; exact (below_size (by repeat (first | (with_reducible first | exact HB.out | apply below_alloc | apply pw_below_drewN | apply below_drew1 | refine below_set ?_ GE561.out) | exact HB.out))) : w.heap.size ≤ gb562)); have n5_ := Aside0.mk ((by rw [hg]; exact Nat.ne_of_lt (blk_lt (g := gb561) (o := .cells #[.int .i64 a0_0, .int .i64 a0_1, .int .i64 a0_2, .int .i64 a0_3, .int .i64 a0_4, .int .i64 a0_5, .slice A0_6 l0_6.length c0_6, .slice A0_7 l0_7.length c0_7, .slice A0_8 l0_8.length c0_8] 205 (0, 0)) (by (with_reducible repeat (first | refine blk_drewN ?_ _ | refine blk_drew ?_ | refine blk_alloc ?_ _)); exact BK561.out)) : gb561 ≠ gb562)); have n6_ := Aside0.mk ((by rw [hg]; exact Nat.ne_of_gt (blk_lt (g := gb561) (o := .cells #[.int .i64 a0_0, .int .i64 a0_1, .int .i64 a0_2, .int .i64 a0_3, .int .i64 a0_4, .int .i64 a0_5, .slice A0_6 l0_6.length c0_6, .slice A0_7 l0_7.length c0_7, .slice A0_8 l0_8.length c0_8] 205 (0, 0)) (by (with_reducible repeat (first | refine blk_drewN ?_ _ | refine blk_drew ?_ | refine blk_alloc ?_ _)); exact BK561.out)) : gb562 ≠ gb561)); clear BK561; clear HB; have BK561 := n0_; have HB := n1_; have BK562 := n2_; have GW562 := n3_; have GE562 := n4_; have NB561_562 := n5_; have NB562_561 := n6_; clear n0_ n1_ n2_ n3_ n4_ n5_ n6_; clear hb hbox hg; have hnb67 := NB561_562.out; have hnc67 := NB562_561.out; have hcz68_0 : w66.cell? ⟨gb561, 0, none⟩ = some (.int .i64 a0_0) := (blk_cell BK561.out 0).trans rfl; have hcz68_1 : w66.cell? ⟨gb561, 1, none⟩ = some (.int .i64 a0_1) := (blk_cell BK561.out 1).trans rfl; have hcz68_2 : w66.cell? ⟨gb561, 2, none⟩ = some (.int .i64 a0_2) := (blk_cell BK561.out 2).trans rfl; have hcz68_3 : w66.cell? ⟨gb561, 3, none⟩ = some (.int .i64 a0_3) := (blk_cell BK561.out 3).trans rfl; have hcz68_4 : w66.cell? ⟨gb561, 4, none⟩ = some (.int .i64 a0_4) := (blk_cell BK561.out 4).trans rfl; have hcz68_5 : w66.cell? ⟨gb561, 5, none⟩ = some (.int .i64 a0_5) := (blk_cell BK561.out 5).trans rfl; have hcz68_6 : w66.cell? ⟨gb561, 6, none⟩ = some (.slice A0_6 l0_6.length c0_6) := (blk_cell BK561.out 6).trans rfl; have hcz68_7 : w66.cell? ⟨gb561, 7, none⟩ = some (.slice A0_7 l0_7.length c0_7) := (blk_cell BK561.out 7).trans rfl; have hcz68_8 : w66.cell? ⟨gb561, 8, none⟩ = some (.slice A0_8 l0_8.length c0_8) := (blk_cell BK561.out 8).trans rfl; have hfz68_0 := blk_frozen BK561.out 0; have hfz68_1 := blk_frozen BK561.out 1; have hfz68_2 := blk_frozen BK561.out 2; have hfz68_3 := blk_frozen BK561.out 3; have hfz68_4 := blk_frozen BK561.out 4; have hfz68_5 := blk_frozen BK561.out 5; have hfz68_6 := blk_frozen BK561.out 6; have hfz68_7 := blk_frozen BK561.out 7; have hfz68_8 := blk_frozen BK561.out 8; have hcz69_0 : w66.cell? ⟨gb562, 0, none⟩ = some (.int .i64 a1_0) := (blk_cell BK562.out 0).trans rfl; have hcz69_1 : w66.cell? ⟨gb562, 1, none⟩ = some (.int .i64 a1_1) := (blk_cell BK562.out 1).trans rfl; have hcz69_2 : w66.cell? ⟨gb562, 2, none⟩ = some (.int .i64 a1_2) := (blk_cell BK562.out 2).trans rfl; have hcz69_3 : w66.cell? ⟨gb562, 3, none⟩ = some (.int .i64 a1_3) := (blk_cell BK562.out 3).trans rfl; have hcz69_4 : w66.cell? ⟨gb562, 4, none⟩ = some (.int .i64 a1_4) := (blk_cell BK562.out 4).trans rfl; have hcz69_5 : w66.cell? ⟨gb562, 5, none⟩ = some (.int .i64 a1_5) := (blk_cell BK562.out 5).trans rfl; have hcz69_6 : w66.cell? ⟨gb562, 6, none⟩ = some (.slice A1_6 l1_6.length c1_6) := (blk_cell BK562.out 6).trans rfl; have hcz69_7 : w66.cell? ⟨gb562, 7, none⟩ = some (.slice A1_7 l1_7.length c1_7) := (blk_cell BK562.out 7).trans rfl; have hcz69_8 : w66.cell? ⟨gb562, 8, none⟩ = some (.slice A1_8 l1_8.length c1_8) := (blk_cell BK562.out 8).trans rfl; have hfz69_0 := blk_frozen BK562.out 0; have hfz69_1 := blk_frozen BK562.out 1; have hfz69_2 := blk_frozen BK562.out 2; have hfz69_3 := blk_frozen BK562.out 3; have hfz69_4 := blk_frozen BK562.out 4; have hfz69_5 := blk_frozen BK562.out 5; have hfz69_6 := blk_frozen BK562.out 6; have hfz69_7 := blk_frozen BK562.out 7; have hfz69_8 := blk_frozen BK562.out 8))
     go_ret
     exact ⟨by first | rfl | (simp [errW_none, errW_some] <;> rfl) | (simp [*, errW_none, errW_some] <;> rfl), by repeat (first | (with_reducible first | exact HB.out | apply below_alloc | apply pw_below_drewN | apply below_drew1 | refine below_set ?_ GE561.out | refine below_set ?_ GE562.out) | exact HB.out)⟩
 · rw [if_neg c3] at H
   have c3b0 : (a0_0 == a1_0) = false := beq_eq_false_iff_ne.mpr c3
   have c3b1 : (a0_0 != a1_0) = true := bne_iff_ne.mpr c3
   obtain rfl := Option.some.inj H
   go_enter Tryd.func139, Tryd.ntmps139
   go_wp2_with (first | ((with_reducible refine gate_dst (N := 2) rfl ?_); refine box_event ?hg (N := 2) ?hd (cs := #[.int .i64 a0_0, .int .i64 a0_1, .int .i64 a0_2, .int .i64 a0_3, .int .i64 a0_4, .int .i64 a0_5, .slice A0_6 l0_6.length c0_6, .slice A0_7 l0_7.length c0_7, .slice A0_8 l0_8.length c0_8]) (t := 205) ?hr ?_; (case hd => rfl); (case hg => rfl); (case hr => first | (go_simp; done) | (go_simp; rfl)); intro gb561 hg w70 hbox hb; have n0_ := Aside0.mk (below_step (by repeat (first | (with_reducible first | exact HB.out | apply below_alloc | apply pw_below_drewN | apply below_drew1) | exact HB.out)) hb); have n1_ := Aside0.mk (hbox); have n2_ := Aside0.mk ((by rw [hg]; exact (below_size (by repeat (first | (with_reducible first | exact HB.out | apply below_alloc | apply pw_below_drewN | apply below_drew1) | exact HB.out))) : w.heap.size ≤ gb561)); have n3_ := Aside0.mk ((by rw [hg]; exact (below_size (by repeat (first | (with_reducible first | exact HB.out | apply below_alloc | apply pw_below_drewN | apply below_drew1) | exact HB.out))) : w.heap.size ≤ gb561)); clear HB; have HB := n0_; have BK561 := n1_; have GW561 := n2_; have GE561 := n3_; clear n0_ n1_ n2_ n3_; clear hb hbox hg) | ((with_reducible refine gate_dst (N := 3) rfl ?_); refine box_event ?hg (N := 3) ?hd (cs := #[.int .i64 a1_0, .int .i64 a1_1, .int .i64 a1_2, .int .i64 a1_3, .int .i64 a1_4, .int .i64 a1_5, .slice A1_6 l1_6.length c1_6, .slice A1_7 l1_7.length c1_7, .slice A1_8 l1_8.length c1_8]) (t := 205) ?hr ?_; (case hd => rfl); (case hg => rfl); (case hr => first | (go_simp; done) | (go_simp; rfl)); intro gb562 hg w71 hbox hb; have n0_ := Aside0.mk (blk_below (g := gb561) (o := .cells #[.int .i64 a0_0, .int .i64 a0_1, .int .i64 a0_2, .int .i64 a0_3, .int .i64 a0_4, .int .i64 a0_5, .slice A0_6 l0_6.length c0_6, .slice A0_7 l0_7.length c0_7, .slice A0_8 l0_8.length c0_8] 205 (0, 0)) (by (with_reducible repeat (first | refine blk_drewN ?_ _ | refine blk_drew ?_ | refine blk_alloc ?_ _)); exact BK561.out) hb); have n1_ := Aside0.mk (below_step (by repeat (first | (with_reducible first | exact HB.out | apply below_alloc | apply pw_below_drewN | apply below_drew1 | refine below_set ?_ GE561.out) | exact HB.out)) hb); have n2_ := Aside0.mk (hbox); have n3_ := Aside0.mk ((by rw [hg]; exact (below_size (by repeat (first | (with_reducible first | exact HB.out | apply below_alloc | apply pw_below_drewN | apply below_drew1 | refine below_set ?_ GE561.out) | exact HB.out))) : w.heap.size ≤ gb562)); have n4_ := Aside0.mk ((by rw [hg]; exact (below_size (by repeat (first | (with_reducible first | exact HB.out | apply below_alloc | apply pw_below_drewN | apply below_drew1 | refine below_set ?_ GE561.out) | exact HB.out))) : w.heap.size ≤ gb562)); have n5_ := Aside0.mk ((by rw [hg]; exact Nat.ne_of_lt (blk_lt (g := gb561) (o := .cells #[.int .i64 a0_0, .int .i64 a0_1, .int .i64 a0_2, .int .i64 a0_3, .int .i64 a0_4, .int .i64 a0_5, .slice A0_6 l0_6.length c0_6, .slice A0_7 l0_7.length c0_7, .slice A0_8 l0_8.length c0_8] 205 (0, 0)) (by (with_reducible repeat (first | refine blk_drewN ?_ _ | refine blk_drew ?_ | refine blk_alloc ?_ _)); exact BK561.out)) : gb561 ≠ gb562)); have n6_ := Aside0.mk ((by rw [hg]; exact Nat.ne_of_gt (blk_lt (g := gb561) (o := .cells #[.int .i64 a0_0, .int .i64 a0_1, .int .i64 a0_2, .int .i64 a0_3, .int .i64 a0_4, .int .i64 a0_5, .slice A0_6 l0_6.length c0_6, .slice A0_7 l0_7.length c0_7, .slice A0_8 l0_8.length c0_8] 205 (0, 0)) (by (with_reducible repeat (first | refine blk_drewN ?_ _ | refine blk_drew ?_ | refine blk_alloc ?_ _)); exact BK561.out)) : gb562 ≠ gb561)); clear BK561; clear HB; have BK561 := n0_; have HB := n1_; have BK562 := n2_; have GW562 := n3_; have GE562 := n4_; have NB561_562 := n5_; have NB562_561 := n6_; clear n0_ n1_ n2_ n3_ n4_ n5_ n6_; clear hb hbox hg; have hnb72 := NB561_562.out; have hnc72 := NB562_561.out; have hcz73_0 : w71.cell? ⟨gb561, 0, none⟩ = some (.int .i64 a0_0) := (blk_cell BK561.out 0).trans rfl; have hcz73_1 : w71.cell? ⟨gb561, 1, none⟩ = some (.int .i64 a0_1) := (blk_cell BK561.out 1).trans rfl; have hcz73_2 : w71.cell? ⟨gb561, 2, none⟩ = some (.int .i64 a0_2) := (blk_cell BK561.out 2).trans rfl; have hcz73_3 : w71.cell? ⟨gb561, 3, none⟩ = some (.int .i64 a0_3) := (blk_cell BK561.out 3).trans rfl; have hcz73_4 : w71.cell? ⟨gb561, 4, none⟩ = some (.int .i64 a0_4) := (blk_cell BK561.out 4).trans rfl; have hcz73_5 : w71.cell? ⟨gb561, 5, none⟩ = some (.int .i64 a0_5) := (blk_cell BK561.out 5).trans rfl; have hcz73_6 : w71.cell? ⟨gb561, 6, none⟩ = some (.slice A0_6 l0_6.length c0_6) := (blk_cell BK561.out 6).trans rfl; have hcz73_7 : w71.cell? ⟨gb561, 7, none⟩ = some (.slice A0_7 l0_7.length c0_7) := (blk_cell BK561.out 7).trans rfl; have hcz73_8 : w71.cell? ⟨gb561, 8, none⟩ = some (.slice A0_8 l0_8.length c0_8) := (blk_cell BK561.out 8).trans rfl; have hfz73_0 := blk_frozen BK561.out 0; have hfz73_1 := blk_frozen BK561.out 1; have hfz73_2 := blk_frozen BK561.out 2; have hfz73_3 := blk_frozen BK561.out 3; have hfz73_4 := blk_frozen BK561.out 4; have hfz73_5 := blk_frozen BK561.out 5; have hfz73_6 := blk_frozen BK561.out 6; have hfz73_7 := blk_frozen BK561.out 7; have hfz73_8 := blk_frozen BK561.out 8; have hcz74_0 : w71.cell? ⟨gb562, 0, none⟩ = some (.int .i64 a1_0) := (blk_cell BK562.out 0).trans rfl; have hcz74_1 : w71.cell? ⟨gb562, 1, none⟩ = some (.int .i64 a1_1) := (blk_cell BK562.out 1).trans rfl; have hcz74_2 : w71.cell? ⟨gb562, 2, none⟩ = some (.int .i64 a1_2) := (blk_cell BK562.out 2).trans rfl; have hcz74_3 : w71.cell? ⟨gb562, 3, none⟩ = some (.int .i64 a1_3) := (blk_cell BK562.out 3).trans rfl; have hcz74_4 : w71.cell? ⟨gb562, 4, none⟩ = some (.int .i64 a1_4) := (blk_cell BK562.out 4).trans rfl; have hcz74_5 : w71.cell? ⟨gb562, 5, none⟩ = some (.int .i64 a1_5) := (blk_cell BK562.out 5).trans rfl; have hcz74_6 : w71.cell? ⟨gb562, 6, none⟩ = some (.slice A1_6 l1_6.length c1_6) := (blk_cell BK562.out 6).trans rfl; have hcz74_7 : w71.cell? ⟨gb562, 7, none⟩ = some (.slice A1_7 l1_7.length c1_7) := (blk_cell BK562.out 7).trans rfl; have hcz74_8 : w71.cell? ⟨gb562, 8, none⟩ = some (.slice A1_8 l1_8.length c1_8) := (blk_cell BK562.out 8).trans rfl; have hfz74_0 := blk_frozen BK562.out 0; have hfz74_1 := blk_frozen BK562.out 1; have hfz74_2 := blk_frozen BK562.out 2; have hfz74_3 := blk_frozen BK562.out 3; have hfz74_4 := blk_frozen BK562.out 4; have hfz74_5 := blk_frozen BK562.out 5; have hfz74_6 := blk_frozen BK562.out 6; have hfz74_7 := blk_frozen BK562.out 7; have hfz74_8 := blk_frozen BK562.out 8))
   go_ret
   exact ⟨by first | rfl | (simp [errW_none, errW_some] <;> rfl) | (simp [*, errW_none, errW_some] <;> rfl), by repeat (first | (with_reducible first | exact HB.out | apply below_alloc | apply pw_below_drewN | apply below_drew1 | refine below_set ?_ GE561.out | refine below_set ?_ GE562.out) | exact HB.out)⟩

end Go.Proofs.YtkohjiajbdkcbaaDoor.All


namespace Go.Proofs.YtkohjiajbdkcbaaDoor.All
open Go.RowKit Go.Proofs.YtkohjiajbdkcbaaDoorW.PrintWords Go.Proofs.YtkohjiajbdkcbaaDoorW.PrintLast Go.Proofs.YtkohjiajbdkcbaaDoorW.PrintMore
attribute [local go_sem] max2_int min2_int max_two min_two max_three min_three max_four min_four   -- for this text's walks alone
set_option linter.unusedVariables false
set_option linter.unusedSimpArgs false

/-! ### laws_eqInstrS: function 136 -/
def laws_eqInstrS.l0 : Nat → List (S205) → List (S205) → Int → Option (Bool)
 | 0, _, _, _ => none
 | k + 1, x0, x1, x5 => if x5 < (x0.length : Int) then (if 0 ≤ x5 then (if x5 < (x1.length : Int) then ((laws_eqInstr.f k ((rd_T205 x0 x5).f0) ((rd_T205 x0 x5).f1) ((rd_T205 x0 x5).f2) ((rd_T205 x0 x5).f3) ((rd_T205 x0 x5).f4) ((rd_T205 x0 x5).f5) ((rd_T205 x0 x5).f6) ((rd_T205 x0 x5).f7) ((rd_T205 x0 x5).f8) ((rd_T205 x1 x5).f0) ((rd_T205 x1 x5).f1) ((rd_T205 x1 x5).f2) ((rd_T205 x1 x5).f3) ((rd_T205 x1 x5).f4) ((rd_T205 x1 x5).f5) ((rd_T205 x1 x5).f6) ((rd_T205 x1 x5).f7) ((rd_T205 x1 x5).f8)).bind fun t568 => (if t568 = true then (laws_eqInstrS.l0 k x0 x1 (wrap64 (x5 + 1))) else (some false))) else (none)) else (none)) else (some true)
def laws_eqInstrS.f (k : Nat) (l0 : List (S205)) (l1 : List (S205)) : Option (Bool) := if (l0.length : Int) = (l1.length : Int) then (laws_eqInstrS.l0 k l0 l1 0) else (some false)
def laws_eqInstrS.T6 : Bool × List (List Nat × List Nat) := (true, [([], []), ([], []), ([0, 1], [0, 1]), ([2], [2]), ([], []), ([], []), ([4, 5], [4, 5]), ([6], [6]), ([3, 7], [3, 7]), ([8], [8])])
def laws_eqInstrS.B6 : List Nat := [0, 0, 3, 7, 0, 0, 48, 112, 255, 511]
theorem laws_eqInstrS.tab6 : rtab .any (opsOf Tryd.f136 6) = laws_eqInstrS.T6 := by kernel_rfl
theorem laws_eqInstrS.bits6 : waitsOk laws_eqInstrS.T6.2 laws_eqInstrS.B6 = true := by kernel_rfl
set_option maxHeartbeats 8000000 in
set_option maxRecDepth 100000 in
theorem laws_eqInstrS.calls (k : Nat) (A0 : Option Addr) (c0 : Nat) (l0 : List (S205)) (A1 : Option Addr) (c1 : Nat) (l1 : List (S205)) (r : Bool) (w : World) (hr0 : Kd.C k205 w A0 l0.length l0) (hc0 : l0.length ≤ c0) (hr1 : Kd.C k205 w A1 l1.length l1) (hc1 : l1.length ≤ c1) (h : laws_eqInstrS.f k l0 l1 = some r) :
 Calls Tryd.prog 136 #[.slice A0 l0.length c0, .slice A1 l1.length c1] w fun e w' => e = .returned (.bool r) ∧ Below w.heap.size w w' := by
 have hu205 := Tryd.underlying205
 have HR0 := Aside0.mk hr0
 have HC0 := Aside0.mk hc0
 clear hr0 hc0
 have HR1 := Aside0.mk hr1
 have HC1 := Aside0.mk hc1
 clear hr1 hc1
 have HB := Aside0.mk (Below.refl w.heap.size w)
 have H : (if (l0.length : Int) = (l1.length : Int) then (laws_eqInstrS.l0 k l0 l1 0) else (some false)) = some r := h
 clear h
 by_cases c3 : (l0.length : Int) = (l1.length : Int)
 · rw [if_pos c3] at H
   have c3b0 : ((l0.length : Int) == (l1.length : Int)) = true := beq_iff_eq.mpr c3
   have c3b1 : ((l0.length : Int) != (l1.length : Int)) = false := bne_eq_false_iff_eq.mpr c3
   have c3b2 : (l0.length == l1.length) = true := by first | simpa using c3 | (simp at c3 ⊢; omega)
   clear c3
   have H' := Aside0.mk H
   clear H
   go_enter Tryd.func136, Tryd.ntmps136
   go_wp2
   go_loopg [5] k (fun kq v5 w' => ∃ (x5_1 : Int), v5 = .int .i64 x5_1 ∧ Aside0 (laws_eqInstrS.l0 kq l0 l1 x5_1 = some r) ∧ Aside0 (kq ≤ k) ∧ Aside0 (Below w.heap.size w w'))
   case atStart => exact ⟨(0), (by first | rfl | (simp; done) | (simp [*]; done)), H', ⟨Nat.le_refl _⟩, ⟨by repeat (first | (with_reducible first | exact HB.out | apply below_alloc | apply pw_below_drewN | apply below_drew1) | exact HB.out)⟩⟩
   case round =>
    clear H'
    try clear c1
    try clear p2
    try clear c3
    try clear c3b0
    try clear c3b1
    try clear c3b2
    obtain ⟨x5_1, rfl, HA, HK1, HB⟩ := hrel
    cases gk with
    | zero => exact absurd HA.out (by simp [laws_eqInstrS.l0])
    | succ k1 =>
     have H := HA.out
     clear HA
     simp only [laws_eqInstrS.l0] at H
     by_cases c4 : x5_1 < (l0.length : Int)
     · rw [if_pos c4] at H
       have c4b0 : decide (x5_1 < (l0.length : Int)) = true := decide_eq_true c4
       clear c4
       by_cases c5 : 0 ≤ x5_1
       · rw [if_pos c5] at H
         have c5b0 : decide (0 ≤ x5_1) = true := decide_eq_true c5
         clear c5
         by_cases c6 : x5_1 < (l1.length : Int)
         · rw [if_pos c6] at H
           have c6b0 : decide (x5_1 < (l1.length : Int)) = true := decide_eq_true c6
           clear c6
           replace H := Option.bind_eq_some_iff.mp H
           obtain ⟨t568, A70, H⟩ := H
           replace H : (if t568 = true then (laws_eqInstrS.l0 k1 l0 l1 (wrap64 (x5_1 + 1))) else (some false)) = some r := H
           have A7 := Aside0.mk A70
           clear A70
           by_cases c8 : t568 = true
           · subst c8
             have H1 : (laws_eqInstrS.l0 k1 l0 l1 (wrap64 (x5_1 + 1))) = some r := by rw [if_pos rfl] at H; exact H
             clear H
             have H := H1
             clear H1
             have H' := Aside0.mk H
             clear H
             try go_wp2
             have n0_ := Aside0.mk (below_drew1 HB.out)
             clear HB
             have HB := n0_
             clear n0_
             have p566 : 0 ≤ (x5_1 : Int) := of_decide_eq_true (by first | (with_reducible assumption) | assumption)
             have q566 : x5_1 < (l0.length : Int) := of_decide_eq_true (by first | (with_reducible assumption) | assumption)
             obtain ⟨ad566, A566_6, c566_6, A566_7, c566_7, A566_8, c566_8, e566, hx566_0, hx566_1, hx566_2, hx566_3, hx566_4, hx566_5, hx566_6, hx566_7, hx566_8, hl566_6, hi566_6, hl566_7, hi566_7, hl566_8, hi566_8⟩ := at_T205 HR0.out x5_1 p566 q566
             have hw566_8 := hx566_8
             have hw566_7 := hx566_7
             have hw566_6 := hx566_6
             have hw566_5 := hx566_5
             have hw566_4 := hx566_4
             have hw566_3 := hx566_3
             have hw566_2 := hx566_2
             have hw566_1 := hx566_1
             have hw566_0 := hx566_0
             cases e566
             replace hx566_0 := (HB.out.cell (World.block_lt_of_cell? w _ hx566_0)).trans hx566_0
             replace hx566_1 := (HB.out.cell (World.block_lt_of_cell? w _ hx566_1)).trans hx566_1
             replace hx566_2 := (HB.out.cell (World.block_lt_of_cell? w _ hx566_2)).trans hx566_2
             replace hx566_3 := (HB.out.cell (World.block_lt_of_cell? w _ hx566_3)).trans hx566_3
             replace hx566_4 := (HB.out.cell (World.block_lt_of_cell? w _ hx566_4)).trans hx566_4
             replace hx566_5 := (HB.out.cell (World.block_lt_of_cell? w _ hx566_5)).trans hx566_5
             replace hx566_6 := (HB.out.cell (World.block_lt_of_cell? w _ hx566_6)).trans hx566_6
             replace hx566_7 := (HB.out.cell (World.block_lt_of_cell? w _ hx566_7)).trans hx566_7
             replace hx566_8 := (HB.out.cell (World.block_lt_of_cell? w _ hx566_8)).trans hx566_8
             have HR566_6 := Aside0.mk hi566_6
             have HC566_6 := Aside0.mk hl566_6
             clear hi566_6 hl566_6
             have HR566_7 := Aside0.mk hi566_7
             have HC566_7 := Aside0.mk hl566_7
             clear hi566_7 hl566_7
             have HR566_8 := Aside0.mk hi566_8
             have HC566_8 := Aside0.mk hl566_8
             clear hi566_8 hl566_8
             replace p566 := eq_true p566
             replace q566 := eq_true q566
             have p567 : 0 ≤ (x5_1 : Int) := of_decide_eq_true (by first | (with_reducible assumption) | assumption)
             have q567 : x5_1 < (l1.length : Int) := of_decide_eq_true (by first | (with_reducible assumption) | assumption)
             obtain ⟨ad567, A567_6, c567_6, A567_7, c567_7, A567_8, c567_8, e567, hx567_0, hx567_1, hx567_2, hx567_3, hx567_4, hx567_5, hx567_6, hx567_7, hx567_8, hl567_6, hi567_6, hl567_7, hi567_7, hl567_8, hi567_8⟩ := at_T205 HR1.out x5_1 p567 q567
             have hw567_8 := hx567_8
             have hw567_7 := hx567_7
             have hw567_6 := hx567_6
             have hw567_5 := hx567_5
             have hw567_4 := hx567_4
             have hw567_3 := hx567_3
             have hw567_2 := hx567_2
             have hw567_1 := hx567_1
             have hw567_0 := hx567_0
             cases e567
             replace hx567_0 := (HB.out.cell (World.block_lt_of_cell? w _ hx567_0)).trans hx567_0
             replace hx567_1 := (HB.out.cell (World.block_lt_of_cell? w _ hx567_1)).trans hx567_1
             replace hx567_2 := (HB.out.cell (World.block_lt_of_cell? w _ hx567_2)).trans hx567_2
             replace hx567_3 := (HB.out.cell (World.block_lt_of_cell? w _ hx567_3)).trans hx567_3
             replace hx567_4 := (HB.out.cell (World.block_lt_of_cell? w _ hx567_4)).trans hx567_4
             replace hx567_5 := (HB.out.cell (World.block_lt_of_cell? w _ hx567_5)).trans hx567_5
             replace hx567_6 := (HB.out.cell (World.block_lt_of_cell? w _ hx567_6)).trans hx567_6
             replace hx567_7 := (HB.out.cell (World.block_lt_of_cell? w _ hx567_7)).trans hx567_7
             replace hx567_8 := (HB.out.cell (World.block_lt_of_cell? w _ hx567_8)).trans hx567_8
             have HR567_6 := Aside0.mk hi567_6
             have HC567_6 := Aside0.mk hl567_6
             clear hi567_6 hl567_6
             have HR567_7 := Aside0.mk hi567_7
             have HC567_7 := Aside0.mk hl567_7
             clear hi567_7 hl567_7
             have HR567_8 := Aside0.mk hi567_8
             have HC567_8 := Aside0.mk hl567_8
             clear hi567_8 hl567_8
             replace p567 := eq_true p567
             replace q567 := eq_true q567
             refine start_ (n := 10) (S := fun w' => w'.cell? (ad566.add ((x5_1).toNat * 9)) = some (.int .i64 ((rd_T205 l0 x5_1).f0)) ∧ w'.cell? ⟨(ad566.add ((x5_1).toNat * 9)).block, (ad566.add ((x5_1).toNat * 9)).off + 1, none⟩ = some (.int .i64 ((rd_T205 l0 x5_1).f1)) ∧ w'.cell? ⟨(ad566.add ((x5_1).toNat * 9)).block, (ad566.add ((x5_1).toNat * 9)).off + 2, none⟩ = some (.int .i64 ((rd_T205 l0 x5_1).f2)) ∧ w'.cell? ⟨(ad566.add ((x5_1).toNat * 9)).block, (ad566.add ((x5_1).toNat * 9)).off + 3, none⟩ = some (.int .i64 ((rd_T205 l0 x5_1).f3)) ∧ w'.cell? ⟨(ad566.add ((x5_1).toNat * 9)).block, (ad566.add ((x5_1).toNat * 9)).off + 4, none⟩ = some (.int .i64 ((rd_T205 l0 x5_1).f4)) ∧ w'.cell? ⟨(ad566.add ((x5_1).toNat * 9)).block, (ad566.add ((x5_1).toNat * 9)).off + 5, none⟩ = some (.int .i64 ((rd_T205 l0 x5_1).f5)) ∧ w'.cell? ⟨(ad566.add ((x5_1).toNat * 9)).block, (ad566.add ((x5_1).toNat * 9)).off + 6, none⟩ = some (.slice A566_6 ((rd_T205 l0 x5_1).f6).length c566_6) ∧ w'.cell? ⟨(ad566.add ((x5_1).toNat * 9)).block, (ad566.add ((x5_1).toNat * 9)).off + 7, none⟩ = some (.slice A566_7 ((rd_T205 l0 x5_1).f7).length c566_7) ∧ w'.cell? ⟨(ad566.add ((x5_1).toNat * 9)).block, (ad566.add ((x5_1).toNat * 9)).off + 8, none⟩ = some (.slice A566_8 ((rd_T205 l0 x5_1).f8).length c566_8) ∧ w'.cell? (ad567.add ((x5_1).toNat * 9)) = some (.int .i64 ((rd_T205 l1 x5_1).f0)) ∧ w'.cell? ⟨(ad567.add ((x5_1).toNat * 9)).block, (ad567.add ((x5_1).toNat * 9)).off + 1, none⟩ = some (.int .i64 ((rd_T205 l1 x5_1).f1)) ∧ w'.cell? ⟨(ad567.add ((x5_1).toNat * 9)).block, (ad567.add ((x5_1).toNat * 9)).off + 2, none⟩ = some (.int .i64 ((rd_T205 l1 x5_1).f2)) ∧ w'.cell? ⟨(ad567.add ((x5_1).toNat * 9)).block, (ad567.add ((x5_1).toNat * 9)).off + 3, none⟩ = some (.int .i64 ((rd_T205 l1 x5_1).f3)) ∧ w'.cell? ⟨(ad567.add ((x5_1).toNat * 9)).block, (ad567.add ((x5_1).toNat * 9)).off + 4, none⟩ = some (.int .i64 ((rd_T205 l1 x5_1).f4)) ∧ w'.cell? ⟨(ad567.add ((x5_1).toNat * 9)).block, (ad567.add ((x5_1).toNat * 9)).off + 5, none⟩ = some (.int .i64 ((rd_T205 l1 x5_1).f5)) ∧ w'.cell? ⟨(ad567.add ((x5_1).toNat * 9)).block, (ad567.add ((x5_1).toNat * 9)).off + 6, none⟩ = some (.slice A567_6 ((rd_T205 l1 x5_1).f6).length c567_6) ∧ w'.cell? ⟨(ad567.add ((x5_1).toNat * 9)).block, (ad567.add ((x5_1).toNat * 9)).off + 7, none⟩ = some (.slice A567_7 ((rd_T205 l1 x5_1).f7).length c567_7) ∧ w'.cell? ⟨(ad567.add ((x5_1).toNat * 9)).block, (ad567.add ((x5_1).toNat * 9)).off + 8, none⟩ = some (.slice A567_8 ((rd_T205 l1 x5_1).f8).length c567_8)) (ds := []) #[false, false, false, false, false, false, false, false, false, false] (by kernel_rfl) rfl rfl ⟨((HB.out.cell (World.block_lt_of_cell? w _ hw566_0)).trans hw566_0), ((HB.out.cell (World.block_lt_of_cell? w _ hw566_1)).trans hw566_1), ((HB.out.cell (World.block_lt_of_cell? w _ hw566_2)).trans hw566_2), ((HB.out.cell (World.block_lt_of_cell? w _ hw566_3)).trans hw566_3), ((HB.out.cell (World.block_lt_of_cell? w _ hw566_4)).trans hw566_4), ((HB.out.cell (World.block_lt_of_cell? w _ hw566_5)).trans hw566_5), ((HB.out.cell (World.block_lt_of_cell? w _ hw566_6)).trans hw566_6), ((HB.out.cell (World.block_lt_of_cell? w _ hw566_7)).trans hw566_7), ((HB.out.cell (World.block_lt_of_cell? w _ hw566_8)).trans hw566_8), ((HB.out.cell (World.block_lt_of_cell? w _ hw567_0)).trans hw567_0), ((HB.out.cell (World.block_lt_of_cell? w _ hw567_1)).trans hw567_1), ((HB.out.cell (World.block_lt_of_cell? w _ hw567_2)).trans hw567_2), ((HB.out.cell (World.block_lt_of_cell? w _ hw567_3)).trans hw567_3), ((HB.out.cell (World.block_lt_of_cell? w _ hw567_4)).trans hw567_4), ((HB.out.cell (World.block_lt_of_cell? w _ hw567_5)).trans hw567_5), ((HB.out.cell (World.block_lt_of_cell? w _ hw567_6)).trans hw567_6), ((HB.out.cell (World.block_lt_of_cell? w _ hw567_7)).trans hw567_7), ((HB.out.cell (World.block_lt_of_cell? w _ hw567_8)).trans hw567_8)⟩ (fun hHeld => ?_); refine with_tabW laws_eqInstrS.tab6 laws_eqInstrS.bits6 (fun HT_ HW_ => ?_)
             generalize wr.drew = w9 at HB HR566_6 HR566_7 HR566_8 HR567_6 HR567_7 HR567_8 hx566_0 hx566_1 hx566_2 hx566_3 hx566_4 hx566_5 hx566_6 hx566_7 hx566_8 hx567_0 hx567_1 hx567_2 hx567_3 hx567_4 hx567_5 hx567_6 hx567_7 hx567_8 hHeld ⊢
             refine pure_ (i := 0) (N := some 17) (v := ?_) (a' := ?_) #[true, false, false, false, false, false, false, false, false, false] rfl rfl (any_of HT_.out (by kernel_rfl)) (fun _ _ _ h => h) (Or.inl ⟨by rfl, ?_⟩) ?_ ?_
             rotate_left
             · intro w'
               go_simp
               with_reducible rfl
             rotate_left
             · simp only [Act.put, List.setIfInBounds_toArray, List.set_cons_zero, List.set_cons_succ, i64_w, i32_w]
               rfl
             refine pure_ (i := 1) (N := some 18) (v := ?_) (a' := ?_) #[true, true, false, false, false, false, false, false, false, false] rfl rfl (any_of HT_.out (by kernel_rfl)) (fun _ _ _ h => h) (Or.inl ⟨by rfl, ?_⟩) ?_ ?_
             rotate_left
             · intro w'
               go_simp
               with_reducible rfl
             rotate_left
             · simp only [Act.put, List.setIfInBounds_toArray, List.set_cons_zero, List.set_cons_succ, i64_w, i32_w]
               rfl
             refine pure_ (i := 2) (N := some 19) (v := ?_) (a' := ?_) #[true, true, true, false, false, false, false, false, false, false] rfl rfl (any_of HT_.out (by kernel_rfl)) (fun _ _ _ h => h) (Or.inl ⟨by rfl, ?_⟩) ?_ ?_
             rotate_left
             · intro w'
               go_simp
               with_reducible rfl
             rotate_left
             · simp only [Act.put, List.setIfInBounds_toArray, List.set_cons_zero, List.set_cons_succ, i64_w, i32_w]
               rfl
             refine pure_ (i := 4) (N := some 21) (v := ?_) (a' := ?_) #[true, true, true, false, true, false, false, false, false, false] rfl rfl (any_of HT_.out (by kernel_rfl)) (fun _ _ _ h => h) (Or.inl ⟨by rfl, ?_⟩) ?_ ?_
             rotate_left
             · intro w'
               go_simp
               with_reducible rfl
             rotate_left
             · simp only [Act.put, List.setIfInBounds_toArray, List.set_cons_zero, List.set_cons_succ, i64_w, i32_w]
               rfl
             refine pure_ (i := 5) (N := some 22) (v := ?_) (a' := ?_) #[true, true, true, false, true, true, false, false, false, false] rfl rfl (any_of HT_.out (by kernel_rfl)) (fun _ _ _ h => h) (Or.inl ⟨by rfl, ?_⟩) ?_ ?_
             rotate_left
             · intro w'
               go_simp
               with_reducible rfl
             rotate_left
             · simp only [Act.put, List.setIfInBounds_toArray, List.set_cons_zero, List.set_cons_succ, i64_w, i32_w]
               rfl
             refine pure_ (i := 6) (N := some 23) (v := ?_) (a' := ?_) #[true, true, true, false, true, true, true, false, false, false] rfl rfl (any_of HT_.out (by kernel_rfl)) (fun _ _ _ h => h) (Or.inl ⟨by rfl, ?_⟩) ?_ ?_
             rotate_left
             · intro w'
               go_simp
               with_reducible rfl
             rotate_left
             · simp only [Act.put, List.setIfInBounds_toArray, List.set_cons_zero, List.set_cons_succ, i64_w, i32_w]
               rfl
             refine take_ (i := 3) (N := some 20) (v := ?_) (a' := ?_) #[true, true, true, true, true, true, true, false, false, false] rfl rfl (take_ofW HT_.out HW_.out (by kernel_rfl)) (fun _ _ _ h => h) (Or.inl ⟨by rfl, ?_⟩) hHeld ?_ ?_
             rotate_left
             · rintro w' ⟨s0, s1, s2, s3, s4, s5, s6, s7, s8, s9, s10, s11, s12, s13, s14, s15, s16, s17⟩
               go_simp
               with_reducible rfl
             rotate_left
             · simp only [Act.put, List.setIfInBounds_toArray, List.set_cons_zero, List.set_cons_succ, i64_w, i32_w]
               rfl
             refine take_ (i := 7) (N := some 24) (v := ?_) (a' := ?_) #[true, true, true, true, true, true, true, true, false, false] rfl rfl (take_ofW HT_.out HW_.out (by kernel_rfl)) (fun _ _ _ h => h) (Or.inl ⟨by rfl, ?_⟩) hHeld ?_ ?_
             rotate_left
             · rintro w' ⟨s0, s1, s2, s3, s4, s5, s6, s7, s8, s9, s10, s11, s12, s13, s14, s15, s16, s17⟩
               go_simp
               with_reducible rfl
             rotate_left
             · simp only [Act.put, List.setIfInBounds_toArray, List.set_cons_zero, List.set_cons_succ, i64_w, i32_w]
               rfl
             refine one_ (i := 8) (N := some 25) #[true, true, true, true, true, true, true, true, true, false] rfl rfl (one_of HT_.out (by kernel_rfl)) (by decide) (fun K hK => ?_)
             refine goes_ Tryd.func139 (by kernel_rfl) rfl #[.agg #[.int .i64 ((rd_T205 l0 x5_1).f0), .int .i64 ((rd_T205 l0 x5_1).f1), .int .i64 ((rd_T205 l0 x5_1).f2), .int .i64 ((rd_T205 l0 x5_1).f3), .int .i64 ((rd_T205 l0 x5_1).f4), .int .i64 ((rd_T205 l0 x5_1).f5), .slice A566_6 ((rd_T205 l0 x5_1).f6).length c566_6, .slice A566_7 ((rd_T205 l0 x5_1).f7).length c566_7, .slice A566_8 ((rd_T205 l0 x5_1).f8).length c566_8], .agg #[.int .i64 ((rd_T205 l1 x5_1).f0), .int .i64 ((rd_T205 l1 x5_1).f1), .int .i64 ((rd_T205 l1 x5_1).f2), .int .i64 ((rd_T205 l1 x5_1).f3), .int .i64 ((rd_T205 l1 x5_1).f4), .int .i64 ((rd_T205 l1 x5_1).f5), .slice A567_6 ((rd_T205 l1 x5_1).f6).length c567_6, .slice A567_7 ((rd_T205 l1 x5_1).f7).length c567_7, .slice A567_8 ((rd_T205 l1 x5_1).f8).length c567_8]] (by rfl) rfl rfl (by (try simp only [List.map_toArray, List.map_cons, List.map_nil]); first | done | rfl | (simp only [List.length_drop, List.length_take]; rfl)) ?_
             with_reducible refine (laws_eqInstr.calls k1 ((rd_T205 l0 x5_1).f0) ((rd_T205 l0 x5_1).f1) ((rd_T205 l0 x5_1).f2) ((rd_T205 l0 x5_1).f3) ((rd_T205 l0 x5_1).f4) ((rd_T205 l0 x5_1).f5) _ _ ((rd_T205 l0 x5_1).f6) _ _ ((rd_T205 l0 x5_1).f7) _ _ ((rd_T205 l0 x5_1).f8) ((rd_T205 l1 x5_1).f0) ((rd_T205 l1 x5_1).f1) ((rd_T205 l1 x5_1).f2) ((rd_T205 l1 x5_1).f3) ((rd_T205 l1 x5_1).f4) ((rd_T205 l1 x5_1).f5) _ _ ((rd_T205 l1 x5_1).f6) _ _ ((rd_T205 l1 x5_1).f7) _ _ ((rd_T205 l1 x5_1).f8) true _ ?side1 ?side2 ?side3 ?side4 ?side5 ?side6 ?side7 ?side8 ?side9 ?side10 ?side11 ?side12 A7.out).mono ?_
             (case side1 => repeat (first | exact (Kd.C_below HR566_6.out HB.out) | (with_reducible refine Kd.C_alloc ?_ _) | (with_reducible refine Kd.C_drewN ?_ _) | (with_reducible refine Kd.C_drew ?_)))
             (case side2 => exact HC566_6.out)
             (case side3 => repeat (first | exact (Kd.C_below HR566_7.out HB.out) | (with_reducible refine Kd.C_alloc ?_ _) | (with_reducible refine Kd.C_drewN ?_ _) | (with_reducible refine Kd.C_drew ?_)))
             (case side4 => exact HC566_7.out)
             (case side5 => repeat (first | exact (Kd.C_below HR566_8.out HB.out) | (with_reducible refine Kd.C_alloc ?_ _) | (with_reducible refine Kd.C_drewN ?_ _) | (with_reducible refine Kd.C_drew ?_)))
             (case side6 => exact HC566_8.out)
             (case side7 => repeat (first | exact (Kd.C_below HR567_6.out HB.out) | (with_reducible refine Kd.C_alloc ?_ _) | (with_reducible refine Kd.C_drewN ?_ _) | (with_reducible refine Kd.C_drew ?_)))
             (case side8 => exact HC567_6.out)
             (case side9 => repeat (first | exact (Kd.C_below HR567_7.out HB.out) | (with_reducible refine Kd.C_alloc ?_ _) | (with_reducible refine Kd.C_drewN ?_ _) | (with_reducible refine Kd.C_drew ?_)))
             (case side10 => exact HC567_7.out)
             (case side11 => repeat (first | exact (Kd.C_below HR567_8.out HB.out) | (with_reducible refine Kd.C_alloc ?_ _) | (with_reducible refine Kd.C_drewN ?_ _) | (with_reducible refine Kd.C_drew ?_)))
             (case side12 => exact HC567_8.out)
             rintro e w10 ⟨rfl, hb⟩
             refine ⟨_, rfl, ?_⟩
             have n0_ := Aside0.mk (below_step (by repeat (first | (with_reducible first | exact HB.out | apply below_alloc | apply pw_below_drewN | apply below_drew1) | exact HB.out)) hb)
             clear HB
             have HB := n0_
             clear n0_
             (try clear hb)
             (try clear hb2)
             (try clear hk)
             (try clear hi)
             refine hK.out _ _ ⟨((HB.out.cell (World.block_lt_of_cell? w _ hw566_0)).trans hw566_0), ((HB.out.cell (World.block_lt_of_cell? w _ hw566_1)).trans hw566_1), ((HB.out.cell (World.block_lt_of_cell? w _ hw566_2)).trans hw566_2), ((HB.out.cell (World.block_lt_of_cell? w _ hw566_3)).trans hw566_3), ((HB.out.cell (World.block_lt_of_cell? w _ hw566_4)).trans hw566_4), ((HB.out.cell (World.block_lt_of_cell? w _ hw566_5)).trans hw566_5), ((HB.out.cell (World.block_lt_of_cell? w _ hw566_6)).trans hw566_6), ((HB.out.cell (World.block_lt_of_cell? w _ hw566_7)).trans hw566_7), ((HB.out.cell (World.block_lt_of_cell? w _ hw566_8)).trans hw566_8), ((HB.out.cell (World.block_lt_of_cell? w _ hw567_0)).trans hw567_0), ((HB.out.cell (World.block_lt_of_cell? w _ hw567_1)).trans hw567_1), ((HB.out.cell (World.block_lt_of_cell? w _ hw567_2)).trans hw567_2), ((HB.out.cell (World.block_lt_of_cell? w _ hw567_3)).trans hw567_3), ((HB.out.cell (World.block_lt_of_cell? w _ hw567_4)).trans hw567_4), ((HB.out.cell (World.block_lt_of_cell? w _ hw567_5)).trans hw567_5), ((HB.out.cell (World.block_lt_of_cell? w _ hw567_6)).trans hw567_6), ((HB.out.cell (World.block_lt_of_cell? w _ hw567_7)).trans hw567_7), ((HB.out.cell (World.block_lt_of_cell? w _ hw567_8)).trans hw567_8)⟩ (fun hHeld => ?_)
             clear hK K
             refine norm_ (a' := ?_) ?_ ?_
             rotate_left
             · show Act.put _ (some 25) _ = _
               simp only [Act.put, List.setIfInBounds_toArray, List.set_cons_zero, List.set_cons_succ, i64_w, i32_w]
               rfl
             refine pure_ (i := 9) (N := some 26) (v := ?_) (a' := ?_) #[true, true, true, true, true, true, true, true, true, true] rfl rfl (any_of HT_.out (by kernel_rfl)) (fun _ _ _ h => h) (Or.inl ⟨by rfl, ?_⟩) ?_ ?_
             rotate_left
             · intro w'
               go_simp
               with_reducible rfl
             rotate_left
             · simp only [Act.put, List.setIfInBounds_toArray, List.set_cons_zero, List.set_cons_succ, i64_w, i32_w]
               rfl
             refine done_ (done_of HT_.out (by kernel_rfl)) ?_
             try go_wp2
             go_roundg k1
             case measure => have := HK1.out; omega
             case rel => exact ⟨(wrap64 (x5_1 + 1)), (by first | rfl | (simp; done) | (simp [*]; done)), H', ⟨by have := HK1.out; omega⟩, ⟨by repeat (first | (with_reducible first | exact HB.out | apply below_alloc | apply pw_below_drewN | apply below_drew1) | exact HB.out)⟩⟩
           · replace c8 := Bool.eq_false_iff.mpr c8
             subst c8
             have H1 : (some false) = some r := by rw [if_neg (show ¬ (false = true) by decide)] at H; exact H
             clear H
             have H := H1
             clear H1
             obtain rfl := Option.some.inj H
             try go_wp2
             have n0_ := Aside0.mk (below_drew1 HB.out)
             clear HB
             have HB := n0_
             clear n0_
             have p566 : 0 ≤ (x5_1 : Int) := of_decide_eq_true (by first | (with_reducible assumption) | assumption)
             have q566 : x5_1 < (l0.length : Int) := of_decide_eq_true (by first | (with_reducible assumption) | assumption)
             obtain ⟨ad566, A566_6, c566_6, A566_7, c566_7, A566_8, c566_8, e566, hx566_0, hx566_1, hx566_2, hx566_3, hx566_4, hx566_5, hx566_6, hx566_7, hx566_8, hl566_6, hi566_6, hl566_7, hi566_7, hl566_8, hi566_8⟩ := at_T205 HR0.out x5_1 p566 q566
             have hw566_8 := hx566_8
             have hw566_7 := hx566_7
             have hw566_6 := hx566_6
             have hw566_5 := hx566_5
             have hw566_4 := hx566_4
             have hw566_3 := hx566_3
             have hw566_2 := hx566_2
             have hw566_1 := hx566_1
             have hw566_0 := hx566_0
             cases e566
             replace hx566_0 := (HB.out.cell (World.block_lt_of_cell? w _ hx566_0)).trans hx566_0
             replace hx566_1 := (HB.out.cell (World.block_lt_of_cell? w _ hx566_1)).trans hx566_1
             replace hx566_2 := (HB.out.cell (World.block_lt_of_cell? w _ hx566_2)).trans hx566_2
             replace hx566_3 := (HB.out.cell (World.block_lt_of_cell? w _ hx566_3)).trans hx566_3
             replace hx566_4 := (HB.out.cell (World.block_lt_of_cell? w _ hx566_4)).trans hx566_4
             replace hx566_5 := (HB.out.cell (World.block_lt_of_cell? w _ hx566_5)).trans hx566_5
             replace hx566_6 := (HB.out.cell (World.block_lt_of_cell? w _ hx566_6)).trans hx566_6
             replace hx566_7 := (HB.out.cell (World.block_lt_of_cell? w _ hx566_7)).trans hx566_7
             replace hx566_8 := (HB.out.cell (World.block_lt_of_cell? w _ hx566_8)).trans hx566_8
             have HR566_6 := Aside0.mk hi566_6
             have HC566_6 := Aside0.mk hl566_6
             clear hi566_6 hl566_6
             have HR566_7 := Aside0.mk hi566_7
             have HC566_7 := Aside0.mk hl566_7
             clear hi566_7 hl566_7
             have HR566_8 := Aside0.mk hi566_8
             have HC566_8 := Aside0.mk hl566_8
             clear hi566_8 hl566_8
             replace p566 := eq_true p566
             replace q566 := eq_true q566
             have p567 : 0 ≤ (x5_1 : Int) := of_decide_eq_true (by first | (with_reducible assumption) | assumption)
             have q567 : x5_1 < (l1.length : Int) := of_decide_eq_true (by first | (with_reducible assumption) | assumption)
             obtain ⟨ad567, A567_6, c567_6, A567_7, c567_7, A567_8, c567_8, e567, hx567_0, hx567_1, hx567_2, hx567_3, hx567_4, hx567_5, hx567_6, hx567_7, hx567_8, hl567_6, hi567_6, hl567_7, hi567_7, hl567_8, hi567_8⟩ := at_T205 HR1.out x5_1 p567 q567
             have hw567_8 := hx567_8
             have hw567_7 := hx567_7
             have hw567_6 := hx567_6
             have hw567_5 := hx567_5
             have hw567_4 := hx567_4
             have hw567_3 := hx567_3
             have hw567_2 := hx567_2
             have hw567_1 := hx567_1
             have hw567_0 := hx567_0
             cases e567
             replace hx567_0 := (HB.out.cell (World.block_lt_of_cell? w _ hx567_0)).trans hx567_0
             replace hx567_1 := (HB.out.cell (World.block_lt_of_cell? w _ hx567_1)).trans hx567_1
             replace hx567_2 := (HB.out.cell (World.block_lt_of_cell? w _ hx567_2)).trans hx567_2
             replace hx567_3 := (HB.out.cell (World.block_lt_of_cell? w _ hx567_3)).trans hx567_3
             replace hx567_4 := (HB.out.cell (World.block_lt_of_cell? w _ hx567_4)).trans hx567_4
             replace hx567_5 := (HB.out.cell (World.block_lt_of_cell? w _ hx567_5)).trans hx567_5
             replace hx567_6 := (HB.out.cell (World.block_lt_of_cell? w _ hx567_6)).trans hx567_6
             replace hx567_7 := (HB.out.cell (World.block_lt_of_cell? w _ hx567_7)).trans hx567_7
             replace hx567_8 := (HB.out.cell (World.block_lt_of_cell? w _ hx567_8)).trans hx567_8
             have HR567_6 := Aside0.mk hi567_6
             have HC567_6 := Aside0.mk hl567_6
             clear hi567_6 hl567_6
             have HR567_7 := Aside0.mk hi567_7
             have HC567_7 := Aside0.mk hl567_7
             clear hi567_7 hl567_7
             have HR567_8 := Aside0.mk hi567_8
             have HC567_8 := Aside0.mk hl567_8
             clear hi567_8 hl567_8
             replace p567 := eq_true p567
             replace q567 := eq_true q567
             refine start_ (n := 10) (S := fun w' => w'.cell? (ad566.add ((x5_1).toNat * 9)) = some (.int .i64 ((rd_T205 l0 x5_1).f0)) ∧ w'.cell? ⟨(ad566.add ((x5_1).toNat * 9)).block, (ad566.add ((x5_1).toNat * 9)).off + 1, none⟩ = some (.int .i64 ((rd_T205 l0 x5_1).f1)) ∧ w'.cell? ⟨(ad566.add ((x5_1).toNat * 9)).block, (ad566.add ((x5_1).toNat * 9)).off + 2, none⟩ = some (.int .i64 ((rd_T205 l0 x5_1).f2)) ∧ w'.cell? ⟨(ad566.add ((x5_1).toNat * 9)).block, (ad566.add ((x5_1).toNat * 9)).off + 3, none⟩ = some (.int .i64 ((rd_T205 l0 x5_1).f3)) ∧ w'.cell? ⟨(ad566.add ((x5_1).toNat * 9)).block, (ad566.add ((x5_1).toNat * 9)).off + 4, none⟩ = some (.int .i64 ((rd_T205 l0 x5_1).f4)) ∧ w'.cell? ⟨(ad566.add ((x5_1).toNat * 9)).block, (ad566.add ((x5_1).toNat * 9)).off + 5, none⟩ = some (.int .i64 ((rd_T205 l0 x5_1).f5)) ∧ w'.cell? ⟨(ad566.add ((x5_1).toNat * 9)).block, (ad566.add ((x5_1).toNat * 9)).off + 6, none⟩ = some (.slice A566_6 ((rd_T205 l0 x5_1).f6).length c566_6) ∧ w'.cell? ⟨(ad566.add ((x5_1).toNat * 9)).block, (ad566.add ((x5_1).toNat * 9)).off + 7, none⟩ = some (.slice A566_7 ((rd_T205 l0 x5_1).f7).length c566_7) ∧ w'.cell? ⟨(ad566.add ((x5_1).toNat * 9)).block, (ad566.add ((x5_1).toNat * 9)).off + 8, none⟩ = some (.slice A566_8 ((rd_T205 l0 x5_1).f8).length c566_8) ∧ w'.cell? (ad567.add ((x5_1).toNat * 9)) = some (.int .i64 ((rd_T205 l1 x5_1).f0)) ∧ w'.cell? ⟨(ad567.add ((x5_1).toNat * 9)).block, (ad567.add ((x5_1).toNat * 9)).off + 1, none⟩ = some (.int .i64 ((rd_T205 l1 x5_1).f1)) ∧ w'.cell? ⟨(ad567.add ((x5_1).toNat * 9)).block, (ad567.add ((x5_1).toNat * 9)).off + 2, none⟩ = some (.int .i64 ((rd_T205 l1 x5_1).f2)) ∧ w'.cell? ⟨(ad567.add ((x5_1).toNat * 9)).block, (ad567.add ((x5_1).toNat * 9)).off + 3, none⟩ = some (.int .i64 ((rd_T205 l1 x5_1).f3)) ∧ w'.cell? ⟨(ad567.add ((x5_1).toNat * 9)).block, (ad567.add ((x5_1).toNat * 9)).off + 4, none⟩ = some (.int .i64 ((rd_T205 l1 x5_1).f4)) ∧ w'.cell? ⟨(ad567.add ((x5_1).toNat * 9)).block, (ad567.add ((x5_1).toNat * 9)).off + 5, none⟩ = some (.int .i64 ((rd_T205 l1 x5_1).f5)) ∧ w'.cell? ⟨(ad567.add ((x5_1).toNat * 9)).block, (ad567.add ((x5_1).toNat * 9)).off + 6, none⟩ = some (.slice A567_6 ((rd_T205 l1 x5_1).f6).length c567_6) ∧ w'.cell? ⟨(ad567.add ((x5_1).toNat * 9)).block, (ad567.add ((x5_1).toNat * 9)).off + 7, none⟩ = some (.slice A567_7 ((rd_T205 l1 x5_1).f7).length c567_7) ∧ w'.cell? ⟨(ad567.add ((x5_1).toNat * 9)).block, (ad567.add ((x5_1).toNat * 9)).off + 8, none⟩ = some (.slice A567_8 ((rd_T205 l1 x5_1).f8).length c567_8)) (ds := []) #[false, false, false, false, false, false, false, false, false, false] (by kernel_rfl) rfl rfl ⟨((HB.out.cell (World.block_lt_of_cell? w _ hw566_0)).trans hw566_0), ((HB.out.cell (World.block_lt_of_cell? w _ hw566_1)).trans hw566_1), ((HB.out.cell (World.block_lt_of_cell? w _ hw566_2)).trans hw566_2), ((HB.out.cell (World.block_lt_of_cell? w _ hw566_3)).trans hw566_3), ((HB.out.cell (World.block_lt_of_cell? w _ hw566_4)).trans hw566_4), ((HB.out.cell (World.block_lt_of_cell? w _ hw566_5)).trans hw566_5), ((HB.out.cell (World.block_lt_of_cell? w _ hw566_6)).trans hw566_6), ((HB.out.cell (World.block_lt_of_cell? w _ hw566_7)).trans hw566_7), ((HB.out.cell (World.block_lt_of_cell? w _ hw566_8)).trans hw566_8), ((HB.out.cell (World.block_lt_of_cell? w _ hw567_0)).trans hw567_0), ((HB.out.cell (World.block_lt_of_cell? w _ hw567_1)).trans hw567_1), ((HB.out.cell (World.block_lt_of_cell? w _ hw567_2)).trans hw567_2), ((HB.out.cell (World.block_lt_of_cell? w _ hw567_3)).trans hw567_3), ((HB.out.cell (World.block_lt_of_cell? w _ hw567_4)).trans hw567_4), ((HB.out.cell (World.block_lt_of_cell? w _ hw567_5)).trans hw567_5), ((HB.out.cell (World.block_lt_of_cell? w _ hw567_6)).trans hw567_6), ((HB.out.cell (World.block_lt_of_cell? w _ hw567_7)).trans hw567_7), ((HB.out.cell (World.block_lt_of_cell? w _ hw567_8)).trans hw567_8)⟩ (fun hHeld => ?_); refine with_tabW laws_eqInstrS.tab6 laws_eqInstrS.bits6 (fun HT_ HW_ => ?_)
             generalize wr.drew = w11 at HB HR566_6 HR566_7 HR566_8 HR567_6 HR567_7 HR567_8 hx566_0 hx566_1 hx566_2 hx566_3 hx566_4 hx566_5 hx566_6 hx566_7 hx566_8 hx567_0 hx567_1 hx567_2 hx567_3 hx567_4 hx567_5 hx567_6 hx567_7 hx567_8 hHeld ⊢
             refine pure_ (i := 0) (N := some 17) (v := ?_) (a' := ?_) #[true, false, false, false, false, false, false, false, false, false] rfl rfl (any_of HT_.out (by kernel_rfl)) (fun _ _ _ h => h) (Or.inl ⟨by rfl, ?_⟩) ?_ ?_
             rotate_left
             · intro w'
               go_simp
               with_reducible rfl
             rotate_left
             · simp only [Act.put, List.setIfInBounds_toArray, List.set_cons_zero, List.set_cons_succ, i64_w, i32_w]
               rfl
             refine pure_ (i := 1) (N := some 18) (v := ?_) (a' := ?_) #[true, true, false, false, false, false, false, false, false, false] rfl rfl (any_of HT_.out (by kernel_rfl)) (fun _ _ _ h => h) (Or.inl ⟨by rfl, ?_⟩) ?_ ?_
             rotate_left
             · intro w'
               go_simp
               with_reducible rfl
             rotate_left
             · simp only [Act.put, List.setIfInBounds_toArray, List.set_cons_zero, List.set_cons_succ, i64_w, i32_w]
               rfl
             refine pure_ (i := 2) (N := some 19) (v := ?_) (a' := ?_) #[true, true, true, false, false, false, false, false, false, false] rfl rfl (any_of HT_.out (by kernel_rfl)) (fun _ _ _ h => h) (Or.inl ⟨by rfl, ?_⟩) ?_ ?_
             rotate_left
             · intro w'
               go_simp
               with_reducible rfl
             rotate_left
             · simp only [Act.put, List.setIfInBounds_toArray, List.set_cons_zero, List.set_cons_succ, i64_w, i32_w]
               rfl
             refine pure_ (i := 4) (N := some 21) (v := ?_) (a' := ?_) #[true, true, true, false, true, false, false, false, false, false] rfl rfl (any_of HT_.out (by kernel_rfl)) (fun _ _ _ h => h) (Or.inl ⟨by rfl, ?_⟩) ?_ ?_
             rotate_left
             · intro w'
               go_simp
               with_reducible rfl
             rotate_left
             · simp only [Act.put, List.setIfInBounds_toArray, List.set_cons_zero, List.set_cons_succ, i64_w, i32_w]
               rfl
             refine pure_ (i := 5) (N := some 22) (v := ?_) (a' := ?_) #[true, true, true, false, true, true, false, false, false, false] rfl rfl (any_of HT_.out (by kernel_rfl)) (fun _ _ _ h => h) (Or.inl ⟨by rfl, ?_⟩) ?_ ?_
             rotate_left
             · intro w'
               go_simp
               with_reducible rfl
             rotate_left
             · simp only [Act.put, List.setIfInBounds_toArray, List.set_cons_zero, List.set_cons_succ, i64_w, i32_w]
               rfl
             refine pure_ (i := 6) (N := some 23) (v := ?_) (a' := ?_) #[true, true, true, false, true, true, true, false, false, false] rfl rfl (any_of HT_.out (by kernel_rfl)) (fun _ _ _ h => h) (Or.inl ⟨by rfl, ?_⟩) ?_ ?_
             rotate_left
             · intro w'
               go_simp
               with_reducible rfl
             rotate_left
             · simp only [Act.put, List.setIfInBounds_toArray, List.set_cons_zero, List.set_cons_succ, i64_w, i32_w]
               rfl
             refine take_ (i := 3) (N := some 20) (v := ?_) (a' := ?_) #[true, true, true, true, true, true, true, false, false, false] rfl rfl (take_ofW HT_.out HW_.out (by kernel_rfl)) (fun _ _ _ h => h) (Or.inl ⟨by rfl, ?_⟩) hHeld ?_ ?_
             rotate_left
             · rintro w' ⟨s0, s1, s2, s3, s4, s5, s6, s7, s8, s9, s10, s11, s12, s13, s14, s15, s16, s17⟩
               go_simp
               with_reducible rfl
             rotate_left
             · simp only [Act.put, List.setIfInBounds_toArray, List.set_cons_zero, List.set_cons_succ, i64_w, i32_w]
               rfl
             refine take_ (i := 7) (N := some 24) (v := ?_) (a' := ?_) #[true, true, true, true, true, true, true, true, false, false] rfl rfl (take_ofW HT_.out HW_.out (by kernel_rfl)) (fun _ _ _ h => h) (Or.inl ⟨by rfl, ?_⟩) hHeld ?_ ?_
             rotate_left
             · rintro w' ⟨s0, s1, s2, s3, s4, s5, s6, s7, s8, s9, s10, s11, s12, s13, s14, s15, s16, s17⟩
               go_simp
               with_reducible rfl
             rotate_left
             · simp only [Act.put, List.setIfInBounds_toArray, List.set_cons_zero, List.set_cons_succ, i64_w, i32_w]
               rfl
             refine one_ (i := 8) (N := some 25) #[true, true, true, true, true, true, true, true, true, false] rfl rfl (one_of HT_.out (by kernel_rfl)) (by decide) (fun K hK => ?_)
             refine goes_ Tryd.func139 (by kernel_rfl) rfl #[.agg #[.int .i64 ((rd_T205 l0 x5_1).f0), .int .i64 ((rd_T205 l0 x5_1).f1), .int .i64 ((rd_T205 l0 x5_1).f2), .int .i64 ((rd_T205 l0 x5_1).f3), .int .i64 ((rd_T205 l0 x5_1).f4), .int .i64 ((rd_T205 l0 x5_1).f5), .slice A566_6 ((rd_T205 l0 x5_1).f6).length c566_6, .slice A566_7 ((rd_T205 l0 x5_1).f7).length c566_7, .slice A566_8 ((rd_T205 l0 x5_1).f8).length c566_8], .agg #[.int .i64 ((rd_T205 l1 x5_1).f0), .int .i64 ((rd_T205 l1 x5_1).f1), .int .i64 ((rd_T205 l1 x5_1).f2), .int .i64 ((rd_T205 l1 x5_1).f3), .int .i64 ((rd_T205 l1 x5_1).f4), .int .i64 ((rd_T205 l1 x5_1).f5), .slice A567_6 ((rd_T205 l1 x5_1).f6).length c567_6, .slice A567_7 ((rd_T205 l1 x5_1).f7).length c567_7, .slice A567_8 ((rd_T205 l1 x5_1).f8).length c567_8]] (by rfl) rfl rfl (by (try simp only [List.map_toArray, List.map_cons, List.map_nil]); first | done | rfl | (simp only [List.length_drop, List.length_take]; rfl)) ?_
             with_reducible refine (laws_eqInstr.calls k1 ((rd_T205 l0 x5_1).f0) ((rd_T205 l0 x5_1).f1) ((rd_T205 l0 x5_1).f2) ((rd_T205 l0 x5_1).f3) ((rd_T205 l0 x5_1).f4) ((rd_T205 l0 x5_1).f5) _ _ ((rd_T205 l0 x5_1).f6) _ _ ((rd_T205 l0 x5_1).f7) _ _ ((rd_T205 l0 x5_1).f8) ((rd_T205 l1 x5_1).f0) ((rd_T205 l1 x5_1).f1) ((rd_T205 l1 x5_1).f2) ((rd_T205 l1 x5_1).f3) ((rd_T205 l1 x5_1).f4) ((rd_T205 l1 x5_1).f5) _ _ ((rd_T205 l1 x5_1).f6) _ _ ((rd_T205 l1 x5_1).f7) _ _ ((rd_T205 l1 x5_1).f8) false _ ?side1 ?side2 ?side3 ?side4 ?side5 ?side6 ?side7 ?side8 ?side9 ?side10 ?side11 ?side12 A7.out).mono ?_
             (case side1 => repeat (first | exact (Kd.C_below HR566_6.out HB.out) | (with_reducible refine Kd.C_alloc ?_ _) | (with_reducible refine Kd.C_drewN ?_ _) | (with_reducible refine Kd.C_drew ?_)))
             (case side2 => exact HC566_6.out)
             (case side3 => repeat (first | exact (Kd.C_below HR566_7.out HB.out) | (with_reducible refine Kd.C_alloc ?_ _) | (with_reducible refine Kd.C_drewN ?_ _) | (with_reducible refine Kd.C_drew ?_)))
             (case side4 => exact HC566_7.out)
             (case side5 => repeat (first | exact (Kd.C_below HR566_8.out HB.out) | (with_reducible refine Kd.C_alloc ?_ _) | (with_reducible refine Kd.C_drewN ?_ _) | (with_reducible refine Kd.C_drew ?_)))
             (case side6 => exact HC566_8.out)
             (case side7 => repeat (first | exact (Kd.C_below HR567_6.out HB.out) | (with_reducible refine Kd.C_alloc ?_ _) | (with_reducible refine Kd.C_drewN ?_ _) | (with_reducible refine Kd.C_drew ?_)))
             (case side8 => exact HC567_6.out)
             (case side9 => repeat (first | exact (Kd.C_below HR567_7.out HB.out) | (with_reducible refine Kd.C_alloc ?_ _) | (with_reducible refine Kd.C_drewN ?_ _) | (with_reducible refine Kd.C_drew ?_)))
             (case side10 => exact HC567_7.out)
             (case side11 => repeat (first | exact (Kd.C_below HR567_8.out HB.out) | (with_reducible refine Kd.C_alloc ?_ _) | (with_reducible refine Kd.C_drewN ?_ _) | (with_reducible refine Kd.C_drew ?_)))
             (case side12 => exact HC567_8.out)
             rintro e w12 ⟨rfl, hb⟩
             refine ⟨_, rfl, ?_⟩
             have n0_ := Aside0.mk (below_step (by repeat (first | (with_reducible first | exact HB.out | apply below_alloc | apply pw_below_drewN | apply below_drew1) | exact HB.out)) hb)
             clear HB
             have HB := n0_
             clear n0_
             (try clear hb)
             (try clear hb2)
             (try clear hk)
             (try clear hi)
             refine hK.out _ _ ⟨((HB.out.cell (World.block_lt_of_cell? w _ hw566_0)).trans hw566_0), ((HB.out.cell (World.block_lt_of_cell? w _ hw566_1)).trans hw566_1), ((HB.out.cell (World.block_lt_of_cell? w _ hw566_2)).trans hw566_2), ((HB.out.cell (World.block_lt_of_cell? w _ hw566_3)).trans hw566_3), ((HB.out.cell (World.block_lt_of_cell? w _ hw566_4)).trans hw566_4), ((HB.out.cell (World.block_lt_of_cell? w _ hw566_5)).trans hw566_5), ((HB.out.cell (World.block_lt_of_cell? w _ hw566_6)).trans hw566_6), ((HB.out.cell (World.block_lt_of_cell? w _ hw566_7)).trans hw566_7), ((HB.out.cell (World.block_lt_of_cell? w _ hw566_8)).trans hw566_8), ((HB.out.cell (World.block_lt_of_cell? w _ hw567_0)).trans hw567_0), ((HB.out.cell (World.block_lt_of_cell? w _ hw567_1)).trans hw567_1), ((HB.out.cell (World.block_lt_of_cell? w _ hw567_2)).trans hw567_2), ((HB.out.cell (World.block_lt_of_cell? w _ hw567_3)).trans hw567_3), ((HB.out.cell (World.block_lt_of_cell? w _ hw567_4)).trans hw567_4), ((HB.out.cell (World.block_lt_of_cell? w _ hw567_5)).trans hw567_5), ((HB.out.cell (World.block_lt_of_cell? w _ hw567_6)).trans hw567_6), ((HB.out.cell (World.block_lt_of_cell? w _ hw567_7)).trans hw567_7), ((HB.out.cell (World.block_lt_of_cell? w _ hw567_8)).trans hw567_8)⟩ (fun hHeld => ?_)
             clear hK K
             refine norm_ (a' := ?_) ?_ ?_
             rotate_left
             · show Act.put _ (some 25) _ = _
               simp only [Act.put, List.setIfInBounds_toArray, List.set_cons_zero, List.set_cons_succ, i64_w, i32_w]
               rfl
             refine pure_ (i := 9) (N := some 26) (v := ?_) (a' := ?_) #[true, true, true, true, true, true, true, true, true, true] rfl rfl (any_of HT_.out (by kernel_rfl)) (fun _ _ _ h => h) (Or.inl ⟨by rfl, ?_⟩) ?_ ?_
             rotate_left
             · intro w'
               go_simp
               with_reducible rfl
             rotate_left
             · simp only [Act.put, List.setIfInBounds_toArray, List.set_cons_zero, List.set_cons_succ, i64_w, i32_w]
               rfl
             refine done_ (done_of HT_.out (by kernel_rfl)) ?_
             try go_wp2
             go_ret
             exact ⟨by first | rfl | (simp [errW_none, errW_some] <;> rfl) | (simp [*, errW_none, errW_some] <;> rfl), by repeat (first | (with_reducible first | exact HB.out | apply below_alloc | apply pw_below_drewN | apply below_drew1) | exact HB.out)⟩
         · rw [if_neg c6] at H
           exact absurd H (by simp)
       · rw [if_neg c5] at H
         exact absurd H (by simp)
     · rw [if_neg c4] at H
       have c4b0 : decide (x5_1 < (l0.length : Int)) = false := decide_eq_false c4
       clear c4
       obtain rfl := Option.some.inj H
       go_wp2
       go_ret
       exact ⟨by first | rfl | (simp [errW_none, errW_some] <;> rfl) | (simp [*, errW_none, errW_some] <;> rfl), by repeat (first | (with_reducible first | exact HB.out | apply below_alloc | apply pw_below_drewN | apply below_drew1) | exact HB.out)⟩
 · rw [if_neg c3] at H
   have c3b0 : ((l0.length : Int) == (l1.length : Int)) = false := beq_eq_false_iff_ne.mpr c3
   have c3b1 : ((l0.length : Int) != (l1.length : Int)) = true := bne_iff_ne.mpr c3
   have c3b2 : (l0.length == l1.length) = false := by first | simpa using c3 | (simp at c3 ⊢; omega)
   obtain rfl := Option.some.inj H
   go_enter Tryd.func136, Tryd.ntmps136
   go_wp2
   go_ret
   exact ⟨by first | rfl | (simp [errW_none, errW_some] <;> rfl) | (simp [*, errW_none, errW_some] <;> rfl), by repeat (first | (with_reducible first | exact HB.out | apply below_alloc | apply pw_below_drewN | apply below_drew1) | exact HB.out)⟩

end Go.Proofs.YtkohjiajbdkcbaaDoor.All


namespace Go.Proofs.YtkohjiajbdkcbaaDoor.All
open Go.RowKit Go.Proofs.YtkohjiajbdkcbaaDoorW.PrintWords Go.Proofs.YtkohjiajbdkcbaaDoorW.PrintLast Go.Proofs.YtkohjiajbdkcbaaDoorW.PrintMore
attribute [local go_sem] max2_int min2_int max_two min_two max_three min_three max_four min_four   -- for this text's walks alone
set_option linter.unusedVariables false
set_option linter.unusedSimpArgs false

/-! ### laws_eqBlock: function 131 -/
def laws_eqBlock.f (k : Nat) (l0_0 : List (S205)) (l1_0 : List (S205)) : Option (Bool) := (laws_eqInstrS.f k l0_0 l1_0).bind fun t571 => (if t571 = true then (some true) else (some false))
set_option maxHeartbeats 8000000 in
set_option maxRecDepth 100000 in
theorem laws_eqBlock.calls (k : Nat) (A0_0 : Option Addr) (c0_0 : Nat) (l0_0 : List (S205)) (A1_0 : Option Addr) (c1_0 : Nat) (l1_0 : List (S205)) (r : Bool) (w : World) (hr0_0 : Kd.C k205 w A0_0 l0_0.length l0_0) (hc0_0 : l0_0.length ≤ c0_0) (hr1_0 : Kd.C k205 w A1_0 l1_0.length l1_0) (hc1_0 : l1_0.length ≤ c1_0) (h : laws_eqBlock.f k l0_0 l1_0 = some r) :
 Calls Tryd.prog 131 #[.agg #[.slice A0_0 l0_0.length c0_0], .agg #[.slice A1_0 l1_0.length c1_0]] w fun e w' => e = .returned (.bool r) ∧ Below w.heap.size w w' := by
 have hu187 := Tryd.underlying187
 have HR0_0 := Aside0.mk hr0_0
 have HC0_0 := Aside0.mk hc0_0
 clear hr0_0 hc0_0
 have HR1_0 := Aside0.mk hr1_0
 have HC1_0 := Aside0.mk hc1_0
 clear hr1_0 hc1_0
 have HB := Aside0.mk (Below.refl w.heap.size w)
 have H : ((laws_eqInstrS.f k l0_0 l1_0).bind fun t571 => (if t571 = true then (some true) else (some false))) = some r := h
 clear h
 replace H := Option.bind_eq_some_iff.mp H
 obtain ⟨t571, A30, H⟩ := H
 replace H : (if t571 = true then (some true) else (some false)) = some r := H
 have A3 := Aside0.mk A30
 clear A30
 by_cases c4 : t571 = true
 · subst c4
   have H1 : (some true) = some r := by rw [if_pos rfl] at H; exact H
   clear H
   have H := H1
   clear H1
   obtain rfl := Option.some.inj H
   go_enter Tryd.func131, Tryd.ntmps131
   go_wp2_with (first | ((with_reducible refine gate_dst (N := 2) rfl ?_); refine box_event ?hg (N := 2) ?hd (cs := #[.slice A0_0 l0_0.length c0_0]) (t := 187) ?hr ?_; (case hd => rfl); (case hg => rfl); (case hr => first | (go_simp; done) | (go_simp; rfl)); intro gb569 hg w5 hbox hb; have n0_ := Aside0.mk (below_step (by repeat (first | (with_reducible first | exact HB.out | apply below_alloc | apply pw_below_drewN | apply below_drew1) | exact HB.out)) hb); have n1_ := Aside0.mk (hbox); have n2_ := Aside0.mk ((by rw [hg]; exact (below_size (by repeat (first | (with_reducible first | exact HB.out | apply below_alloc | apply pw_below_drewN | apply below_drew1) | exact HB.out))) : w.heap.size ≤ gb569)); have n3_ := Aside0.mk ((by rw [hg]; exact (below_size (by repeat (first | (with_reducible first | exact HB.out | apply below_alloc | apply pw_below_drewN | apply below_drew1) | exact HB.out))) : w.heap.size ≤ gb569)); clear HB; have HB := n0_; have BK569 := n1_; have GW569 := n2_; have GE569 := n3_; clear n0_ n1_ n2_ n3_; clear hb hbox hg) | ((with_reducible refine gate_dst (N := 3) rfl ?_); refine box_event ?hg (N := 3) ?hd (cs := #[.slice A1_0 l1_0.length c1_0]) (t := 187) ?hr ?_; (case hd => rfl); (case hg => rfl); (case hr => first | (go_simp; done) | (go_simp; rfl)); intro gb570 hg w6 hbox hb; have n0_ := Aside0.mk (blk_below (g := gb569) (o := .cells #[.slice A0_0 l0_0.length c0_0] 187 (0, 0)) (by (with_reducible repeat (first | refine blk_drewN ?_ _ | refine blk_drew ?_ | refine blk_alloc ?_ _)); exact BK569.out) hb); have n1_ := Aside0.mk (below_step (by repeat (first | (with_reducible first | exact HB.out | apply below_alloc | apply pw_below_drewN | apply below_drew1 | refine below_set ?_ GE569.out) | exact HB.out)) hb); have n2_ := Aside0.mk (hbox); have n3_ := Aside0.mk ((by rw [hg]; exact (below_size (by repeat (first | (with_reducible first | exact HB.out | apply below_alloc | apply pw_below_drewN | apply below_drew1 | refine below_set ?_ GE569.out) | exact HB.out))) : w.heap.size ≤ gb570)); have n4_ := Aside0.mk ((by rw [hg]; exact (below_size (by repeat (first | (with_reducible first | exact HB.out | apply below_alloc | apply pw_below_drewN | apply below_drew1 | refine below_set ?_ GE569.out) | exact HB.out))) : w.heap.size ≤ gb570)); have n5_ := Aside0.mk ((by rw [hg]; exact Nat.ne_of_lt (blk_lt (g := gb569) (o := .cells #[.slice A0_0 l0_0.length c0_0] 187 (0, 0)) (by (with_reducible repeat (first | refine blk_drewN ?_ _ | refine blk_drew ?_ | refine blk_alloc ?_ _)); exact BK569.out)) : gb569 ≠ gb570)); have n6_ := Aside0.mk ((by rw [hg]; exact Nat.ne_of_gt (blk_lt (g := gb569) (o := .cells #[.slice A0_0 l0_0.length c0_0] 187 (0, 0)) (by (with_reducible repeat (first | refine blk_drewN ?_ _ | refine blk_drew ?_ | refine blk_alloc ?_ _)); exact BK569.out)) : gb570 ≠ gb569)); clear BK569; clear HB; have BK569 := n0_; have HB := n1_; have BK570 := n2_; have GW570 := n3_; have GE570 := n4_; have NB569_570 := n5_; have NB570_569 := n6_; clear n0_ n1_ n2_ n3_ n4_ n5_ n6_; clear hb hbox hg; have hnb7 := NB569_570.out; have hnc7 := NB570_569.out; have hcz8_0 : w6.cell? ⟨gb569, 0, none⟩ = some (.slice A0_0 l0_0.length c0_0) := (blk_cell BK569.out 0).trans rfl; have hfz8_0 := blk_frozen BK569.out 0; have hcz9_0 : w6.cell? ⟨gb570, 0, none⟩ = some (.slice A1_0 l1_0.length c1_0) := (blk_cell BK570.out 0).trans rfl; have hfz9_0 := blk_frozen BK570.out 0) | ((with_reducible refine gate_callee (f := 136) rfl ?_); refine goesL_ (some 9) rfl rfl Tryd.func136 (by kernel_rfl) rfl #[.slice A0_0 l0_0.length c0_0, .slice A1_0 l1_0.length c1_0] rfl (by (try simp only [List.map_toArray, List.map_cons, List.map_nil]); first | done | rfl | (simp only [List.length_drop, List.length_take]; rfl)) ?_; (with_reducible refine (laws_eqInstrS.calls k _ _ l0_0 _ _ l1_0 true _ ?side1 ?side2 ?side3 ?side4 A3.out).mono ?_); (case side1 => repeat (first | exact (Kd.C_below HR0_0.out HB.out) | (with_reducible refine Kd.C_alloc ?_ _) | (with_reducible refine Kd.C_drewN ?_ _) | (with_reducible refine Kd.C_drew ?_))); (case side2 => exact HC0_0.out); (case side3 => repeat (first | exact (Kd.C_below HR1_0.out HB.out) | (with_reducible refine Kd.C_alloc ?_ _) | (with_reducible refine Kd.C_drewN ?_ _) | (with_reducible refine Kd.C_drew ?_))); (case side4 => exact HC1_0.out); rintro e w10 ⟨rfl, hb⟩; refine ⟨_, rfl, ?_⟩; have n0_ := Aside0.mk (blk_below (g := gb569) (o := .cells #[.slice A0_0 l0_0.length c0_0] 187 (0, 0)) (by (with_reducible repeat (first | refine blk_drewN ?_ _ | refine blk_drew ?_ | refine blk_alloc ?_ _)); exact BK569.out) hb); have n1_ := Aside0.mk (blk_below (g := gb570) (o := .cells #[.slice A1_0 l1_0.length c1_0] 187 (0, 0)) (by (with_reducible repeat (first | refine blk_drewN ?_ _ | refine blk_drew ?_ | refine blk_alloc ?_ _)); exact BK570.out) hb); have n2_ := Aside0.mk (below_step (by repeat (first | (with_reducible first | exact HB.out | apply below_alloc | apply pw_below_drewN | apply below_drew1 | refine below_set ?_ GE569.out | refine below_set ?_ GE570.out) | exact HB.out)) hb); clear BK569; clear BK570; clear HB; have BK569 := n0_; have BK570 := n1_; have HB := n2_; clear n0_ n1_ n2_; (try clear hb); (try clear hb2); (try clear hk); (try clear hi)))
   go_ret
   exact ⟨by first | rfl | (simp [errW_none, errW_some] <;> rfl) | (simp [*, errW_none, errW_some] <;> rfl), by repeat (first | (with_reducible first | exact HB.out | apply below_alloc | apply pw_below_drewN | apply below_drew1 | refine below_set ?_ GE569.out | refine below_set ?_ GE570.out) | exact HB.out)⟩
 · replace c4 := Bool.eq_false_iff.mpr c4
   subst c4
   have H1 : (some false) = some r := by rw [if_neg (show ¬ (false = true) by decide)] at H; exact H
   clear H
   have H := H1
   clear H1
   obtain rfl := Option.some.inj H
   go_enter Tryd.func131, Tryd.ntmps131
   go_wp2_with (first | ((with_reducible refine gate_dst (N := 2) rfl ?_); refine box_event ?hg (N := 2) ?hd (cs := #[.slice A0_0 l0_0.length c0_0]) (t := 187) ?hr ?_; (case hd => rfl); (case hg => rfl); (case hr => first | (go_simp; done) | (go_simp; rfl)); intro gb569 hg w11 hbox hb; have n0_ := Aside0.mk (below_step (by repeat (first | (with_reducible first | exact HB.out | apply below_alloc | apply pw_below_drewN | apply below_drew1) | exact HB.out)) hb); have n1_ := Aside0.mk (hbox); have n2_ := Aside0.mk ((by rw [hg]; exact (below_size (by repeat (first | (with_reducible first | exact HB.out | apply below_alloc | apply pw_below_drewN | apply below_drew1) | exact HB.out))) : w.heap.size ≤ gb569)); have n3_ := Aside0.mk ((by rw [hg]; exact (below_size (by repeat (first | (with_reducible first | exact HB.out | apply below_alloc | apply pw_below_drewN | apply below_drew1) | exact HB.out))) : w.heap.size ≤ gb569)); clear HB; have HB := n0_; have BK569 := n1_; have GW569 := n2_; have GE569 := n3_; clear n0_ n1_ n2_ n3_; clear hb hbox hg) | ((with_reducible refine gate_dst (N := 3) rfl ?_); refine box_event ?hg (N := 3) ?hd (cs := #[.slice A1_0 l1_0.length c1_0]) (t := 187) ?hr ?_; (case hd => rfl); (case hg => rfl); (case hr => first | (go_simp; done) | (go_simp; rfl)); intro gb570 hg w12 hbox hb; have n0_ := Aside0.mk (blk_below (g := gb569) (o := .cells #[.slice A0_0 l0_0.length c0_0] 187 (0, 0)) (by (with_reducible repeat (first | refine blk_drewN ?_ _ | refine blk_drew ?_ | refine blk_alloc ?_ _)); exact BK569.out) hb); have n1_ := Aside0.mk (below_step (by repeat (first | (with_reducible first | exact HB.out | apply below_alloc | apply pw_below_drewN | apply below_drew1 | refine below_set ?_ GE569.out) | exact HB.out)) hb); have n2_ := Aside0.mk (hbox); have n3_ := Aside0.mk ((by rw [hg]; exact (below_size (by repeat (first | (with_reducible first | exact HB.out | apply below_alloc | apply pw_below_drewN | apply below_drew1 | refine below_set ?_ GE569.out) | exact HB.out))) : w.heap.size ≤ gb570)); have n4_ := Aside0.mk ((by rw [hg]; exact (below_size (by repeat (first | (with_reducible first | exact HB.out | apply below_alloc | apply pw_below_drewN | apply below_drew1 | refine below_set ?_ GE569.out) | exact HB.out))) : w.heap.size ≤ gb570)); have n5_ := Aside0.mk ((by rw [hg]; exact Nat.ne_of_lt (blk_lt (g := gb569) (o := .cells #[.slice A0_0 l0_0.length c0_0] 187 (0, 0)) (by (with_reducible repeat (first | refine blk_drewN ?_ _ | refine blk_drew ?_ | refine blk_alloc ?_ _)); exact BK569.out)) : gb569 ≠ gb570)); have n6_ := Aside0.mk ((by rw [hg]; exact Nat.ne_of_gt (blk_lt (g := gb569) (o := .cells #[.slice A0_0 l0_0.length c0_0] 187 (0, 0)) (by (with_reducible repeat (first | refine blk_drewN ?_ _ | refine blk_drew ?_ | refine blk_alloc ?_ _)); exact BK569.out)) : gb570 ≠ gb569)); clear BK569; clear HB; have BK569 := n0_; have HB := n1_; have BK570 := n2_; have GW570 := n3_; have GE570 := n4_; have NB569_570 := n5_; have NB570_569 := n6_; clear n0_ n1_ n2_ n3_ n4_ n5_ n6_; clear hb hbox hg; have hnb13 := NB569_570.out; have hnc13 := NB570_569.out; have hcz14_0 : w12.cell? ⟨gb569, 0, none⟩ = some (.slice A0_0 l0_0.length c0_0) := (blk_cell BK569.out 0).trans rfl; have hfz14_0 := blk_frozen BK569.out 0; have hcz15_0 : w12.cell? ⟨gb570, 0, none⟩ = some (.slice A1_0 l1_0.length c1_0) := (blk_cell BK570.out 0).trans rfl; have hfz15_0 := blk_frozen BK570.out 0) | ((with_reducible refine gate_callee (f := 136) rfl ?_); refine goesL_ (some 9) rfl rfl Tryd.func136 (by kernel_rfl) rfl #[.slice A0_0 l0_0.length c0_0, .slice A1_0 l1_0.length c1_0] rfl (by (try simp only [List.map_toArray, List.map_cons, List.map_nil]); first | done | rfl | (simp only [List.length_drop, List.length_take]; rfl)) ?_; (with_reducible refine (laws_eqInstrS.calls k _ _ l0_0 _ _ l1_0 false _ ?side1 ?side2 ?side3 ?side4 A3.out).mono ?_); (case side1 => repeat (first | exact (Kd.C_below HR0_0.out HB.out) | (with_reducible refine Kd.C_alloc ?_ _) | (with_reducible refine Kd.C_drewN ?_ _) | (with_reducible refine Kd.C_drew ?_))); (case side2 => exact HC0_0.out); (case side3 => repeat (first | exact (Kd.C_below HR1_0.out HB.out) | (with_reducible refine Kd.C_alloc ?_ _) | (with_reducible refine Kd.C_drewN ?_ _) | (with_reducible refine Kd.C_drew ?_))); (case side4 => exact HC1_0.out); rintro e w16 ⟨rfl, hb⟩; refine ⟨_, rfl, ?_⟩; have n0_ := Aside0.mk (blk_below (g := gb569) (o := .cells #[.slice A0_0 l0_0.length c0_0] 187 (0, 0)) (by (with_reducible repeat (first | refine blk_drewN ?_ _ | refine blk_drew ?_ | refine blk_alloc ?_ _)); exact BK569.out) hb); have n1_ := Aside0.mk (blk_below (g := gb570) (o := .cells #[.slice A1_0 l1_0.length c1_0] 187 (0, 0)) (by (with_reducible repeat (first | refine blk_drewN ?_ _ | refine blk_drew ?_ | refine blk_alloc ?_ _)); exact BK570.out) hb); have n2_ := Aside0.mk (below_step (by repeat (first | (with_reducible first | exact HB.out | apply below_alloc | apply pw_below_drewN | apply below_drew1 | refine below_set ?_ GE569.out | refine below_set ?_ GE570.out) | exact HB.out)) hb); clear BK569; clear BK570; clear HB; have BK569 := n0_; have BK570 := n1_; have HB := n2_; clear n0_ n1_ n2_; (try clear hb); (try clear hb2); (try clear hk); (try clear hi)))
   go_ret
   exact ⟨by first | rfl | (simp [errW_none, errW_some] <;> rfl) | (simp [*, errW_none, errW_some] <;> rfl), by repeat (first | (with_reducible first | exact HB.out | apply below_alloc | apply pw_below_drewN | apply below_drew1 | refine below_set ?_ GE569.out | refine below_set ?_ GE570.out) | exact HB.out)⟩

end Go.Proofs.YtkohjiajbdkcbaaDoor.All


namespace Go.Proofs.YtkohjiajbdkcbaaDoor.All
open Go.RowKit Go.Proofs.YtkohjiajbdkcbaaDoorW.PrintWords Go.Proofs.YtkohjiajbdkcbaaDoorW.PrintLast Go.Proofs.YtkohjiajbdkcbaaDoorW.PrintMore
attribute [local go_sem] max2_int min2_int max_two min_two max_three min_three max_four min_four   -- for this text's walks alone
set_option linter.unusedVariables false
set_option linter.unusedSimpArgs false

/-! ### laws_eqBlockS: function 119 -/
def laws_eqBlockS.l0 : Nat → List (S187) → List (S187) → Int → Option (Bool)
 | 0, _, _, _ => none
 | k + 1, x0, x1, x5 => if x5 < (x0.length : Int) then (if 0 ≤ x5 then (if x5 < (x1.length : Int) then ((laws_eqBlock.f k ((rd_T187 x0 x5).f0) ((rd_T187 x1 x5).f0)).bind fun t574 => (if t574 = true then (laws_eqBlockS.l0 k x0 x1 (wrap64 (x5 + 1))) else (some false))) else (none)) else (none)) else (some true)
def laws_eqBlockS.f (k : Nat) (l0 : List (S187)) (l1 : List (S187)) : Option (Bool) := if (l0.length : Int) = (l1.length : Int) then (laws_eqBlockS.l0 k l0 l1 0) else (some false)
def laws_eqBlockS.T6 : Bool × List (List Nat × List Nat) := (true, [([], []), ([], []), ([0, 1], [0, 1]), ([2], [2]), ([], []), ([], []), ([4, 5], [4, 5]), ([6], [6]), ([3, 7], [3, 7]), ([8], [8])])
def laws_eqBlockS.B6 : List Nat := [0, 0, 3, 7, 0, 0, 48, 112, 255, 511]
theorem laws_eqBlockS.tab6 : rtab .any (opsOf Tryd.f119 6) = laws_eqBlockS.T6 := by kernel_rfl
theorem laws_eqBlockS.bits6 : waitsOk laws_eqBlockS.T6.2 laws_eqBlockS.B6 = true := by kernel_rfl
set_option maxHeartbeats 8000000 in
set_option maxRecDepth 100000 in
theorem laws_eqBlockS.calls (k : Nat) (A0 : Option Addr) (c0 : Nat) (l0 : List (S187)) (A1 : Option Addr) (c1 : Nat) (l1 : List (S187)) (r : Bool) (w : World) (hr0 : Kd.C k187 w A0 l0.length l0) (hc0 : l0.length ≤ c0) (hr1 : Kd.C k187 w A1 l1.length l1) (hc1 : l1.length ≤ c1) (h : laws_eqBlockS.f k l0 l1 = some r) :
 Calls Tryd.prog 119 #[.slice A0 l0.length c0, .slice A1 l1.length c1] w fun e w' => e = .returned (.bool r) ∧ Below w.heap.size w w' := by
 have hu187 := Tryd.underlying187
 have HR0 := Aside0.mk hr0
 have HC0 := Aside0.mk hc0
 clear hr0 hc0
 have HR1 := Aside0.mk hr1
 have HC1 := Aside0.mk hc1
 clear hr1 hc1
 have HB := Aside0.mk (Below.refl w.heap.size w)
 have H : (if (l0.length : Int) = (l1.length : Int) then (laws_eqBlockS.l0 k l0 l1 0) else (some false)) = some r := h
 clear h
 by_cases c3 : (l0.length : Int) = (l1.length : Int)
 · rw [if_pos c3] at H
   have c3b0 : ((l0.length : Int) == (l1.length : Int)) = true := beq_iff_eq.mpr c3
   have c3b1 : ((l0.length : Int) != (l1.length : Int)) = false := bne_eq_false_iff_eq.mpr c3
   have c3b2 : (l0.length == l1.length) = true := by first | simpa using c3 | (simp at c3 ⊢; omega)
   clear c3
   have H' := Aside0.mk H
   clear H
   go_enter Tryd.func119, Tryd.ntmps119
   go_wp2
   go_loopg [5] k (fun kq v5 w' => ∃ (x5_1 : Int), v5 = .int .i64 x5_1 ∧ Aside0 (laws_eqBlockS.l0 kq l0 l1 x5_1 = some r) ∧ Aside0 (kq ≤ k) ∧ Aside0 (Below w.heap.size w w'))
   case atStart => exact ⟨(0), (by first | rfl | (simp; done) | (simp [*]; done)), H', ⟨Nat.le_refl _⟩, ⟨by repeat (first | (with_reducible first | exact HB.out | apply below_alloc | apply pw_below_drewN | apply below_drew1) | exact HB.out)⟩⟩
   case round =>
    clear H'
    try clear c1
    try clear p2
    try clear c3
    try clear c3b0
    try clear c3b1
    try clear c3b2
    obtain ⟨x5_1, rfl, HA, HK1, HB⟩ := hrel
    cases gk with
    | zero => exact absurd HA.out (by simp [laws_eqBlockS.l0])
    | succ k1 =>
     have H := HA.out
     clear HA
     simp only [laws_eqBlockS.l0] at H
     by_cases c4 : x5_1 < (l0.length : Int)
     · rw [if_pos c4] at H
       have c4b0 : decide (x5_1 < (l0.length : Int)) = true := decide_eq_true c4
       clear c4
       by_cases c5 : 0 ≤ x5_1
       · rw [if_pos c5] at H
         have c5b0 : decide (0 ≤ x5_1) = true := decide_eq_true c5
         clear c5
         by_cases c6 : x5_1 < (l1.length : Int)
         · rw [if_pos c6] at H
           have c6b0 : decide (x5_1 < (l1.length : Int)) = true := decide_eq_true c6
           clear c6
           replace H := Option.bind_eq_some_iff.mp H
           obtain ⟨t574, A70, H⟩ := H
           replace H : (if t574 = true then (laws_eqBlockS.l0 k1 l0 l1 (wrap64 (x5_1 + 1))) else (some false)) = some r := H
           have A7 := Aside0.mk A70
           clear A70
           by_cases c8 : t574 = true
           · subst c8
             have H1 : (laws_eqBlockS.l0 k1 l0 l1 (wrap64 (x5_1 + 1))) = some r := by rw [if_pos rfl] at H; exact H
             clear H
             have H := H1
             clear H1
             have H' := Aside0.mk H
             clear H
             try go_wp2
             have n0_ := Aside0.mk (below_drew1 HB.out)
             clear HB
             have HB := n0_
             clear n0_
             have p572 : 0 ≤ (x5_1 : Int) := of_decide_eq_true (by first | (with_reducible assumption) | assumption)
             have q572 : x5_1 < (l0.length : Int) := of_decide_eq_true (by first | (with_reducible assumption) | assumption)
             obtain ⟨ad572, A572_0, c572_0, e572, hx572_0, hl572_0, hi572_0⟩ := at_T187 HR0.out x5_1 p572 q572
             have hw572_0 := hx572_0
             cases e572
             replace hx572_0 := (HB.out.cell (World.block_lt_of_cell? w _ hx572_0)).trans hx572_0
             have HR572_0 := Aside0.mk hi572_0
             have HC572_0 := Aside0.mk hl572_0
             clear hi572_0 hl572_0
             replace p572 := eq_true p572
             replace q572 := eq_true q572
             have p573 : 0 ≤ (x5_1 : Int) := of_decide_eq_true (by first | (with_reducible assumption) | assumption)
             have q573 : x5_1 < (l1.length : Int) := of_decide_eq_true (by first | (with_reducible assumption) | assumption)
             obtain ⟨ad573, A573_0, c573_0, e573, hx573_0, hl573_0, hi573_0⟩ := at_T187 HR1.out x5_1 p573 q573
             have hw573_0 := hx573_0
             cases e573
             replace hx573_0 := (HB.out.cell (World.block_lt_of_cell? w _ hx573_0)).trans hx573_0
             have HR573_0 := Aside0.mk hi573_0
             have HC573_0 := Aside0.mk hl573_0
             clear hi573_0 hl573_0
             replace p573 := eq_true p573
             replace q573 := eq_true q573
             refine start_ (n := 10) (S := fun w' => w'.cell? (ad572.add (x5_1).toNat) = some (.slice A572_0 ((rd_T187 l0 x5_1).f0).length c572_0) ∧ w'.cell? (ad573.add (x5_1).toNat) = some (.slice A573_0 ((rd_T187 l1 x5_1).f0).length c573_0)) (ds := []) #[false, false, false, false, false, false, false, false, false, false] (by kernel_rfl) rfl rfl ⟨((HB.out.cell (World.block_lt_of_cell? w _ hw572_0)).trans hw572_0), ((HB.out.cell (World.block_lt_of_cell? w _ hw573_0)).trans hw573_0)⟩ (fun hHeld => ?_); refine with_tabW laws_eqBlockS.tab6 laws_eqBlockS.bits6 (fun HT_ HW_ => ?_)
             generalize wr.drew = w9 at HB HR572_0 HR573_0 hx572_0 hx573_0 hHeld ⊢
             refine pure_ (i := 0) (N := some 17) (v := ?_) (a' := ?_) #[true, false, false, false, false, false, false, false, false, false] rfl rfl (any_of HT_.out (by kernel_rfl)) (fun _ _ _ h => h) (Or.inl ⟨by rfl, ?_⟩) ?_ ?_
             rotate_left
             · intro w'
               go_simp
               with_reducible rfl
             rotate_left
             · simp only [Act.put, List.setIfInBounds_toArray, List.set_cons_zero, List.set_cons_succ, i64_w, i32_w]
               rfl
             refine pure_ (i := 1) (N := some 18) (v := ?_) (a' := ?_) #[true, true, false, false, false, false, false, false, false, false] rfl rfl (any_of HT_.out (by kernel_rfl)) (fun _ _ _ h => h) (Or.inl ⟨by rfl, ?_⟩) ?_ ?_
             rotate_left
             · intro w'
               go_simp
               with_reducible rfl
             rotate_left
             · simp only [Act.put, List.setIfInBounds_toArray, List.set_cons_zero, List.set_cons_succ, i64_w, i32_w]
               rfl
             refine pure_ (i := 2) (N := some 19) (v := ?_) (a' := ?_) #[true, true, true, false, false, false, false, false, false, false] rfl rfl (any_of HT_.out (by kernel_rfl)) (fun _ _ _ h => h) (Or.inl ⟨by rfl, ?_⟩) ?_ ?_
             rotate_left
             · intro w'
               go_simp
               with_reducible rfl
             rotate_left
             · simp only [Act.put, List.setIfInBounds_toArray, List.set_cons_zero, List.set_cons_succ, i64_w, i32_w]
               rfl
             refine pure_ (i := 4) (N := some 21) (v := ?_) (a' := ?_) #[true, true, true, false, true, false, false, false, false, false] rfl rfl (any_of HT_.out (by kernel_rfl)) (fun _ _ _ h => h) (Or.inl ⟨by rfl, ?_⟩) ?_ ?_
             rotate_left
             · intro w'
               go_simp
               with_reducible rfl
             rotate_left
             · simp only [Act.put, List.setIfInBounds_toArray, List.set_cons_zero, List.set_cons_succ, i64_w, i32_w]
               rfl
             refine pure_ (i := 5) (N := some 22) (v := ?_) (a' := ?_) #[true, true, true, false, true, true, false, false, false, false] rfl rfl (any_of HT_.out (by kernel_rfl)) (fun _ _ _ h => h) (Or.inl ⟨by rfl, ?_⟩) ?_ ?_
             rotate_left
             · intro w'
               go_simp
               with_reducible rfl
             rotate_left
             · simp only [Act.put, List.setIfInBounds_toArray, List.set_cons_zero, List.set_cons_succ, i64_w, i32_w]
               rfl
             refine pure_ (i := 6) (N := some 23) (v := ?_) (a' := ?_) #[true, true, true, false, true, true, true, false, false, false] rfl rfl (any_of HT_.out (by kernel_rfl)) (fun _ _ _ h => h) (Or.inl ⟨by rfl, ?_⟩) ?_ ?_
             rotate_left
             · intro w'
               go_simp
               with_reducible rfl
             rotate_left
             · simp only [Act.put, List.setIfInBounds_toArray, List.set_cons_zero, List.set_cons_succ, i64_w, i32_w]
               rfl
             refine take_ (i := 3) (N := some 20) (v := ?_) (a' := ?_) #[true, true, true, true, true, true, true, false, false, false] rfl rfl (take_ofW HT_.out HW_.out (by kernel_rfl)) (fun _ _ _ h => h) (Or.inl ⟨by rfl, ?_⟩) hHeld ?_ ?_
             rotate_left
             · rintro w' ⟨s0, s1⟩
               go_simp
               with_reducible rfl
             rotate_left
             · simp only [Act.put, List.setIfInBounds_toArray, List.set_cons_zero, List.set_cons_succ, i64_w, i32_w]
               rfl
             refine take_ (i := 7) (N := some 24) (v := ?_) (a' := ?_) #[true, true, true, true, true, true, true, true, false, false] rfl rfl (take_ofW HT_.out HW_.out (by kernel_rfl)) (fun _ _ _ h => h) (Or.inl ⟨by rfl, ?_⟩) hHeld ?_ ?_
             rotate_left
             · rintro w' ⟨s0, s1⟩
               go_simp
               with_reducible rfl
             rotate_left
             · simp only [Act.put, List.setIfInBounds_toArray, List.set_cons_zero, List.set_cons_succ, i64_w, i32_w]
               rfl
             refine one_ (i := 8) (N := some 25) #[true, true, true, true, true, true, true, true, true, false] rfl rfl (one_of HT_.out (by kernel_rfl)) (by decide) (fun K hK => ?_)
             refine goes_ Tryd.func131 (by kernel_rfl) rfl #[.agg #[.slice A572_0 ((rd_T187 l0 x5_1).f0).length c572_0], .agg #[.slice A573_0 ((rd_T187 l1 x5_1).f0).length c573_0]] (by rfl) rfl rfl (by (try simp only [List.map_toArray, List.map_cons, List.map_nil]); first | done | rfl | (simp only [List.length_drop, List.length_take]; rfl)) ?_
             with_reducible refine (laws_eqBlock.calls k1 _ _ ((rd_T187 l0 x5_1).f0) _ _ ((rd_T187 l1 x5_1).f0) true _ ?side1 ?side2 ?side3 ?side4 A7.out).mono ?_
             (case side1 => repeat (first | exact (Kd.C_below HR572_0.out HB.out) | (with_reducible refine Kd.C_alloc ?_ _) | (with_reducible refine Kd.C_drewN ?_ _) | (with_reducible refine Kd.C_drew ?_)))
             (case side2 => exact HC572_0.out)
             (case side3 => repeat (first | exact (Kd.C_below HR573_0.out HB.out) | (with_reducible refine Kd.C_alloc ?_ _) | (with_reducible refine Kd.C_drewN ?_ _) | (with_reducible refine Kd.C_drew ?_)))
             (case side4 => exact HC573_0.out)
             rintro e w10 ⟨rfl, hb⟩
             refine ⟨_, rfl, ?_⟩
             have n0_ := Aside0.mk (below_step (by repeat (first | (with_reducible first | exact HB.out | apply below_alloc | apply pw_below_drewN | apply below_drew1) | exact HB.out)) hb)
             clear HB
             have HB := n0_
             clear n0_
             (try clear hb)
             (try clear hb2)
             (try clear hk)
             (try clear hi)
             refine hK.out _ _ ⟨((HB.out.cell (World.block_lt_of_cell? w _ hw572_0)).trans hw572_0), ((HB.out.cell (World.block_lt_of_cell? w _ hw573_0)).trans hw573_0)⟩ (fun hHeld => ?_)
             clear hK K
             refine norm_ (a' := ?_) ?_ ?_
             rotate_left
             · show Act.put _ (some 25) _ = _
               simp only [Act.put, List.setIfInBounds_toArray, List.set_cons_zero, List.set_cons_succ, i64_w, i32_w]
               rfl
             refine pure_ (i := 9) (N := some 26) (v := ?_) (a' := ?_) #[true, true, true, true, true, true, true, true, true, true] rfl rfl (any_of HT_.out (by kernel_rfl)) (fun _ _ _ h => h) (Or.inl ⟨by rfl, ?_⟩) ?_ ?_
             rotate_left
             · intro w'
               go_simp
               with_reducible rfl
             rotate_left
             · simp only [Act.put, List.setIfInBounds_toArray, List.set_cons_zero, List.set_cons_succ, i64_w, i32_w]
               rfl
             refine done_ (done_of HT_.out (by kernel_rfl)) ?_
             try go_wp2
             go_roundg k1
             case measure => have := HK1.out; omega
             case rel => exact ⟨(wrap64 (x5_1 + 1)), (by first | rfl | (simp; done) | (simp [*]; done)), H', ⟨by have := HK1.out; omega⟩, ⟨by repeat (first | (with_reducible first | exact HB.out | apply below_alloc | apply pw_below_drewN | apply below_drew1) | exact HB.out)⟩⟩
           · replace c8 := Bool.eq_false_iff.mpr c8
             subst c8
             have H1 : (some false) = some r := by rw [if_neg (show ¬ (false = true) by decide)] at H; exact H
             clear H
             have H := H1
             clear H1
             obtain rfl := Option.some.inj H
             try go_wp2
             have n0_ := Aside0.mk (below_drew1 HB.out)
             clear HB
             have HB := n0_
             clear n0_
             have p572 : 0 ≤ (x5_1 : Int) := of_decide_eq_true (by first | (with_reducible assumption) | assumption)
             have q572 : x5_1 < (l0.length : Int) := of_decide_eq_true (by first | (with_reducible assumption) | assumption)
             obtain ⟨ad572, A572_0, c572_0, e572, hx572_0, hl572_0, hi572_0⟩ := at_T187 HR0.out x5_1 p572 q572
             have hw572_0 := hx572_0
             cases e572
             replace hx572_0 := (HB.out.cell (World.block_lt_of_cell? w _ hx572_0)).trans hx572_0
             have HR572_0 := Aside0.mk hi572_0
             have HC572_0 := Aside0.mk hl572_0
             clear hi572_0 hl572_0
             replace p572 := eq_true p572
             replace q572 := eq_true q572
             have p573 : 0 ≤ (x5_1 : Int) := of_decide_eq_true (by first | (with_reducible assumption) | assumption)
             have q573 : x5_1 < (l1.length : Int) := of_decide_eq_true (by first | (with_reducible assumption) | assumption)
             obtain ⟨ad573, A573_0, c573_0, e573, hx573_0, hl573_0, hi573_0⟩ := at_T187 HR1.out x5_1 p573 q573
             have hw573_0 := hx573_0
             cases e573
             replace hx573_0 := (HB.out.cell (World.block_lt_of_cell? w _ hx573_0)).trans hx573_0
             have HR573_0 := Aside0.mk hi573_0
             have HC573_0 := Aside0.mk hl573_0
             clear hi573_0 hl573_0
             replace p573 := eq_true p573
             replace q573 := eq_true q573
             refine start_ (n := 10) (S := fun w' => w'.cell? (ad572.add (x5_1).toNat) = some (.slice A572_0 ((rd_T187 l0 x5_1).f0).length c572_0) ∧ w'.cell? (ad573.add (x5_1).toNat) = some (.slice A573_0 ((rd_T187 l1 x5_1).f0).length c573_0)) (ds := []) #[false, false, false, false, false, false, false, false, false, false] (by kernel_rfl) rfl rfl ⟨((HB.out.cell (World.block_lt_of_cell? w _ hw572_0)).trans hw572_0), ((HB.out.cell (World.block_lt_of_cell? w _ hw573_0)).trans hw573_0)⟩ (fun hHeld => ?_); refine with_tabW laws_eqBlockS.tab6 laws_eqBlockS.bits6 (fun HT_ HW_ => ?_)
             generalize wr.drew = w11 at HB HR572_0 HR573_0 hx572_0 hx573_0 hHeld ⊢
             refine pure_ (i := 0) (N := some 17) (v := ?_) (a' := ?_) #[true, false, false, false, false, false, false, false, false, false] rfl rfl (any_of HT_.out (by kernel_rfl)) (fun _ _ _ h => h) (Or.inl ⟨by rfl, ?_⟩) ?_ ?_
             rotate_left
             · intro w'
               go_simp
               with_reducible rfl
             rotate_left
             · simp only [Act.put, List.setIfInBounds_toArray, List.set_cons_zero, List.set_cons_succ, i64_w, i32_w]
               rfl
             refine pure_ (i := 1) (N := some 18) (v := ?_) (a' := ?_) #[true, true, false, false, false, false, false, false, false, false] rfl rfl (any_of HT_.out (by kernel_rfl)) (fun _ _ _ h => h) (Or.inl ⟨by rfl, ?_⟩) ?_ ?_
             rotate_left
             · intro w'
               go_simp
               with_reducible rfl
             rotate_left
             · simp only [Act.put, List.setIfInBounds_toArray, List.set_cons_zero, List.set_cons_succ, i64_w, i32_w]
               rfl
             refine pure_ (i := 2) (N := some 19) (v := ?_) (a' := ?_) #[true, true, true, false, false, false, false, false, false, false] rfl rfl (any_of HT_.out (by kernel_rfl)) (fun _ _ _ h => h) (Or.inl ⟨by rfl, ?_⟩) ?_ ?_
             rotate_left
             · intro w'
               go_simp
               with_reducible rfl
             rotate_left
             · simp only [Act.put, List.setIfInBounds_toArray, List.set_cons_zero, List.set_cons_succ, i64_w, i32_w]
               rfl
             refine pure_ (i := 4) (N := some 21) (v := ?_) (a' := ?_) #[true, true, true, false, true, false, false, false, false, false] rfl rfl (any_of HT_.out (by kernel_rfl)) (fun _ _ _ h => h) (Or.inl ⟨by rfl, ?_⟩) ?_ ?_
             rotate_left
             · intro w'
               go_simp
               with_reducible rfl
             rotate_left
             · simp only [Act.put, List.setIfInBounds_toArray, List.set_cons_zero, List.set_cons_succ, i64_w, i32_w]
               rfl
             refine pure_ (i := 5) (N := some 22) (v := ?_) (a' := ?_) #[true, true, true, false, true, true, false, false, false, false] rfl rfl (any_of HT_.out (by kernel_rfl)) (fun _ _ _ h => h) (Or.inl ⟨by rfl, ?_⟩) ?_ ?_
             rotate_left
             · intro w'
               go_simp
               with_reducible rfl
             rotate_left
             · simp only [Act.put, List.setIfInBounds_toArray, List.set_cons_zero, List.set_cons_succ, i64_w, i32_w]
               rfl
             refine pure_ (i := 6) (N := some 23) (v := ?_) (a' := ?_) #[true, true, true, false, true, true, true, false, false, false] rfl rfl (any_of HT_.out (by kernel_rfl)) (fun _ _ _ h => h) (Or.inl ⟨by rfl, ?_⟩) ?_ ?_
             rotate_left
             · intro w'
               go_simp
               with_reducible rfl
             rotate_left
             · simp only [Act.put, List.setIfInBounds_toArray, List.set_cons_zero, List.set_cons_succ, i64_w, i32_w]
               rfl
             refine take_ (i := 3) (N := some 20) (v := ?_) (a' := ?_) #[true, true, true, true, true, true, true, false, false, false] rfl rfl (take_ofW HT_.out HW_.out (by kernel_rfl)) (fun _ _ _ h => h) (Or.inl ⟨by rfl, ?_⟩) hHeld ?_ ?_
             rotate_left
             · rintro w' ⟨s0, s1⟩
               go_simp
               with_reducible rfl
             rotate_left
             · simp only [Act.put, List.setIfInBounds_toArray, List.set_cons_zero, List.set_cons_succ, i64_w, i32_w]
               rfl
             refine take_ (i := 7) (N := some 24) (v := ?_) (a' := ?_) #[true, true, true, true, true, true, true, true, false, false] rfl rfl (take_ofW HT_.out HW_.out (by kernel_rfl)) (fun _ _ _ h => h) (Or.inl ⟨by rfl, ?_⟩) hHeld ?_ ?_
             rotate_left
             · rintro w' ⟨s0, s1⟩
               go_simp
               with_reducible rfl
             rotate_left
             · simp only [Act.put, List.setIfInBounds_toArray, List.set_cons_zero, List.set_cons_succ, i64_w, i32_w]
               rfl
             refine one_ (i := 8) (N := some 25) #[true, true, true, true, true, true, true, true, true, false] rfl rfl (one_of HT_.out (by kernel_rfl)) (by decide) (fun K hK => ?_)
             refine goes_ Tryd.func131 (by kernel_rfl) rfl #[.agg #[.slice A572_0 ((rd_T187 l0 x5_1).f0).length c572_0], .agg #[.slice A573_0 ((rd_T187 l1 x5_1).f0).length c573_0]] (by rfl) rfl rfl (by (try simp only [List.map_toArray, List.map_cons, List.map_nil]); first | done | rfl | (simp only [List.length_drop, List.length_take]; rfl)) ?_
             with_reducible refine (laws_eqBlock.calls k1 _ _ ((rd_T187 l0 x5_1).f0) _ _ ((rd_T187 l1 x5_1).f0) false _ ?side1 ?side2 ?side3 ?side4 A7.out).mono ?_
             (case side1 => repeat (first | exact (Kd.C_below HR572_0.out HB.out) | (with_reducible refine Kd.C_alloc ?_ _) | (with_reducible refine Kd.C_drewN ?_ _) | (with_reducible refine Kd.C_drew ?_)))
             (case side2 => exact HC572_0.out)
             (case side3 => repeat (first | exact (Kd.C_below HR573_0.out HB.out) | (with_reducible refine Kd.C_alloc ?_ _) | (with_reducible refine Kd.C_drewN ?_ _) | (with_reducible refine Kd.C_drew ?_)))
             (case side4 => exact HC573_0.out)
             rintro e w12 ⟨rfl, hb⟩
             refine ⟨_, rfl, ?_⟩
             have n0_ := Aside0.mk (below_step (by repeat (first | (with_reducible first | exact HB.out | apply below_alloc | apply pw_below_drewN | apply below_drew1) | exact HB.out)) hb)
             clear HB
             have HB := n0_
             clear n0_
             (try clear hb)
             (try clear hb2)
             (try clear hk)
             (try clear hi)
             refine hK.out _ _ ⟨((HB.out.cell (World.block_lt_of_cell? w _ hw572_0)).trans hw572_0), ((HB.out.cell (World.block_lt_of_cell? w _ hw573_0)).trans hw573_0)⟩ (fun hHeld => ?_)
             clear hK K
             refine norm_ (a' := ?_) ?_ ?_
             rotate_left
             · show Act.put _ (some 25) _ = _
               simp only [Act.put, List.setIfInBounds_toArray, List.set_cons_zero, List.set_cons_succ, i64_w, i32_w]
               rfl
             refine pure_ (i := 9) (N := some 26) (v := ?_) (a' := ?_) #[true, true, true, true, true, true, true, true, true, true] rfl rfl (any_of HT_.out (by kernel_rfl)) (fun _ _ _ h => h) (Or.inl ⟨by rfl, ?_⟩) ?_ ?_
             rotate_left
             · intro w'
               go_simp
               with_reducible rfl
             rotate_left
             · simp only [Act.put, List.setIfInBounds_toArray, List.set_cons_zero, List.set_cons_succ, i64_w, i32_w]
               rfl
             refine done_ (done_of HT_.out (by kernel_rfl)) ?_
             try go_wp2
             go_ret
             exact ⟨by first | rfl | (simp [errW_none, errW_some] <;> rfl) | (simp [*, errW_none, errW_some] <;> rfl), by repeat (first | (with_reducible first | exact HB.out | apply below_alloc | apply pw_below_drewN | apply below_drew1) | exact HB.out)⟩
         · rw [if_neg c6] at H
           exact absurd H (by simp)
       · rw [if_neg c5] at H
         exact absurd H (by simp)
     · rw [if_neg c4] at H
       have c4b0 : decide (x5_1 < (l0.length : Int)) = false := decide_eq_false c4
       clear c4
       obtain rfl := Option.some.inj H
       go_wp2
       go_ret
       exact ⟨by first | rfl | (simp [errW_none, errW_some] <;> rfl) | (simp [*, errW_none, errW_some] <;> rfl), by repeat (first | (with_reducible first | exact HB.out | apply below_alloc | apply pw_below_drewN | apply below_drew1) | exact HB.out)⟩
 · rw [if_neg c3] at H
   have c3b0 : ((l0.length : Int) == (l1.length : Int)) = false := beq_eq_false_iff_ne.mpr c3
   have c3b1 : ((l0.length : Int) != (l1.length : Int)) = true := bne_iff_ne.mpr c3
   have c3b2 : (l0.length == l1.length) = false := by first | simpa using c3 | (simp at c3 ⊢; omega)
   obtain rfl := Option.some.inj H
   go_enter Tryd.func119, Tryd.ntmps119
   go_wp2
   go_ret
   exact ⟨by first | rfl | (simp [errW_none, errW_some] <;> rfl) | (simp [*, errW_none, errW_some] <;> rfl), by repeat (first | (with_reducible first | exact HB.out | apply below_alloc | apply pw_below_drewN | apply below_drew1) | exact HB.out)⟩

end Go.Proofs.YtkohjiajbdkcbaaDoor.All


namespace Go.Proofs.YtkohjiajbdkcbaaDoor.All
open Go.RowKit Go.Proofs.YtkohjiajbdkcbaaDoorW.PrintWords Go.Proofs.YtkohjiajbdkcbaaDoorW.PrintLast Go.Proofs.YtkohjiajbdkcbaaDoorW.PrintMore
attribute [local go_sem] max2_int min2_int max_two min_two max_three min_three max_four min_four   -- for this text's walks alone
set_option linter.unusedVariables false
set_option linter.unusedSimpArgs false

/-! ### laws_eqFunc: function 96 -/
def laws_eqFunc.f (k : Nat) (a0_0 : ByteArray) (a0_1 : Int) (l0_2 : List Int) (a0_3 : Int) (l0_4 : List (S187)) (a1_0 : ByteArray) (a1_1 : Int) (l1_2 : List Int) (a1_3 : Int) (l1_4 : List (S187)) : Option (Bool) := if a0_0.toList = a1_0.toList then (if a0_1 = a1_1 then ((laws_eqInt64S.f k l0_2 l1_2).bind fun t577 => (if t577 = true then (if a0_3 = a1_3 then ((laws_eqBlockS.f k l0_4 l1_4).bind fun t578 => (if t578 = true then (some true) else (some false))) else (some false)) else (some false))) else (some false)) else (some false)
set_option maxHeartbeats 8000000 in
set_option maxRecDepth 100000 in
theorem laws_eqFunc.calls (k : Nat) (a0_0 : ByteArray) (a0_1 : Int) (A0_2 : Option Addr) (c0_2 : Nat) (l0_2 : List Int) (a0_3 : Int) (A0_4 : Option Addr) (c0_4 : Nat) (l0_4 : List (S187)) (a1_0 : ByteArray) (a1_1 : Int) (A1_2 : Option Addr) (c1_2 : Nat) (l1_2 : List Int) (a1_3 : Int) (A1_4 : Option Addr) (c1_4 : Nat) (l1_4 : List (S187)) (r : Bool) (w : World) (hr0_2 : Kd.C (Kd.int .i64) w A0_2 l0_2.length l0_2) (hc0_2 : l0_2.length ≤ c0_2) (hr0_4 : Kd.C k187 w A0_4 l0_4.length l0_4) (hc0_4 : l0_4.length ≤ c0_4) (hr1_2 : Kd.C (Kd.int .i64) w A1_2 l1_2.length l1_2) (hc1_2 : l1_2.length ≤ c1_2) (hr1_4 : Kd.C k187 w A1_4 l1_4.length l1_4) (hc1_4 : l1_4.length ≤ c1_4) (h : laws_eqFunc.f k a0_0 a0_1 l0_2 a0_3 l0_4 a1_0 a1_1 l1_2 a1_3 l1_4 = some r) :
 Calls Tryd.prog 96 #[.agg #[.string a0_0, .int .i64 a0_1, .slice A0_2 l0_2.length c0_2, .int .i64 a0_3, .slice A0_4 l0_4.length c0_4], .agg #[.string a1_0, .int .i64 a1_1, .slice A1_2 l1_2.length c1_2, .int .i64 a1_3, .slice A1_4 l1_4.length c1_4]] w fun e w' => e = .returned (.bool r) ∧ Below w.heap.size w w' := by
 have hu149 := Tryd.underlying149
 have HR0_2 := Aside0.mk hr0_2
 have HC0_2 := Aside0.mk hc0_2
 clear hr0_2 hc0_2
 have HR0_4 := Aside0.mk hr0_4
 have HC0_4 := Aside0.mk hc0_4
 clear hr0_4 hc0_4
 have HR1_2 := Aside0.mk hr1_2
 have HC1_2 := Aside0.mk hc1_2
 clear hr1_2 hc1_2
 have HR1_4 := Aside0.mk hr1_4
 have HC1_4 := Aside0.mk hc1_4
 clear hr1_4 hc1_4
 have HB := Aside0.mk (Below.refl w.heap.size w)
 have H : (if a0_0.toList = a1_0.toList then (if a0_1 = a1_1 then ((laws_eqInt64S.f k l0_2 l1_2).bind fun t577 => (if t577 = true then (if a0_3 = a1_3 then ((laws_eqBlockS.f k l0_4 l1_4).bind fun t578 => (if t578 = true then (some true) else (some false))) else (some false)) else (some false))) else (some false)) else (some false)) = some r := h
 clear h
 by_cases c3 : a0_0.toList = a1_0.toList
 · rw [if_pos c3] at H
   have c3b0 : (a0_0.toList == a1_0.toList) = true := beq_iff_eq.mpr c3
   have c3b1 : (a0_0.toList != a1_0.toList) = false := bne_eq_false_iff_eq.mpr c3
   clear c3
   by_cases c4 : a0_1 = a1_1
   · rw [if_pos c4] at H
     have c4b0 : (a0_1 == a1_1) = true := beq_iff_eq.mpr c4
     have c4b1 : (a0_1 != a1_1) = false := bne_eq_false_iff_eq.mpr c4
     clear c4
     replace H := Option.bind_eq_some_iff.mp H
     obtain ⟨t577, A50, H⟩ := H
     replace H : (if t577 = true then (if a0_3 = a1_3 then ((laws_eqBlockS.f k l0_4 l1_4).bind fun t578 => (if t578 = true then (some true) else (some false))) else (some false)) else (some false)) = some r := H
     have A5 := Aside0.mk A50
     clear A50
     by_cases c6 : t577 = true
     · subst c6
       have H1 : (if a0_3 = a1_3 then ((laws_eqBlockS.f k l0_4 l1_4).bind fun t578 => (if t578 = true then (some true) else (some false))) else (some false)) = some r := by rw [if_pos rfl] at H; exact H
       clear H
       have H := H1
       clear H1
       by_cases c7 : a0_3 = a1_3
       · rw [if_pos c7] at H
         have c7b0 : (a0_3 == a1_3) = true := beq_iff_eq.mpr c7
         have c7b1 : (a0_3 != a1_3) = false := bne_eq_false_iff_eq.mpr c7
         clear c7
         replace H := Option.bind_eq_some_iff.mp H
         obtain ⟨t578, A80, H⟩ := H
         replace H : (if t578 = true then (some true) else (some false)) = some r := H
         have A8 := Aside0.mk A80
         clear A80
         by_cases c9 : t578 = true
         · subst c9
           have H1 : (some true) = some r := by rw [if_pos rfl] at H; exact H
           clear H
           have H := H1
           clear H1
           obtain rfl := Option.some.inj H
           go_enter Tryd.func96, Tryd.ntmps96
           go_wp2_with (first | ((with_reducible refine gate_dst (N := 2) rfl ?_); refine box_event ?hg (N := 2) ?hd (cs := #[.string a0_0, .int .i64 a0_1, .slice A0_2 l0_2.length c0_2, .int .i64 a0_3, .slice A0_4 l0_4.length c0_4]) (t := 149) ?hr ?_; (case hd => rfl); (case hg => rfl); (case hr => first | (go_simp; done) | (go_simp; rfl)); intro gb575 hg w10 hbox hb; have n0_ := Aside0.mk (below_step (by repeat (first | (with_reducible first | exact HB.out | apply below_alloc | apply pw_below_drewN | apply below_drew1) | exact HB.out)) hb); have n1_ := Aside0.mk (hbox); have n2_ := Aside0.mk ((by rw [hg]; exact (below_size (by repeat (first | (with_reducible first | exact HB.out | apply below_alloc | apply pw_below_drewN | apply below_drew1) | exact HB.out))) : w.heap.size ≤ gb575)); have n3_ := Aside0.mk ((by rw [hg]; exact (below_size (by repeat (first | (with_reducible first | exact HB.out | apply below_alloc | apply pw_below_drewN | apply below_drew1) | exact HB.out))) : w.heap.size ≤ gb575)); clear HB; have HB := n0_; have BK575 := n1_; have GW575 := n2_; have GE575 := n3_; clear n0_ n1_ n2_ n3_; clear hb hbox hg) | ((with_reducible refine gate_dst (N := 3) rfl ?_); refine box_event ?hg (N := 3) ?hd (cs := #[.string a1_0, .int .i64 a1_1, .slice A1_2 l1_2.length c1_2, .int .i64 a1_3, .slice A1_4 l1_4.length c1_4]) (t := 149) ?hr ?_; (case hd => rfl); (case hg => rfl); (case hr => first | (go_simp; done) | (go_simp; rfl)); intro gb576 hg w11 hbox hb; have n0_ := Aside0.mk (blk_below (g := gb575) (o := .cells #[.string a0_0, .int .i64 a0_1, .slice A0_2 l0_2.length c0_2, .int .i64 a0_3, .slice A0_4 l0_4.length c0_4] 149 (0, 0)) (by (with_reducible repeat (first | refine blk_drewN ?_ _ | refine blk_drew ?_ | refine blk_alloc ?_ _)); exact BK575.out) hb); have n1_ := Aside0.mk (below_step (by repeat (first | (with_reducible first | exact HB.out | apply below_alloc | apply pw_below_drewN | apply below_drew1 | refine below_set ?_ GE575.out) | exact HB.out)) hb); have n2_ := Aside0.mk (hbox); have n3_ := Aside0.mk ((by rw [hg]; exact (below_size (by repeat (first | (with_reducible first | exact HB.out | apply below_alloc | apply pw_below_drewN | apply below_drew1 | refine below_set ?_ GE575.out) | exact HB.out))) : w.heap.size ≤ gb576)); have n4_ := Aside0.mk ((by rw [hg]; exact (below_size (by repeat (first | (with_reducible first | exact HB.out | apply below_alloc | apply pw_below_drewN | apply below_drew1 | refine below_set ?_ GE575.out) | exact HB.out))) : w.heap.size ≤ gb576)); have n5_ := Aside0.mk ((by rw [hg]; exact Nat.ne_of_lt (blk_lt (g := gb575) (o := .cells #[.string a0_0, .int .i64 a0_1, .slice A0_2 l0_2.length c0_2, .int .i64 a0_3, .slice A0_4 l0_4.length c0_4] 149 (0, 0)) (by (with_reducible repeat (first | refine blk_drewN ?_ _ | refine blk_drew ?_ | refine blk_alloc ?_ _)); exact BK575.out)) : gb575 ≠ gb576)); have n6_ := Aside0.mk ((by rw [hg]; exact Nat.ne_of_gt (blk_lt (g := gb575) (o := .cells #[.string a0_0, .int .i64 a0_1, .slice A0_2 l0_2.length c0_2, .int .i64 a0_3, .slice A0_4 l0_4.length c0_4] 149 (0, 0)) (by (with_reducible repeat (first | refine blk_drewN ?_ _ | refine blk_drew ?_ | refine blk_alloc ?_ _)); exact BK575.out)) : gb576 ≠ gb575)); clear BK575; clear HB; have BK575 := n0_; have HB := n1_; have BK576 := n2_; have GW576 := n3_; have GE576 := n4_; have NB575_576 := n5_; have NB576_575 := n6_; clear n0_ n1_ n2_ n3_ n4_ n5_ n6_; clear hb hbox hg; have hnb12 := NB575_576.out; have hnc12 := NB576_575.out; have hcz13_0 : w11.cell? ⟨gb575, 0, none⟩ = some (.string a0_0) := (blk_cell BK575.out 0).trans rfl; have hcz13_1 : w11.cell? ⟨gb575, 1, none⟩ = some (.int .i64 a0_1) := (blk_cell BK575.out 1).trans rfl; have hcz13_2 : w11.cell? ⟨gb575, 2, none⟩ = some (.slice A0_2 l0_2.length c0_2) := (blk_cell BK575.out 2).trans rfl; have hcz13_3 : w11.cell? ⟨gb575, 3, none⟩ = some (.int .i64 a0_3) := (blk_cell BK575.out 3).trans rfl; have hcz13_4 : w11.cell? ⟨gb575, 4, none⟩ = some (.slice A0_4 l0_4.length c0_4) := (blk_cell BK575.out 4).trans rfl; have hfz13_0 := blk_frozen BK575.out 0; have hfz13_1 := blk_frozen BK575.out 1; have hfz13_2 := blk_frozen BK575.out 2; have hfz13_3 := blk_frozen BK575.out 3; have hfz13_4 := blk_frozen BK575.out 4; have hcz14_0 : w11.cell? ⟨gb576, 0, none⟩ = some (.string a1_0) := (blk_cell BK576.out 0).trans rfl; have hcz14_1 : w11.cell? ⟨gb576, 1, none⟩ = some (.int .i64 a1_1) := (blk_cell BK576.out 1).trans rfl; have hcz14_2 : w11.cell? ⟨gb576, 2, none⟩ = some (.slice A1_2 l1_2.length c1_2) := (blk_cell BK576.out 2).trans rfl; have hcz14_3 : w11.cell? ⟨gb576, 3, none⟩ = some (.int .i64 a1_3) := (blk_cell BK576.out 3).trans rfl; have hcz14_4 : w11.cell? ⟨gb576, 4, none⟩ = some (.slice A1_4 l1_4.length c1_4) := (blk_cell BK576.out 4).trans rfl; have hfz14_0 := blk_frozen BK576.out 0; have hfz14_1 := blk_frozen BK576.out 1; have hfz14_2 := blk_frozen BK576.out 2; have hfz14_3 := blk_frozen BK576.out 3; have hfz14_4 := blk_frozen BK576.out 4) | ((with_reducible refine gate_callee (f := 68) rfl ?_); refine goesL_ (some 19) rfl rfl Tryd.func68 (by kernel_rfl) rfl #[.slice A0_2 l0_2.length c0_2, .slice A1_2 l1_2.length c1_2] rfl (by (try simp only [List.map_toArray, List.map_cons, List.map_nil]); first | done | rfl | (simp only [List.length_drop, List.length_take]; rfl)) ?_; (with_reducible refine (laws_eqInt64S.calls k _ _ l0_2 _ _ l1_2 true _ ?side1 ?side2 ?side3 ?side4 A5.out).mono ?_); (case side1 => repeat (first | exact (Kd.C_below HR0_2.out HB.out) | (with_reducible refine Kd.C_alloc ?_ _) | (with_reducible refine Kd.C_drewN ?_ _) | (with_reducible refine Kd.C_drew ?_))); (case side2 => exact HC0_2.out); (case side3 => repeat (first | exact (Kd.C_below HR1_2.out HB.out) | (with_reducible refine Kd.C_alloc ?_ _) | (with_reducible refine Kd.C_drewN ?_ _) | (with_reducible refine Kd.C_drew ?_))); (case side4 => exact HC1_2.out); rintro e w' ⟨rfl, ⟨nd, rfl⟩⟩; refine ⟨_, rfl, ?_⟩) | ((with_reducible refine gate_callee (f := 119) rfl ?_); refine goesL_ (some 30) rfl rfl Tryd.func119 (by kernel_rfl) rfl #[.slice A0_4 l0_4.length c0_4, .slice A1_4 l1_4.length c1_4] rfl (by (try simp only [List.map_toArray, List.map_cons, List.map_nil]); first | done | rfl | (simp only [List.length_drop, List.length_take]; rfl)) ?_; (with_reducible refine (laws_eqBlockS.calls k _ _ l0_4 _ _ l1_4 true _ ?side1 ?side2 ?side3 ?side4 A8.out).mono ?_); (case side1 => repeat (first | exact (Kd.C_below HR0_4.out (by repeat (first | (with_reducible first | exact HB.out | apply below_alloc | apply pw_below_drewN | apply below_drew1 | refine below_set ?_ GE575.out | refine below_set ?_ GE576.out) | exact HB.out))) | (with_reducible refine Kd.C_alloc ?_ _) | (with_reducible refine Kd.C_drewN ?_ _) | (with_reducible refine Kd.C_drew ?_))); (case side2 => exact HC0_4.out); (case side3 => repeat (first | exact (Kd.C_below HR1_4.out (by repeat (first | (with_reducible first | exact HB.out | apply below_alloc | apply pw_below_drewN | apply below_drew1 | refine below_set ?_ GE575.out | refine below_set ?_ GE576.out) | exact HB.out))) | (with_reducible refine Kd.C_alloc ?_ _) | (with_reducible refine Kd.C_drewN ?_ _) | (with_reducible refine Kd.C_drew ?_))); (case side4 => exact HC1_4.out); rintro e w15 ⟨rfl, hb⟩; refine ⟨_, rfl, ?_⟩; have n0_ := Aside0.mk (blk_below (g := gb575) (o := .cells #[.string a0_0, .int .i64 a0_1, .slice A0_2 l0_2.length c0_2, .int .i64 a0_3, .slice A0_4 l0_4.length c0_4] 149 (0, 0)) (by (with_reducible repeat (first | refine blk_drewN ?_ _ | refine blk_drew ?_ | refine blk_alloc ?_ _)); exact BK575.out) hb); have n1_ := Aside0.mk (blk_below (g := gb576) (o := .cells #[.string a1_0, .int .i64 a1_1, .slice A1_2 l1_2.length c1_2, .int .i64 a1_3, .slice A1_4 l1_4.length c1_4] 149 (0, 0)) (by (with_reducible repeat (first | refine blk_drewN ?_ _ | refine blk_drew ?_ | refine blk_alloc ?_ _)); exact BK576.out) hb); have n2_ := Aside0.mk (below_step (by repeat (first | (with_reducible first | exact HB.out | apply below_alloc | apply pw_below_drewN | apply below_drew1 | refine below_set ?_ GE575.out | refine below_set ?_ GE576.out) | exact HB.out)) hb); clear BK575; clear BK576; clear HB; have BK575 := n0_; have BK576 := n1_; have HB := n2_; clear n0_ n1_ n2_; (try clear hb); (try clear hb2); (try clear hk); (try clear hi)))
           go_ret
           exact ⟨by first | rfl | (simp [errW_none, errW_some] <;> rfl) | (simp [*, errW_none, errW_some] <;> rfl), by repeat (first | (with_reducible first | exact HB.out | apply below_alloc | apply pw_below_drewN | apply below_drew1 | refine below_set ?_ GE575.out | refine below_set ?_ GE576.out) | exact HB.out)⟩
         · replace c9 := Bool.eq_false_iff.mpr c9
           subst c9
           have H1 : (some false) = some r := by rw [if_neg (show ¬ (false = true) by decide)] at H; exact H
           clear H
           have H := H1
           clear H1
           obtain rfl := Option.some.inj H
           go_enter Tryd.func96, Tryd.ntmps96
           go_wp2_with (first | ((with_reducible refine gate_dst (N := 2) rfl ?_); refine box_event ?hg (N := 2) ?hd (cs := #[.string a0_0, .int .i64 a0_1, .slice A0_2 l0_2.length c0_2, .int .i64 a0_3, .slice A0_4 l0_4.length c0_4]) (t := 149) ?hr ?_; (case hd => rfl); (case hg => rfl); (case hr => first | (go_simp; done) | (go_simp; rfl)); intro gb575 hg w16 hbox hb; have n0_ := Aside0.mk (below_step (by repeat (first | (with_reducible first | exact HB.out | apply below_alloc | apply pw_below_drewN | apply below_drew1) | exact HB.out)) hb); have n1_ := Aside0.mk (hbox); have n2_ := Aside0.mk ((by rw [hg]; exact (below_size (by repeat (first | (with_reducible first | exact HB.out | apply below_alloc | apply pw_below_drewN | apply below_drew1) | exact HB.out))) : w.heap.size ≤ gb575)); have n3_ := Aside0.mk ((by rw [hg]; exact (below_size (by repeat (first | (with_reducible first | exact HB.out | apply below_alloc | apply pw_below_drewN | apply below_drew1) | exact HB.out))) : w.heap.size ≤ gb575)); clear HB; have HB := n0_; have BK575 := n1_; have GW575 := n2_; have GE575 := n3_; clear n0_ n1_ n2_ n3_; clear hb hbox hg) | ((with_reducible refine gate_dst (N := 3) rfl ?_); refine box_event ?hg (N := 3) ?hd (cs := #[.string a1_0, .int .i64 a1_1, .slice A1_2 l1_2.length c1_2, .int .i64 a1_3, .slice A1_4 l1_4.length c1_4]) (t := 149) ?hr ?_; (case hd => rfl); (case hg => rfl); (case hr => first | (go_simp; done) | (go_simp; rfl)); intro gb576 hg w17 hbox hb; have n0_ := Aside0.mk (blk_below (g := gb575) (o := .cells #[.string a0_0, .int .i64 a0_1, .slice A0_2 l0_2.length c0_2, .int .i64 a0_3, .slice A0_4 l0_4.length c0_4] 149 (0, 0)) (by (with_reducible repeat (first | refine blk_drewN ?_ _ | refine blk_drew ?_ | refine blk_alloc ?_ _)); exact BK575.out) hb); have n1_ := Aside0.mk (below_step (by repeat (first | (with_reducible first | exact HB.out | apply below_alloc | apply pw_below_drewN | apply below_drew1 | refine below_set ?_ GE575.out) | exact HB.out)) hb); have n2_ := Aside0.mk (hbox); have n3_ := Aside0.mk ((by rw [hg]; exact (below_size (by repeat (first | (with_reducible first | exact HB.out | apply below_alloc | apply pw_below_drewN | apply below_drew1 | refine below_set ?_ GE575.out) | exact HB.out))) : w.heap.size ≤ gb576)); have n4_ := Aside0.mk ((by rw [hg]; exact (below_size (by repeat (first | (with_reducible first | exact HB.out | apply below_alloc | apply pw_below_drewN | apply below_drew1 | refine below_set ?_ GE575.out) | exact HB.out))) : w.heap.size ≤ gb576)); have n5_ := Aside0.mk ((by rw [hg]; exact Nat.ne_of_lt (blk_lt (g := gb575) (o := .cells #[.string a0_0, .int .i64 a0_1, .slice A0_2 l0_2.length c0_2, .int .i64 a0_3, .slice A0_4 l0_4.length c0_4] 149 (0, 0)) (by (with_reducible repeat (first | refine blk_drewN ?_ _ | refine blk_drew ?_ | refine blk_alloc ?_ _)); exact BK575.out)) : gb575 ≠ gb576)); have n6_ := Aside0.mk ((by rw [hg]; exact Nat.ne_of_gt (blk_lt (g := gb575) (o := .cells #[.string a0_0, .int .i64 a0_1, .slice A0_2 l0_2.length c0_2, .int .i64 a0_3, .slice A0_4 l0_4.length c0_4] 149 (0, 0)) (by (with_reducible repeat (first | refine blk_drewN ?_ _ | refine blk_drew ?_ | refine blk_alloc ?_ _)); exact BK575.out)) : gb576 ≠ gb575)); clear BK575; clear HB; have BK575 := n0_; have HB := n1_; have BK576 := n2_; have GW576 := n3_; have GE576 := n4_; have NB575_576 := n5_; have NB576_575 := n6_; clear n0_ n1_ n2_ n3_ n4_ n5_ n6_; clear hb hbox hg; have hnb18 := NB575_576.out; have hnc18 := NB576_575.out; have hcz19_0 : w17.cell? ⟨gb575, 0, none⟩ = some (.string a0_0) := (blk_cell BK575.out 0).trans rfl; have hcz19_1 : w17.cell? ⟨gb575, 1, none⟩ = some (.int .i64 a0_1) := (blk_cell BK575.out 1).trans rfl; have hcz19_2 : w17.cell? ⟨gb575, 2, none⟩ = some (.slice A0_2 l0_2.length c0_2) := (blk_cell BK575.out 2).trans rfl; have hcz19_3 : w17.cell? ⟨gb575, 3, none⟩ = some (.int .i64 a0_3) := (blk_cell BK575.out 3).trans rfl; have hcz19_4 : w17.cell? ⟨gb575, 4, none⟩ = some (.slice A0_4 l0_4.length c0_4) := (blk_cell BK575.out 4).trans rfl; have hfz19_0 := blk_frozen BK575.out 0; have hfz19_1 := blk_frozen BK575.out 1; have hfz19_2 := blk_frozen BK575.out 2; have hfz19_3 := blk_frozen BK575.out 3; have hfz19_4 := blk_frozen BK575.out 4; have hcz20_0 : w17.cell? ⟨gb576, 0, none⟩ = some (.string a1_0) := (blk_cell BK576.out 0).trans rfl; have hcz20_1 : w17.cell? ⟨gb576, 1, none⟩ = some (.int .i64 a1_1) := (blk_cell BK576.out 1).trans rfl; have hcz20_2 : w17.cell? ⟨gb576, 2, none⟩ = some (.slice A1_2 l1_2.length c1_2) := (blk_cell BK576.out 2).trans rfl; have hcz20_3 : w17.cell? ⟨gb576, 3, none⟩ = some (.int .i64 a1_3) := (blk_cell BK576.out 3).trans rfl; have hcz20_4 : w17.cell? ⟨gb576, 4, none⟩ = some (.slice A1_4 l1_4.length c1_4) := (blk_cell BK576.out 4).trans rfl; have hfz20_0 := blk_frozen BK576.out 0; have hfz20_1 := blk_frozen BK576.out 1; have hfz20_2 := blk_frozen BK576.out 2; have hfz20_3 := blk_frozen BK576.out 3; have hfz20_4 := blk_frozen BK576.out 4) | ((with_reducible refine gate_callee (f := 68) rfl ?_); refine goesL_ (some 19) rfl rfl Tryd.func68 (by kernel_rfl) rfl #[.slice A0_2 l0_2.length c0_2, .slice A1_2 l1_2.length c1_2] rfl (by (try simp only [List.map_toArray, List.map_cons, List.map_nil]); first | done | rfl | (simp only [List.length_drop, List.length_take]; rfl)) ?_; (with_reducible refine (laws_eqInt64S.calls k _ _ l0_2 _ _ l1_2 true _ ?side1 ?side2 ?side3 ?side4 A5.out).mono ?_); (case side1 => repeat (first | exact (Kd.C_below HR0_2.out HB.out) | (with_reducible refine Kd.C_alloc ?_ _) | (with_reducible refine Kd.C_drewN ?_ _) | (with_reducible refine Kd.C_drew ?_))); (case side2 => exact HC0_2.out); (case side3 => repeat (first | exact (Kd.C_below HR1_2.out HB.out) | (with_reducible refine Kd.C_alloc ?_ _) | (with_reducible refine Kd.C_drewN ?_ _) | (with_reducible refine Kd.C_drew ?_))); (case side4 => exact HC1_2.out); rintro e w' ⟨rfl, ⟨nd, rfl⟩⟩; refine ⟨_, rfl, ?_⟩) | ((with_reducible refine gate_callee (f := 119) rfl ?_); refine goesL_ (some 30) rfl rfl Tryd.func119 (by kernel_rfl) rfl #[.slice A0_4 l0_4.length c0_4, .slice A1_4 l1_4.length c1_4] rfl (by (try simp only [List.map_toArray, List.map_cons, List.map_nil]); first | done | rfl | (simp only [List.length_drop, List.length_take]; rfl)) ?_; (with_reducible refine (laws_eqBlockS.calls k _ _ l0_4 _ _ l1_4 false _ ?side1 ?side2 ?side3 ?side4 A8.out).mono ?_); (case side1 => repeat (first | exact (Kd.C_below HR0_4.out (by repeat (first | (with_reducible first | exact HB.out | apply below_alloc | apply pw_below_drewN | apply below_drew1 | refine below_set ?_ GE575.out | refine below_set ?_ GE576.out) | exact HB.out))) | (with_reducible refine Kd.C_alloc ?_ _) | (with_reducible refine Kd.C_drewN ?_ _) | (with_reducible refine Kd.C_drew ?_))); (case side2 => exact HC0_4.out); (case side3 => repeat (first | exact (Kd.C_below HR1_4.out (by repeat (first | (with_reducible first | exact HB.out | apply below_alloc | apply pw_below_drewN | apply below_drew1 | refine below_set ?_ GE575.out | refine below_set ?_ GE576.out) | exact HB.out))) | (with_reducible refine Kd.C_alloc ?_ _) | (with_reducible refine Kd.C_drewN ?_ _) | (with_reducible refine Kd.C_drew ?_))); (case side4 => exact HC1_4.out); rintro e w21 ⟨rfl, hb⟩; refine ⟨_, rfl, ?_⟩; have n0_ := Aside0.mk (blk_below (g := gb575) (o := .cells #[.string a0_0, .int .i64 a0_1, .slice A0_2 l0_2.length c0_2, .int .i64 a0_3, .slice A0_4 l0_4.length c0_4] 149 (0, 0)) (by (with_reducible repeat (first | refine blk_drewN ?_ _ | refine blk_drew ?_ | refine blk_alloc ?_ _)); exact BK575.out) hb); have n1_ := Aside0.mk (blk_below (g := gb576) (o := .cells #[.string a1_0, .int .i64 a1_1, .slice A1_2 l1_2.length c1_2, .int .i64 a1_3, .slice A1_4 l1_4.length c1_4] 149 (0, 0)) (by (with_reducible repeat (first | refine blk_drewN ?_ _ | refine blk_drew ?_ | refine blk_alloc ?_ _)); exact BK576.out) hb); have n2_ := Aside0.mk (below_step (by repeat (first | (with_reducible first | exact HB.out | apply below_alloc | apply pw_below_drewN | apply below_drew1 | refine below_set ?_ GE575.out | refine below_set ?_ GE576.out) | exact HB.out)) hb); clear BK575; clear BK576; clear HB; have BK575 := n0_; have BK576 := n1_; have HB := n2_; clear n0_ n1_ n2_; (try clear hb); (try clear hb2); (try clear hk); (try clear hi)))
           go_ret
           exact ⟨by first | rfl | (simp [errW_none, errW_some] <;> rfl) | (simp [*, errW_none, errW_some] <;> rfl), by repeat (first | (with_reducible first | exact HB.out | apply below_alloc | apply pw_below_drewN | apply below_drew1 | refine below_set ?_ GE575.out | refine below_set ?_ GE576.out) | exact HB.out)⟩
       · rw [if_neg c7] at H
         have c7b0 : (a0_3 == a1_3) = false := beq_eq_false_iff_ne.mpr c7
         have c7b1 : (a0_3 != a1_3) = true := bne_iff_ne.mpr c7
         obtain rfl := Option.some.inj H
         go_enter Tryd.func96, Tryd.ntmps96
         go_wp2_with (first | ((with_reducible refine gate_dst (N := 2) rfl ?_); refine box_event ?hg (N := 2) ?hd (cs := #[.string a0_0, .int .i64 a0_1, .slice A0_2 l0_2.length c0_2, .int .i64 a0_3, .slice A0_4 l0_4.length c0_4]) (t := 149) ?hr ?_; (case hd => rfl); (case hg => rfl); (case hr => first | (go_simp; done) | (go_simp; rfl)); intro gb575 hg w22 hbox hb; have n0_ := Aside0.mk (below_step (by repeat (first | (with_reducible first | exact HB.out | apply below_alloc | apply pw_below_drewN | apply below_drew1) | exact HB.out)) hb); have n1_ := Aside0.mk (hbox); have n2_ := Aside0.mk ((by rw [hg]; exact (below_size (by repeat (first | (with_reducible first | exact HB.out | apply below_alloc | apply pw_below_drewN | apply below_drew1) | exact HB.out))) : w.heap.size ≤ gb575)); have n3_ := Aside0.mk ((by rw [hg]; exact (below_size (by repeat (first | (with_reducible first | exact HB.out | apply below_alloc | apply pw_below_drewN | apply below_drew1) | exact HB.out))) : w.heap.size ≤ gb575)); clear HB; have HB := n0_; have BK575 := n1_; have GW575 := n2_; have GE575 := n3_; clear n0_ n1_ n2_ n3_; clear hb hbox hg) | ((with_reducible refine gate_dst (N := 3) rfl ?_); refine box_event ?hg (N := 3) ?hd (cs := #[.string a1_0, .int .i64 a1_1, .slice A1_2 l1_2.length c1_2, .int .i64 a1_3, .slice A1_4 l1_4.length c1_4]) (t := 149) ?hr ?_; (case hd => rfl); (case hg => rfl); (case hr => first | (go_simp; done) | (go_simp; rfl)); intro gb576 hg w23 hbox hb; have n0_ := Aside0.mk (blk_below (g := gb575) (o := .cells #[.string a0_0, .int .i64 a0_1, .slice A0_2 l0_2.length c0_2, .int .i64 a0_3, .slice A0_4 l0_4.length c0_4] 149 (0, 0)) (by (with_reducible repeat (first | refine blk_drewN ?_ _ | refine blk_drew ?_ | refine blk_alloc ?_ _)); exact BK575.out) hb); have n1_ := Aside0.mk (below_step (by repeat (first | (with_reducible first | exact HB.out | apply below_alloc | apply pw_below_drewN | apply below_drew1 | refine below_set ?_ GE575.out) | exact HB.out)) hb); have n2_ := Aside0.mk (hbox); have n3_ := Aside0.mk ((by rw [hg]; exact (below_size (by repeat (first | (with_reducible first | exact HB.out | apply below_alloc | apply pw_below_drewN | apply below_drew1 | refine below_set ?_ GE575.out) | exact HB.out))) : w.heap.size ≤ gb576)); have n4_ := Aside0.mk ((by rw [hg]; exact (below_size (by repeat (first | (with_reducible first | exact HB.out | apply below_alloc | apply pw_below_drewN | apply below_drew1 | refine below_set ?_ GE575.out) | exact HB.out))) : w.heap.size ≤ gb576)); have n5_ := Aside0.mk ((by rw [hg]; exact Nat.ne_of_lt (blk_lt (g := gb575) (o := .cells #[.string a0_0, .int .i64 a0_1, .slice A0_2 l0_2.length c0_2, .int .i64 a0_3, .slice A0_4 l0_4.length c0_4] 149 (0, 0)) (by (with_reducible repeat (first | refine blk_drewN ?_ _ | refine blk_drew ?_ | refine blk_alloc ?_ _)); exact BK575.out)) : gb575 ≠ gb576)); have n6_ := Aside0.mk ((by rw [hg]; exact Nat.ne_of_gt (blk_lt (g := gb575) (o := .cells #[.string a0_0, .int .i64 a0_1, .slice A0_2 l0_2.length c0_2, .int .i64 a0_3, .slice A0_4 l0_4.length c0_4] 149 (0, 0)) (by (with_reducible repeat (first | refine blk_drewN ?_ _ | refine blk_drew ?_ | refine blk_alloc ?_ _)); exact BK575.out)) : gb576 ≠ gb575)); clear BK575; clear HB; have BK575 := n0_; have HB := n1_; have BK576 := n2_; have GW576 := n3_; have GE576 := n4_; have NB575_576 := n5_; have NB576_575 := n6_; clear n0_ n1_ n2_ n3_ n4_ n5_ n6_; clear hb hbox hg; have hnb24 := NB575_576.out; have hnc24 := NB576_575.out; have hcz25_0 : w23.cell? ⟨gb575, 0, none⟩ = some (.string a0_0) := (blk_cell BK575.out 0).trans rfl; have hcz25_1 : w23.cell? ⟨gb575, 1, none⟩ = some (.int .i64 a0_1) := (blk_cell BK575.out 1).trans rfl; have hcz25_2 : w23.cell? ⟨gb575, 2, none⟩ = some (.slice A0_2 l0_2.length c0_2) := (blk_cell BK575.out 2).trans rfl; have hcz25_3 : w23.cell? ⟨gb575, 3, none⟩ = some (.int .i64 a0_3) := (blk_cell BK575.out 3).trans rfl; have hcz25_4 : w23.cell? ⟨gb575, 4, none⟩ = some (.slice A0_4 l0_4.length c0_4) := (blk_cell BK575.out 4).trans rfl; have hfz25_0 := blk_frozen BK575.out 0; have hfz25_1 := blk_frozen BK575.out 1; have hfz25_2 := blk_frozen BK575.out 2; have hfz25_3 := blk_frozen BK575.out 3; have hfz25_4 := blk_frozen BK575.out 4; have hcz26_0 : w23.cell? ⟨gb576, 0, none⟩ = some (.string a1_0) := (blk_cell BK576.out 0).trans rfl; have hcz26_1 : w23.cell? ⟨gb576, 1, none⟩ = some (.int .i64 a1_1) := (blk_cell BK576.out 1).trans rfl; have hcz26_2 : w23.cell? ⟨gb576, 2, none⟩ = some (.slice A1_2 l1_2.length c1_2) := (blk_cell BK576.out 2).trans rfl; have hcz26_3 : w23.cell? ⟨gb576, 3, none⟩ = some (.int .i64 a1_3) := (blk_cell BK576.out 3).trans rfl; have hcz26_4 : w23.cell? ⟨gb576, 4, none⟩ = some (.slice A1_4 l1_4.length c1_4) := (blk_cell BK576.out 4).trans rfl; have hfz26_0 := blk_frozen BK576.out 0; have hfz26_1 := blk_frozen BK576.out 1; have hfz26_2 := blk_frozen BK576.out 2; have hfz26_3 := blk_frozen BK576.out 3; have hfz26_4 := blk_frozen BK576.out 4) | ((with_reducible refine gate_callee (f := 68) rfl ?_); refine goesL_ (some 19) rfl rfl Tryd.func68 (by kernel_rfl) rfl #[.slice A0_2 l0_2.length c0_2, .slice A1_2 l1_2.length c1_2] rfl (by (try simp only [List.map_toArray, List.map_cons, List.map_nil]); first | done | rfl | (simp only [List.length_drop, List.length_take]; rfl)) ?_; (with_reducible refine (laws_eqInt64S.calls k _ _ l0_2 _ _ l1_2 true _ ?side1 ?side2 ?side3 ?side4 A5.out).mono ?_); (case side1 => repeat (first | exact (Kd.C_below HR0_2.out HB.out) | (with_reducible refine Kd.C_alloc ?_ _) | (with_reducible refine Kd.C_drewN ?_ _) | (with_reducible refine Kd.C_drew ?_))); (case side2 => exact HC0_2.out); (case side3 => repeat (first | exact (Kd.C_below HR1_2.out HB.out) | (with_reducible refine Kd.C_alloc ?_ _) | (with_reducible refine Kd.C_drewN ?_ _) | (with_reducible refine Kd.C_drew ?_))); (case side4 => exact HC1_2.out); rintro e w' ⟨rfl, ⟨nd, rfl⟩⟩; refine ⟨_, rfl, ?_⟩))
         go_ret
         exact ⟨by first | rfl | (simp [errW_none, errW_some] <;> rfl) | (simp [*, errW_none, errW_some] <;> rfl), by repeat (first | (with_reducible first | exact HB.out | apply below_alloc | apply pw_below_drewN | apply below_drew1 | refine below_set ?_ GE575.out | refine below_set ?_ GE576.out) | exact HB.out)⟩
     · replace c6 := Bool.eq_false_iff.mpr c6
       subst c6
       have H1 : (some false) = some r := by rw [if_neg (show ¬ (false = true) by decide)] at H; exact H
       clear H
       have H := H1
       clear H1
       obtain rfl := Option.some.inj H
       go_enter Tryd.func96, Tryd.ntmps96
       go_wp2_with (first | ((with_reducible refine gate_dst (N := 2) rfl ?_); refine box_event ?hg (N := 2) ?hd (cs := #[.string a0_0, .int .i64 a0_1, .slice A0_2 l0_2.length c0_2, .int .i64 a0_3, .slice A0_4 l0_4.length c0_4]) (t := 149) ?hr ?_; (case hd => rfl); (case hg => rfl); (case hr => first | (go_simp; done) | (go_simp; rfl)); intro gb575 hg w27 hbox hb; have n0_ := Aside0.mk (below_step (by repeat (first | (with_reducible first | exact HB.out | apply below_alloc | apply pw_below_drewN | apply below_drew1) | exact HB.out)) hb); have n1_ := Aside0.mk (hbox); have n2_ := Aside0.mk ((by rw [hg]; exact (below_size (by repeat (first | (with_reducible first | exact HB.out | apply below_alloc | apply pw_below_drewN | apply below_drew1) | exact HB.out))) : w.heap.size ≤ gb575)); have n3_ := Aside0.mk ((by rw [hg]; exact (below_size (by repeat (first | (with_reducible first | exact HB.out | apply below_alloc | apply pw_below_drewN | apply below_drew1) | exact HB.out))) : w.heap.size ≤ gb575)); clear HB; have HB := n0_; have BK575 := n1_; have GW575 := n2_; have GE575 := n3_; clear n0_ n1_ n2_ n3_; clear hb hbox hg) | ((with_reducible refine gate_dst (N := 3) rfl ?_); refine box_event ?hg (N := 3) ?hd (cs := #[.string a1_0, .int .i64 a1_1, .slice A1_2 l1_2.length c1_2, .int .i64 a1_3, .slice A1_4 l1_4.length c1_4]) (t := 149) ?hr ?_; (case hd => rfl); (case hg => rfl); (case hr => first | (go_simp; done) | (go_simp; rfl)); intro gb576 hg w28 hbox hb; have n0_ := Aside0.mk (blk_below (g := gb575) (o := .cells #[.string a0_0, .int .i64 a0_1, .slice A0_2 l0_2.length c0_2, .int .i64 a0_3, .slice A0_4 l0_4.length c0_4] 149 (0, 0)) (by (with_reducible repeat (first | refine blk_drewN ?_ _ | refine blk_drew ?_ | refine blk_alloc ?_ _)); exact BK575.out) hb); have n1_ := Aside0.mk (below_step (by repeat (first | (with_reducible first | exact HB.out | apply below_alloc | apply pw_below_drewN | apply below_drew1 | refine below_set ?_ GE575.out) | exact HB.out)) hb); have n2_ := Aside0.mk (hbox); have n3_ := Aside0.mk ((by rw [hg]; exact (below_size (by repeat (first | (with_reducible first | exact HB.out | apply below_alloc | apply pw_below_drewN | apply below_drew1 | refine below_set ?_ GE575.out) | exact HB.out))) : w.heap.size ≤ gb576)); have n4_ := Aside0.mk ((by rw [hg]; exact (below_size (by repeat (first | (with_reducible first | exact HB.out | apply below_alloc | apply pw_below_drewN | apply below_drew1 | refine below_set ?_ GE575.out) | exact HB.out))) : w.heap.size ≤ gb576)); have n5_ := Aside0.mk ((by rw [hg]; exact Nat.ne_of_lt (blk_lt (g := gb575) (o := .cells #[.string a0_0, .int .i64 a0_1, .slice A0_2 l0_2.length c0_2, .int .i64 a0_3, .slice A0_4 l0_4.length c0_4] 149 (0, 0)) (by (with_reducible repeat (first | refine blk_drewN ?_ _ | refine blk_drew ?_ | refine blk_alloc ?_ _)); exact BK575.out)) : gb575 ≠ gb576)); have n6_ := Aside0.mk ((by rw [hg]; exact Nat.ne_of_gt (blk_lt (g := gb575) (o := .cells #[.string a0_0, .int .i64 a0_1, .slice A0_2 l0_2.length c0_2, .int .i64 a0_3, .slice A0_4 l0_4.length c0_4] 149 (0, 0)) (by (with_reducible repeat (first | refine blk_drewN ?_ _ | refine blk_drew ?_ | refine blk_alloc ?_ _)); exact BK575.out)) : gb576 ≠ gb575)); clear BK575; clear HB; have BK575 := n0_; have HB := n1_; have BK576 := n2_; have GW576 := n3_; have GE576 := n4_; have NB575_576 := n5_; have NB576_575 := n6_; clear n0_ n1_ n2_ n3_ n4_ n5_ n6_; clear hb hbox hg; have hnb29 := NB575_576.out; have hnc29 := NB576_575.out; have hcz30_0 : w28.cell? ⟨gb575, 0, none⟩ = some (.string a0_0) := (blk_cell BK575.out 0).trans rfl; have hcz30_1 : w28.cell? ⟨gb575, 1, none⟩ = some (.int .i64 a0_1) := (blk_cell BK575.out 1).trans rfl; have hcz30_2 : w28.cell? ⟨gb575, 2, none⟩ = some (.slice A0_2 l0_2.length c0_2) := (blk_cell BK575.out 2).trans rfl; have hcz30_3 : w28.cell? ⟨gb575, 3, none⟩ = some (.int .i64 a0_3) := (blk_cell BK575.out 3).trans rfl; have hcz30_4 : w28.cell? ⟨gb575, 4, none⟩ = some (.slice A0_4 l0_4.length c0_4) := (blk_cell BK575.out 4).trans rfl; have hfz30_0 := blk_frozen BK575.out 0; have hfz30_1 := blk_frozen BK575.out 1; have hfz30_2 := blk_frozen BK575.out 2; have hfz30_3 := blk_frozen BK575.out 3; have hfz30_4 := blk_frozen BK575.out 4; have hcz31_0 : w28.cell? ⟨gb576, 0, none⟩ = some (.string a1_0) := (blk_cell BK576.out 0).trans rfl; have hcz31_1 : w28.cell? ⟨gb576, 1, none⟩ = some (.int .i64 a1_1) := (blk_cell BK576.out 1).trans rfl; have hcz31_2 : w28.cell? ⟨gb576, 2, none⟩ = some (.slice A1_2 l1_2.length c1_2) := (blk_cell BK576.out 2).trans rfl; have hcz31_3 : w28.cell? ⟨gb576, 3, none⟩ = some (.int .i64 a1_3) := (blk_cell BK576.out 3).trans rfl; have hcz31_4 : w28.cell? ⟨gb576, 4, none⟩ = some (.slice A1_4 l1_4.length c1_4) := (blk_cell BK576.out 4).trans rfl; have hfz31_0 := blk_frozen BK576.out 0; have hfz31_1 := blk_frozen BK576.out 1; have hfz31_2 := blk_frozen BK576.out 2; have hfz31_3 := blk_frozen BK576.out 3; have hfz31_4 := blk_frozen BK576.out 4) | ((with_reducible refine gate_callee (f := 68) rfl ?_); refine goesL_ (some 19) rfl rfl Tryd.func68 (by kernel_rfl) rfl #[.slice A0_2 l0_2.length c0_2, .slice A1_2 l1_2.length c1_2] rfl (by (try simp only [List.map_toArray, List.map_cons, List.map_nil]); first | done | rfl | (simp only [List.length_drop, List.length_take]; rfl)) ?_; (with_reducible refine (laws_eqInt64S.calls k _ _ l0_2 _ _ l1_2 false _ ?side1 ?side2 ?side3 ?side4 A5.out).mono ?_); (case side1 => repeat (first | exact (Kd.C_below HR0_2.out HB.out) | (with_reducible refine Kd.C_alloc ?_ _) | (with_reducible refine Kd.C_drewN ?_ _) | (with_reducible refine Kd.C_drew ?_))); (case side2 => exact HC0_2.out); (case side3 => repeat (first | exact (Kd.C_below HR1_2.out HB.out) | (with_reducible refine Kd.C_alloc ?_ _) | (with_reducible refine Kd.C_drewN ?_ _) | (with_reducible refine Kd.C_drew ?_))); (case side4 => exact HC1_2.out); rintro e w' ⟨rfl, ⟨nd, rfl⟩⟩; refine ⟨_, rfl, ?_⟩))
       go_ret
       exact ⟨by first | rfl | (simp [errW_none, errW_some] <;> rfl) | (simp [*, errW_none, errW_some] <;> rfl), by repeat (first | (with_reducible first | exact HB.out | apply below_alloc | apply pw_below_drewN | apply below_drew1 | refine below_set ?_ GE575.out | refine below_set ?_ GE576.out) | exact HB.out)⟩
   · rw [if_neg c4] at H
     have c4b0 : (a0_1 == a1_1) = false := beq_eq_false_iff_ne.mpr c4
     have c4b1 : (a0_1 != a1_1) = true := bne_iff_ne.mpr c4
     obtain rfl := Option.some.inj H
     go_enter Tryd.func96, Tryd.ntmps96
     go_wp2_with (first | ((with_reducible refine gate_dst (N := 2) rfl ?_); refine box_event ?hg (N := 2) ?hd (cs := #[.string a0_0, .int .i64 a0_1, .slice A0_2 l0_2.length c0_2, .int .i64 a0_3, .slice A0_4 l0_4.length c0_4]) (t := 149) ?hr ?_; (case hd => rfl); (case hg => rfl); (case hr => first | (go_simp; done) | (go_simp; rfl)); intro gb575 hg w32 hbox hb; have n0_ := Aside0.mk (below_step (by repeat (first | (with_reducible first | exact HB.out | apply below_alloc | apply pw_below_drewN | apply below_drew1) | exact HB.out)) hb); have n1_ := Aside0.mk (hbox); have n2_ := Aside0.mk ((by rw [hg]; exact (below_size (by repeat (first | (with_reducible first | exact HB.out | apply below_alloc | apply pw_below_drewN | apply below_drew1) | exact HB.out))) : w.heap.size ≤ gb575)); have n3_ := Aside0.mk ((by rw [hg]; exact (below_size (by repeat (first | (with_reducible first | exact HB.out | apply below_alloc | apply pw_below_drewN | apply below_drew1) | exact HB.out))) : w.heap.size ≤ gb575)); clear HB; have HB := n0_; have BK575 := n1_; have GW575 := n2_; have GE575 := n3_; clear n0_ n1_ n2_ n3_; clear hb hbox hg) | ((with_reducible refine gate_dst (N := 3) rfl ?_); refine box_event ?hg (N := 3) ?hd (cs := #[.string a1_0, .int .i64 a1_1, .slice A1_2 l1_2.length c1_2, .int .i64 a1_3, .slice A1_4 l1_4.length c1_4]) (t := 149) ?hr ?_; (case hd => rfl); (case hg => rfl); (case hr => first | (go_simp; done) | (go_simp; rfl)); intro gb576 hg w33 hbox hb; have n0_ := Aside0.mk (blk_below (g := gb575) (o := .cells #[.string a0_0, .int .i64 a0_1, .slice A0_2 l0_2.length c0_2, .int .i64 a0_3, .slice A0_4 l0_4.length c0_4] 149 (0, 0)) (by (with_reducible repeat (first | refine blk_drewN ?_ _ | refine blk_drew ?_ | refine blk_alloc ?_ _)); exact BK575.out) hb); have n1_ := Aside0.mk (below_step (by repeat (first | (with_reducible first | exact HB.out | apply below_alloc | apply pw_below_drewN | apply below_drew1 | refine below_set ?_ GE575.out) | exact HB.out)) hb); have n2_ := Aside0.mk (hbox); have n3_ := Aside0.mk ((by rw [hg]; exact (below_size (by repeat (first | (with_reducible first | exact HB.out | apply below_alloc | apply pw_below_drewN | apply below_drew1 | refine below_set ?_ GE575.out) | exact HB.out))) : w.heap.size ≤ gb576)); have n4_ := Aside0.mk ((by rw [hg]; exact (below_size (by repeat (first | (with_reducible first | exact HB.out | apply below_alloc | apply pw_below_drewN | apply below_drew1 | refine below_set ?_ GE575.out) | exact HB.out))) : w.heap.size ≤ gb576)); have n5_ := Aside0.mk ((by rw [hg]; exact Nat.ne_of_lt (blk_lt (g := gb575) (o := .cells #[.string a0_0, .int .i64 a0_1, .slice A0_2 l0_2.length c0_2, .int .i64 a0_3, .slice A0_4 l0_4.length c0_4] 149 (0, 0)) (by (with_reducible repeat (first | refine blk_drewN ?_ _ | refine blk_drew ?_ | refine blk_alloc ?_ _)); exact BK575.out)) : gb575 ≠ gb576)); have n6_ := Aside0.mk ((by rw [hg]; exact Nat.ne_of_gt (blk_lt (g := gb575) (o := .cells #[.string a0_0, .int .i64 a0_1, .slice A0_2 l0_2.length c0_2, .int .i64 a0_3, .slice A0_4 l0_4.length c0_4] 149 (0, 0)) (by (with_reducible repeat (first | refine blk_drewN ?_ _ | refine blk_drew ?_ | refine blk_alloc ?_ _)); exact BK575.out)) : gb576 ≠ gb575)); clear BK575; clear HB; have BK575 := n0_; have HB := n1_; have BK576 := n2_; have GW576 := n3_; have GE576 := n4_; have NB575_576 := n5_; have NB576_575 := n6_; clear n0_ n1_ n2_ n3_ n4_ n5_ n6_; clear hb hbox hg; have hnb34 := NB575_576.out; have hnc34 := NB576_575.out; have hcz35_0 : w33.cell? ⟨gb575, 0, none⟩ = some (.string a0_0) := (blk_cell BK575.out 0).trans rfl; have hcz35_1 : w33.cell? ⟨gb575, 1, none⟩ = some (.int .i64 a0_1) := (blk_cell BK575.out 1).trans rfl; have hcz35_2 : w33.cell? ⟨gb575, 2, none⟩ = some (.slice A0_2 l0_2.length c0_2) := (blk_cell BK575.out 2).trans rfl; have hcz35_3 : w33.cell? ⟨gb575, 3, none⟩ = some (.int .i64 a0_3) := (blk_cell BK575.out 3).trans rfl; have hcz35_4 : w33.cell? ⟨gb575, 4, none⟩ = some (.slice A0_4 l0_4.length c0_4) := (blk_cell BK575.out 4).trans rfl; have hfz35_0 := blk_frozen BK575.out 0; have hfz35_1 := blk_frozen BK575.out 1; have hfz35_2 := blk_frozen BK575.out 2; have hfz35_3 := blk_frozen BK575.out 3; have hfz35_4 := blk_frozen BK575.out 4; have hcz36_0 : w33.cell? ⟨gb576, 0, none⟩ = some (.string a1_0) := (blk_cell BK576.out 0).trans rfl; have hcz36_1 : w33.cell? ⟨gb576, 1, none⟩ = some (.int .i64 a1_1) := (blk_cell BK576.out 1).trans rfl; have hcz36_2 : w33.cell? ⟨gb576, 2, none⟩ = some (.slice A1_2 l1_2.length c1_2) := (blk_cell BK576.out 2).trans rfl; have hcz36_3 : w33.cell? ⟨gb576, 3, none⟩ = some (.int .i64 a1_3) := (blk_cell BK576.out 3).trans rfl; have hcz36_4 : w33.cell? ⟨gb576, 4, none⟩ = some (.slice A1_4 l1_4.length c1_4) := (blk_cell BK576.out 4).trans rfl; have hfz36_0 := blk_frozen BK576.out 0; have hfz36_1 := blk_frozen BK576.out 1; have hfz36_2 := blk_frozen BK576.out 2; have hfz36_3 := blk_frozen BK576.out 3; have hfz36_4 := blk_frozen BK576.out 4))
     go_ret
     exact ⟨by first | rfl | (simp [errW_none, errW_some] <;> rfl) | (simp [*, errW_none, errW_some] <;> rfl), by repeat (first | (with_reducible first | exact HB.out | apply below_alloc | apply pw_below_drewN | apply below_drew1 | refine below_set ?_ GE575.out | refine below_set ?_ GE576.out) | exact HB.out)⟩
 · rw [if_neg c3] at H
   have c3b0 : (a0_0.toList == a1_0.toList) = false := beq_eq_false_iff_ne.mpr c3
   have c3b1 : (a0_0.toList != a1_0.toList) = true := bne_iff_ne.mpr c3
   obtain rfl := Option.some.inj H
   go_enter Tryd.func96, Tryd.ntmps96
   go_wp2_with (first | ((with_reducible refine gate_dst (N := 2) rfl ?_); refine box_event ?hg (N := 2) ?hd (cs := #[.string a0_0, .int .i64 a0_1, .slice A0_2 l0_2.length c0_2, .int .i64 a0_3, .slice A0_4 l0_4.length c0_4]) (t := 149) ?hr ?_; (case hd => rfl); (case hg => rfl); (case hr => first | (go_simp; done) | (go_simp; rfl)); intro gb575 hg w37 hbox hb; have n0_ := Aside0.mk (below_step (by repeat (first | (with_reducible first | exact HB.out | apply below_alloc | apply pw_below_drewN | apply below_drew1) | exact HB.out)) hb); have n1_ := Aside0.mk (hbox); have n2_ := Aside0.mk ((by rw [hg]; exact (below_size (by repeat (first | (with_reducible first | exact HB.out | apply below_alloc | apply pw_below_drewN | apply below_drew1) | exact HB.out))) : w.heap.size ≤ gb575)); have n3_ := Aside0.mk ((by rw [hg]; exact (below_size (by repeat (first | (with_reducible first | exact HB.out | apply below_alloc | apply pw_below_drewN | apply below_drew1) | exact HB.out))) : w.heap.size ≤ gb575)); clear HB; have HB := n0_; have BK575 := n1_; have GW575 := n2_; have GE575 := n3_; clear n0_ n1_ n2_ n3_; clear hb hbox hg) | ((with_reducible refine gate_dst (N := 3) rfl ?_); refine box_event ?hg (N := 3) ?hd (cs := #[.string a1_0, .int .i64 a1_1, .slice A1_2 l1_2.length c1_2, .int .i64 a1_3, .slice A1_4 l1_4.length c1_4]) (t := 149) ?hr ?_; (case hd => rfl); (case hg => rfl); (case hr => first | (go_simp; done) | (go_simp; rfl)); intro gb576 hg w38 hbox hb; have n0_ := Aside0.mk (blk_below (g := gb575) (o := .cells #[.string a0_0, .int .i64 a0_1, .slice A0_2 l0_2.length c0_2, .int .i64 a0_3, .slice A0_4 l0_4.length c0_4] 149 (0, 0)) (by (with_reducible repeat (first | refine blk_drewN ?_ _ | refine blk_drew ?_ | refine blk_alloc ?_ _)); exact BK575.out) hb); have n1_ := Aside0.mk (below_step (by repeat (first | (with_reducible first | exact HB.out | apply below_alloc | apply pw_below_drewN | apply below_drew1 | refine below_set ?_ GE575.out) | exact HB.out)) hb); have n2_ := Aside0.mk (hbox); have n3_ := Aside0.mk ((by rw [hg]; exact (below_size (by repeat (first | (with_reducible first | exact HB.out | apply below_alloc | apply pw_below_drewN | apply below_drew1 | refine below_set ?_ GE575.out) | exact HB.out))) : w.heap.size ≤ gb576)); have n4_ := Aside0.mk ((by rw [hg]; exact (below_size (by repeat (first | (with_reducible first | exact HB.out | apply below_alloc | apply pw_below_drewN | apply below_drew1 | refine below_set ?_ GE575.out) | exact HB.out))) : w.heap.size ≤ gb576)); have n5_ := Aside0.mk ((by rw [hg]; exact Nat.ne_of_lt (blk_lt (g := gb575) (o := .cells #[.string a0_0, .int .i64 a0_1, .slice A0_2 l0_2.length c0_2, .int .i64 a0_3, .slice A0_4 l0_4.length c0_4] 149 (0, 0)) (by (with_reducible repeat (first | refine blk_drewN ?_ _ | refine blk_drew ?_ | refine blk_alloc ?_ _)); exact BK575.out)) : gb575 ≠ gb576)); have n6_ := Aside0.mk ((by rw [hg]; exact Nat.ne_of_gt (blk_lt (g := gb575) (o := .cells #[.string a0_0, .int .i64 a0_1, .slice A0_2 l0_2.length c0_2, .int .i64 a0_3, .slice A0_4 l0_4.length c0_4] 149 (0, 0)) (by (with_reducible repeat (first | refine blk_drewN ?_ _ | refine blk_drew ?_ | refine blk_alloc ?_ _)); exact BK575.out)) : gb576 ≠ gb575)); clear BK575; clear HB; have BK575 := n0_; have HB := n1_; have BK576 := n2_; have GW576 := n3_; have GE576 := n4_; have NB575_576 := n5_; have NB576_575 := n6_; clear n0_ n1_ n2_ n3_ n4_ n5_ n6_; clear hb hbox hg; have hnb39 := NB575_576.out; have hnc39 := NB576_575.out; have hcz40_0 : w38.cell? ⟨gb575, 0, none⟩ = some (.string a0_0) := (blk_cell BK575.out 0).trans rfl; have hcz40_1 : w38.cell? ⟨gb575, 1, none⟩ = some (.int .i64 a0_1) := (blk_cell BK575.out 1).trans rfl; have hcz40_2 : w38.cell? ⟨gb575, 2, none⟩ = some (.slice A0_2 l0_2.length c0_2) := (blk_cell BK575.out 2).trans rfl; have hcz40_3 : w38.cell? ⟨gb575, 3, none⟩ = some (.int .i64 a0_3) := (blk_cell BK575.out 3).trans rfl; have hcz40_4 : w38.cell? ⟨gb575, 4, none⟩ = some (.slice A0_4 l0_4.length c0_4) := (blk_cell BK575.out 4).trans rfl; have hfz40_0 := blk_frozen BK575.out 0; have hfz40_1 := blk_frozen BK575.out 1; have hfz40_2 := blk_frozen BK575.out 2; have hfz40_3 := blk_frozen BK575.out 3; have hfz40_4 := blk_frozen BK575.out 4; have hcz41_0 : w38.cell? ⟨gb576, 0, none⟩ = some (.string a1_0) := (blk_cell BK576.out 0).trans rfl; have hcz41_1 : w38.cell? ⟨gb576, 1, none⟩ = some (.int .i64 a1_1) := (blk_cell BK576.out 1).trans rfl; have hcz41_2 : w38.cell? ⟨gb576, 2, none⟩ = some (.slice A1_2 l1_2.length c1_2) := (blk_cell BK576.out 2).trans rfl; have hcz41_3 : w38.cell? ⟨gb576, 3, none⟩ = some (.int .i64 a1_3) := (blk_cell BK576.out 3).trans rfl; have hcz41_4 : w38.cell? ⟨gb576, 4, none⟩ = some (.slice A1_4 l1_4.length c1_4) := (blk_cell BK576.out 4).trans rfl; have hfz41_0 := blk_frozen BK576.out 0; have hfz41_1 := blk_frozen BK576.out 1; have hfz41_2 := blk_frozen BK576.out 2; have hfz41_3 := blk_frozen BK576.out 3; have hfz41_4 := blk_frozen BK576.out 4))
   go_ret
   exact ⟨by first | rfl | (simp [errW_none, errW_some] <;> rfl) | (simp [*, errW_none, errW_some] <;> rfl), by repeat (first | (with_reducible first | exact HB.out | apply below_alloc | apply pw_below_drewN | apply below_drew1 | refine below_set ?_ GE575.out | refine below_set ?_ GE576.out) | exact HB.out)⟩

end Go.Proofs.YtkohjiajbdkcbaaDoor.All


namespace Go.Proofs.YtkohjiajbdkcbaaDoor.All
open Go.RowKit Go.Proofs.YtkohjiajbdkcbaaDoorW.PrintWords Go.Proofs.YtkohjiajbdkcbaaDoorW.PrintLast Go.Proofs.YtkohjiajbdkcbaaDoorW.PrintMore
attribute [local go_sem] max2_int min2_int max_two min_two max_three min_three max_four min_four   -- for this text's walks alone
set_option linter.unusedVariables false
set_option linter.unusedSimpArgs false

/-! ### laws_eqFuncS: function 75 -/
def laws_eqFuncS.l0 : Nat → List (S149) → List (S149) → Int → Option (Bool)
 | 0, _, _, _ => none
 | k + 1, x0, x1, x5 => if x5 < (x0.length : Int) then (if 0 ≤ x5 then (if x5 < (x1.length : Int) then ((laws_eqFunc.f k ((rd_T149 x0 x5).f0) ((rd_T149 x0 x5).f1) ((rd_T149 x0 x5).f2) ((rd_T149 x0 x5).f3) ((rd_T149 x0 x5).f4) ((rd_T149 x1 x5).f0) ((rd_T149 x1 x5).f1) ((rd_T149 x1 x5).f2) ((rd_T149 x1 x5).f3) ((rd_T149 x1 x5).f4)).bind fun t581 => (if t581 = true then (laws_eqFuncS.l0 k x0 x1 (wrap64 (x5 + 1))) else (some false))) else (none)) else (none)) else (some true)
def laws_eqFuncS.f (k : Nat) (l0 : List (S149)) (l1 : List (S149)) : Option (Bool) := if (l0.length : Int) = (l1.length : Int) then (laws_eqFuncS.l0 k l0 l1 0) else (some false)
def laws_eqFuncS.T6 : Bool × List (List Nat × List Nat) := (true, [([], []), ([], []), ([0, 1], [0, 1]), ([2], [2]), ([], []), ([], []), ([4, 5], [4, 5]), ([6], [6]), ([3, 7], [3, 7]), ([8], [8])])
def laws_eqFuncS.B6 : List Nat := [0, 0, 3, 7, 0, 0, 48, 112, 255, 511]
theorem laws_eqFuncS.tab6 : rtab .any (opsOf Tryd.f75 6) = laws_eqFuncS.T6 := by kernel_rfl
theorem laws_eqFuncS.bits6 : waitsOk laws_eqFuncS.T6.2 laws_eqFuncS.B6 = true := by kernel_rfl
set_option maxHeartbeats 8000000 in
set_option maxRecDepth 100000 in
theorem laws_eqFuncS.calls (k : Nat) (A0 : Option Addr) (c0 : Nat) (l0 : List (S149)) (A1 : Option Addr) (c1 : Nat) (l1 : List (S149)) (r : Bool) (w : World) (hr0 : Kd.C k149 w A0 l0.length l0) (hc0 : l0.length ≤ c0) (hr1 : Kd.C k149 w A1 l1.length l1) (hc1 : l1.length ≤ c1) (h : laws_eqFuncS.f k l0 l1 = some r) :
 Calls Tryd.prog 75 #[.slice A0 l0.length c0, .slice A1 l1.length c1] w fun e w' => e = .returned (.bool r) ∧ Below w.heap.size w w' := by
 have hu149 := Tryd.underlying149
 have HR0 := Aside0.mk hr0
 have HC0 := Aside0.mk hc0
 clear hr0 hc0
 have HR1 := Aside0.mk hr1
 have HC1 := Aside0.mk hc1
 clear hr1 hc1
 have HB := Aside0.mk (Below.refl w.heap.size w)
 have H : (if (l0.length : Int) = (l1.length : Int) then (laws_eqFuncS.l0 k l0 l1 0) else (some false)) = some r := h
 clear h
 by_cases c3 : (l0.length : Int) = (l1.length : Int)
 · rw [if_pos c3] at H
   have c3b0 : ((l0.length : Int) == (l1.length : Int)) = true := beq_iff_eq.mpr c3
   have c3b1 : ((l0.length : Int) != (l1.length : Int)) = false := bne_eq_false_iff_eq.mpr c3
   have c3b2 : (l0.length == l1.length) = true := by first | simpa using c3 | (simp at c3 ⊢; omega)
   clear c3
   have H' := Aside0.mk H
   clear H
   go_enter Tryd.func75, Tryd.ntmps75
   go_wp2
   go_loopg [5] k (fun kq v5 w' => ∃ (x5_1 : Int), v5 = .int .i64 x5_1 ∧ Aside0 (laws_eqFuncS.l0 kq l0 l1 x5_1 = some r) ∧ Aside0 (kq ≤ k) ∧ Aside0 (Below w.heap.size w w'))
   case atStart => exact ⟨(0), (by first | rfl | (simp; done) | (simp [*]; done)), H', ⟨Nat.le_refl _⟩, ⟨by repeat (first | (with_reducible first | exact HB.out | apply below_alloc | apply pw_below_drewN | apply below_drew1) | exact HB.out)⟩⟩
   case round =>
    clear H'
    try clear c1
    try clear p2
    try clear c3
    try clear c3b0
    try clear c3b1
    try clear c3b2
    obtain ⟨x5_1, rfl, HA, HK1, HB⟩ := hrel
    cases gk with
    | zero => exact absurd HA.out (by simp [laws_eqFuncS.l0])
    | succ k1 =>
     have H := HA.out
     clear HA
     simp only [laws_eqFuncS.l0] at H
     by_cases c4 : x5_1 < (l0.length : Int)
     · rw [if_pos c4] at H
       have c4b0 : decide (x5_1 < (l0.length : Int)) = true := decide_eq_true c4
       clear c4
       by_cases c5 : 0 ≤ x5_1
       · rw [if_pos c5] at H
         have c5b0 : decide (0 ≤ x5_1) = true := decide_eq_true c5
         clear c5
         by_cases c6 : x5_1 < (l1.length : Int)
         · rw [if_pos c6] at H
           have c6b0 : decide (x5_1 < (l1.length : Int)) = true := decide_eq_true c6
           clear c6
           replace H := Option.bind_eq_some_iff.mp H
           obtain ⟨t581, A70, H⟩ := H
           replace H : (if t581 = true then (laws_eqFuncS.l0 k1 l0 l1 (wrap64 (x5_1 + 1))) else (some false)) = some r := H
           have A7 := Aside0.mk A70
           clear A70
           by_cases c8 : t581 = true
           · subst c8
             have H1 : (laws_eqFuncS.l0 k1 l0 l1 (wrap64 (x5_1 + 1))) = some r := by rw [if_pos rfl] at H; exact H
             clear H
             have H := H1
             clear H1
             have H' := Aside0.mk H
             clear H
             try go_wp2
             have n0_ := Aside0.mk (below_drew1 HB.out)
             clear HB
             have HB := n0_
             clear n0_
             have p579 : 0 ≤ (x5_1 : Int) := of_decide_eq_true (by first | (with_reducible assumption) | assumption)
             have q579 : x5_1 < (l0.length : Int) := of_decide_eq_true (by first | (with_reducible assumption) | assumption)
             obtain ⟨ad579, A579_2, c579_2, A579_4, c579_4, e579, hx579_0, hx579_1, hx579_2, hx579_3, hx579_4, hl579_2, hi579_2, hl579_4, hi579_4⟩ := at_T149 HR0.out x5_1 p579 q579
             have hw579_4 := hx579_4
             have hw579_3 := hx579_3
             have hw579_2 := hx579_2
             have hw579_1 := hx579_1
             have hw579_0 := hx579_0
             cases e579
             replace hx579_0 := (HB.out.cell (World.block_lt_of_cell? w _ hx579_0)).trans hx579_0
             replace hx579_1 := (HB.out.cell (World.block_lt_of_cell? w _ hx579_1)).trans hx579_1
             replace hx579_2 := (HB.out.cell (World.block_lt_of_cell? w _ hx579_2)).trans hx579_2
             replace hx579_3 := (HB.out.cell (World.block_lt_of_cell? w _ hx579_3)).trans hx579_3
             replace hx579_4 := (HB.out.cell (World.block_lt_of_cell? w _ hx579_4)).trans hx579_4
             have HR579_2 := Aside0.mk hi579_2
             have HC579_2 := Aside0.mk hl579_2
             clear hi579_2 hl579_2
             have HR579_4 := Aside0.mk hi579_4
             have HC579_4 := Aside0.mk hl579_4
             clear hi579_4 hl579_4
             replace p579 := eq_true p579
             replace q579 := eq_true q579
             have p580 : 0 ≤ (x5_1 : Int) := of_decide_eq_true (by first | (with_reducible assumption) | assumption)
             have q580 : x5_1 < (l1.length : Int) := of_decide_eq_true (by first | (with_reducible assumption) | assumption)
             obtain ⟨ad580, A580_2, c580_2, A580_4, c580_4, e580, hx580_0, hx580_1, hx580_2, hx580_3, hx580_4, hl580_2, hi580_2, hl580_4, hi580_4⟩ := at_T149 HR1.out x5_1 p580 q580
             have hw580_4 := hx580_4
             have hw580_3 := hx580_3
             have hw580_2 := hx580_2
             have hw580_1 := hx580_1
             have hw580_0 := hx580_0
             cases e580
             replace hx580_0 := (HB.out.cell (World.block_lt_of_cell? w _ hx580_0)).trans hx580_0
             replace hx580_1 := (HB.out.cell (World.block_lt_of_cell? w _ hx580_1)).trans hx580_1
             replace hx580_2 := (HB.out.cell (World.block_lt_of_cell? w _ hx580_2)).trans hx580_2
             replace hx580_3 := (HB.out.cell (World.block_lt_of_cell? w _ hx580_3)).trans hx580_3
             replace hx580_4 := (HB.out.cell (World.block_lt_of_cell? w _ hx580_4)).trans hx580_4
             have HR580_2 := Aside0.mk hi580_2
             have HC580_2 := Aside0.mk hl580_2
             clear hi580_2 hl580_2
             have HR580_4 := Aside0.mk hi580_4
             have HC580_4 := Aside0.mk hl580_4
             clear hi580_4 hl580_4
             replace p580 := eq_true p580
             replace q580 := eq_true q580
             refine start_ (n := 10) (S := fun w' => w'.cell? (ad579.add ((x5_1).toNat * 5)) = some (.string ((rd_T149 l0 x5_1).f0)) ∧ w'.cell? ⟨(ad579.add ((x5_1).toNat * 5)).block, (ad579.add ((x5_1).toNat * 5)).off + 1, none⟩ = some (.int .i64 ((rd_T149 l0 x5_1).f1)) ∧ w'.cell? ⟨(ad579.add ((x5_1).toNat * 5)).block, (ad579.add ((x5_1).toNat * 5)).off + 2, none⟩ = some (.slice A579_2 ((rd_T149 l0 x5_1).f2).length c579_2) ∧ w'.cell? ⟨(ad579.add ((x5_1).toNat * 5)).block, (ad579.add ((x5_1).toNat * 5)).off + 3, none⟩ = some (.int .i64 ((rd_T149 l0 x5_1).f3)) ∧ w'.cell? ⟨(ad579.add ((x5_1).toNat * 5)).block, (ad579.add ((x5_1).toNat * 5)).off + 4, none⟩ = some (.slice A579_4 ((rd_T149 l0 x5_1).f4).length c579_4) ∧ w'.cell? (ad580.add ((x5_1).toNat * 5)) = some (.string ((rd_T149 l1 x5_1).f0)) ∧ w'.cell? ⟨(ad580.add ((x5_1).toNat * 5)).block, (ad580.add ((x5_1).toNat * 5)).off + 1, none⟩ = some (.int .i64 ((rd_T149 l1 x5_1).f1)) ∧ w'.cell? ⟨(ad580.add ((x5_1).toNat * 5)).block, (ad580.add ((x5_1).toNat * 5)).off + 2, none⟩ = some (.slice A580_2 ((rd_T149 l1 x5_1).f2).length c580_2) ∧ w'.cell? ⟨(ad580.add ((x5_1).toNat * 5)).block, (ad580.add ((x5_1).toNat * 5)).off + 3, none⟩ = some (.int .i64 ((rd_T149 l1 x5_1).f3)) ∧ w'.cell? ⟨(ad580.add ((x5_1).toNat * 5)).block, (ad580.add ((x5_1).toNat * 5)).off + 4, none⟩ = some (.slice A580_4 ((rd_T149 l1 x5_1).f4).length c580_4)) (ds := []) #[false, false, false, false, false, false, false, false, false, false] (by kernel_rfl) rfl rfl ⟨((HB.out.cell (World.block_lt_of_cell? w _ hw579_0)).trans hw579_0), ((HB.out.cell (World.block_lt_of_cell? w _ hw579_1)).trans hw579_1), ((HB.out.cell (World.block_lt_of_cell? w _ hw579_2)).trans hw579_2), ((HB.out.cell (World.block_lt_of_cell? w _ hw579_3)).trans hw579_3), ((HB.out.cell (World.block_lt_of_cell? w _ hw579_4)).trans hw579_4), ((HB.out.cell (World.block_lt_of_cell? w _ hw580_0)).trans hw580_0), ((HB.out.cell (World.block_lt_of_cell? w _ hw580_1)).trans hw580_1), ((HB.out.cell (World.block_lt_of_cell? w _ hw580_2)).trans hw580_2), ((HB.out.cell (World.block_lt_of_cell? w _ hw580_3)).trans hw580_3), ((HB.out.cell (World.block_lt_of_cell? w _ hw580_4)).trans hw580_4)⟩ (fun hHeld => ?_); refine with_tabW laws_eqFuncS.tab6 laws_eqFuncS.bits6 (fun HT_ HW_ => ?_)
             generalize wr.drew = w9 at HB HR579_2 HR579_4 HR580_2 HR580_4 hx579_0 hx579_1 hx579_2 hx579_3 hx579_4 hx580_0 hx580_1 hx580_2 hx580_3 hx580_4 hHeld ⊢
             refine pure_ (i := 0) (N := some 17) (v := ?_) (a' := ?_) #[true, false, false, false, false, false, false, false, false, false] rfl rfl (any_of HT_.out (by kernel_rfl)) (fun _ _ _ h => h) (Or.inl ⟨by rfl, ?_⟩) ?_ ?_
             rotate_left
             · intro w'
               go_simp
               with_reducible rfl
             rotate_left
             · simp only [Act.put, List.setIfInBounds_toArray, List.set_cons_zero, List.set_cons_succ, i64_w, i32_w]
               rfl
             refine pure_ (i := 1) (N := some 18) (v := ?_) (a' := ?_) #[true, true, false, false, false, false, false, false, false, false] rfl rfl (any_of HT_.out (by kernel_rfl)) (fun _ _ _ h => h) (Or.inl ⟨by rfl, ?_⟩) ?_ ?_
             rotate_left
             · intro w'
               go_simp
               with_reducible rfl
             rotate_left
             · simp only [Act.put, List.setIfInBounds_toArray, List.set_cons_zero, List.set_cons_succ, i64_w, i32_w]
               rfl
             refine pure_ (i := 2) (N := some 19) (v := ?_) (a' := ?_) #[true, true, true, false, false, false, false, false, false, false] rfl rfl (any_of HT_.out (by kernel_rfl)) (fun _ _ _ h => h) (Or.inl ⟨by rfl, ?_⟩) ?_ ?_
             rotate_left
             · intro w'
               go_simp
               with_reducible rfl
             rotate_left
             · simp only [Act.put, List.setIfInBounds_toArray, List.set_cons_zero, List.set_cons_succ, i64_w, i32_w]
               rfl
             refine pure_ (i := 4) (N := some 21) (v := ?_) (a' := ?_) #[true, true, true, false, true, false, false, false, false, false] rfl rfl (any_of HT_.out (by kernel_rfl)) (fun _ _ _ h => h) (Or.inl ⟨by rfl, ?_⟩) ?_ ?_
             rotate_left
             · intro w'
               go_simp
               with_reducible rfl
             rotate_left
             · simp only [Act.put, List.setIfInBounds_toArray, List.set_cons_zero, List.set_cons_succ, i64_w, i32_w]
               rfl
             refine pure_ (i := 5) (N := some 22) (v := ?_) (a' := ?_) #[true, true, true, false, true, true, false, false, false, false] rfl rfl (any_of HT_.out (by kernel_rfl)) (fun _ _ _ h => h) (Or.inl ⟨by rfl, ?_⟩) ?_ ?_
             rotate_left
             · intro w'
               go_simp
               with_reducible rfl
             rotate_left
             · simp only [Act.put, List.setIfInBounds_toArray, List.set_cons_zero, List.set_cons_succ, i64_w, i32_w]
               rfl
             refine pure_ (i := 6) (N := some 23) (v := ?_) (a' := ?_) #[true, true, true, false, true, true, true, false, false, false] rfl rfl (any_of HT_.out (by kernel_rfl)) (fun _ _ _ h => h) (Or.inl ⟨by rfl, ?_⟩) ?_ ?_
             rotate_left
             · intro w'
               go_simp
               with_reducible rfl
             rotate_left
             · simp only [Act.put, List.setIfInBounds_toArray, List.set_cons_zero, List.set_cons_succ, i64_w, i32_w]
               rfl
             refine take_ (i := 3) (N := some 20) (v := ?_) (a' := ?_) #[true, true, true, true, true, true, true, false, false, false] rfl rfl (take_ofW HT_.out HW_.out (by kernel_rfl)) (fun _ _ _ h => h) (Or.inl ⟨by rfl, ?_⟩) hHeld ?_ ?_
             rotate_left
             · rintro w' ⟨s0, s1, s2, s3, s4, s5, s6, s7, s8, s9⟩
               go_simp
               with_reducible rfl
             rotate_left
             · simp only [Act.put, List.setIfInBounds_toArray, List.set_cons_zero, List.set_cons_succ, i64_w, i32_w]
               rfl
             refine take_ (i := 7) (N := some 24) (v := ?_) (a' := ?_) #[true, true, true, true, true, true, true, true, false, false] rfl rfl (take_ofW HT_.out HW_.out (by kernel_rfl)) (fun _ _ _ h => h) (Or.inl ⟨by rfl, ?_⟩) hHeld ?_ ?_
             rotate_left
             · rintro w' ⟨s0, s1, s2, s3, s4, s5, s6, s7, s8, s9⟩
               go_simp
               with_reducible rfl
             rotate_left
             · simp only [Act.put, List.setIfInBounds_toArray, List.set_cons_zero, List.set_cons_succ, i64_w, i32_w]
               rfl
             refine one_ (i := 8) (N := some 25) #[true, true, true, true, true, true, true, true, true, false] rfl rfl (one_of HT_.out (by kernel_rfl)) (by decide) (fun K hK => ?_)
             refine goes_ Tryd.func96 (by kernel_rfl) rfl #[.agg #[.string ((rd_T149 l0 x5_1).f0), .int .i64 ((rd_T149 l0 x5_1).f1), .slice A579_2 ((rd_T149 l0 x5_1).f2).length c579_2, .int .i64 ((rd_T149 l0 x5_1).f3), .slice A579_4 ((rd_T149 l0 x5_1).f4).length c579_4], .agg #[.string ((rd_T149 l1 x5_1).f0), .int .i64 ((rd_T149 l1 x5_1).f1), .slice A580_2 ((rd_T149 l1 x5_1).f2).length c580_2, .int .i64 ((rd_T149 l1 x5_1).f3), .slice A580_4 ((rd_T149 l1 x5_1).f4).length c580_4]] (by rfl) rfl rfl (by (try simp only [List.map_toArray, List.map_cons, List.map_nil]); first | done | rfl | (simp only [List.length_drop, List.length_take]; rfl)) ?_
             with_reducible refine (laws_eqFunc.calls k1 ((rd_T149 l0 x5_1).f0) ((rd_T149 l0 x5_1).f1) _ _ ((rd_T149 l0 x5_1).f2) ((rd_T149 l0 x5_1).f3) _ _ ((rd_T149 l0 x5_1).f4) ((rd_T149 l1 x5_1).f0) ((rd_T149 l1 x5_1).f1) _ _ ((rd_T149 l1 x5_1).f2) ((rd_T149 l1 x5_1).f3) _ _ ((rd_T149 l1 x5_1).f4) true _ ?side1 ?side2 ?side3 ?side4 ?side5 ?side6 ?side7 ?side8 A7.out).mono ?_
             (case side1 => repeat (first | exact (Kd.C_below HR579_2.out HB.out) | (with_reducible refine Kd.C_alloc ?_ _) | (with_reducible refine Kd.C_drewN ?_ _) | (with_reducible refine Kd.C_drew ?_)))
             (case side2 => exact HC579_2.out)
             (case side3 => repeat (first | exact (Kd.C_below HR579_4.out HB.out) | (with_reducible refine Kd.C_alloc ?_ _) | (with_reducible refine Kd.C_drewN ?_ _) | (with_reducible refine Kd.C_drew ?_)))
             (case side4 => exact HC579_4.out)
             (case side5 => repeat (first | exact (Kd.C_below HR580_2.out HB.out) | (with_reducible refine Kd.C_alloc ?_ _) | (with_reducible refine Kd.C_drewN ?_ _) | (with_reducible refine Kd.C_drew ?_)))
             (case side6 => exact HC580_2.out)
             (case side7 => repeat (first | exact (Kd.C_below HR580_4.out HB.out) | (with_reducible refine Kd.C_alloc ?_ _) | (with_reducible refine Kd.C_drewN ?_ _) | (with_reducible refine Kd.C_drew ?_)))
             (case side8 => exact HC580_4.out)
             rintro e w10 ⟨rfl, hb⟩
             refine ⟨_, rfl, ?_⟩
             have n0_ := Aside0.mk (below_step (by repeat (first | (with_reducible first | exact HB.out | apply below_alloc | apply pw_below_drewN | apply below_drew1) | exact HB.out)) hb)
             clear HB
             have HB := n0_
             clear n0_
             (try clear hb)
             (try clear hb2)
             (try clear hk)
             (try clear hi)
             refine hK.out _ _ ⟨((HB.out.cell (World.block_lt_of_cell? w _ hw579_0)).trans hw579_0), ((HB.out.cell (World.block_lt_of_cell? w _ hw579_1)).trans hw579_1), ((HB.out.cell (World.block_lt_of_cell? w _ hw579_2)).trans hw579_2), ((HB.out.cell (World.block_lt_of_cell? w _ hw579_3)).trans hw579_3), ((HB.out.cell (World.block_lt_of_cell? w _ hw579_4)).trans hw579_4), ((HB.out.cell (World.block_lt_of_cell? w _ hw580_0)).trans hw580_0), ((HB.out.cell (World.block_lt_of_cell? w _ hw580_1)).trans hw580_1), ((HB.out.cell (World.block_lt_of_cell? w _ hw580_2)).trans hw580_2), ((HB.out.cell (World.block_lt_of_cell? w _ hw580_3)).trans hw580_3), ((HB.out.cell (World.block_lt_of_cell? w _ hw580_4)).trans hw580_4)⟩ (fun hHeld => ?_)
             clear hK K
             refine norm_ (a' := ?_) ?_ ?_
             rotate_left
             · show Act.put _ (some 25) _ = _
               simp only [Act.put, List.setIfInBounds_toArray, List.set_cons_zero, List.set_cons_succ, i64_w, i32_w]
               rfl
             refine pure_ (i := 9) (N := some 26) (v := ?_) (a' := ?_) #[true, true, true, true, true, true, true, true, true, true] rfl rfl (any_of HT_.out (by kernel_rfl)) (fun _ _ _ h => h) (Or.inl ⟨by rfl, ?_⟩) ?_ ?_
             rotate_left
             · intro w'
               go_simp
               with_reducible rfl
             rotate_left
             · simp only [Act.put, List.setIfInBounds_toArray, List.set_cons_zero, List.set_cons_succ, i64_w, i32_w]
               rfl
             refine done_ (done_of HT_.out (by kernel_rfl)) ?_
             try go_wp2
             go_roundg k1
             case measure => have := HK1.out; omega
             case rel => exact ⟨(wrap64 (x5_1 + 1)), (by first | rfl | (simp; done) | (simp [*]; done)), H', ⟨by have := HK1.out; omega⟩, ⟨by repeat (first | (with_reducible first | exact HB.out | apply below_alloc | apply pw_below_drewN | apply below_drew1) | exact HB.out)⟩⟩
           · replace c8 := Bool.eq_false_iff.mpr c8
             subst c8
             have H1 : (some false) = some r := by rw [if_neg (show ¬ (false = true) by decide)] at H; exact H
             clear H
             have H := H1
             clear H1
             obtain rfl := Option.some.inj H
             try go_wp2
             have n0_ := Aside0.mk (below_drew1 HB.out)
             clear HB
             have HB := n0_
             clear n0_
             have p579 : 0 ≤ (x5_1 : Int) := of_decide_eq_true (by first | (with_reducible assumption) | assumption)
             have q579 : x5_1 < (l0.length : Int) := of_decide_eq_true (by first | (with_reducible assumption) | assumption)
             obtain ⟨ad579, A579_2, c579_2, A579_4, c579_4, e579, hx579_0, hx579_1, hx579_2, hx579_3, hx579_4, hl579_2, hi579_2, hl579_4, hi579_4⟩ := at_T149 HR0.out x5_1 p579 q579
             have hw579_4 := hx579_4
             have hw579_3 := hx579_3
             have hw579_2 := hx579_2
             have hw579_1 := hx579_1
             have hw579_0 := hx579_0
             cases e579
             replace hx579_0 := (HB.out.cell (World.block_lt_of_cell? w _ hx579_0)).trans hx579_0
             replace hx579_1 := (HB.out.cell (World.block_lt_of_cell? w _ hx579_1)).trans hx579_1
             replace hx579_2 := (HB.out.cell (World.block_lt_of_cell? w _ hx579_2)).trans hx579_2
             replace hx579_3 := (HB.out.cell (World.block_lt_of_cell? w _ hx579_3)).trans hx579_3
             replace hx579_4 := (HB.out.cell (World.block_lt_of_cell? w _ hx579_4)).trans hx579_4
             have HR579_2 := Aside0.mk hi579_2
             have HC579_2 := Aside0.mk hl579_2
             clear hi579_2 hl579_2
             have HR579_4 := Aside0.mk hi579_4
             have HC579_4 := Aside0.mk hl579_4
             clear hi579_4 hl579_4
             replace p579 := eq_true p579
             replace q579 := eq_true q579
             have p580 : 0 ≤ (x5_1 : Int) := of_decide_eq_true (by first | (with_reducible assumption) | assumption)
             have q580 : x5_1 < (l1.length : Int) := of_decide_eq_true (by first | (with_reducible assumption) | assumption)
             obtain ⟨ad580, A580_2, c580_2, A580_4, c580_4, e580, hx580_0, hx580_1, hx580_2, hx580_3, hx580_4, hl580_2, hi580_2, hl580_4, hi580_4⟩ := at_T149 HR1.out x5_1 p580 q580
             have hw580_4 := hx580_4
             have hw580_3 := hx580_3
             have hw580_2 := hx580_2
             have hw580_1 := hx580_1
             have hw580_0 := hx580_0
             cases e580
             replace hx580_0 := (HB.out.cell (World.block_lt_of_cell? w _ hx580_0)).trans hx580_0
             replace hx580_1 := (HB.out.cell (World.block_lt_of_cell? w _ hx580_1)).trans hx580_1
             replace hx580_2 := (HB.out.cell (World.block_lt_of_cell? w _ hx580_2)).trans hx580_2
             replace hx580_3 := (HB.out.cell (World.block_lt_of_cell? w _ hx580_3)).trans hx580_3
             replace hx580_4 := (HB.out.cell (World.block_lt_of_cell? w _ hx580_4)).trans hx580_4
             have HR580_2 := Aside0.mk hi580_2
             have HC580_2 := Aside0.mk hl580_2
             clear hi580_2 hl580_2
             have HR580_4 := Aside0.mk hi580_4
             have HC580_4 := Aside0.mk hl580_4
             clear hi580_4 hl580_4
             replace p580 := eq_true p580
             replace q580 := eq_true q580
             refine start_ (n := 10) (S := fun w' => w'.cell? (ad579.add ((x5_1).toNat * 5)) = some (.string ((rd_T149 l0 x5_1).f0)) ∧ w'.cell? ⟨(ad579.add ((x5_1).toNat * 5)).block, (ad579.add ((x5_1).toNat * 5)).off + 1, none⟩ = some (.int .i64 ((rd_T149 l0 x5_1).f1)) ∧ w'.cell? ⟨(ad579.add ((x5_1).toNat * 5)).block, (ad579.add ((x5_1).toNat * 5)).off + 2, none⟩ = some (.slice A579_2 ((rd_T149 l0 x5_1).f2).length c579_2) ∧ w'.cell? ⟨(ad579.add ((x5_1).toNat * 5)).block, (ad579.add ((x5_1).toNat * 5)).off + 3, none⟩ = some (.int .i64 ((rd_T149 l0 x5_1).f3)) ∧ w'.cell? ⟨(ad579.add ((x5_1).toNat * 5)).block, (ad579.add ((x5_1).toNat * 5)).off + 4, none⟩ = some (.slice A579_4 ((rd_T149 l0 x5_1).f4).length c579_4) ∧ w'.cell? (ad580.add ((x5_1).toNat * 5)) = some (.string ((rd_T149 l1 x5_1).f0)) ∧ w'.cell? ⟨(ad580.add ((x5_1).toNat * 5)).block, (ad580.add ((x5_1).toNat * 5)).off + 1, none⟩ = some (.int .i64 ((rd_T149 l1 x5_1).f1)) ∧ w'.cell? ⟨(ad580.add ((x5_1).toNat * 5)).block, (ad580.add ((x5_1).toNat * 5)).off + 2, none⟩ = some (.slice A580_2 ((rd_T149 l1 x5_1).f2).length c580_2) ∧ w'.cell? ⟨(ad580.add ((x5_1).toNat * 5)).block, (ad580.add ((x5_1).toNat * 5)).off + 3, none⟩ = some (.int .i64 ((rd_T149 l1 x5_1).f3)) ∧ w'.cell? ⟨(ad580.add ((x5_1).toNat * 5)).block, (ad580.add ((x5_1).toNat * 5)).off + 4, none⟩ = some (.slice A580_4 ((rd_T149 l1 x5_1).f4).length c580_4)) (ds := []) #[false, false, false, false, false, false, false, false, false, false] (by kernel_rfl) rfl rfl ⟨((HB.out.cell (World.block_lt_of_cell? w _ hw579_0)).trans hw579_0), ((HB.out.cell (World.block_lt_of_cell? w _ hw579_1)).trans hw579_1), ((HB.out.cell (World.block_lt_of_cell? w _ hw579_2)).trans hw579_2), ((HB.out.cell (World.block_lt_of_cell? w _ hw579_3)).trans hw579_3), ((HB.out.cell (World.block_lt_of_cell? w _ hw579_4)).trans hw579_4), ((HB.out.cell (World.block_lt_of_cell? w _ hw580_0)).trans hw580_0), ((HB.out.cell (World.block_lt_of_cell? w _ hw580_1)).trans hw580_1), ((HB.out.cell (World.block_lt_of_cell? w _ hw580_2)).trans hw580_2), ((HB.out.cell (World.block_lt_of_cell? w _ hw580_3)).trans hw580_3), ((HB.out.cell (World.block_lt_of_cell? w _ hw580_4)).trans hw580_4)⟩ (fun hHeld => ?_); refine with_tabW laws_eqFuncS.tab6 laws_eqFuncS.bits6 (fun HT_ HW_ => ?_)
             generalize wr.drew = w11 at HB HR579_2 HR579_4 HR580_2 HR580_4 hx579_0 hx579_1 hx579_2 hx579_3 hx579_4 hx580_0 hx580_1 hx580_2 hx580_3 hx580_4 hHeld ⊢
             refine pure_ (i := 0) (N := some 17) (v := ?_) (a' := ?_) #[true, false, false, false, false, false, false, false, false, false] rfl rfl (any_of HT_.out (by kernel_rfl)) (fun _ _ _ h => h) (Or.inl ⟨by rfl, ?_⟩) ?_ ?_
             rotate_left
             · intro w'
               go_simp
               with_reducible rfl
             rotate_left
             · simp only [Act.put, List.setIfInBounds_toArray, List.set_cons_zero, List.set_cons_succ, i64_w, i32_w]
               rfl
             refine pure_ (i := 1) (N := some 18) (v := ?_) (a' := ?_) #[true, true, false, false, false, false, false, false, false, false] rfl rfl (any_of HT_.out (by kernel_rfl)) (fun _ _ _ h => h) (Or.inl ⟨by rfl, ?_⟩) ?_ ?_
             rotate_left
             · intro w'
               go_simp
               with_reducible rfl
             rotate_left
             · simp only [Act.put, List.setIfInBounds_toArray, List.set_cons_zero, List.set_cons_succ, i64_w, i32_w]
               rfl
             refine pure_ (i := 2) (N := some 19) (v := ?_) (a' := ?_) #[true, true, true, false, false, false, false, false, false, false] rfl rfl (any_of HT_.out (by kernel_rfl)) (fun _ _ _ h => h) (Or.inl ⟨by rfl, ?_⟩) ?_ ?_
             rotate_left
             · intro w'
               go_simp
               with_reducible rfl
             rotate_left
             · simp only [Act.put, List.setIfInBounds_toArray, List.set_cons_zero, List.set_cons_succ, i64_w, i32_w]
               rfl
             refine pure_ (i := 4) (N := some 21) (v := ?_) (a' := ?_) #[true, true, true, false, true, false, false, false, false, false] rfl rfl (any_of HT_.out (by kernel_rfl)) (fun _ _ _ h => h) (Or.inl ⟨by rfl, ?_⟩) ?_ ?_
             rotate_left
             · intro w'
               go_simp
               with_reducible rfl
             rotate_left
             · simp only [Act.put, List.setIfInBounds_toArray, List.set_cons_zero, List.set_cons_succ, i64_w, i32_w]
               rfl
             refine pure_ (i := 5) (N := some 22) (v := ?_) (a' := ?_) #[true, true, true, false, true, true, false, false, false, false] rfl rfl (any_of HT_.out (by kernel_rfl)) (fun _ _ _ h => h) (Or.inl ⟨by rfl, ?_⟩) ?_ ?_
             rotate_left
             · intro w'
               go_simp
               with_reducible rfl
             rotate_left
             · simp only [Act.put, List.setIfInBounds_toArray, List.set_cons_zero, List.set_cons_succ, i64_w, i32_w]
               rfl
             refine pure_ (i := 6) (N := some 23) (v := ?_) (a' := ?_) #[true, true, true, false, true, true, true, false, false, false] rfl rfl (any_of HT_.out (by kernel_rfl)) (fun _ _ _ h => h) (Or.inl ⟨by rfl, ?_⟩) ?_ ?_
             rotate_left
             · intro w'
               go_simp
               with_reducible rfl
             rotate_left
             · simp only [Act.put, List.setIfInBounds_toArray, List.set_cons_zero, List.set_cons_succ, i64_w, i32_w]
               rfl
             refine take_ (i := 3) (N := some 20) (v := ?_) (a' := ?_) #[true, true, true, true, true, true, true, false, false, false] rfl rfl (take_ofW HT_.out HW_.out (by kernel_rfl)) (fun _ _ _ h => h) (Or.inl ⟨by rfl, ?_⟩) hHeld ?_ ?_
             rotate_left
             · rintro w' ⟨s0, s1, s2, s3, s4, s5, s6, s7, s8, s9⟩
               go_simp
               with_reducible rfl
             rotate_left
             · simp only [Act.put, List.setIfInBounds_toArray, List.set_cons_zero, List.set_cons_succ, i64_w, i32_w]
               rfl
             refine take_ (i := 7) (N := some 24) (v := ?_) (a' := ?_) #[true, true, true, true, true, true, true, true, false, false] rfl rfl (take_ofW HT_.out HW_.out (by kernel_rfl)) (fun _ _ _ h => h) (Or.inl ⟨by rfl, ?_⟩) hHeld ?_ ?_
             rotate_left
             · rintro w' ⟨s0, s1, s2, s3, s4, s5, s6, s7, s8, s9⟩
               go_simp
               with_reducible rfl
             rotate_left
             · simp only [Act.put, List.setIfInBounds_toArray, List.set_cons_zero, List.set_cons_succ, i64_w, i32_w]
               rfl
             refine one_ (i := 8) (N := some 25) #[true, true, true, true, true, true, true, true, true, false] rfl rfl (one_of HT_.out (by kernel_rfl)) (by decide) (fun K hK => ?_)
             refine goes_ Tryd.func96 (by kernel_rfl) rfl #[.agg #[.string ((rd_T149 l0 x5_1).f0), .int .i64 ((rd_T149 l0 x5_1).f1), .slice A579_2 ((rd_T149 l0 x5_1).f2).length c579_2, .int .i64 ((rd_T149 l0 x5_1).f3), .slice A579_4 ((rd_T149 l0 x5_1).f4).length c579_4], .agg #[.string ((rd_T149 l1 x5_1).f0), .int .i64 ((rd_T149 l1 x5_1).f1), .slice A580_2 ((rd_T149 l1 x5_1).f2).length c580_2, .int .i64 ((rd_T149 l1 x5_1).f3), .slice A580_4 ((rd_T149 l1 x5_1).f4).length c580_4]] (by rfl) rfl rfl (by (try simp only [List.map_toArray, List.map_cons, List.map_nil]); first | done | rfl | (simp only [List.length_drop, List.length_take]; rfl)) ?_
             with_reducible refine (laws_eqFunc.calls k1 ((rd_T149 l0 x5_1).f0) ((rd_T149 l0 x5_1).f1) _ _ ((rd_T149 l0 x5_1).f2) ((rd_T149 l0 x5_1).f3) _ _ ((rd_T149 l0 x5_1).f4) ((rd_T149 l1 x5_1).f0) ((rd_T149 l1 x5_1).f1) _ _ ((rd_T149 l1 x5_1).f2) ((rd_T149 l1 x5_1).f3) _ _ ((rd_T149 l1 x5_1).f4) false _ ?side1 ?side2 ?side3 ?side4 ?side5 ?side6 ?side7 ?side8 A7.out).mono ?_
             (case side1 => repeat (first | exact (Kd.C_below HR579_2.out HB.out) | (with_reducible refine Kd.C_alloc ?_ _) | (with_reducible refine Kd.C_drewN ?_ _) | (with_reducible refine Kd.C_drew ?_)))
             (case side2 => exact HC579_2.out)
             (case side3 => repeat (first | exact (Kd.C_below HR579_4.out HB.out) | (with_reducible refine Kd.C_alloc ?_ _) | (with_reducible refine Kd.C_drewN ?_ _) | (with_reducible refine Kd.C_drew ?_)))
             (case side4 => exact HC579_4.out)
             (case side5 => repeat (first | exact (Kd.C_below HR580_2.out HB.out) | (with_reducible refine Kd.C_alloc ?_ _) | (with_reducible refine Kd.C_drewN ?_ _) | (with_reducible refine Kd.C_drew ?_)))
             (case side6 => exact HC580_2.out)
             (case side7 => repeat (first | exact (Kd.C_below HR580_4.out HB.out) | (with_reducible refine Kd.C_alloc ?_ _) | (with_reducible refine Kd.C_drewN ?_ _) | (with_reducible refine Kd.C_drew ?_)))
             (case side8 => exact HC580_4.out)
             rintro e w12 ⟨rfl, hb⟩
             refine ⟨_, rfl, ?_⟩
             have n0_ := Aside0.mk (below_step (by repeat (first | (with_reducible first | exact HB.out | apply below_alloc | apply pw_below_drewN | apply below_drew1) | exact HB.out)) hb)
             clear HB
             have HB := n0_
             clear n0_
             (try clear hb)
             (try clear hb2)
             (try clear hk)
             (try clear hi)
             refine hK.out _ _ ⟨((HB.out.cell (World.block_lt_of_cell? w _ hw579_0)).trans hw579_0), ((HB.out.cell (World.block_lt_of_cell? w _ hw579_1)).trans hw579_1), ((HB.out.cell (World.block_lt_of_cell? w _ hw579_2)).trans hw579_2), ((HB.out.cell (World.block_lt_of_cell? w _ hw579_3)).trans hw579_3), ((HB.out.cell (World.block_lt_of_cell? w _ hw579_4)).trans hw579_4), ((HB.out.cell (World.block_lt_of_cell? w _ hw580_0)).trans hw580_0), ((HB.out.cell (World.block_lt_of_cell? w _ hw580_1)).trans hw580_1), ((HB.out.cell (World.block_lt_of_cell? w _ hw580_2)).trans hw580_2), ((HB.out.cell (World.block_lt_of_cell? w _ hw580_3)).trans hw580_3), ((HB.out.cell (World.block_lt_of_cell? w _ hw580_4)).trans hw580_4)⟩ (fun hHeld => ?_)
             clear hK K
             refine norm_ (a' := ?_) ?_ ?_
             rotate_left
             · show Act.put _ (some 25) _ = _
               simp only [Act.put, List.setIfInBounds_toArray, List.set_cons_zero, List.set_cons_succ, i64_w, i32_w]
               rfl
             refine pure_ (i := 9) (N := some 26) (v := ?_) (a' := ?_) #[true, true, true, true, true, true, true, true, true, true] rfl rfl (any_of HT_.out (by kernel_rfl)) (fun _ _ _ h => h) (Or.inl ⟨by rfl, ?_⟩) ?_ ?_
             rotate_left
             · intro w'
               go_simp
               with_reducible rfl
             rotate_left
             · simp only [Act.put, List.setIfInBounds_toArray, List.set_cons_zero, List.set_cons_succ, i64_w, i32_w]
               rfl
             refine done_ (done_of HT_.out (by kernel_rfl)) ?_
             try go_wp2
             go_ret
             exact ⟨by first | rfl | (simp [errW_none, errW_some] <;> rfl) | (simp [*, errW_none, errW_some] <;> rfl), by repeat (first | (with_reducible first | exact HB.out | apply below_alloc | apply pw_below_drewN | apply below_drew1) | exact HB.out)⟩
         · rw [if_neg c6] at H
           exact absurd H (by simp)
       · rw [if_neg c5] at H
         exact absurd H (by simp)
     · rw [if_neg c4] at H
       have c4b0 : decide (x5_1 < (l0.length : Int)) = false := decide_eq_false c4
       clear c4
       obtain rfl := Option.some.inj H
       go_wp2
       go_ret
       exact ⟨by first | rfl | (simp [errW_none, errW_some] <;> rfl) | (simp [*, errW_none, errW_some] <;> rfl), by repeat (first | (with_reducible first | exact HB.out | apply below_alloc | apply pw_below_drewN | apply below_drew1) | exact HB.out)⟩
 · rw [if_neg c3] at H
   have c3b0 : ((l0.length : Int) == (l1.length : Int)) = false := beq_eq_false_iff_ne.mpr c3
   have c3b1 : ((l0.length : Int) != (l1.length : Int)) = true := bne_iff_ne.mpr c3
   have c3b2 : (l0.length == l1.length) = false := by first | simpa using c3 | (simp at c3 ⊢; omega)
   obtain rfl := Option.some.inj H
   go_enter Tryd.func75, Tryd.ntmps75
   go_wp2
   go_ret
   exact ⟨by first | rfl | (simp [errW_none, errW_some] <;> rfl) | (simp [*, errW_none, errW_some] <;> rfl), by repeat (first | (with_reducible first | exact HB.out | apply below_alloc | apply pw_below_drewN | apply below_drew1) | exact HB.out)⟩

end Go.Proofs.YtkohjiajbdkcbaaDoor.All

