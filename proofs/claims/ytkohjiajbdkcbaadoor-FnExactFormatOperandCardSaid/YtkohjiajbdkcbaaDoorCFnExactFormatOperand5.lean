/- Part 5 of the proof of FnExactFormatOperand: functions of the translation with what they return, and plain laws of these. Written by programs of this session over the kit's print, and by hand. -/
import Derived.Test.YtkohjiajbdkcbaaDoorProg
import Derived.Test.YtkohjiajbdkcbaaDoorCFnExactFormatOperandWApart
import Derived.Test.YtkohjiajbdkcbaaDoorCFnExactFormatOperandWArr
import Derived.Test.YtkohjiajbdkcbaaDoorCFnExactFormatOperandWFoot
import Derived.Test.YtkohjiajbdkcbaaDoorCFnExactFormatOperandWGuard
import Derived.Test.YtkohjiajbdkcbaaDoorCFnExactFormatOperandWKept
import Derived.Test.YtkohjiajbdkcbaaDoorCFnExactFormatOperandWLast
import Derived.Test.YtkohjiajbdkcbaaDoorCFnExactFormatOperandWMore
import Derived.Test.YtkohjiajbdkcbaaDoorCFnExactFormatOperandWN
import Derived.Test.YtkohjiajbdkcbaaDoorCFnExactFormatOperandWNEv
import Derived.Test.YtkohjiajbdkcbaaDoorCFnExactFormatOperandWQPut
import Derived.Test.YtkohjiajbdkcbaaDoorCFnExactFormatOperandWRepsOne
import Derived.Test.YtkohjiajbdkcbaaDoorCFnExactFormatOperandWShare
import Derived.Test.YtkohjiajbdkcbaaDoorCFnExactFormatOperandWTab
import Derived.Test.YtkohjiajbdkcbaaDoorCFnExactFormatOperandWWords
import Derived.Test.YtkohjiajbdkcbaaDoorCFnExactFormatOperandWZeros
import Derived.Below
import Derived.Deep.Draws
import Derived.Deep.AppendLies
import Derived.Maps.AppendAt
import Derived.OwnWalk
import Derived.Laws.BytesArg
import Derived.Laws.MakeOwn
import Derived.Laws.OwnMore
import Derived.Deep.OwnRows
import Derived.Tactics
import Derived.Lib.ConvBytes
import Derived.Laws.Slices
import Derived.WalkKit
import Derived.KernelRfl
import Derived.RowKit3
import Derived.Deep.LoopGhost
import Derived.Deep.QuietTactic
import Derived.BigQuiet
import Derived.WideLaws
import Derived.Deep.DeepCutAuto
import Derived.Deep.CutBlock
import Derived.Deep.RegionHeld3
import Derived.Laws.Rows
import Derived.Lib.AppendStr
import Derived.ArgAppend
import Derived.Laws.IdiomCopy
import Derived.OrdersHeld
import Derived.Laws.BitsLemmas
import Derived.RowKit
import Derived.Lib.LaidTab
import Derived.Lib.ItoaNum
import Derived.Sort.Grow
import Derived.Shelf.Strconv.Itoa4
import Derived.Shelf.LaysM
import Derived.Shelf.LaysC
import Derived.Shelf.Strconv.Itoa1
import Derived.Laws.BitsAllLaws
import Derived.Lib.ItoaLen
import Derived.Lib.ParseIntBCases
import Derived.Deep.Slices
import Derived.ChangeArms
import Derived.OpenShut
import Derived.Stop.LaidErr
import Derived.LaidMore
import Derived.ProofKit
import Derived.ShutString
import Derived.ChangeOld
import Derived.SizedLaws
import Derived.Deep.DeepHandedRow
import Derived.Deep.DeepWitnessRowRef
import Derived.SevenTiedAt
import Derived.Test.YtkohjiajbdkcbaaDoorCFnExactFormatOperand1
import Derived.Test.YtkohjiajbdkcbaaDoorCFnExactFormatOperand2
import Derived.Test.YtkohjiajbdkcbaaDoorCFnExactFormatOperand3
import Derived.Test.YtkohjiajbdkcbaaDoorCFnExactFormatOperand4
namespace Go.Proofs.YtkohjiajbdkcbaaDoor.All
open Go.RowKit Go.Proofs.YtkohjiajbdkcbaaDoorW.PrintWords Go.Proofs.YtkohjiajbdkcbaaDoorW.PrintLast Go.Proofs.YtkohjiajbdkcbaaDoorW.PrintMore
attribute [local go_sem] max2_int min2_int max_two min_two max_three min_three max_four min_four   -- for this text's walks alone
set_option linter.unusedVariables false
set_option linter.unusedSimpArgs false

/-! ### laws_eqModule: function 34 -/
def laws_eqModule.f (k : Nat) (l0_0 : List (S127)) (l0_1 : List (S149)) (l1_0 : List (S127)) (l1_1 : List (S149)) : Option (Bool) := (laws_eqGlobalS.f k l0_0 l1_0).bind fun t584 => (if t584 = true then ((laws_eqFuncS.f k l0_1 l1_1).bind fun t585 => (if t585 = true then (some true) else (some false))) else (some false))
set_option maxHeartbeats 8000000 in
set_option maxRecDepth 100000 in
theorem laws_eqModule.calls (k : Nat) (A0_0 : Option Addr) (c0_0 : Nat) (l0_0 : List (S127)) (A0_1 : Option Addr) (c0_1 : Nat) (l0_1 : List (S149)) (A1_0 : Option Addr) (c1_0 : Nat) (l1_0 : List (S127)) (A1_1 : Option Addr) (c1_1 : Nat) (l1_1 : List (S149)) (r : Bool) (w : World) (hr0_0 : Kd.C k127 w A0_0 l0_0.length l0_0) (hc0_0 : l0_0.length ≤ c0_0) (hr0_1 : Kd.C k149 w A0_1 l0_1.length l0_1) (hc0_1 : l0_1.length ≤ c0_1) (hr1_0 : Kd.C k127 w A1_0 l1_0.length l1_0) (hc1_0 : l1_0.length ≤ c1_0) (hr1_1 : Kd.C k149 w A1_1 l1_1.length l1_1) (hc1_1 : l1_1.length ≤ c1_1) (h : laws_eqModule.f k l0_0 l0_1 l1_0 l1_1 = some r) :
 Calls Tryd.prog 34 #[.agg #[.slice A0_0 l0_0.length c0_0, .slice A0_1 l0_1.length c0_1], .agg #[.slice A1_0 l1_0.length c1_0, .slice A1_1 l1_1.length c1_1]] w fun e w' => e = .returned (.bool r) ∧ Below w.heap.size w w' := by
 have hu75 := Tryd.underlying75
 have HR0_0 := Aside0.mk hr0_0
 have HC0_0 := Aside0.mk hc0_0
 clear hr0_0 hc0_0
 have HR0_1 := Aside0.mk hr0_1
 have HC0_1 := Aside0.mk hc0_1
 clear hr0_1 hc0_1
 have HR1_0 := Aside0.mk hr1_0
 have HC1_0 := Aside0.mk hc1_0
 clear hr1_0 hc1_0
 have HR1_1 := Aside0.mk hr1_1
 have HC1_1 := Aside0.mk hc1_1
 clear hr1_1 hc1_1
 have HB := Aside0.mk (Below.refl w.heap.size w)
 have H : ((laws_eqGlobalS.f k l0_0 l1_0).bind fun t584 => (if t584 = true then ((laws_eqFuncS.f k l0_1 l1_1).bind fun t585 => (if t585 = true then (some true) else (some false))) else (some false))) = some r := h
 clear h
 replace H := Option.bind_eq_some_iff.mp H
 obtain ⟨t584, A30, H⟩ := H
 replace H : (if t584 = true then ((laws_eqFuncS.f k l0_1 l1_1).bind fun t585 => (if t585 = true then (some true) else (some false))) else (some false)) = some r := H
 have A3 := Aside0.mk A30
 clear A30
 by_cases c4 : t584 = true
 · subst c4
   have H1 : ((laws_eqFuncS.f k l0_1 l1_1).bind fun t585 => (if t585 = true then (some true) else (some false))) = some r := by rw [if_pos rfl] at H; exact H
   clear H
   have H := H1
   clear H1
   replace H := Option.bind_eq_some_iff.mp H
   obtain ⟨t585, A50, H⟩ := H
   replace H : (if t585 = true then (some true) else (some false)) = some r := H
   have A5 := Aside0.mk A50
   clear A50
   by_cases c6 : t585 = true
   · subst c6
     have H1 : (some true) = some r := by rw [if_pos rfl] at H; exact H
     clear H
     have H := H1
     clear H1
     obtain rfl := Option.some.inj H
     go_enter Tryd.func34, Tryd.ntmps34
     go_wp2_with (first | ((with_reducible refine gate_dst (N := 2) rfl ?_); refine box_event ?hg (N := 2) ?hd (cs := #[.slice A0_0 l0_0.length c0_0, .slice A0_1 l0_1.length c0_1]) (t := 75) ?hr ?_; (case hd => rfl); (case hg => rfl); (case hr => first | (go_simp; done) | (go_simp; rfl)); intro gb582 hg w7 hbox hb; have n0_ := Aside0.mk (below_step (by repeat (first | (with_reducible first | exact HB.out | apply below_alloc | apply pw_below_drewN | apply below_drew1) | exact HB.out)) hb); have n1_ := Aside0.mk (hbox); have n2_ := Aside0.mk ((by rw [hg]; exact (below_size (by repeat (first | (with_reducible first | exact HB.out | apply below_alloc | apply pw_below_drewN | apply below_drew1) | exact HB.out))) : w.heap.size ≤ gb582)); have n3_ := Aside0.mk ((by rw [hg]; exact (below_size (by repeat (first | (with_reducible first | exact HB.out | apply below_alloc | apply pw_below_drewN | apply below_drew1) | exact HB.out))) : w.heap.size ≤ gb582)); clear HB; have HB := n0_; have BK582 := n1_; have GW582 := n2_; have GE582 := n3_; clear n0_ n1_ n2_ n3_; clear hb hbox hg) | ((with_reducible refine gate_dst (N := 3) rfl ?_); refine box_event ?hg (N := 3) ?hd (cs := #[.slice A1_0 l1_0.length c1_0, .slice A1_1 l1_1.length c1_1]) (t := 75) ?hr ?_; (case hd => rfl); (case hg => rfl); (case hr => first | (go_simp; done) | (go_simp; rfl)); intro gb583 hg w8 hbox hb; have n0_ := Aside0.mk (blk_below (g := gb582) (o := .cells #[.slice A0_0 l0_0.length c0_0, .slice A0_1 l0_1.length c0_1] 75 (0, 0)) (by (with_reducible repeat (first | refine blk_drewN ?_ _ | refine blk_drew ?_ | refine blk_alloc ?_ _)); exact BK582.out) hb); have n1_ := Aside0.mk (below_step (by repeat (first | (with_reducible first | exact HB.out | apply below_alloc | apply pw_below_drewN | apply below_drew1 | refine below_set ?_ GE582.out) | exact HB.out)) hb); have n2_ := Aside0.mk (hbox); have n3_ := Aside0.mk ((by rw [hg]; exact (below_size (by repeat (first | (with_reducible first | exact HB.out | apply below_alloc | apply pw_below_drewN | apply below_drew1 | refine below_set ?_ GE582.out) | exact HB.out))) : w.heap.size ≤ gb583)); have n4_ := Aside0.mk ((by rw [hg]; exact (below_size (by repeat (first | (with_reducible first | exact HB.out | apply below_alloc | apply pw_below_drewN | apply below_drew1 | refine below_set ?_ GE582.out) | exact HB.out))) : w.heap.size ≤ gb583)); have n5_ := Aside0.mk ((by rw [hg]; exact Nat.ne_of_lt (blk_lt (g := gb582) (o := .cells #[.slice A0_0 l0_0.length c0_0, .slice A0_1 l0_1.length c0_1] 75 (0, 0)) (by (with_reducible repeat (first | refine blk_drewN ?_ _ | refine blk_drew ?_ | refine blk_alloc ?_ _)); exact BK582.out)) : gb582 ≠ gb583)); have n6_ := Aside0.mk ((by rw [hg]; exact Nat.ne_of_gt (blk_lt (g := gb582) (o := .cells #[.slice A0_0 l0_0.length c0_0, .slice A0_1 l0_1.length c0_1] 75 (0, 0)) (by (with_reducible repeat (first | refine blk_drewN ?_ _ | refine blk_drew ?_ | refine blk_alloc ?_ _)); exact BK582.out)) : gb583 ≠ gb582)); clear BK582; clear HB; have BK582 := n0_; have HB := n1_; have BK583 := n2_; have GW583 := n3_; have GE583 := n4_; have NB582_583 := n5_; have NB583_582 := n6_; clear n0_ n1_ n2_ n3_ n4_ n5_ n6_; clear hb hbox hg; have hnb9 := NB582_583.out; have hnc9 := NB583_582.out; have hcz10_0 : w8.cell? ⟨gb582, 0, none⟩ = some (.slice A0_0 l0_0.length c0_0) := (blk_cell BK582.out 0).trans rfl; have hcz10_1 : w8.cell? ⟨gb582, 1, none⟩ = some (.slice A0_1 l0_1.length c0_1) := (blk_cell BK582.out 1).trans rfl; have hfz10_0 := blk_frozen BK582.out 0; have hfz10_1 := blk_frozen BK582.out 1; have hcz11_0 : w8.cell? ⟨gb583, 0, none⟩ = some (.slice A1_0 l1_0.length c1_0) := (blk_cell BK583.out 0).trans rfl; have hcz11_1 : w8.cell? ⟨gb583, 1, none⟩ = some (.slice A1_1 l1_1.length c1_1) := (blk_cell BK583.out 1).trans rfl; have hfz11_0 := blk_frozen BK583.out 0; have hfz11_1 := blk_frozen BK583.out 1) | ((with_reducible refine gate_callee (f := 74) rfl ?_); refine goesL_ (some 9) rfl rfl Tryd.func74 (by kernel_rfl) rfl #[.slice A0_0 l0_0.length c0_0, .slice A1_0 l1_0.length c1_0] rfl (by (try simp only [List.map_toArray, List.map_cons, List.map_nil]); first | done | rfl | (simp only [List.length_drop, List.length_take]; rfl)) ?_; (with_reducible refine (laws_eqGlobalS.calls k _ _ l0_0 _ _ l1_0 true _ ?side1 ?side2 ?side3 ?side4 A3.out).mono ?_); (case side1 => repeat (first | exact (Kd.C_below HR0_0.out HB.out) | (with_reducible refine Kd.C_alloc ?_ _) | (with_reducible refine Kd.C_drewN ?_ _) | (with_reducible refine Kd.C_drew ?_))); (case side2 => exact HC0_0.out); (case side3 => repeat (first | exact (Kd.C_below HR1_0.out HB.out) | (with_reducible refine Kd.C_alloc ?_ _) | (with_reducible refine Kd.C_drewN ?_ _) | (with_reducible refine Kd.C_drew ?_))); (case side4 => exact HC1_0.out); rintro e w12 ⟨rfl, hb⟩; refine ⟨_, rfl, ?_⟩; have n0_ := Aside0.mk (blk_below (g := gb582) (o := .cells #[.slice A0_0 l0_0.length c0_0, .slice A0_1 l0_1.length c0_1] 75 (0, 0)) (by (with_reducible repeat (first | refine blk_drewN ?_ _ | refine blk_drew ?_ | refine blk_alloc ?_ _)); exact BK582.out) hb); have n1_ := Aside0.mk (blk_below (g := gb583) (o := .cells #[.slice A1_0 l1_0.length c1_0, .slice A1_1 l1_1.length c1_1] 75 (0, 0)) (by (with_reducible repeat (first | refine blk_drewN ?_ _ | refine blk_drew ?_ | refine blk_alloc ?_ _)); exact BK583.out) hb); have n2_ := Aside0.mk (below_step (by repeat (first | (with_reducible first | exact HB.out | apply below_alloc | apply pw_below_drewN | apply below_drew1 | refine below_set ?_ GE582.out | refine below_set ?_ GE583.out) | exact HB.out)) hb); clear BK582; clear BK583; clear HB; have BK582 := n0_; have BK583 := n1_; have HB := n2_; clear n0_ n1_ n2_; (try clear hb); (try clear hb2); (try clear hk); (try clear hi); have hcz13_0 : w12.cell? ⟨gb582, 0, none⟩ = some (.slice A0_0 l0_0.length c0_0) := (blk_cell BK582.out 0).trans rfl; have hcz13_1 : w12.cell? ⟨gb582, 1, none⟩ = some (.slice A0_1 l0_1.length c0_1) := (blk_cell BK582.out 1).trans rfl; have hfz13_0 := blk_frozen BK582.out 0; have hfz13_1 := blk_frozen BK582.out 1; have hcz14_0 : w12.cell? ⟨gb583, 0, none⟩ = some (.slice A1_0 l1_0.length c1_0) := (blk_cell BK583.out 0).trans rfl; have hcz14_1 : w12.cell? ⟨gb583, 1, none⟩ = some (.slice A1_1 l1_1.length c1_1) := (blk_cell BK583.out 1).trans rfl; have hfz14_0 := blk_frozen BK583.out 0; have hfz14_1 := blk_frozen BK583.out 1) | ((with_reducible refine gate_callee (f := 75) rfl ?_); refine goesL_ (some 15) rfl rfl Tryd.func75 (by kernel_rfl) rfl #[.slice A0_1 l0_1.length c0_1, .slice A1_1 l1_1.length c1_1] rfl (by (try simp only [List.map_toArray, List.map_cons, List.map_nil]); first | done | rfl | (simp only [List.length_drop, List.length_take]; rfl)) ?_; (with_reducible refine (laws_eqFuncS.calls k _ _ l0_1 _ _ l1_1 true _ ?side1 ?side2 ?side3 ?side4 A5.out).mono ?_); (case side1 => repeat (first | exact (Kd.C_below HR0_1.out HB.out) | (with_reducible refine Kd.C_alloc ?_ _) | (with_reducible refine Kd.C_drewN ?_ _) | (with_reducible refine Kd.C_drew ?_))); (case side2 => exact HC0_1.out); (case side3 => repeat (first | exact (Kd.C_below HR1_1.out HB.out) | (with_reducible refine Kd.C_alloc ?_ _) | (with_reducible refine Kd.C_drewN ?_ _) | (with_reducible refine Kd.C_drew ?_))); (case side4 => exact HC1_1.out); rintro e w15 ⟨rfl, hb⟩; refine ⟨_, rfl, ?_⟩; have n0_ := Aside0.mk (blk_below (g := gb582) (o := .cells #[.slice A0_0 l0_0.length c0_0, .slice A0_1 l0_1.length c0_1] 75 (0, 0)) (by (with_reducible repeat (first | refine blk_drewN ?_ _ | refine blk_drew ?_ | refine blk_alloc ?_ _)); exact BK582.out) hb); have n1_ := Aside0.mk (blk_below (g := gb583) (o := .cells #[.slice A1_0 l1_0.length c1_0, .slice A1_1 l1_1.length c1_1] 75 (0, 0)) (by (with_reducible repeat (first | refine blk_drewN ?_ _ | refine blk_drew ?_ | refine blk_alloc ?_ _)); exact BK583.out) hb); have n2_ := Aside0.mk (below_step (by repeat (first | (with_reducible first | exact HB.out | apply below_alloc | apply pw_below_drewN | apply below_drew1 | refine below_set ?_ GE582.out | refine below_set ?_ GE583.out) | exact HB.out)) hb); clear BK582; clear BK583; clear HB; have BK582 := n0_; have BK583 := n1_; have HB := n2_; clear n0_ n1_ n2_; (try clear hb); (try clear hb2); (try clear hk); (try clear hi)))
     go_ret
     exact ⟨by first | rfl | (simp [errW_none, errW_some] <;> rfl) | (simp [*, errW_none, errW_some] <;> rfl), by repeat (first | (with_reducible first | exact HB.out | apply below_alloc | apply pw_below_drewN | apply below_drew1 | refine below_set ?_ GE582.out | refine below_set ?_ GE583.out) | exact HB.out)⟩
   · replace c6 := Bool.eq_false_iff.mpr c6
     subst c6
     have H1 : (some false) = some r := by rw [if_neg (show ¬ (false = true) by decide)] at H; exact H
     clear H
     have H := H1
     clear H1
     obtain rfl := Option.some.inj H
     go_enter Tryd.func34, Tryd.ntmps34
     go_wp2_with (first | ((with_reducible refine gate_dst (N := 2) rfl ?_); refine box_event ?hg (N := 2) ?hd (cs := #[.slice A0_0 l0_0.length c0_0, .slice A0_1 l0_1.length c0_1]) (t := 75) ?hr ?_; (case hd => rfl); (case hg => rfl); (case hr => first | (go_simp; done) | (go_simp; rfl)); intro gb582 hg w16 hbox hb; have n0_ := Aside0.mk (below_step (by repeat (first | (with_reducible first | exact HB.out | apply below_alloc | apply pw_below_drewN | apply below_drew1) | exact HB.out)) hb); have n1_ := Aside0.mk (hbox); have n2_ := Aside0.mk ((by rw [hg]; exact (below_size (by repeat (first | (with_reducible first | exact HB.out | apply below_alloc | apply pw_below_drewN | apply below_drew1) | exact HB.out))) : w.heap.size ≤ gb582)); have n3_ := Aside0.mk ((by rw [hg]; exact (below_size (by repeat (first | (with_reducible first | exact HB.out | apply below_alloc | apply pw_below_drewN | apply below_drew1) | exact HB.out))) : w.heap.size ≤ gb582)); clear HB; have HB := n0_; have BK582 := n1_; have GW582 := n2_; have GE582 := n3_; clear n0_ n1_ n2_ n3_; clear hb hbox hg) | ((with_reducible refine gate_dst (N := 3) rfl ?_); refine box_event ?hg (N := 3) ?hd (cs := #[.slice A1_0 l1_0.length c1_0, .slice A1_1 l1_1.length c1_1]) (t := 75) ?hr ?_; (case hd => rfl); (case hg => rfl); (case hr => first | (go_simp; done) | (go_simp; rfl)); intro gb583 hg w17 hbox hb; have n0_ := Aside0.mk (blk_below (g := gb582) (o := .cells #[.slice A0_0 l0_0.length c0_0, .slice A0_1 l0_1.length c0_1] 75 (0, 0)) (by (with_reducible repeat (first | refine blk_drewN ?_ _ | refine blk_drew ?_ | refine blk_alloc ?_ _)); exact BK582.out) hb); have n1_ := Aside0.mk (below_step (by repeat (first | (with_reducible first | exact HB.out | apply below_alloc | apply pw_below_drewN | apply below_drew1 | refine below_set ?_ GE582.out) | exact HB.out)) hb); have n2_ := Aside0.mk (hbox); have n3_ := Aside0.mk ((by rw [hg]; exact (below_size (by repeat (first | (with_reducible first | exact HB.out | apply below_alloc | apply pw_below_drewN | apply below_drew1 | refine below_set ?_ GE582.out) | exact HB.out))) : w.heap.size ≤ gb583)); have n4_ := Aside0.mk ((by rw [hg]; exact (below_size (by repeat (first | (with_reducible first | exact HB.out | apply below_alloc | apply pw_below_drewN | apply below_drew1 | refine below_set ?_ GE582.out) | exact HB.out))) : w.heap.size ≤ gb583)); have n5_ := Aside0.mk ((by rw [hg]; exact Nat.ne_of_lt (blk_lt (g := gb582) (o := .cells #[.slice A0_0 l0_0.length c0_0, .slice A0_1 l0_1.length c0_1] 75 (0, 0)) (by (with_reducible repeat (first | refine blk_drewN ?_ _ | refine blk_drew ?_ | refine blk_alloc ?_ _)); exact BK582.out)) : gb582 ≠ gb583)); have n6_ := Aside0.mk ((by rw [hg]; exact Nat.ne_of_gt (blk_lt (g := gb582) (o := .cells #[.slice A0_0 l0_0.length c0_0, .slice A0_1 l0_1.length c0_1] 75 (0, 0)) (by (with_reducible repeat (first | refine blk_drewN ?_ _ | refine blk_drew ?_ | refine blk_alloc ?_ _)); exact BK582.out)) : gb583 ≠ gb582)); clear BK582; clear HB; have BK582 := n0_; have HB := n1_; have BK583 := n2_; have GW583 := n3_; have GE583 := n4_; have NB582_583 := n5_; have NB583_582 := n6_; clear n0_ n1_ n2_ n3_ n4_ n5_ n6_; clear hb hbox hg; have hnb18 := NB582_583.out; have hnc18 := NB583_582.out; have hcz19_0 : w17.cell? ⟨gb582, 0, none⟩ = some (.slice A0_0 l0_0.length c0_0) := (blk_cell BK582.out 0).trans rfl; have hcz19_1 : w17.cell? ⟨gb582, 1, none⟩ = some (.slice A0_1 l0_1.length c0_1) := (blk_cell BK582.out 1).trans rfl; have hfz19_0 := blk_frozen BK582.out 0; have hfz19_1 := blk_frozen BK582.out 1; have hcz20_0 : w17.cell? ⟨gb583, 0, none⟩ = some (.slice A1_0 l1_0.length c1_0) := (blk_cell BK583.out 0).trans rfl; have hcz20_1 : w17.cell? ⟨gb583, 1, none⟩ = some (.slice A1_1 l1_1.length c1_1) := (blk_cell BK583.out 1).trans rfl; have hfz20_0 := blk_frozen BK583.out 0; have hfz20_1 := blk_frozen BK583.out 1) | ((with_reducible refine gate_callee (f := 74) rfl ?_); refine goesL_ (some 9) rfl rfl Tryd.func74 (by kernel_rfl) rfl #[.slice A0_0 l0_0.length c0_0, .slice A1_0 l1_0.length c1_0] rfl (by (try simp only [List.map_toArray, List.map_cons, List.map_nil]); first | done | rfl | (simp only [List.length_drop, List.length_take]; rfl)) ?_; (with_reducible refine (laws_eqGlobalS.calls k _ _ l0_0 _ _ l1_0 true _ ?side1 ?side2 ?side3 ?side4 A3.out).mono ?_); (case side1 => repeat (first | exact (Kd.C_below HR0_0.out HB.out) | (with_reducible refine Kd.C_alloc ?_ _) | (with_reducible refine Kd.C_drewN ?_ _) | (with_reducible refine Kd.C_drew ?_))); (case side2 => exact HC0_0.out); (case side3 => repeat (first | exact (Kd.C_below HR1_0.out HB.out) | (with_reducible refine Kd.C_alloc ?_ _) | (with_reducible refine Kd.C_drewN ?_ _) | (with_reducible refine Kd.C_drew ?_))); (case side4 => exact HC1_0.out); rintro e w21 ⟨rfl, hb⟩; refine ⟨_, rfl, ?_⟩; have n0_ := Aside0.mk (blk_below (g := gb582) (o := .cells #[.slice A0_0 l0_0.length c0_0, .slice A0_1 l0_1.length c0_1] 75 (0, 0)) (by (with_reducible repeat (first | refine blk_drewN ?_ _ | refine blk_drew ?_ | refine blk_alloc ?_ _)); exact BK582.out) hb); have n1_ := Aside0.mk (blk_below (g := gb583) (o := .cells #[.slice A1_0 l1_0.length c1_0, .slice A1_1 l1_1.length c1_1] 75 (0, 0)) (by (with_reducible repeat (first | refine blk_drewN ?_ _ | refine blk_drew ?_ | refine blk_alloc ?_ _)); exact BK583.out) hb); have n2_ := Aside0.mk (below_step (by repeat (first | (with_reducible first | exact HB.out | apply below_alloc | apply pw_below_drewN | apply below_drew1 | refine below_set ?_ GE582.out | refine below_set ?_ GE583.out) | exact HB.out)) hb); clear BK582; clear BK583; clear HB; have BK582 := n0_; have BK583 := n1_; have HB := n2_; clear n0_ n1_ n2_; (try clear hb); (try clear hb2); (try clear hk); (try clear hi); have hcz22_0 : w21.cell? ⟨gb582, 0, none⟩ = some (.slice A0_0 l0_0.length c0_0) := (blk_cell BK582.out 0).trans rfl; have hcz22_1 : w21.cell? ⟨gb582, 1, none⟩ = some (.slice A0_1 l0_1.length c0_1) := (blk_cell BK582.out 1).trans rfl; have hfz22_0 := blk_frozen BK582.out 0; have hfz22_1 := blk_frozen BK582.out 1; have hcz23_0 : w21.cell? ⟨gb583, 0, none⟩ = some (.slice A1_0 l1_0.length c1_0) := (blk_cell BK583.out 0).trans rfl; have hcz23_1 : w21.cell? ⟨gb583, 1, none⟩ = some (.slice A1_1 l1_1.length c1_1) := (blk_cell BK583.out 1).trans rfl; have hfz23_0 := blk_frozen BK583.out 0; have hfz23_1 := blk_frozen BK583.out 1) | ((with_reducible refine gate_callee (f := 75) rfl ?_); refine goesL_ (some 15) rfl rfl Tryd.func75 (by kernel_rfl) rfl #[.slice A0_1 l0_1.length c0_1, .slice A1_1 l1_1.length c1_1] rfl (by (try simp only [List.map_toArray, List.map_cons, List.map_nil]); first | done | rfl | (simp only [List.length_drop, List.length_take]; rfl)) ?_; (with_reducible refine (laws_eqFuncS.calls k _ _ l0_1 _ _ l1_1 false _ ?side1 ?side2 ?side3 ?side4 A5.out).mono ?_); (case side1 => repeat (first | exact (Kd.C_below HR0_1.out HB.out) | (with_reducible refine Kd.C_alloc ?_ _) | (with_reducible refine Kd.C_drewN ?_ _) | (with_reducible refine Kd.C_drew ?_))); (case side2 => exact HC0_1.out); (case side3 => repeat (first | exact (Kd.C_below HR1_1.out HB.out) | (with_reducible refine Kd.C_alloc ?_ _) | (with_reducible refine Kd.C_drewN ?_ _) | (with_reducible refine Kd.C_drew ?_))); (case side4 => exact HC1_1.out); rintro e w24 ⟨rfl, hb⟩; refine ⟨_, rfl, ?_⟩; have n0_ := Aside0.mk (blk_below (g := gb582) (o := .cells #[.slice A0_0 l0_0.length c0_0, .slice A0_1 l0_1.length c0_1] 75 (0, 0)) (by (with_reducible repeat (first | refine blk_drewN ?_ _ | refine blk_drew ?_ | refine blk_alloc ?_ _)); exact BK582.out) hb); have n1_ := Aside0.mk (blk_below (g := gb583) (o := .cells #[.slice A1_0 l1_0.length c1_0, .slice A1_1 l1_1.length c1_1] 75 (0, 0)) (by (with_reducible repeat (first | refine blk_drewN ?_ _ | refine blk_drew ?_ | refine blk_alloc ?_ _)); exact BK583.out) hb); have n2_ := Aside0.mk (below_step (by repeat (first | (with_reducible first | exact HB.out | apply below_alloc | apply pw_below_drewN | apply below_drew1 | refine below_set ?_ GE582.out | refine below_set ?_ GE583.out) | exact HB.out)) hb); clear BK582; clear BK583; clear HB; have BK582 := n0_; have BK583 := n1_; have HB := n2_; clear n0_ n1_ n2_; (try clear hb); (try clear hb2); (try clear hk); (try clear hi)))
     go_ret
     exact ⟨by first | rfl | (simp [errW_none, errW_some] <;> rfl) | (simp [*, errW_none, errW_some] <;> rfl), by repeat (first | (with_reducible first | exact HB.out | apply below_alloc | apply pw_below_drewN | apply below_drew1 | refine below_set ?_ GE582.out | refine below_set ?_ GE583.out) | exact HB.out)⟩
 · replace c4 := Bool.eq_false_iff.mpr c4
   subst c4
   have H1 : (some false) = some r := by rw [if_neg (show ¬ (false = true) by decide)] at H; exact H
   clear H
   have H := H1
   clear H1
   obtain rfl := Option.some.inj H
   go_enter Tryd.func34, Tryd.ntmps34
   go_wp2_with (first | ((with_reducible refine gate_dst (N := 2) rfl ?_); refine box_event ?hg (N := 2) ?hd (cs := #[.slice A0_0 l0_0.length c0_0, .slice A0_1 l0_1.length c0_1]) (t := 75) ?hr ?_; (case hd => rfl); (case hg => rfl); (case hr => first | (go_simp; done) | (go_simp; rfl)); intro gb582 hg w25 hbox hb; have n0_ := Aside0.mk (below_step (by repeat (first | (with_reducible first | exact HB.out | apply below_alloc | apply pw_below_drewN | apply below_drew1) | exact HB.out)) hb); have n1_ := Aside0.mk (hbox); have n2_ := Aside0.mk ((by rw [hg]; exact (below_size (by repeat (first | (with_reducible first | exact HB.out | apply below_alloc | apply pw_below_drewN | apply below_drew1) | exact HB.out))) : w.heap.size ≤ gb582)); have n3_ := Aside0.mk ((by rw [hg]; exact (below_size (by repeat (first | (with_reducible first | exact HB.out | apply below_alloc | apply pw_below_drewN | apply below_drew1) | exact HB.out))) : w.heap.size ≤ gb582)); clear HB; have HB := n0_; have BK582 := n1_; have GW582 := n2_; have GE582 := n3_; clear n0_ n1_ n2_ n3_; clear hb hbox hg) | ((with_reducible refine gate_dst (N := 3) rfl ?_); refine box_event ?hg (N := 3) ?hd (cs := #[.slice A1_0 l1_0.length c1_0, .slice A1_1 l1_1.length c1_1]) (t := 75) ?hr ?_; (case hd => rfl); (case hg => rfl); (case hr => first | (go_simp; done) | (go_simp; rfl)); intro gb583 hg w26 hbox hb; have n0_ := Aside0.mk (blk_below (g := gb582) (o := .cells #[.slice A0_0 l0_0.length c0_0, .slice A0_1 l0_1.length c0_1] 75 (0, 0)) (by (with_reducible repeat (first | refine blk_drewN ?_ _ | refine blk_drew ?_ | refine blk_alloc ?_ _)); exact BK582.out) hb); have n1_ := Aside0.mk (below_step (by repeat (first | (with_reducible first | exact HB.out | apply below_alloc | apply pw_below_drewN | apply below_drew1 | refine below_set ?_ GE582.out) | exact HB.out)) hb); have n2_ := Aside0.mk (hbox); have n3_ := Aside0.mk ((by rw [hg]; exact (below_size (by repeat (first | (with_reducible first | exact HB.out | apply below_alloc | apply pw_below_drewN | apply below_drew1 | refine below_set ?_ GE582.out) | exact HB.out))) : w.heap.size ≤ gb583)); have n4_ := Aside0.mk ((by rw [hg]; exact (below_size (by repeat (first | (with_reducible first | exact HB.out | apply below_alloc | apply pw_below_drewN | apply below_drew1 | refine below_set ?_ GE582.out) | exact HB.out))) : w.heap.size ≤ gb583)); have n5_ := Aside0.mk ((by rw [hg]; exact Nat.ne_of_lt (blk_lt (g := gb582) (o := .cells #[.slice A0_0 l0_0.length c0_0, .slice A0_1 l0_1.length c0_1] 75 (0, 0)) (by (with_reducible repeat (first | refine blk_drewN ?_ _ | refine blk_drew ?_ | refine blk_alloc ?_ _)); exact BK582.out)) : gb582 ≠ gb583)); have n6_ := Aside0.mk ((by rw [hg]; exact Nat.ne_of_gt (blk_lt (g := gb582) (o := .cells #[.slice A0_0 l0_0.length c0_0, .slice A0_1 l0_1.length c0_1] 75 (0, 0)) (by (with_reducible repeat (first | refine blk_drewN ?_ _ | refine blk_drew ?_ | refine blk_alloc ?_ _)); exact BK582.out)) : gb583 ≠ gb582)); clear BK582; clear HB; have BK582 := n0_; have HB := n1_; have BK583 := n2_; have GW583 := n3_; have GE583 := n4_; have NB582_583 := n5_; have NB583_582 := n6_; clear n0_ n1_ n2_ n3_ n4_ n5_ n6_; clear hb hbox hg; have hnb27 := NB582_583.out; have hnc27 := NB583_582.out; have hcz28_0 : w26.cell? ⟨gb582, 0, none⟩ = some (.slice A0_0 l0_0.length c0_0) := (blk_cell BK582.out 0).trans rfl; have hcz28_1 : w26.cell? ⟨gb582, 1, none⟩ = some (.slice A0_1 l0_1.length c0_1) := (blk_cell BK582.out 1).trans rfl; have hfz28_0 := blk_frozen BK582.out 0; have hfz28_1 := blk_frozen BK582.out 1; have hcz29_0 : w26.cell? ⟨gb583, 0, none⟩ = some (.slice A1_0 l1_0.length c1_0) := (blk_cell BK583.out 0).trans rfl; have hcz29_1 : w26.cell? ⟨gb583, 1, none⟩ = some (.slice A1_1 l1_1.length c1_1) := (blk_cell BK583.out 1).trans rfl; have hfz29_0 := blk_frozen BK583.out 0; have hfz29_1 := blk_frozen BK583.out 1) | ((with_reducible refine gate_callee (f := 74) rfl ?_); refine goesL_ (some 9) rfl rfl Tryd.func74 (by kernel_rfl) rfl #[.slice A0_0 l0_0.length c0_0, .slice A1_0 l1_0.length c1_0] rfl (by (try simp only [List.map_toArray, List.map_cons, List.map_nil]); first | done | rfl | (simp only [List.length_drop, List.length_take]; rfl)) ?_; (with_reducible refine (laws_eqGlobalS.calls k _ _ l0_0 _ _ l1_0 false _ ?side1 ?side2 ?side3 ?side4 A3.out).mono ?_); (case side1 => repeat (first | exact (Kd.C_below HR0_0.out HB.out) | (with_reducible refine Kd.C_alloc ?_ _) | (with_reducible refine Kd.C_drewN ?_ _) | (with_reducible refine Kd.C_drew ?_))); (case side2 => exact HC0_0.out); (case side3 => repeat (first | exact (Kd.C_below HR1_0.out HB.out) | (with_reducible refine Kd.C_alloc ?_ _) | (with_reducible refine Kd.C_drewN ?_ _) | (with_reducible refine Kd.C_drew ?_))); (case side4 => exact HC1_0.out); rintro e w30 ⟨rfl, hb⟩; refine ⟨_, rfl, ?_⟩; have n0_ := Aside0.mk (blk_below (g := gb582) (o := .cells #[.slice A0_0 l0_0.length c0_0, .slice A0_1 l0_1.length c0_1] 75 (0, 0)) (by (with_reducible repeat (first | refine blk_drewN ?_ _ | refine blk_drew ?_ | refine blk_alloc ?_ _)); exact BK582.out) hb); have n1_ := Aside0.mk (blk_below (g := gb583) (o := .cells #[.slice A1_0 l1_0.length c1_0, .slice A1_1 l1_1.length c1_1] 75 (0, 0)) (by (with_reducible repeat (first | refine blk_drewN ?_ _ | refine blk_drew ?_ | refine blk_alloc ?_ _)); exact BK583.out) hb); have n2_ := Aside0.mk (below_step (by repeat (first | (with_reducible first | exact HB.out | apply below_alloc | apply pw_below_drewN | apply below_drew1 | refine below_set ?_ GE582.out | refine below_set ?_ GE583.out) | exact HB.out)) hb); clear BK582; clear BK583; clear HB; have BK582 := n0_; have BK583 := n1_; have HB := n2_; clear n0_ n1_ n2_; (try clear hb); (try clear hb2); (try clear hk); (try clear hi)))
   go_ret
   exact ⟨by first | rfl | (simp [errW_none, errW_some] <;> rfl) | (simp [*, errW_none, errW_some] <;> rfl), by repeat (first | (with_reducible first | exact HB.out | apply below_alloc | apply pw_below_drewN | apply below_drew1 | refine below_set ?_ GE582.out | refine below_set ?_ GE583.out) | exact HB.out)⟩

end Go.Proofs.YtkohjiajbdkcbaaDoor.All


namespace Go.Proofs.YtkohjiajbdkcbaaDoor.All
open Go.RowKit Go.Proofs.YtkohjiajbdkcbaaDoorW.PrintWords Go.Proofs.YtkohjiajbdkcbaaDoorW.PrintLast Go.Proofs.YtkohjiajbdkcbaaDoorW.PrintMore
attribute [local go_sem] max2_int min2_int max_two min_two max_three min_three max_four min_four   -- for this text's walks alone
set_option linter.unusedVariables false
set_option linter.unusedSimpArgs false

/-! ### laws_FnExactFormatOperand: function 7 -/
def laws_FnExactFormatOperand.f (k : Nat) (l0_0 : List (S141)) (l0_1 : List (S145)) (a1_0 : Int) (a1_1 : Int) (a1_2 : Int) (a1_3 : Int) : Option (Bool) := (laws_szModule.f k l0_0 l0_1 1048576).bind fun t588 => (if t588 < 0 then (some true) else ((laws_toModule.f k l0_0 l0_1).bind fun bt589 => ((laws_toOperand.f a1_0 a1_1 a1_2 a1_3).bind fun bt595 => ((spec_FormatOperand.f k bt589.1 bt589.2 bt595.1 bt595.2.1 bt595.2.2.1 bt595.2.2.2).bind fun t599 => ((laws_toModule.f k l0_0 l0_1).bind fun bt600 => ((laws_toOperand.f a1_0 a1_1 a1_2 a1_3).bind fun bt607 => ((impl_FormatOperand.f bt600.1 bt600.2 bt607.1 bt607.2.1 bt607.2.2.1 bt607.2.2.2).bind fun t611 => (if t611.toList = t599.toList then ((laws_toModule.f k l0_0 l0_1).bind fun bt612 => ((laws_eqModule.f k bt600.1 bt600.2 bt612.1 bt612.2).bind fun t618 => (if t618 = true then (some true) else (some false)))) else (some false)))))))))
set_option maxHeartbeats 8000000 in
set_option maxRecDepth 100000 in
theorem laws_FnExactFormatOperand.calls (k : Nat) (A0_0 : Option Addr) (c0_0 : Nat) (l0_0 : List (S141)) (A0_1 : Option Addr) (c0_1 : Nat) (l0_1 : List (S145)) (a1_0 : Int) (a1_1 : Int) (a1_2 : Int) (a1_3 : Int) (r : Bool) (w : World) (hLtTab : LtTab w) (hr0_0 : Kd.C k141 w A0_0 l0_0.length l0_0) (hc0_0 : l0_0.length ≤ c0_0) (hr0_1 : Kd.C k145 w A0_1 l0_1.length l0_1) (hc0_1 : l0_1.length ≤ c0_1) (h : laws_FnExactFormatOperand.f k l0_0 l0_1 a1_0 a1_1 a1_2 a1_3 = some r) :
 Calls Tryd.prog 7 #[.agg #[.slice A0_0 l0_0.length c0_0, .slice A0_1 l0_1.length c0_1], .agg #[.int .i64 a1_0, .int .i64 a1_1, .int .i64 a1_2, .int .u64 a1_3]] w fun e w' => e = .returned (.bool r) ∧ Below w.heap.size w w' := by
 have HLtTab := Aside0.mk hLtTab
 clear hLtTab
 have hu67 := Tryd.underlying67
 have hu69 := Tryd.underlying69
 have hu75 := Tryd.underlying75
 have HR0_0 := Aside0.mk hr0_0
 have HC0_0 := Aside0.mk hc0_0
 clear hr0_0 hc0_0
 have HR0_1 := Aside0.mk hr0_1
 have HC0_1 := Aside0.mk hc0_1
 clear hr0_1 hc0_1
 have HB := Aside0.mk (Below.refl w.heap.size w)
 have H : ((laws_szModule.f k l0_0 l0_1 1048576).bind fun t588 => (if t588 < 0 then (some true) else ((laws_toModule.f k l0_0 l0_1).bind fun bt589 => ((laws_toOperand.f a1_0 a1_1 a1_2 a1_3).bind fun bt595 => ((spec_FormatOperand.f k bt589.1 bt589.2 bt595.1 bt595.2.1 bt595.2.2.1 bt595.2.2.2).bind fun t599 => ((laws_toModule.f k l0_0 l0_1).bind fun bt600 => ((laws_toOperand.f a1_0 a1_1 a1_2 a1_3).bind fun bt607 => ((impl_FormatOperand.f bt600.1 bt600.2 bt607.1 bt607.2.1 bt607.2.2.1 bt607.2.2.2).bind fun t611 => (if t611.toList = t599.toList then ((laws_toModule.f k l0_0 l0_1).bind fun bt612 => ((laws_eqModule.f k bt600.1 bt600.2 bt612.1 bt612.2).bind fun t618 => (if t618 = true then (some true) else (some false)))) else (some false)))))))))) = some r := h
 clear h
 replace H := Option.bind_eq_some_iff.mp H
 obtain ⟨t588, A30, H⟩ := H
 replace H : (if t588 < 0 then (some true) else ((laws_toModule.f k l0_0 l0_1).bind fun bt589 => ((laws_toOperand.f a1_0 a1_1 a1_2 a1_3).bind fun bt595 => ((spec_FormatOperand.f k bt589.1 bt589.2 bt595.1 bt595.2.1 bt595.2.2.1 bt595.2.2.2).bind fun t599 => ((laws_toModule.f k l0_0 l0_1).bind fun bt600 => ((laws_toOperand.f a1_0 a1_1 a1_2 a1_3).bind fun bt607 => ((impl_FormatOperand.f bt600.1 bt600.2 bt607.1 bt607.2.1 bt607.2.2.1 bt607.2.2.2).bind fun t611 => (if t611.toList = t599.toList then ((laws_toModule.f k l0_0 l0_1).bind fun bt612 => ((laws_eqModule.f k bt600.1 bt600.2 bt612.1 bt612.2).bind fun t618 => (if t618 = true then (some true) else (some false)))) else (some false))))))))) = some r := H
 have A3 := Aside0.mk A30
 clear A30
 by_cases c4 : t588 < 0
 · rw [if_pos c4] at H
   have c4b0 : decide (t588 < 0) = true := decide_eq_true c4
   clear c4
   obtain rfl := Option.some.inj H
   go_enter Tryd.func7, Tryd.ntmps7
   go_wp2_with (first | ((with_reducible refine gate_dst (N := 2) rfl ?_); refine box_event ?hg (N := 2) ?hd (cs := #[.slice A0_0 l0_0.length c0_0, .slice A0_1 l0_1.length c0_1]) (t := 67) ?hr ?_; (case hd => rfl); (case hg => rfl); (case hr => first | (go_simp; done) | (go_simp; rfl)); intro gb586 hg w5 hbox hb; have n0_ := Aside0.mk (below_step (by repeat (first | (with_reducible first | exact HB.out | apply below_alloc | apply pw_below_drewN | apply below_drew1) | exact HB.out)) hb); have n1_ := Aside0.mk (hbox); have n2_ := Aside0.mk ((by rw [hg]; exact (below_size (by repeat (first | (with_reducible first | exact HB.out | apply below_alloc | apply pw_below_drewN | apply below_drew1) | exact HB.out))) : w.heap.size ≤ gb586)); have n3_ := Aside0.mk ((by rw [hg]; exact (below_size (by repeat (first | (with_reducible first | exact HB.out | apply below_alloc | apply pw_below_drewN | apply below_drew1) | exact HB.out))) : w.heap.size ≤ gb586)); clear HB; have HB := n0_; have BK586 := n1_; have GW586 := n2_; have GE586 := n3_; clear n0_ n1_ n2_ n3_; clear hb hbox hg) | ((with_reducible refine gate_dst (N := 3) rfl ?_); refine box_event ?hg (N := 3) ?hd (cs := #[.int .i64 a1_0, .int .i64 a1_1, .int .i64 a1_2, .int .u64 a1_3]) (t := 69) ?hr ?_; (case hd => rfl); (case hg => rfl); (case hr => first | (go_simp; done) | (go_simp; rfl)); intro gb587 hg w6 hbox hb; have n0_ := Aside0.mk (blk_below (g := gb586) (o := .cells #[.slice A0_0 l0_0.length c0_0, .slice A0_1 l0_1.length c0_1] 67 (0, 0)) (by (with_reducible repeat (first | refine blk_drewN ?_ _ | refine blk_drew ?_ | refine blk_alloc ?_ _)); exact BK586.out) hb); have n1_ := Aside0.mk (below_step (by repeat (first | (with_reducible first | exact HB.out | apply below_alloc | apply pw_below_drewN | apply below_drew1 | refine below_set ?_ GE586.out) | exact HB.out)) hb); have n2_ := Aside0.mk (hbox); have n3_ := Aside0.mk ((by rw [hg]; exact (below_size (by repeat (first | (with_reducible first | exact HB.out | apply below_alloc | apply pw_below_drewN | apply below_drew1 | refine below_set ?_ GE586.out) | exact HB.out))) : w.heap.size ≤ gb587)); have n4_ := Aside0.mk ((by rw [hg]; exact (below_size (by repeat (first | (with_reducible first | exact HB.out | apply below_alloc | apply pw_below_drewN | apply below_drew1 | refine below_set ?_ GE586.out) | exact HB.out))) : w.heap.size ≤ gb587)); have n5_ := Aside0.mk ((by rw [hg]; exact Nat.ne_of_lt (blk_lt (g := gb586) (o := .cells #[.slice A0_0 l0_0.length c0_0, .slice A0_1 l0_1.length c0_1] 67 (0, 0)) (by (with_reducible repeat (first | refine blk_drewN ?_ _ | refine blk_drew ?_ | refine blk_alloc ?_ _)); exact BK586.out)) : gb586 ≠ gb587)); have n6_ := Aside0.mk ((by rw [hg]; exact Nat.ne_of_gt (blk_lt (g := gb586) (o := .cells #[.slice A0_0 l0_0.length c0_0, .slice A0_1 l0_1.length c0_1] 67 (0, 0)) (by (with_reducible repeat (first | refine blk_drewN ?_ _ | refine blk_drew ?_ | refine blk_alloc ?_ _)); exact BK586.out)) : gb587 ≠ gb586)); clear BK586; clear HB; have BK586 := n0_; have HB := n1_; have BK587 := n2_; have GW587 := n3_; have GE587 := n4_; have NB586_587 := n5_; have NB587_586 := n6_; clear n0_ n1_ n2_ n3_ n4_ n5_ n6_; clear hb hbox hg; have hnb7 := NB586_587.out; have hnc7 := NB587_586.out; have hcz8_0 : w6.cell? ⟨gb586, 0, none⟩ = some (.slice A0_0 l0_0.length c0_0) := (blk_cell BK586.out 0).trans rfl; have hcz8_1 : w6.cell? ⟨gb586, 1, none⟩ = some (.slice A0_1 l0_1.length c0_1) := (blk_cell BK586.out 1).trans rfl; have hfz8_0 := blk_frozen BK586.out 0; have hfz8_1 := blk_frozen BK586.out 1) | ((with_reducible refine gate_callee (f := 29) rfl ?_); refine goesL_ (some 11) rfl rfl Tryd.func29 (by kernel_rfl) rfl #[.agg #[.slice A0_0 l0_0.length c0_0, .slice A0_1 l0_1.length c0_1], .int .i64 1048576] rfl (by (try simp only [List.map_toArray, List.map_cons, List.map_nil]); first | done | rfl | (simp only [List.length_drop, List.length_take]; rfl)) ?_; (with_reducible refine (laws_szModule.calls k _ _ l0_0 _ _ l0_1 1048576 t588 _ ?side1 ?side2 ?side3 ?side4 A3.out).mono ?_); (case side1 => repeat (first | exact (Kd.C_below HR0_0.out HB.out) | (with_reducible refine Kd.C_alloc ?_ _) | (with_reducible refine Kd.C_drewN ?_ _) | (with_reducible refine Kd.C_drew ?_))); (case side2 => exact HC0_0.out); (case side3 => repeat (first | exact (Kd.C_below HR0_1.out HB.out) | (with_reducible refine Kd.C_alloc ?_ _) | (with_reducible refine Kd.C_drewN ?_ _) | (with_reducible refine Kd.C_drew ?_))); (case side4 => exact HC0_1.out); rintro e w9 ⟨rfl, hb⟩; refine ⟨_, rfl, ?_⟩; have n0_ := Aside0.mk (blk_below (g := gb586) (o := .cells #[.slice A0_0 l0_0.length c0_0, .slice A0_1 l0_1.length c0_1] 67 (0, 0)) (by (with_reducible repeat (first | refine blk_drewN ?_ _ | refine blk_drew ?_ | refine blk_alloc ?_ _)); exact BK586.out) hb); have n1_ := Aside0.mk (blk_below (g := gb587) (o := .cells #[.int .i64 a1_0, .int .i64 a1_1, .int .i64 a1_2, .int .u64 a1_3] 69 (0, 0)) (by (with_reducible repeat (first | refine blk_drewN ?_ _ | refine blk_drew ?_ | refine blk_alloc ?_ _)); exact BK587.out) hb); have n2_ := Aside0.mk (below_step (by repeat (first | (with_reducible first | exact HB.out | apply below_alloc | apply pw_below_drewN | apply below_drew1 | refine below_set ?_ GE586.out | refine below_set ?_ GE587.out) | exact HB.out)) hb); clear BK586; clear BK587; clear HB; have BK586 := n0_; have BK587 := n1_; have HB := n2_; clear n0_ n1_ n2_; (try clear hb); (try clear hb2); (try clear hk); (try clear hi)))
   go_ret
   exact ⟨by first | rfl | (simp [errW_none, errW_some] <;> rfl) | (simp [*, errW_none, errW_some] <;> rfl), by repeat (first | (with_reducible first | exact HB.out | apply below_alloc | apply pw_below_drewN | apply below_drew1 | refine below_set ?_ GE586.out | refine below_set ?_ GE587.out) | exact HB.out)⟩
 · rw [if_neg c4] at H
   have c4b0 : decide (t588 < 0) = false := decide_eq_false c4
   clear c4
   replace H := Option.bind_eq_some_iff.mp H
   obtain ⟨⟨t589, t592⟩, A100, H⟩ := H
   replace H : ((laws_toOperand.f a1_0 a1_1 a1_2 a1_3).bind fun bt595 => ((spec_FormatOperand.f k t589 t592 bt595.1 bt595.2.1 bt595.2.2.1 bt595.2.2.2).bind fun t599 => ((laws_toModule.f k l0_0 l0_1).bind fun bt600 => ((laws_toOperand.f a1_0 a1_1 a1_2 a1_3).bind fun bt607 => ((impl_FormatOperand.f bt600.1 bt600.2 bt607.1 bt607.2.1 bt607.2.2.1 bt607.2.2.2).bind fun t611 => (if t611.toList = t599.toList then ((laws_toModule.f k l0_0 l0_1).bind fun bt612 => ((laws_eqModule.f k bt600.1 bt600.2 bt612.1 bt612.2).bind fun t618 => (if t618 = true then (some true) else (some false)))) else (some false))))))) = some r := H
   have A10 := Aside0.mk A100
   clear A100
   replace H := Option.bind_eq_some_iff.mp H
   obtain ⟨⟨t595, t596, t597, t598⟩, A110, H⟩ := H
   replace H : ((spec_FormatOperand.f k t589 t592 t595 t596 t597 t598).bind fun t599 => ((laws_toModule.f k l0_0 l0_1).bind fun bt600 => ((laws_toOperand.f a1_0 a1_1 a1_2 a1_3).bind fun bt607 => ((impl_FormatOperand.f bt600.1 bt600.2 bt607.1 bt607.2.1 bt607.2.2.1 bt607.2.2.2).bind fun t611 => (if t611.toList = t599.toList then ((laws_toModule.f k l0_0 l0_1).bind fun bt612 => ((laws_eqModule.f k bt600.1 bt600.2 bt612.1 bt612.2).bind fun t618 => (if t618 = true then (some true) else (some false)))) else (some false)))))) = some r := H
   have A11 := Aside0.mk A110
   clear A110
   replace H := Option.bind_eq_some_iff.mp H
   obtain ⟨t599, A120, H⟩ := H
   replace H : ((laws_toModule.f k l0_0 l0_1).bind fun bt600 => ((laws_toOperand.f a1_0 a1_1 a1_2 a1_3).bind fun bt607 => ((impl_FormatOperand.f bt600.1 bt600.2 bt607.1 bt607.2.1 bt607.2.2.1 bt607.2.2.2).bind fun t611 => (if t611.toList = t599.toList then ((laws_toModule.f k l0_0 l0_1).bind fun bt612 => ((laws_eqModule.f k bt600.1 bt600.2 bt612.1 bt612.2).bind fun t618 => (if t618 = true then (some true) else (some false)))) else (some false))))) = some r := H
   have A12 := Aside0.mk A120
   clear A120
   replace H := Option.bind_eq_some_iff.mp H
   obtain ⟨⟨t600, t603⟩, A130, H⟩ := H
   replace H : ((laws_toOperand.f a1_0 a1_1 a1_2 a1_3).bind fun bt607 => ((impl_FormatOperand.f t600 t603 bt607.1 bt607.2.1 bt607.2.2.1 bt607.2.2.2).bind fun t611 => (if t611.toList = t599.toList then ((laws_toModule.f k l0_0 l0_1).bind fun bt612 => ((laws_eqModule.f k t600 t603 bt612.1 bt612.2).bind fun t618 => (if t618 = true then (some true) else (some false)))) else (some false)))) = some r := H
   have A13 := Aside0.mk A130
   clear A130
   replace H := Option.bind_eq_some_iff.mp H
   obtain ⟨⟨t607, t608, t609, t610⟩, A140, H⟩ := H
   replace H : ((impl_FormatOperand.f t600 t603 t607 t608 t609 t610).bind fun t611 => (if t611.toList = t599.toList then ((laws_toModule.f k l0_0 l0_1).bind fun bt612 => ((laws_eqModule.f k t600 t603 bt612.1 bt612.2).bind fun t618 => (if t618 = true then (some true) else (some false)))) else (some false))) = some r := H
   have A14 := Aside0.mk A140
   clear A140
   replace H := Option.bind_eq_some_iff.mp H
   obtain ⟨t611, A150, H⟩ := H
   replace H : (if t611.toList = t599.toList then ((laws_toModule.f k l0_0 l0_1).bind fun bt612 => ((laws_eqModule.f k t600 t603 bt612.1 bt612.2).bind fun t618 => (if t618 = true then (some true) else (some false)))) else (some false)) = some r := H
   have A15 := Aside0.mk A150
   clear A150
   by_cases c16 : t611.toList = t599.toList
   · rw [if_pos c16] at H
     have c16b0 : (t611.toList == t599.toList) = true := beq_iff_eq.mpr c16
     have c16b1 : (t611.toList != t599.toList) = false := bne_eq_false_iff_eq.mpr c16
     clear c16
     replace H := Option.bind_eq_some_iff.mp H
     obtain ⟨⟨t612, t615⟩, A170, H⟩ := H
     replace H : ((laws_eqModule.f k t600 t603 t612 t615).bind fun t618 => (if t618 = true then (some true) else (some false))) = some r := H
     have A17 := Aside0.mk A170
     clear A170
     replace H := Option.bind_eq_some_iff.mp H
     obtain ⟨t618, A180, H⟩ := H
     replace H : (if t618 = true then (some true) else (some false)) = some r := H
     have A18 := Aside0.mk A180
     clear A180
     by_cases c19 : t618 = true
     · subst c19
       have H1 : (some true) = some r := by rw [if_pos rfl] at H; exact H
       clear H
       have H := H1
       clear H1
       obtain rfl := Option.some.inj H
       go_enter Tryd.func7, Tryd.ntmps7
       try go_wp2_with (first | ((with_reducible refine gate_dst (N := 2) rfl ?_); refine box_event ?hg (N := 2) ?hd (cs := #[.slice A0_0 l0_0.length c0_0, .slice A0_1 l0_1.length c0_1]) (t := 67) ?hr ?_; (case hd => rfl); (case hg => rfl); (case hr => first | (go_simp; done) | (go_simp; rfl)); intro gb586 hg w20 hbox hb; have n0_ := Aside0.mk (below_step (by repeat (first | (with_reducible first | exact HB.out | apply below_alloc | apply pw_below_drewN | apply below_drew1) | exact HB.out)) hb); have n1_ := Aside0.mk (hbox); have n2_ := Aside0.mk ((by rw [hg]; exact (below_size (by repeat (first | (with_reducible first | exact HB.out | apply below_alloc | apply pw_below_drewN | apply below_drew1) | exact HB.out))) : w.heap.size ≤ gb586)); have n3_ := Aside0.mk ((by rw [hg]; exact (below_size (by repeat (first | (with_reducible first | exact HB.out | apply below_alloc | apply pw_below_drewN | apply below_drew1) | exact HB.out))) : w.heap.size ≤ gb586)); clear HB; have HB := n0_; have BK586 := n1_; have GW586 := n2_; have GE586 := n3_; clear n0_ n1_ n2_ n3_; clear hb hbox hg) | ((with_reducible refine gate_dst (N := 3) rfl ?_); refine box_event ?hg (N := 3) ?hd (cs := #[.int .i64 a1_0, .int .i64 a1_1, .int .i64 a1_2, .int .u64 a1_3]) (t := 69) ?hr ?_; (case hd => rfl); (case hg => rfl); (case hr => first | (go_simp; done) | (go_simp; rfl)); intro gb587 hg w21 hbox hb; have n0_ := Aside0.mk (blk_below (g := gb586) (o := .cells #[.slice A0_0 l0_0.length c0_0, .slice A0_1 l0_1.length c0_1] 67 (0, 0)) (by (with_reducible repeat (first | refine blk_drewN ?_ _ | refine blk_drew ?_ | refine blk_alloc ?_ _)); exact BK586.out) hb); have n1_ := Aside0.mk (below_step (by repeat (first | (with_reducible first | exact HB.out | apply below_alloc | apply pw_below_drewN | apply below_drew1 | refine below_set ?_ GE586.out) | exact HB.out)) hb); have n2_ := Aside0.mk (hbox); have n3_ := Aside0.mk ((by rw [hg]; exact (below_size (by repeat (first | (with_reducible first | exact HB.out | apply below_alloc | apply pw_below_drewN | apply below_drew1 | refine below_set ?_ GE586.out) | exact HB.out))) : w.heap.size ≤ gb587)); have n4_ := Aside0.mk ((by rw [hg]; exact (below_size (by repeat (first | (with_reducible first | exact HB.out | apply below_alloc | apply pw_below_drewN | apply below_drew1 | refine below_set ?_ GE586.out) | exact HB.out))) : w.heap.size ≤ gb587)); have n5_ := Aside0.mk ((by rw [hg]; exact Nat.ne_of_lt (blk_lt (g := gb586) (o := .cells #[.slice A0_0 l0_0.length c0_0, .slice A0_1 l0_1.length c0_1] 67 (0, 0)) (by (with_reducible repeat (first | refine blk_drewN ?_ _ | refine blk_drew ?_ | refine blk_alloc ?_ _)); exact BK586.out)) : gb586 ≠ gb587)); have n6_ := Aside0.mk ((by rw [hg]; exact Nat.ne_of_gt (blk_lt (g := gb586) (o := .cells #[.slice A0_0 l0_0.length c0_0, .slice A0_1 l0_1.length c0_1] 67 (0, 0)) (by (with_reducible repeat (first | refine blk_drewN ?_ _ | refine blk_drew ?_ | refine blk_alloc ?_ _)); exact BK586.out)) : gb587 ≠ gb586)); clear BK586; clear HB; have BK586 := n0_; have HB := n1_; have BK587 := n2_; have GW587 := n3_; have GE587 := n4_; have NB586_587 := n5_; have NB587_586 := n6_; clear n0_ n1_ n2_ n3_ n4_ n5_ n6_; clear hb hbox hg; have hnb22 := NB586_587.out; have hnc22 := NB587_586.out; have hcz23_0 : w21.cell? ⟨gb586, 0, none⟩ = some (.slice A0_0 l0_0.length c0_0) := (blk_cell BK586.out 0).trans rfl; have hcz23_1 : w21.cell? ⟨gb586, 1, none⟩ = some (.slice A0_1 l0_1.length c0_1) := (blk_cell BK586.out 1).trans rfl; have hfz23_0 := blk_frozen BK586.out 0; have hfz23_1 := blk_frozen BK586.out 1) | ((with_reducible refine gate_callee (f := 29) rfl ?_); refine goesL_ (some 11) rfl rfl Tryd.func29 (by kernel_rfl) rfl #[.agg #[.slice A0_0 l0_0.length c0_0, .slice A0_1 l0_1.length c0_1], .int .i64 1048576] rfl (by (try simp only [List.map_toArray, List.map_cons, List.map_nil]); first | done | rfl | (simp only [List.length_drop, List.length_take]; rfl)) ?_; (with_reducible refine (laws_szModule.calls k _ _ l0_0 _ _ l0_1 1048576 t588 _ ?side1 ?side2 ?side3 ?side4 A3.out).mono ?_); (case side1 => repeat (first | exact (Kd.C_below HR0_0.out HB.out) | (with_reducible refine Kd.C_alloc ?_ _) | (with_reducible refine Kd.C_drewN ?_ _) | (with_reducible refine Kd.C_drew ?_))); (case side2 => exact HC0_0.out); (case side3 => repeat (first | exact (Kd.C_below HR0_1.out HB.out) | (with_reducible refine Kd.C_alloc ?_ _) | (with_reducible refine Kd.C_drewN ?_ _) | (with_reducible refine Kd.C_drew ?_))); (case side4 => exact HC0_1.out); rintro e w24 ⟨rfl, hb⟩; refine ⟨_, rfl, ?_⟩; have n0_ := Aside0.mk (blk_below (g := gb586) (o := .cells #[.slice A0_0 l0_0.length c0_0, .slice A0_1 l0_1.length c0_1] 67 (0, 0)) (by (with_reducible repeat (first | refine blk_drewN ?_ _ | refine blk_drew ?_ | refine blk_alloc ?_ _)); exact BK586.out) hb); have n1_ := Aside0.mk (blk_below (g := gb587) (o := .cells #[.int .i64 a1_0, .int .i64 a1_1, .int .i64 a1_2, .int .u64 a1_3] 69 (0, 0)) (by (with_reducible repeat (first | refine blk_drewN ?_ _ | refine blk_drew ?_ | refine blk_alloc ?_ _)); exact BK587.out) hb); have n2_ := Aside0.mk (below_step (by repeat (first | (with_reducible first | exact HB.out | apply below_alloc | apply pw_below_drewN | apply below_drew1 | refine below_set ?_ GE586.out | refine below_set ?_ GE587.out) | exact HB.out)) hb); clear BK586; clear BK587; clear HB; have BK586 := n0_; have BK587 := n1_; have HB := n2_; clear n0_ n1_ n2_; (try clear hb); (try clear hb2); (try clear hk); (try clear hi)))
       have n0_ := Aside0.mk (blk_drew BK586.out)
       have n1_ := Aside0.mk (blk_drew BK587.out)
       have n2_ := Aside0.mk (below_drew1 HB.out)
       clear BK586
       clear BK587
       clear HB
       have BK586 := n0_
       have BK587 := n1_
       have HB := n2_
       clear n0_ n1_ n2_
       refine start_ (n := 6) (S := fun w' => w'.cell? ⟨gb586, 0, none⟩ = some (.slice A0_0 l0_0.length c0_0) ∧ w'.cell? ⟨gb586, 1, none⟩ = some (.slice A0_1 l0_1.length c0_1) ∧ w'.cell? ⟨gb587, 0, none⟩ = some (.int .i64 a1_0) ∧ w'.cell? ⟨gb587, 1, none⟩ = some (.int .i64 a1_1) ∧ w'.cell? ⟨gb587, 2, none⟩ = some (.int .i64 a1_2) ∧ w'.cell? ⟨gb587, 3, none⟩ = some (.int .u64 a1_3)) (ds := []) #[false, false, false, false, false, false] (by kernel_rfl) rfl rfl ⟨(blk_cell BK586.out 0).trans rfl, (blk_cell BK586.out 1).trans rfl, (blk_cell BK587.out 0).trans rfl, (blk_cell BK587.out 1).trans rfl, (blk_cell BK587.out 2).trans rfl, (blk_cell BK587.out 3).trans rfl⟩ (fun hHeld => ?_)
       generalize w24.drew = w25 at BK586 BK587 HB hHeld ⊢
       refine take_ (i := 0) (N := some 14) (v := ?_) (a' := ?_) #[true, false, false, false, false, false] rfl rfl (by kernel_rfl) (fun _ _ _ h => h) (Or.inl ⟨by rfl, ?_⟩) hHeld ?_ ?_
       rotate_left
       · rintro w' ⟨s0, s1, s2, s3, s4, s5⟩
         go_simp
         with_reducible rfl
       rotate_left
       · simp only [Act.put, List.setIfInBounds_toArray, List.set_cons_zero, List.set_cons_succ, i64_w, i32_w]
         rfl
       refine take_ (i := 2) (N := some 16) (v := ?_) (a' := ?_) #[true, false, true, false, false, false] rfl rfl (by kernel_rfl) (fun _ _ _ h => h) (Or.inl ⟨by rfl, ?_⟩) hHeld ?_ ?_
       rotate_left
       · rintro w' ⟨s0, s1, s2, s3, s4, s5⟩
         go_simp
         with_reducible rfl
       rotate_left
       · simp only [Act.put, List.setIfInBounds_toArray, List.set_cons_zero, List.set_cons_succ, i64_w, i32_w]
         rfl
       refine one_ (i := 1) (N := some 15) #[true, true, true, false, false, false] rfl rfl (by kernel_rfl) (by decide) (fun K hK => ?_)
       refine goes_ Tryd.func31 (by kernel_rfl) rfl #[.agg #[.slice A0_0 l0_0.length c0_0, .slice A0_1 l0_1.length c0_1]] (by rfl) rfl rfl (by (try simp only [List.map_toArray, List.map_cons, List.map_nil]); first | done | rfl | (simp only [List.length_drop, List.length_take]; rfl)) ?_
       with_reducible refine (laws_toModule.calls k _ _ l0_0 _ _ l0_1 t589 t592 _ ?side1 ?side2 ?side3 ?side4 A10.out).mono ?_
       (case side1 => repeat (first | exact (Kd.C_below HR0_0.out HB.out) | (with_reducible refine Kd.C_alloc ?_ _) | (with_reducible refine Kd.C_drewN ?_ _) | (with_reducible refine Kd.C_drew ?_)))
       (case side2 => exact HC0_0.out)
       (case side3 => repeat (first | exact (Kd.C_below HR0_1.out HB.out) | (with_reducible refine Kd.C_alloc ?_ _) | (with_reducible refine Kd.C_drewN ?_ _) | (with_reducible refine Kd.C_drew ?_)))
       (case side4 => exact HC0_1.out)
       rintro e w26 ⟨v590, v593, rfl, ho0, ho1, hb⟩
       refine ⟨_, rfl, ?_⟩
       have n0_ := Aside0.mk (Kd.S_lower ho0 (below_size (by repeat (first | (with_reducible first | exact HB.out | apply below_alloc | apply pw_below_drewN | apply below_drew1 | refine below_set ?_ GE586.out | refine below_set ?_ GE587.out) | exact HB.out))))
       have n1_ := Aside0.mk (Kd.R_lower ho1 (below_size (by repeat (first | (with_reducible first | exact HB.out | apply below_alloc | apply pw_below_drewN | apply below_drew1 | refine below_set ?_ GE586.out | refine below_set ?_ GE587.out) | exact HB.out))))
       have n2_ := Aside0.mk (blk_below (g := gb586) (o := .cells #[.slice A0_0 l0_0.length c0_0, .slice A0_1 l0_1.length c0_1] 67 (0, 0)) (by (with_reducible repeat (first | refine blk_drewN ?_ _ | refine blk_drew ?_ | refine blk_alloc ?_ _)); exact BK586.out) hb)
       have n3_ := Aside0.mk (blk_below (g := gb587) (o := .cells #[.int .i64 a1_0, .int .i64 a1_1, .int .i64 a1_2, .int .u64 a1_3] 69 (0, 0)) (by (with_reducible repeat (first | refine blk_drewN ?_ _ | refine blk_drew ?_ | refine blk_alloc ?_ _)); exact BK587.out) hb)
       have n4_ := Aside0.mk (below_step (by repeat (first | (with_reducible first | exact HB.out | apply below_alloc | apply pw_below_drewN | apply below_drew1 | refine below_set ?_ GE586.out | refine below_set ?_ GE587.out) | exact HB.out)) hb)
       clear BK586
       clear BK587
       clear HB
       have HO591 := n0_
       have HO594 := n1_
       have BK586 := n2_
       have BK587 := n3_
       have HB := n4_
       clear n0_ n1_ n2_ n3_ n4_
       (try clear hb)
       (try clear hb2)
       (try clear hk)
       (try clear hi)
       (try clear ho0)
       (try clear ho1)
       refine hK.out _ _ ⟨(blk_cell BK586.out 0).trans rfl, (blk_cell BK586.out 1).trans rfl, (blk_cell BK587.out 0).trans rfl, (blk_cell BK587.out 1).trans rfl, (blk_cell BK587.out 2).trans rfl, (blk_cell BK587.out 3).trans rfl⟩ (fun hHeld => ?_)
       clear hK K
       refine norm_ (a' := ?_) ?_ ?_
       rotate_left
       · show Act.put _ (some 15) _ = _
         simp only [Act.put, List.setIfInBounds_toArray, List.set_cons_zero, List.set_cons_succ, i64_w, i32_w]
         rfl
       refine one_ (i := 3) (N := some 17) #[true, true, true, true, false, false] rfl rfl (by kernel_rfl) (by decide) (fun K hK => ?_)
       refine goes_ Tryd.func32 (by kernel_rfl) rfl #[.agg #[.int .i64 a1_0, .int .i64 a1_1, .int .i64 a1_2, .int .u64 a1_3]] (by rfl) rfl rfl (by (try simp only [List.map_toArray, List.map_cons, List.map_nil]); first | done | rfl | (simp only [List.length_drop, List.length_take]; rfl)) ?_
       with_reducible refine (laws_toOperand.calls a1_0 a1_1 a1_2 a1_3 t595 t596 t597 t598 _ A11.out).mono ?_
       rintro e w27 ⟨rfl, hb⟩
       refine ⟨_, rfl, ?_⟩
       have n0_ := Aside0.mk (Kd.S_below (by (with_reducible repeat (first | apply Kd.S_alloc | apply Kd.S_drewN | apply Kd.S_drew)); exact HO591.out) hb)
       have n1_ := Aside0.mk (Kd.R_below (by (with_reducible repeat (first | apply Kd.R_alloc | apply Kd.R_drewN | apply Kd.R_drew)); exact HO594.out) hb)
       have n2_ := Aside0.mk (blk_below (g := gb586) (o := .cells #[.slice A0_0 l0_0.length c0_0, .slice A0_1 l0_1.length c0_1] 67 (0, 0)) (by (with_reducible repeat (first | refine blk_drewN ?_ _ | refine blk_drew ?_ | refine blk_alloc ?_ _)); exact BK586.out) hb)
       have n3_ := Aside0.mk (blk_below (g := gb587) (o := .cells #[.int .i64 a1_0, .int .i64 a1_1, .int .i64 a1_2, .int .u64 a1_3] 69 (0, 0)) (by (with_reducible repeat (first | refine blk_drewN ?_ _ | refine blk_drew ?_ | refine blk_alloc ?_ _)); exact BK587.out) hb)
       have n4_ := Aside0.mk (below_step (by repeat (first | (with_reducible first | exact HB.out | apply below_alloc | apply pw_below_drewN | apply below_drew1 | refine below_set ?_ GE586.out | refine below_set ?_ GE587.out) | exact HB.out)) hb)
       clear HO591
       clear HO594
       clear BK586
       clear BK587
       clear HB
       have HO591 := n0_
       have HO594 := n1_
       have BK586 := n2_
       have BK587 := n3_
       have HB := n4_
       clear n0_ n1_ n2_ n3_ n4_
       (try clear hb)
       (try clear hb2)
       (try clear hk)
       (try clear hi)
       obtain ⟨Ao28, co28, eo28⟩ := Kd.S_slice HO591.out
       (first | subst eo28 | (injection eo28 with f1_ f2_ f3_; have f4_ := f1_.symm; have f5_ := f3_.symm; clear f1_ f2_ f3_; subst f4_; subst f5_))
       obtain ⟨Ao29, co29, eo29⟩ := Kd.R_slice HO594.out
       (first | subst eo29 | (injection eo29 with f1_ f2_ f3_; have f4_ := f1_.symm; have f5_ := f3_.symm; clear f1_ f2_ f3_; subst f4_; subst f5_))
       refine hK.out _ _ ⟨(blk_cell BK586.out 0).trans rfl, (blk_cell BK586.out 1).trans rfl, (blk_cell BK587.out 0).trans rfl, (blk_cell BK587.out 1).trans rfl, (blk_cell BK587.out 2).trans rfl, (blk_cell BK587.out 3).trans rfl⟩ (fun hHeld => ?_)
       clear hK K
       refine norm_ (a' := ?_) ?_ ?_
       rotate_left
       · show Act.put _ (some 17) _ = _
         simp only [Act.put, List.setIfInBounds_toArray, List.set_cons_zero, List.set_cons_succ, i64_w, i32_w]
         rfl
       refine one_ (i := 4) (N := some 18) #[true, true, true, true, true, false] rfl rfl (by kernel_rfl) (by decide) (fun K hK => ?_)
       refine goes_ Tryd.func30 (by kernel_rfl) rfl #[.agg #[.slice Ao28 t589.length co28, .slice Ao29 t592.length co29], .agg #[.int .i64 t595, .int .i64 t596, .int .i64 t597, .int .u64 t598]] (by rfl) rfl rfl (by (try simp only [List.map_toArray, List.map_cons, List.map_nil]); first | done | rfl | (simp only [List.length_drop, List.length_take]; rfl)) ?_
       with_reducible refine (spec_FormatOperand.calls k _ _ t589 _ _ t592 t595 t596 t597 t598 t599 _ ?side1 ?side2 ?side3 ?side4 A12.out).mono ?_
       (case side1 => repeat (first | exact (Kd.S_reads' HO591.out).2.2 | (with_reducible refine Kd.C_alloc ?_ _) | (with_reducible refine Kd.C_drewN ?_ _) | (with_reducible refine Kd.C_drew ?_)))
       (case side2 => exact (Kd.S_reads' HO591.out).2.1)
       (case side3 => repeat (first | exact (Kd.R_reads' HO594.out).2.2 | (with_reducible refine Kd.C_alloc ?_ _) | (with_reducible refine Kd.C_drewN ?_ _) | (with_reducible refine Kd.C_drew ?_)))
       (case side4 => exact (Kd.R_reads' HO594.out).2.1)
       rintro e w30 ⟨rfl, hb⟩
       refine ⟨_, rfl, ?_⟩
       have n0_ := Aside0.mk (Kd.S_below (by (with_reducible repeat (first | apply Kd.S_alloc | apply Kd.S_drewN | apply Kd.S_drew)); exact HO591.out) hb)
       have n1_ := Aside0.mk (Kd.R_below (by (with_reducible repeat (first | apply Kd.R_alloc | apply Kd.R_drewN | apply Kd.R_drew)); exact HO594.out) hb)
       have n2_ := Aside0.mk (blk_below (g := gb586) (o := .cells #[.slice A0_0 l0_0.length c0_0, .slice A0_1 l0_1.length c0_1] 67 (0, 0)) (by (with_reducible repeat (first | refine blk_drewN ?_ _ | refine blk_drew ?_ | refine blk_alloc ?_ _)); exact BK586.out) hb)
       have n3_ := Aside0.mk (blk_below (g := gb587) (o := .cells #[.int .i64 a1_0, .int .i64 a1_1, .int .i64 a1_2, .int .u64 a1_3] 69 (0, 0)) (by (with_reducible repeat (first | refine blk_drewN ?_ _ | refine blk_drew ?_ | refine blk_alloc ?_ _)); exact BK587.out) hb)
       have n4_ := Aside0.mk (below_step (by repeat (first | (with_reducible first | exact HB.out | apply below_alloc | apply pw_below_drewN | apply below_drew1 | refine below_set ?_ GE586.out | refine below_set ?_ GE587.out) | exact HB.out)) hb)
       clear HO591
       clear HO594
       clear BK586
       clear BK587
       clear HB
       have HO591 := n0_
       have HO594 := n1_
       have BK586 := n2_
       have BK587 := n3_
       have HB := n4_
       clear n0_ n1_ n2_ n3_ n4_
       (try clear hb)
       (try clear hb2)
       (try clear hk)
       (try clear hi)
       refine hK.out _ _ ⟨(blk_cell BK586.out 0).trans rfl, (blk_cell BK586.out 1).trans rfl, (blk_cell BK587.out 0).trans rfl, (blk_cell BK587.out 1).trans rfl, (blk_cell BK587.out 2).trans rfl, (blk_cell BK587.out 3).trans rfl⟩ (fun hHeld => ?_)
       clear hK K
       refine norm_ (a' := ?_) ?_ ?_
       rotate_left
       · show Act.put _ (some 18) _ = _
         simp only [Act.put, List.setIfInBounds_toArray, List.set_cons_zero, List.set_cons_succ, i64_w, i32_w]
         rfl
       refine pure_ (i := 5) (N := some 6) (v := ?_) (a' := ?_) #[true, true, true, true, true, true] rfl rfl (by kernel_rfl) (fun _ _ _ h => h) (Or.inl ⟨by rfl, ?_⟩) ?_ ?_
       rotate_left
       · intro w'
         go_simp
         with_reducible rfl
       rotate_left
       · simp only [Act.put, List.setIfInBounds_toArray, List.set_cons_zero, List.set_cons_succ, i64_w, i32_w]
         rfl
       refine done_ (by kernel_rfl) ?_
       have hcz31_0 : w30.cell? ⟨gb586, 0, none⟩ = some (.slice A0_0 l0_0.length c0_0) := (blk_cell BK586.out 0).trans rfl
       have hcz31_1 : w30.cell? ⟨gb586, 1, none⟩ = some (.slice A0_1 l0_1.length c0_1) := (blk_cell BK586.out 1).trans rfl
       have hfz31_0 := blk_frozen BK586.out 0
       have hfz31_1 := blk_frozen BK586.out 1
       try go_wp2_with (first | ((with_reducible refine gate_callee (f := 31) rfl ?_); refine goesL_ (some 20) rfl rfl Tryd.func31 (by kernel_rfl) rfl #[.agg #[.slice A0_0 l0_0.length c0_0, .slice A0_1 l0_1.length c0_1]] rfl (by (try simp only [List.map_toArray, List.map_cons, List.map_nil]); first | done | rfl | (simp only [List.length_drop, List.length_take]; rfl)) ?_; (with_reducible refine (laws_toModule.calls k _ _ l0_0 _ _ l0_1 t600 t603 _ ?side1 ?side2 ?side3 ?side4 A13.out).mono ?_); (case side1 => repeat (first | exact (Kd.C_below HR0_0.out HB.out) | (with_reducible refine Kd.C_alloc ?_ _) | (with_reducible refine Kd.C_drewN ?_ _) | (with_reducible refine Kd.C_drew ?_))); (case side2 => exact HC0_0.out); (case side3 => repeat (first | exact (Kd.C_below HR0_1.out HB.out) | (with_reducible refine Kd.C_alloc ?_ _) | (with_reducible refine Kd.C_drewN ?_ _) | (with_reducible refine Kd.C_drew ?_))); (case side4 => exact HC0_1.out); rintro e w32 ⟨v601, v604, rfl, ho0, ho1, hb⟩; refine ⟨_, rfl, ?_⟩; have n0_ := Aside0.mk (Kd.S_elder' (by (with_reducible repeat (first | apply Kd.S_alloc | apply Kd.S_drewN | apply Kd.S_drew)); exact HO591.out) (Kd.S_base ho0) hb); have n1_ := Aside0.mk (Kd.R_elder' (by (with_reducible repeat (first | apply Kd.R_alloc | apply Kd.R_drewN | apply Kd.R_drew)); exact HO594.out) (Kd.R_base ho1) hb); have n2_ := Aside0.mk (Kd.S_lower (Kd.S_new' ho0 (Kd.S_lt (by (with_reducible repeat (first | apply Kd.S_alloc | apply Kd.S_drewN | apply Kd.S_drew)); exact HO591.out))) (below_size (by repeat (first | (with_reducible first | exact HB.out | apply below_alloc | apply pw_below_drewN | apply below_drew1 | refine below_set ?_ GE586.out | refine below_set ?_ GE587.out) | exact HB.out)))); have n3_ := Aside0.mk (Kd.R_lower (Kd.R_new' ho1 (Kd.R_lt (by (with_reducible repeat (first | apply Kd.R_alloc | apply Kd.R_drewN | apply Kd.R_drew)); exact HO594.out))) (below_size (by repeat (first | (with_reducible first | exact HB.out | apply below_alloc | apply pw_below_drewN | apply below_drew1 | refine below_set ?_ GE586.out | refine below_set ?_ GE587.out) | exact HB.out)))); have n4_ := Aside0.mk (blk_below (g := gb586) (o := .cells #[.slice A0_0 l0_0.length c0_0, .slice A0_1 l0_1.length c0_1] 67 (0, 0)) (by (with_reducible repeat (first | refine blk_drewN ?_ _ | refine blk_drew ?_ | refine blk_alloc ?_ _)); exact BK586.out) hb); have n5_ := Aside0.mk (blk_below (g := gb587) (o := .cells #[.int .i64 a1_0, .int .i64 a1_1, .int .i64 a1_2, .int .u64 a1_3] 69 (0, 0)) (by (with_reducible repeat (first | refine blk_drewN ?_ _ | refine blk_drew ?_ | refine blk_alloc ?_ _)); exact BK587.out) hb); have n6_ := Aside0.mk (below_step (by repeat (first | (with_reducible first | exact HB.out | apply below_alloc | apply pw_below_drewN | apply below_drew1 | refine below_set ?_ GE586.out | refine below_set ?_ GE587.out) | exact HB.out)) hb); clear HO591; clear HO594; clear BK586; clear BK587; clear HB; have HO591 := n0_; have HO594 := n1_; have HO602 := n2_; have HO605 := n3_; have BK586 := n4_; have BK587 := n5_; have HB := n6_; clear n0_ n1_ n2_ n3_ n4_ n5_ n6_; (try clear hb); (try clear hb2); (try clear hk); (try clear hi); (try clear ho0); (try clear ho1)) | ((with_reducible refine gate_dst (N := 7) rfl ?_); refine box_event ?hg (N := 7) ?hd (cs := #[.slice none 0 0, .slice none 0 0]) (t := 75) ?hr ?_; (case hd => rfl); (case hg => rfl); (case hr => first | (go_simp; done) | (go_simp; rfl)); intro gb606 hg w33 hbox hb; have n0_ := Aside0.mk (Kd.S_below (by (with_reducible repeat (first | apply Kd.S_alloc | apply Kd.S_drewN | apply Kd.S_drew)); exact HO591.out) hb); have n1_ := Aside0.mk (Kd.R_below (by (with_reducible repeat (first | apply Kd.R_alloc | apply Kd.R_drewN | apply Kd.R_drew)); exact HO594.out) hb); have n2_ := Aside0.mk (Kd.S_below (by (with_reducible repeat (first | apply Kd.S_alloc | apply Kd.S_drewN | apply Kd.S_drew)); exact HO602.out) hb); have n3_ := Aside0.mk (Kd.R_below (by (with_reducible repeat (first | apply Kd.R_alloc | apply Kd.R_drewN | apply Kd.R_drew)); exact HO605.out) hb); have n4_ := Aside0.mk (blk_below (g := gb586) (o := .cells #[.slice A0_0 l0_0.length c0_0, .slice A0_1 l0_1.length c0_1] 67 (0, 0)) (by (with_reducible repeat (first | refine blk_drewN ?_ _ | refine blk_drew ?_ | refine blk_alloc ?_ _)); exact BK586.out) hb); have n5_ := Aside0.mk (blk_below (g := gb587) (o := .cells #[.int .i64 a1_0, .int .i64 a1_1, .int .i64 a1_2, .int .u64 a1_3] 69 (0, 0)) (by (with_reducible repeat (first | refine blk_drewN ?_ _ | refine blk_drew ?_ | refine blk_alloc ?_ _)); exact BK587.out) hb); have n6_ := Aside0.mk (below_step (by repeat (first | (with_reducible first | exact HB.out | apply below_alloc | apply pw_below_drewN | apply below_drew1 | refine below_set ?_ GE586.out | refine below_set ?_ GE587.out) | exact HB.out)) hb); have n7_ := Aside0.mk (hbox); have n8_ := Aside0.mk ((by rw [hg]; exact (below_size (by repeat (first | (with_reducible first | exact HB.out | apply below_alloc | apply pw_below_drewN | apply below_drew1 | refine below_set ?_ GE586.out | refine below_set ?_ GE587.out) | exact HB.out))) : w.heap.size ≤ gb606)); have n9_ := Aside0.mk ((by rw [hg]; exact (below_size (by repeat (first | (with_reducible first | exact HB.out | apply below_alloc | apply pw_below_drewN | apply below_drew1 | refine below_set ?_ GE586.out | refine below_set ?_ GE587.out) | exact HB.out))) : w.heap.size ≤ gb606)); have n10_ := Aside0.mk ((by rw [hg]; exact Nat.ne_of_lt (blk_lt (g := gb586) (o := .cells #[.slice A0_0 l0_0.length c0_0, .slice A0_1 l0_1.length c0_1] 67 (0, 0)) (by (with_reducible repeat (first | refine blk_drewN ?_ _ | refine blk_drew ?_ | refine blk_alloc ?_ _)); exact BK586.out)) : gb586 ≠ gb606)); have n11_ := Aside0.mk ((by rw [hg]; exact Nat.ne_of_gt (blk_lt (g := gb586) (o := .cells #[.slice A0_0 l0_0.length c0_0, .slice A0_1 l0_1.length c0_1] 67 (0, 0)) (by (with_reducible repeat (first | refine blk_drewN ?_ _ | refine blk_drew ?_ | refine blk_alloc ?_ _)); exact BK586.out)) : gb606 ≠ gb586)); have n12_ := Aside0.mk ((by rw [hg]; exact Nat.ne_of_lt (blk_lt (g := gb587) (o := .cells #[.int .i64 a1_0, .int .i64 a1_1, .int .i64 a1_2, .int .u64 a1_3] 69 (0, 0)) (by (with_reducible repeat (first | refine blk_drewN ?_ _ | refine blk_drew ?_ | refine blk_alloc ?_ _)); exact BK587.out)) : gb587 ≠ gb606)); have n13_ := Aside0.mk ((by rw [hg]; exact Nat.ne_of_gt (blk_lt (g := gb587) (o := .cells #[.int .i64 a1_0, .int .i64 a1_1, .int .i64 a1_2, .int .u64 a1_3] 69 (0, 0)) (by (with_reducible repeat (first | refine blk_drewN ?_ _ | refine blk_drew ?_ | refine blk_alloc ?_ _)); exact BK587.out)) : gb606 ≠ gb587)); clear HO591; clear HO594; clear HO602; clear HO605; clear BK586; clear BK587; clear HB; have HO591 := n0_; have HO594 := n1_; have HO602 := n2_; have HO605 := n3_; have BK586 := n4_; have BK587 := n5_; have HB := n6_; have BK606 := n7_; have GW606 := n8_; have GE606 := n9_; have NB586_606 := n10_; have NB606_586 := n11_; have NB587_606 := n12_; have NB606_587 := n13_; clear n0_ n1_ n2_ n3_ n4_ n5_ n6_ n7_ n8_ n9_ n10_ n11_ n12_ n13_; clear hb hbox hg; obtain ⟨Ao34, co34, eo34⟩ := Kd.S_slice HO602.out; subst eo34; have hnb35 := NB606_586.out; have hnc35 := NB586_606.out; have hnb36 := NB606_587.out; have hnc36 := NB587_606.out; have hcz37_0 : w33.cell? ⟨gb606, 0, none⟩ = some (.slice none 0 0) := (blk_cell BK606.out 0).trans rfl; have hcz37_1 : w33.cell? ⟨gb606, 1, none⟩ = some (.slice none 0 0) := (blk_cell BK606.out 1).trans rfl; have hfz37_0 := blk_frozen BK606.out 0; have hfz37_1 := blk_frozen BK606.out 1; obtain ⟨Ao38, co38, eo38⟩ := Kd.R_slice HO605.out; subst eo38))
       have n0_ : Aside0 (Kd.S k127 127 ((w33.setCell ⟨gb606, 0, none⟩ (.slice Ao34 t600.length co34)).setCell ⟨gb606, 1, none⟩ (.slice Ao38 t603.length co38)) w.heap.size (fun k_ => some k_ ≠ (.slice Ao34 t600.length co34 : Value).ownBlock) (.slice Ao28 t589.length co28) t589) := ⟨by (with_reducible repeat (first | apply Kd.S_alloc | apply Kd.S_drewN | apply Kd.S_drew)); exact Kd.S_mono (Kd.S_far (p := ⟨gb606, 1, none⟩) (Kd.S_far (p := ⟨gb606, 0, none⟩) (Kd.S_types HO591.out BK606.out (by decide)) (fun _ hk => hk.2) (.slice Ao34 t600.length co34)) (fun _ hk => hk.2) (.slice Ao38 t603.length co38)) (fun _ hk => hk.1.2)⟩
       have n1_ : Aside0 (Kd.R k149 149 ((w33.setCell ⟨gb606, 0, none⟩ (.slice Ao34 t600.length co34)).setCell ⟨gb606, 1, none⟩ (.slice Ao38 t603.length co38)) w.heap.size (fun k_ => some k_ ≠ (.slice Ao38 t603.length co38 : Value).ownBlock) (.slice Ao29 t592.length co29) t592) := ⟨by (with_reducible repeat (first | apply Kd.R_alloc | apply Kd.R_drewN | apply Kd.R_drew)); exact Kd.R_mono (Kd.R_far (p := ⟨gb606, 1, none⟩) (Kd.R_far (p := ⟨gb606, 0, none⟩) (Kd.R_types HO594.out BK606.out (by decide)) (fun _ hk => hk.2) (.slice Ao34 t600.length co34)) (fun _ hk => hk.2) (.slice Ao38 t603.length co38)) (fun _ hk => hk.1.2)⟩
       have n2_ : Aside0 (Kd.S k127 127 ((w33.setCell ⟨gb606, 0, none⟩ (.slice Ao34 t600.length co34)).setCell ⟨gb606, 1, none⟩ (.slice Ao38 t603.length co38)) w.heap.size (fun k_ => some k_ ≠ (.slice Ao28 t589.length co28 : Value).ownBlock) (.slice Ao34 t600.length co34) t600) := ⟨by (with_reducible repeat (first | apply Kd.S_alloc | apply Kd.S_drewN | apply Kd.S_drew)); exact Kd.S_mono (Kd.S_far (p := ⟨gb606, 1, none⟩) (Kd.S_far (p := ⟨gb606, 0, none⟩) (Kd.S_types HO602.out BK606.out (by decide)) (fun _ hk => hk.2) (.slice Ao34 t600.length co34)) (fun _ hk => hk.2) (.slice Ao38 t603.length co38)) (fun _ hk => hk.1.2)⟩
       have n3_ : Aside0 (Kd.R k149 149 ((w33.setCell ⟨gb606, 0, none⟩ (.slice Ao34 t600.length co34)).setCell ⟨gb606, 1, none⟩ (.slice Ao38 t603.length co38)) w.heap.size (fun k_ => some k_ ≠ (.slice Ao29 t592.length co29 : Value).ownBlock) (.slice Ao38 t603.length co38) t603) := ⟨by (with_reducible repeat (first | apply Kd.R_alloc | apply Kd.R_drewN | apply Kd.R_drew)); exact Kd.R_mono (Kd.R_far (p := ⟨gb606, 1, none⟩) (Kd.R_far (p := ⟨gb606, 0, none⟩) (Kd.R_types HO605.out BK606.out (by decide)) (fun _ hk => hk.2) (.slice Ao34 t600.length co34)) (fun _ hk => hk.2) (.slice Ao38 t603.length co38)) (fun _ hk => hk.1.2)⟩
       have n4_ : Aside0 (((w33.setCell ⟨gb606, 0, none⟩ (.slice Ao34 t600.length co34)).setCell ⟨gb606, 1, none⟩ (.slice Ao38 t603.length co38)).heap[gb586]? = some (.cells #[.slice A0_0 l0_0.length c0_0, .slice A0_1 l0_1.length c0_1] 67 (0, 0))) := ⟨by (with_reducible repeat (first | refine blk_drewN ?_ _ | refine blk_drew ?_ | refine blk_alloc ?_ _)); refine blk_far ?_ NB586_606.out _; (with_reducible repeat (first | refine blk_drewN ?_ _ | refine blk_drew ?_ | refine blk_alloc ?_ _)); refine blk_far ?_ NB586_606.out _; (with_reducible repeat (first | refine blk_drewN ?_ _ | refine blk_drew ?_ | refine blk_alloc ?_ _)); exact BK586.out⟩
       have n5_ : Aside0 (((w33.setCell ⟨gb606, 0, none⟩ (.slice Ao34 t600.length co34)).setCell ⟨gb606, 1, none⟩ (.slice Ao38 t603.length co38)).heap[gb587]? = some (.cells #[.int .i64 a1_0, .int .i64 a1_1, .int .i64 a1_2, .int .u64 a1_3] 69 (0, 0))) := ⟨by (with_reducible repeat (first | refine blk_drewN ?_ _ | refine blk_drew ?_ | refine blk_alloc ?_ _)); refine blk_far ?_ NB587_606.out _; (with_reducible repeat (first | refine blk_drewN ?_ _ | refine blk_drew ?_ | refine blk_alloc ?_ _)); refine blk_far ?_ NB587_606.out _; (with_reducible repeat (first | refine blk_drewN ?_ _ | refine blk_drew ?_ | refine blk_alloc ?_ _)); exact BK587.out⟩
       have n6_ : Aside0 (((w33.setCell ⟨gb606, 0, none⟩ (.slice Ao34 t600.length co34)).setCell ⟨gb606, 1, none⟩ (.slice Ao38 t603.length co38)).heap[gb606]? = some (.cells #[.slice Ao34 t600.length co34, .slice Ao38 t603.length co38] 75 (0, 0))) := ⟨by (with_reducible repeat (first | refine blk_drewN ?_ _ | refine blk_drew ?_ | refine blk_alloc ?_ _)); refine blk_put (cs := #[.slice Ao34 t600.length co34, .slice none 0 0]) ?_ 1 _ rfl; (with_reducible repeat (first | refine blk_drewN ?_ _ | refine blk_drew ?_ | refine blk_alloc ?_ _)); refine blk_put (cs := #[.slice none 0 0, .slice none 0 0]) ?_ 0 _ rfl; (with_reducible repeat (first | refine blk_drewN ?_ _ | refine blk_drew ?_ | refine blk_alloc ?_ _)); exact BK606.out⟩
       have n7_ : Aside0 (Below w.heap.size w ((w33.setCell ⟨gb606, 0, none⟩ (.slice Ao34 t600.length co34)).setCell ⟨gb606, 1, none⟩ (.slice Ao38 t603.length co38))) := ⟨by repeat (first | (with_reducible first | exact HB.out | apply below_alloc | apply pw_below_drewN | apply below_drew1 | refine below_set ?_ GE586.out | refine below_set ?_ GE587.out | refine below_set ?_ GE606.out) | exact HB.out)⟩
       (try clear HO591)
       (try clear HO594)
       (try clear HO602)
       (try clear HO605)
       (try clear BK586)
       (try clear BK587)
       (try clear BK606)
       (try clear HB)
       generalize ((w33.setCell ⟨gb606, 0, none⟩ (.slice Ao34 t600.length co34)).setCell ⟨gb606, 1, none⟩ (.slice Ao38 t603.length co38)) = w39 at n0_ n1_ n2_ n3_ n4_ n5_ n6_ n7_ ⊢
       have HO591 := n0_
       have HO594 := n1_
       have HO602 := n2_
       have HO605 := n3_
       have BK586 := n4_
       have BK587 := n5_
       have BK606 := n6_
       have HB := n7_
       clear n0_ n1_ n2_ n3_ n4_ n5_ n6_ n7_
       have n0_ := Aside0.mk (Kd.S_drew HO591.out)
       have n1_ := Aside0.mk (Kd.R_drew HO594.out)
       have n2_ := Aside0.mk (Kd.S_drew HO602.out)
       have n3_ := Aside0.mk (Kd.R_drew HO605.out)
       have n4_ := Aside0.mk (blk_drew BK586.out)
       have n5_ := Aside0.mk (blk_drew BK587.out)
       have n6_ := Aside0.mk (blk_drew BK606.out)
       have n7_ := Aside0.mk (below_drew1 HB.out)
       clear HO591
       clear HO594
       clear HO602
       clear HO605
       clear BK586
       clear BK587
       clear BK606
       clear HB
       have HO591 := n0_
       have HO594 := n1_
       have HO602 := n2_
       have HO605 := n3_
       have BK586 := n4_
       have BK587 := n5_
       have BK606 := n6_
       have HB := n7_
       clear n0_ n1_ n2_ n3_ n4_ n5_ n6_ n7_
       refine start_ (n := 5) (S := fun w' => w'.cell? ⟨gb606, 0, none⟩ = some (.slice Ao34 t600.length co34) ∧ w'.cell? ⟨gb606, 1, none⟩ = some (.slice Ao38 t603.length co38) ∧ w'.cell? ⟨gb587, 0, none⟩ = some (.int .i64 a1_0) ∧ w'.cell? ⟨gb587, 1, none⟩ = some (.int .i64 a1_1) ∧ w'.cell? ⟨gb587, 2, none⟩ = some (.int .i64 a1_2) ∧ w'.cell? ⟨gb587, 3, none⟩ = some (.int .u64 a1_3)) (ds := []) #[false, false, false, false, false] (by kernel_rfl) rfl rfl ⟨(blk_cell BK606.out 0).trans rfl, (blk_cell BK606.out 1).trans rfl, (blk_cell BK587.out 0).trans rfl, (blk_cell BK587.out 1).trans rfl, (blk_cell BK587.out 2).trans rfl, (blk_cell BK587.out 3).trans rfl⟩ (fun hHeld => ?_)
       generalize w39.drew = w40 at HO591 HO594 HO602 HO605 BK586 BK587 BK606 HB hHeld ⊢
       refine take_ (i := 0) (N := some 21) (v := ?_) (a' := ?_) #[true, false, false, false, false] rfl rfl (by kernel_rfl) (fun _ _ _ h => h) (Or.inl ⟨by rfl, ?_⟩) hHeld ?_ ?_
       rotate_left
       · rintro w' ⟨s0, s1, s2, s3, s4, s5⟩
         go_simp
         with_reducible rfl
       rotate_left
       · simp only [Act.put, List.setIfInBounds_toArray, List.set_cons_zero, List.set_cons_succ, i64_w, i32_w]
         rfl
       refine take_ (i := 1) (N := some 22) (v := ?_) (a' := ?_) #[true, true, false, false, false] rfl rfl (by kernel_rfl) (fun _ _ _ h => h) (Or.inl ⟨by rfl, ?_⟩) hHeld ?_ ?_
       rotate_left
       · rintro w' ⟨s0, s1, s2, s3, s4, s5⟩
         go_simp
         with_reducible rfl
       rotate_left
       · simp only [Act.put, List.setIfInBounds_toArray, List.set_cons_zero, List.set_cons_succ, i64_w, i32_w]
         rfl
       refine one_ (i := 2) (N := some 23) #[true, true, true, false, false] rfl rfl (by kernel_rfl) (by decide) (fun K hK => ?_)
       refine goes_ Tryd.func32 (by kernel_rfl) rfl #[.agg #[.int .i64 a1_0, .int .i64 a1_1, .int .i64 a1_2, .int .u64 a1_3]] (by rfl) rfl rfl (by (try simp only [List.map_toArray, List.map_cons, List.map_nil]); first | done | rfl | (simp only [List.length_drop, List.length_take]; rfl)) ?_
       with_reducible refine (laws_toOperand.calls a1_0 a1_1 a1_2 a1_3 t607 t608 t609 t610 _ A14.out).mono ?_
       rintro e w41 ⟨rfl, hb⟩
       refine ⟨_, rfl, ?_⟩
       have n0_ := Aside0.mk (Kd.S_below (by (with_reducible repeat (first | apply Kd.S_alloc | apply Kd.S_drewN | apply Kd.S_drew)); exact HO591.out) hb)
       have n1_ := Aside0.mk (Kd.R_below (by (with_reducible repeat (first | apply Kd.R_alloc | apply Kd.R_drewN | apply Kd.R_drew)); exact HO594.out) hb)
       have n2_ := Aside0.mk (Kd.S_below (by (with_reducible repeat (first | apply Kd.S_alloc | apply Kd.S_drewN | apply Kd.S_drew)); exact HO602.out) hb)
       have n3_ := Aside0.mk (Kd.R_below (by (with_reducible repeat (first | apply Kd.R_alloc | apply Kd.R_drewN | apply Kd.R_drew)); exact HO605.out) hb)
       have n4_ := Aside0.mk (blk_below (g := gb586) (o := .cells #[.slice A0_0 l0_0.length c0_0, .slice A0_1 l0_1.length c0_1] 67 (0, 0)) (by (with_reducible repeat (first | refine blk_drewN ?_ _ | refine blk_drew ?_ | refine blk_alloc ?_ _)); exact BK586.out) hb)
       have n5_ := Aside0.mk (blk_below (g := gb587) (o := .cells #[.int .i64 a1_0, .int .i64 a1_1, .int .i64 a1_2, .int .u64 a1_3] 69 (0, 0)) (by (with_reducible repeat (first | refine blk_drewN ?_ _ | refine blk_drew ?_ | refine blk_alloc ?_ _)); exact BK587.out) hb)
       have n6_ := Aside0.mk (blk_below (g := gb606) (o := .cells #[.slice Ao34 t600.length co34, .slice Ao38 t603.length co38] 75 (0, 0)) (by (with_reducible repeat (first | refine blk_drewN ?_ _ | refine blk_drew ?_ | refine blk_alloc ?_ _)); exact BK606.out) hb)
       have n7_ := Aside0.mk (below_step (by repeat (first | (with_reducible first | exact HB.out | apply below_alloc | apply pw_below_drewN | apply below_drew1 | refine below_set ?_ GE586.out | refine below_set ?_ GE587.out | refine below_set ?_ GE606.out) | exact HB.out)) hb)
       clear HO591
       clear HO594
       clear HO602
       clear HO605
       clear BK586
       clear BK587
       clear BK606
       clear HB
       have HO591 := n0_
       have HO594 := n1_
       have HO602 := n2_
       have HO605 := n3_
       have BK586 := n4_
       have BK587 := n5_
       have BK606 := n6_
       have HB := n7_
       clear n0_ n1_ n2_ n3_ n4_ n5_ n6_ n7_
       (try clear hb)
       (try clear hb2)
       (try clear hk)
       (try clear hi)
       refine hK.out _ _ ⟨(blk_cell BK606.out 0).trans rfl, (blk_cell BK606.out 1).trans rfl, (blk_cell BK587.out 0).trans rfl, (blk_cell BK587.out 1).trans rfl, (blk_cell BK587.out 2).trans rfl, (blk_cell BK587.out 3).trans rfl⟩ (fun hHeld => ?_)
       clear hK K
       refine norm_ (a' := ?_) ?_ ?_
       rotate_left
       · show Act.put _ (some 23) _ = _
         simp only [Act.put, List.setIfInBounds_toArray, List.set_cons_zero, List.set_cons_succ, i64_w, i32_w]
         rfl
       refine one_ (i := 3) (N := some 24) #[true, true, true, true, false] rfl rfl (by kernel_rfl) (by decide) (fun K hK => ?_)
       refine goes_ Tryd.func33 (by kernel_rfl) rfl #[.agg #[.slice Ao34 t600.length co34, .slice Ao38 t603.length co38], .agg #[.int .i64 t607, .int .i64 t608, .int .i64 t609, .int .u64 t610]] (by rfl) rfl rfl (by (try simp only [List.map_toArray, List.map_cons, List.map_nil]); first | done | rfl | (simp only [List.length_drop, List.length_take]; rfl)) ?_
       with_reducible refine (impl_FormatOperand.calls _ _ t600 _ _ t603 t607 t608 t609 t610 t611 _ ?tLtTab ?side1 ?side2 ?side3 ?side4 A15.out).mono ?_
       (case tLtTab => exact HLtTab.out.on HB.out)
       (case side1 => repeat (first | exact (Kd.S_reads' HO602.out).2.2 | (with_reducible refine Kd.C_alloc ?_ _) | (with_reducible refine Kd.C_drewN ?_ _) | (with_reducible refine Kd.C_drew ?_)))
       (case side2 => exact (Kd.S_reads' HO602.out).2.1)
       (case side3 => repeat (first | exact (Kd.R_reads' HO605.out).2.2 | (with_reducible refine Kd.C_alloc ?_ _) | (with_reducible refine Kd.C_drewN ?_ _) | (with_reducible refine Kd.C_drew ?_)))
       (case side4 => exact (Kd.R_reads' HO605.out).2.1)
       rintro e w42 ⟨rfl, hb⟩
       refine ⟨_, rfl, ?_⟩
       have n0_ := Aside0.mk (Kd.S_below (by (with_reducible repeat (first | apply Kd.S_alloc | apply Kd.S_drewN | apply Kd.S_drew)); exact HO591.out) hb)
       have n1_ := Aside0.mk (Kd.R_below (by (with_reducible repeat (first | apply Kd.R_alloc | apply Kd.R_drewN | apply Kd.R_drew)); exact HO594.out) hb)
       have n2_ := Aside0.mk (Kd.S_below (by (with_reducible repeat (first | apply Kd.S_alloc | apply Kd.S_drewN | apply Kd.S_drew)); exact HO602.out) hb)
       have n3_ := Aside0.mk (Kd.R_below (by (with_reducible repeat (first | apply Kd.R_alloc | apply Kd.R_drewN | apply Kd.R_drew)); exact HO605.out) hb)
       have n4_ := Aside0.mk (blk_below (g := gb586) (o := .cells #[.slice A0_0 l0_0.length c0_0, .slice A0_1 l0_1.length c0_1] 67 (0, 0)) (by (with_reducible repeat (first | refine blk_drewN ?_ _ | refine blk_drew ?_ | refine blk_alloc ?_ _)); exact BK586.out) hb)
       have n5_ := Aside0.mk (blk_below (g := gb587) (o := .cells #[.int .i64 a1_0, .int .i64 a1_1, .int .i64 a1_2, .int .u64 a1_3] 69 (0, 0)) (by (with_reducible repeat (first | refine blk_drewN ?_ _ | refine blk_drew ?_ | refine blk_alloc ?_ _)); exact BK587.out) hb)
       have n6_ := Aside0.mk (blk_below (g := gb606) (o := .cells #[.slice Ao34 t600.length co34, .slice Ao38 t603.length co38] 75 (0, 0)) (by (with_reducible repeat (first | refine blk_drewN ?_ _ | refine blk_drew ?_ | refine blk_alloc ?_ _)); exact BK606.out) hb)
       have n7_ := Aside0.mk (below_step (by repeat (first | (with_reducible first | exact HB.out | apply below_alloc | apply pw_below_drewN | apply below_drew1 | refine below_set ?_ GE586.out | refine below_set ?_ GE587.out | refine below_set ?_ GE606.out) | exact HB.out)) hb)
       clear HO591
       clear HO594
       clear HO602
       clear HO605
       clear BK586
       clear BK587
       clear BK606
       clear HB
       have HO591 := n0_
       have HO594 := n1_
       have HO602 := n2_
       have HO605 := n3_
       have BK586 := n4_
       have BK587 := n5_
       have BK606 := n6_
       have HB := n7_
       clear n0_ n1_ n2_ n3_ n4_ n5_ n6_ n7_
       (try clear hb)
       (try clear hb2)
       (try clear hk)
       (try clear hi)
       refine hK.out _ _ ⟨(blk_cell BK606.out 0).trans rfl, (blk_cell BK606.out 1).trans rfl, (blk_cell BK587.out 0).trans rfl, (blk_cell BK587.out 1).trans rfl, (blk_cell BK587.out 2).trans rfl, (blk_cell BK587.out 3).trans rfl⟩ (fun hHeld => ?_)
       clear hK K
       refine norm_ (a' := ?_) ?_ ?_
       rotate_left
       · show Act.put _ (some 24) _ = _
         simp only [Act.put, List.setIfInBounds_toArray, List.set_cons_zero, List.set_cons_succ, i64_w, i32_w]
         rfl
       refine pure_ (i := 4) (N := some 8) (v := ?_) (a' := ?_) #[true, true, true, true, true] rfl rfl (by kernel_rfl) (fun _ _ _ h => h) (Or.inl ⟨by rfl, ?_⟩) ?_ ?_
       rotate_left
       · intro w'
         go_simp
         with_reducible rfl
       rotate_left
       · simp only [Act.put, List.setIfInBounds_toArray, List.set_cons_zero, List.set_cons_succ, i64_w, i32_w]
         rfl
       refine done_ (by kernel_rfl) ?_
       try go_wp2
       have n0_ := Aside0.mk (Kd.S_drew HO591.out)
       have n1_ := Aside0.mk (Kd.R_drew HO594.out)
       have n2_ := Aside0.mk (Kd.S_drew HO602.out)
       have n3_ := Aside0.mk (Kd.R_drew HO605.out)
       have n4_ := Aside0.mk (blk_drew BK586.out)
       have n5_ := Aside0.mk (blk_drew BK587.out)
       have n6_ := Aside0.mk (blk_drew BK606.out)
       have n7_ := Aside0.mk (below_drew1 HB.out)
       clear HO591
       clear HO594
       clear HO602
       clear HO605
       clear BK586
       clear BK587
       clear BK606
       clear HB
       have HO591 := n0_
       have HO594 := n1_
       have HO602 := n2_
       have HO605 := n3_
       have BK586 := n4_
       have BK587 := n5_
       have BK606 := n6_
       have HB := n7_
       clear n0_ n1_ n2_ n3_ n4_ n5_ n6_ n7_
       refine start_ (n := 5) (S := fun w' => w'.cell? ⟨gb606, 0, none⟩ = some (.slice Ao34 t600.length co34) ∧ w'.cell? ⟨gb606, 1, none⟩ = some (.slice Ao38 t603.length co38) ∧ w'.cell? ⟨gb586, 0, none⟩ = some (.slice A0_0 l0_0.length c0_0) ∧ w'.cell? ⟨gb586, 1, none⟩ = some (.slice A0_1 l0_1.length c0_1)) (ds := []) #[false, false, false, false, false] (by kernel_rfl) rfl rfl ⟨(blk_cell BK606.out 0).trans rfl, (blk_cell BK606.out 1).trans rfl, (blk_cell BK586.out 0).trans rfl, (blk_cell BK586.out 1).trans rfl⟩ (fun hHeld => ?_)
       generalize w42.drew = w43 at HO591 HO594 HO602 HO605 BK586 BK587 BK606 HB hHeld ⊢
       refine take_ (i := 0) (N := some 28) (v := ?_) (a' := ?_) #[true, false, false, false, false] rfl rfl (by kernel_rfl) (fun _ _ _ h => h) (Or.inl ⟨by rfl, ?_⟩) hHeld ?_ ?_
       rotate_left
       · rintro w' ⟨s0, s1, s2, s3⟩
         go_simp
         with_reducible rfl
       rotate_left
       · simp only [Act.put, List.setIfInBounds_toArray, List.set_cons_zero, List.set_cons_succ, i64_w, i32_w]
         rfl
       refine take_ (i := 1) (N := some 29) (v := ?_) (a' := ?_) #[true, true, false, false, false] rfl rfl (by kernel_rfl) (fun _ _ _ h => h) (Or.inl ⟨by rfl, ?_⟩) hHeld ?_ ?_
       rotate_left
       · rintro w' ⟨s0, s1, s2, s3⟩
         go_simp
         with_reducible rfl
       rotate_left
       · simp only [Act.put, List.setIfInBounds_toArray, List.set_cons_zero, List.set_cons_succ, i64_w, i32_w]
         rfl
       refine one_ (i := 2) (N := some 30) #[true, true, true, false, false] rfl rfl (by kernel_rfl) (by decide) (fun K hK => ?_)
       refine goes_ Tryd.func31 (by kernel_rfl) rfl #[.agg #[.slice A0_0 l0_0.length c0_0, .slice A0_1 l0_1.length c0_1]] (by rfl) rfl rfl (by (try simp only [List.map_toArray, List.map_cons, List.map_nil]); first | done | rfl | (simp only [List.length_drop, List.length_take]; rfl)) ?_
       with_reducible refine (laws_toModule.calls k _ _ l0_0 _ _ l0_1 t612 t615 _ ?side1 ?side2 ?side3 ?side4 A17.out).mono ?_
       (case side1 => repeat (first | exact (Kd.C_below HR0_0.out HB.out) | (with_reducible refine Kd.C_alloc ?_ _) | (with_reducible refine Kd.C_drewN ?_ _) | (with_reducible refine Kd.C_drew ?_)))
       (case side2 => exact HC0_0.out)
       (case side3 => repeat (first | exact (Kd.C_below HR0_1.out HB.out) | (with_reducible refine Kd.C_alloc ?_ _) | (with_reducible refine Kd.C_drewN ?_ _) | (with_reducible refine Kd.C_drew ?_)))
       (case side4 => exact HC0_1.out)
       rintro e w44 ⟨v613, v616, rfl, ho0, ho1, hb⟩
       refine ⟨_, rfl, ?_⟩
       have n0_ := Aside0.mk (Kd.S_elder' (by (with_reducible repeat (first | apply Kd.S_alloc | apply Kd.S_drewN | apply Kd.S_drew)); exact HO591.out) (Kd.S_base ho0) hb)
       have n1_ := Aside0.mk (Kd.R_elder' (by (with_reducible repeat (first | apply Kd.R_alloc | apply Kd.R_drewN | apply Kd.R_drew)); exact HO594.out) (Kd.R_base ho1) hb)
       have n2_ := Aside0.mk (Kd.S_elder' (by (with_reducible repeat (first | apply Kd.S_alloc | apply Kd.S_drewN | apply Kd.S_drew)); exact HO602.out) (Kd.S_base ho0) hb)
       have n3_ := Aside0.mk (Kd.R_elder' (by (with_reducible repeat (first | apply Kd.R_alloc | apply Kd.R_drewN | apply Kd.R_drew)); exact HO605.out) (Kd.R_base ho1) hb)
       have n4_ := Aside0.mk (Kd.S_lower (Kd.S_new' (Kd.S_new' ho0 (Kd.S_lt (by (with_reducible repeat (first | apply Kd.S_alloc | apply Kd.S_drewN | apply Kd.S_drew)); exact HO591.out))) (Kd.S_lt (by (with_reducible repeat (first | apply Kd.S_alloc | apply Kd.S_drewN | apply Kd.S_drew)); exact HO602.out))) (below_size (by repeat (first | (with_reducible first | exact HB.out | apply below_alloc | apply pw_below_drewN | apply below_drew1 | refine below_set ?_ GE586.out | refine below_set ?_ GE587.out | refine below_set ?_ GE606.out) | exact HB.out))))
       have n5_ := Aside0.mk (Kd.R_lower (Kd.R_new' (Kd.R_new' ho1 (Kd.R_lt (by (with_reducible repeat (first | apply Kd.R_alloc | apply Kd.R_drewN | apply Kd.R_drew)); exact HO594.out))) (Kd.R_lt (by (with_reducible repeat (first | apply Kd.R_alloc | apply Kd.R_drewN | apply Kd.R_drew)); exact HO605.out))) (below_size (by repeat (first | (with_reducible first | exact HB.out | apply below_alloc | apply pw_below_drewN | apply below_drew1 | refine below_set ?_ GE586.out | refine below_set ?_ GE587.out | refine below_set ?_ GE606.out) | exact HB.out))))
       have n6_ := Aside0.mk (blk_below (g := gb586) (o := .cells #[.slice A0_0 l0_0.length c0_0, .slice A0_1 l0_1.length c0_1] 67 (0, 0)) (by (with_reducible repeat (first | refine blk_drewN ?_ _ | refine blk_drew ?_ | refine blk_alloc ?_ _)); exact BK586.out) hb)
       have n7_ := Aside0.mk (blk_below (g := gb587) (o := .cells #[.int .i64 a1_0, .int .i64 a1_1, .int .i64 a1_2, .int .u64 a1_3] 69 (0, 0)) (by (with_reducible repeat (first | refine blk_drewN ?_ _ | refine blk_drew ?_ | refine blk_alloc ?_ _)); exact BK587.out) hb)
       have n8_ := Aside0.mk (blk_below (g := gb606) (o := .cells #[.slice Ao34 t600.length co34, .slice Ao38 t603.length co38] 75 (0, 0)) (by (with_reducible repeat (first | refine blk_drewN ?_ _ | refine blk_drew ?_ | refine blk_alloc ?_ _)); exact BK606.out) hb)
       have n9_ := Aside0.mk (below_step (by repeat (first | (with_reducible first | exact HB.out | apply below_alloc | apply pw_below_drewN | apply below_drew1 | refine below_set ?_ GE586.out | refine below_set ?_ GE587.out | refine below_set ?_ GE606.out) | exact HB.out)) hb)
       clear HO591
       clear HO594
       clear HO602
       clear HO605
       clear BK586
       clear BK587
       clear BK606
       clear HB
       have HO591 := n0_
       have HO594 := n1_
       have HO602 := n2_
       have HO605 := n3_
       have HO614 := n4_
       have HO617 := n5_
       have BK586 := n6_
       have BK587 := n7_
       have BK606 := n8_
       have HB := n9_
       clear n0_ n1_ n2_ n3_ n4_ n5_ n6_ n7_ n8_ n9_
       (try clear hb)
       (try clear hb2)
       (try clear hk)
       (try clear hi)
       (try clear ho0)
       (try clear ho1)
       obtain ⟨Ao45, co45, eo45⟩ := Kd.S_slice HO614.out
       (first | subst eo45 | (injection eo45 with f1_ f2_ f3_; have f4_ := f1_.symm; have f5_ := f3_.symm; clear f1_ f2_ f3_; subst f4_; subst f5_))
       obtain ⟨Ao46, co46, eo46⟩ := Kd.R_slice HO617.out
       (first | subst eo46 | (injection eo46 with f1_ f2_ f3_; have f4_ := f1_.symm; have f5_ := f3_.symm; clear f1_ f2_ f3_; subst f4_; subst f5_))
       refine hK.out _ _ ⟨(blk_cell BK606.out 0).trans rfl, (blk_cell BK606.out 1).trans rfl, (blk_cell BK586.out 0).trans rfl, (blk_cell BK586.out 1).trans rfl⟩ (fun hHeld => ?_)
       clear hK K
       refine norm_ (a' := ?_) ?_ ?_
       rotate_left
       · show Act.put _ (some 30) _ = _
         simp only [Act.put, List.setIfInBounds_toArray, List.set_cons_zero, List.set_cons_succ, i64_w, i32_w]
         rfl
       refine one_ (i := 3) (N := some 31) #[true, true, true, true, false] rfl rfl (by kernel_rfl) (by decide) (fun K hK => ?_)
       refine goes_ Tryd.func34 (by kernel_rfl) rfl #[.agg #[.slice Ao34 t600.length co34, .slice Ao38 t603.length co38], .agg #[.slice Ao45 t612.length co45, .slice Ao46 t615.length co46]] (by rfl) rfl rfl (by (try simp only [List.map_toArray, List.map_cons, List.map_nil]); first | done | rfl | (simp only [List.length_drop, List.length_take]; rfl)) ?_
       with_reducible refine (laws_eqModule.calls k _ _ t600 _ _ t603 _ _ t612 _ _ t615 true _ ?side1 ?side2 ?side3 ?side4 ?side5 ?side6 ?side7 ?side8 A18.out).mono ?_
       (case side1 => repeat (first | exact (Kd.S_reads' HO602.out).2.2 | (with_reducible refine Kd.C_alloc ?_ _) | (with_reducible refine Kd.C_drewN ?_ _) | (with_reducible refine Kd.C_drew ?_)))
       (case side2 => exact (Kd.S_reads' HO602.out).2.1)
       (case side3 => repeat (first | exact (Kd.R_reads' HO605.out).2.2 | (with_reducible refine Kd.C_alloc ?_ _) | (with_reducible refine Kd.C_drewN ?_ _) | (with_reducible refine Kd.C_drew ?_)))
       (case side4 => exact (Kd.R_reads' HO605.out).2.1)
       (case side5 => repeat (first | exact (Kd.S_reads' HO614.out).2.2 | (with_reducible refine Kd.C_alloc ?_ _) | (with_reducible refine Kd.C_drewN ?_ _) | (with_reducible refine Kd.C_drew ?_)))
       (case side6 => exact (Kd.S_reads' HO614.out).2.1)
       (case side7 => repeat (first | exact (Kd.R_reads' HO617.out).2.2 | (with_reducible refine Kd.C_alloc ?_ _) | (with_reducible refine Kd.C_drewN ?_ _) | (with_reducible refine Kd.C_drew ?_)))
       (case side8 => exact (Kd.R_reads' HO617.out).2.1)
       rintro e w47 ⟨rfl, hb⟩
       refine ⟨_, rfl, ?_⟩
       have n0_ := Aside0.mk (Kd.S_below (by (with_reducible repeat (first | apply Kd.S_alloc | apply Kd.S_drewN | apply Kd.S_drew)); exact HO591.out) hb)
       have n1_ := Aside0.mk (Kd.R_below (by (with_reducible repeat (first | apply Kd.R_alloc | apply Kd.R_drewN | apply Kd.R_drew)); exact HO594.out) hb)
       have n2_ := Aside0.mk (Kd.S_below (by (with_reducible repeat (first | apply Kd.S_alloc | apply Kd.S_drewN | apply Kd.S_drew)); exact HO602.out) hb)
       have n3_ := Aside0.mk (Kd.R_below (by (with_reducible repeat (first | apply Kd.R_alloc | apply Kd.R_drewN | apply Kd.R_drew)); exact HO605.out) hb)
       have n4_ := Aside0.mk (Kd.S_below (by (with_reducible repeat (first | apply Kd.S_alloc | apply Kd.S_drewN | apply Kd.S_drew)); exact HO614.out) hb)
       have n5_ := Aside0.mk (Kd.R_below (by (with_reducible repeat (first | apply Kd.R_alloc | apply Kd.R_drewN | apply Kd.R_drew)); exact HO617.out) hb)
       have n6_ := Aside0.mk (blk_below (g := gb586) (o := .cells #[.slice A0_0 l0_0.length c0_0, .slice A0_1 l0_1.length c0_1] 67 (0, 0)) (by (with_reducible repeat (first | refine blk_drewN ?_ _ | refine blk_drew ?_ | refine blk_alloc ?_ _)); exact BK586.out) hb)
       have n7_ := Aside0.mk (blk_below (g := gb587) (o := .cells #[.int .i64 a1_0, .int .i64 a1_1, .int .i64 a1_2, .int .u64 a1_3] 69 (0, 0)) (by (with_reducible repeat (first | refine blk_drewN ?_ _ | refine blk_drew ?_ | refine blk_alloc ?_ _)); exact BK587.out) hb)
       have n8_ := Aside0.mk (blk_below (g := gb606) (o := .cells #[.slice Ao34 t600.length co34, .slice Ao38 t603.length co38] 75 (0, 0)) (by (with_reducible repeat (first | refine blk_drewN ?_ _ | refine blk_drew ?_ | refine blk_alloc ?_ _)); exact BK606.out) hb)
       have n9_ := Aside0.mk (below_step (by repeat (first | (with_reducible first | exact HB.out | apply below_alloc | apply pw_below_drewN | apply below_drew1 | refine below_set ?_ GE586.out | refine below_set ?_ GE587.out | refine below_set ?_ GE606.out) | exact HB.out)) hb)
       clear HO591
       clear HO594
       clear HO602
       clear HO605
       clear HO614
       clear HO617
       clear BK586
       clear BK587
       clear BK606
       clear HB
       have HO591 := n0_
       have HO594 := n1_
       have HO602 := n2_
       have HO605 := n3_
       have HO614 := n4_
       have HO617 := n5_
       have BK586 := n6_
       have BK587 := n7_
       have BK606 := n8_
       have HB := n9_
       clear n0_ n1_ n2_ n3_ n4_ n5_ n6_ n7_ n8_ n9_
       (try clear hb)
       (try clear hb2)
       (try clear hk)
       (try clear hi)
       refine hK.out _ _ ⟨(blk_cell BK606.out 0).trans rfl, (blk_cell BK606.out 1).trans rfl, (blk_cell BK586.out 0).trans rfl, (blk_cell BK586.out 1).trans rfl⟩ (fun hHeld => ?_)
       clear hK K
       refine norm_ (a' := ?_) ?_ ?_
       rotate_left
       · show Act.put _ (some 31) _ = _
         simp only [Act.put, List.setIfInBounds_toArray, List.set_cons_zero, List.set_cons_succ, i64_w, i32_w]
         rfl
       refine pure_ (i := 4) (N := some 32) (v := ?_) (a' := ?_) #[true, true, true, true, true] rfl rfl (by kernel_rfl) (fun _ _ _ h => h) (Or.inl ⟨by rfl, ?_⟩) ?_ ?_
       rotate_left
       · intro w'
         go_simp
         with_reducible rfl
       rotate_left
       · simp only [Act.put, List.setIfInBounds_toArray, List.set_cons_zero, List.set_cons_succ, i64_w, i32_w]
         rfl
       refine done_ (by kernel_rfl) ?_
       try go_wp2
       go_ret
       exact ⟨by first | rfl | (simp [errW_none, errW_some] <;> rfl) | (simp [*, errW_none, errW_some] <;> rfl), by repeat (first | (with_reducible first | exact HB.out | apply below_alloc | apply pw_below_drewN | apply below_drew1 | refine below_set ?_ GE586.out | refine below_set ?_ GE587.out | refine below_set ?_ GE606.out) | exact HB.out)⟩
     · replace c19 := Bool.eq_false_iff.mpr c19
       subst c19
       have H1 : (some false) = some r := by rw [if_neg (show ¬ (false = true) by decide)] at H; exact H
       clear H
       have H := H1
       clear H1
       obtain rfl := Option.some.inj H
       go_enter Tryd.func7, Tryd.ntmps7
       try go_wp2_with (first | ((with_reducible refine gate_dst (N := 2) rfl ?_); refine box_event ?hg (N := 2) ?hd (cs := #[.slice A0_0 l0_0.length c0_0, .slice A0_1 l0_1.length c0_1]) (t := 67) ?hr ?_; (case hd => rfl); (case hg => rfl); (case hr => first | (go_simp; done) | (go_simp; rfl)); intro gb586 hg w48 hbox hb; have n0_ := Aside0.mk (below_step (by repeat (first | (with_reducible first | exact HB.out | apply below_alloc | apply pw_below_drewN | apply below_drew1) | exact HB.out)) hb); have n1_ := Aside0.mk (hbox); have n2_ := Aside0.mk ((by rw [hg]; exact (below_size (by repeat (first | (with_reducible first | exact HB.out | apply below_alloc | apply pw_below_drewN | apply below_drew1) | exact HB.out))) : w.heap.size ≤ gb586)); have n3_ := Aside0.mk ((by rw [hg]; exact (below_size (by repeat (first | (with_reducible first | exact HB.out | apply below_alloc | apply pw_below_drewN | apply below_drew1) | exact HB.out))) : w.heap.size ≤ gb586)); clear HB; have HB := n0_; have BK586 := n1_; have GW586 := n2_; have GE586 := n3_; clear n0_ n1_ n2_ n3_; clear hb hbox hg) | ((with_reducible refine gate_dst (N := 3) rfl ?_); refine box_event ?hg (N := 3) ?hd (cs := #[.int .i64 a1_0, .int .i64 a1_1, .int .i64 a1_2, .int .u64 a1_3]) (t := 69) ?hr ?_; (case hd => rfl); (case hg => rfl); (case hr => first | (go_simp; done) | (go_simp; rfl)); intro gb587 hg w49 hbox hb; have n0_ := Aside0.mk (blk_below (g := gb586) (o := .cells #[.slice A0_0 l0_0.length c0_0, .slice A0_1 l0_1.length c0_1] 67 (0, 0)) (by (with_reducible repeat (first | refine blk_drewN ?_ _ | refine blk_drew ?_ | refine blk_alloc ?_ _)); exact BK586.out) hb); have n1_ := Aside0.mk (below_step (by repeat (first | (with_reducible first | exact HB.out | apply below_alloc | apply pw_below_drewN | apply below_drew1 | refine below_set ?_ GE586.out) | exact HB.out)) hb); have n2_ := Aside0.mk (hbox); have n3_ := Aside0.mk ((by rw [hg]; exact (below_size (by repeat (first | (with_reducible first | exact HB.out | apply below_alloc | apply pw_below_drewN | apply below_drew1 | refine below_set ?_ GE586.out) | exact HB.out))) : w.heap.size ≤ gb587)); have n4_ := Aside0.mk ((by rw [hg]; exact (below_size (by repeat (first | (with_reducible first | exact HB.out | apply below_alloc | apply pw_below_drewN | apply below_drew1 | refine below_set ?_ GE586.out) | exact HB.out))) : w.heap.size ≤ gb587)); have n5_ := Aside0.mk ((by rw [hg]; exact Nat.ne_of_lt (blk_lt (g := gb586) (o := .cells #[.slice A0_0 l0_0.length c0_0, .slice A0_1 l0_1.length c0_1] 67 (0, 0)) (by (with_reducible repeat (first | refine blk_drewN ?_ _ | refine blk_drew ?_ | refine blk_alloc ?_ _)); exact BK586.out)) : gb586 ≠ gb587)); have n6_ := Aside0.mk ((by rw [hg]; exact Nat.ne_of_gt (blk_lt (g := gb586) (o := .cells #[.slice A0_0 l0_0.length c0_0, .slice A0_1 l0_1.length c0_1] 67 (0, 0)) (by (with_reducible repeat (first | refine blk_drewN ?_ _ | refine blk_drew ?_ | refine blk_alloc ?_ _)); exact BK586.out)) : gb587 ≠ gb586)); clear BK586; clear HB; have BK586 := n0_; have HB := n1_; have BK587 := n2_; have GW587 := n3_; have GE587 := n4_; have NB586_587 := n5_; have NB587_586 := n6_; clear n0_ n1_ n2_ n3_ n4_ n5_ n6_; clear hb hbox hg; have hnb50 := NB586_587.out; have hnc50 := NB587_586.out; have hcz51_0 : w49.cell? ⟨gb586, 0, none⟩ = some (.slice A0_0 l0_0.length c0_0) := (blk_cell BK586.out 0).trans rfl; have hcz51_1 : w49.cell? ⟨gb586, 1, none⟩ = some (.slice A0_1 l0_1.length c0_1) := (blk_cell BK586.out 1).trans rfl; have hfz51_0 := blk_frozen BK586.out 0; have hfz51_1 := blk_frozen BK586.out 1) | ((with_reducible refine gate_callee (f := 29) rfl ?_); refine goesL_ (some 11) rfl rfl Tryd.func29 (by kernel_rfl) rfl #[.agg #[.slice A0_0 l0_0.length c0_0, .slice A0_1 l0_1.length c0_1], .int .i64 1048576] rfl (by (try simp only [List.map_toArray, List.map_cons, List.map_nil]); first | done | rfl | (simp only [List.length_drop, List.length_take]; rfl)) ?_; (with_reducible refine (laws_szModule.calls k _ _ l0_0 _ _ l0_1 1048576 t588 _ ?side1 ?side2 ?side3 ?side4 A3.out).mono ?_); (case side1 => repeat (first | exact (Kd.C_below HR0_0.out HB.out) | (with_reducible refine Kd.C_alloc ?_ _) | (with_reducible refine Kd.C_drewN ?_ _) | (with_reducible refine Kd.C_drew ?_))); (case side2 => exact HC0_0.out); (case side3 => repeat (first | exact (Kd.C_below HR0_1.out HB.out) | (with_reducible refine Kd.C_alloc ?_ _) | (with_reducible refine Kd.C_drewN ?_ _) | (with_reducible refine Kd.C_drew ?_))); (case side4 => exact HC0_1.out); rintro e w52 ⟨rfl, hb⟩; refine ⟨_, rfl, ?_⟩; have n0_ := Aside0.mk (blk_below (g := gb586) (o := .cells #[.slice A0_0 l0_0.length c0_0, .slice A0_1 l0_1.length c0_1] 67 (0, 0)) (by (with_reducible repeat (first | refine blk_drewN ?_ _ | refine blk_drew ?_ | refine blk_alloc ?_ _)); exact BK586.out) hb); have n1_ := Aside0.mk (blk_below (g := gb587) (o := .cells #[.int .i64 a1_0, .int .i64 a1_1, .int .i64 a1_2, .int .u64 a1_3] 69 (0, 0)) (by (with_reducible repeat (first | refine blk_drewN ?_ _ | refine blk_drew ?_ | refine blk_alloc ?_ _)); exact BK587.out) hb); have n2_ := Aside0.mk (below_step (by repeat (first | (with_reducible first | exact HB.out | apply below_alloc | apply pw_below_drewN | apply below_drew1 | refine below_set ?_ GE586.out | refine below_set ?_ GE587.out) | exact HB.out)) hb); clear BK586; clear BK587; clear HB; have BK586 := n0_; have BK587 := n1_; have HB := n2_; clear n0_ n1_ n2_; (try clear hb); (try clear hb2); (try clear hk); (try clear hi)))
       have n0_ := Aside0.mk (blk_drew BK586.out)
       have n1_ := Aside0.mk (blk_drew BK587.out)
       have n2_ := Aside0.mk (below_drew1 HB.out)
       clear BK586
       clear BK587
       clear HB
       have BK586 := n0_
       have BK587 := n1_
       have HB := n2_
       clear n0_ n1_ n2_
       refine start_ (n := 6) (S := fun w' => w'.cell? ⟨gb586, 0, none⟩ = some (.slice A0_0 l0_0.length c0_0) ∧ w'.cell? ⟨gb586, 1, none⟩ = some (.slice A0_1 l0_1.length c0_1) ∧ w'.cell? ⟨gb587, 0, none⟩ = some (.int .i64 a1_0) ∧ w'.cell? ⟨gb587, 1, none⟩ = some (.int .i64 a1_1) ∧ w'.cell? ⟨gb587, 2, none⟩ = some (.int .i64 a1_2) ∧ w'.cell? ⟨gb587, 3, none⟩ = some (.int .u64 a1_3)) (ds := []) #[false, false, false, false, false, false] (by kernel_rfl) rfl rfl ⟨(blk_cell BK586.out 0).trans rfl, (blk_cell BK586.out 1).trans rfl, (blk_cell BK587.out 0).trans rfl, (blk_cell BK587.out 1).trans rfl, (blk_cell BK587.out 2).trans rfl, (blk_cell BK587.out 3).trans rfl⟩ (fun hHeld => ?_)
       generalize w52.drew = w53 at BK586 BK587 HB hHeld ⊢
       refine take_ (i := 0) (N := some 14) (v := ?_) (a' := ?_) #[true, false, false, false, false, false] rfl rfl (by kernel_rfl) (fun _ _ _ h => h) (Or.inl ⟨by rfl, ?_⟩) hHeld ?_ ?_
       rotate_left
       · rintro w' ⟨s0, s1, s2, s3, s4, s5⟩
         go_simp
         with_reducible rfl
       rotate_left
       · simp only [Act.put, List.setIfInBounds_toArray, List.set_cons_zero, List.set_cons_succ, i64_w, i32_w]
         rfl
       refine take_ (i := 2) (N := some 16) (v := ?_) (a' := ?_) #[true, false, true, false, false, false] rfl rfl (by kernel_rfl) (fun _ _ _ h => h) (Or.inl ⟨by rfl, ?_⟩) hHeld ?_ ?_
       rotate_left
       · rintro w' ⟨s0, s1, s2, s3, s4, s5⟩
         go_simp
         with_reducible rfl
       rotate_left
       · simp only [Act.put, List.setIfInBounds_toArray, List.set_cons_zero, List.set_cons_succ, i64_w, i32_w]
         rfl
       refine one_ (i := 1) (N := some 15) #[true, true, true, false, false, false] rfl rfl (by kernel_rfl) (by decide) (fun K hK => ?_)
       refine goes_ Tryd.func31 (by kernel_rfl) rfl #[.agg #[.slice A0_0 l0_0.length c0_0, .slice A0_1 l0_1.length c0_1]] (by rfl) rfl rfl (by (try simp only [List.map_toArray, List.map_cons, List.map_nil]); first | done | rfl | (simp only [List.length_drop, List.length_take]; rfl)) ?_
       with_reducible refine (laws_toModule.calls k _ _ l0_0 _ _ l0_1 t589 t592 _ ?side1 ?side2 ?side3 ?side4 A10.out).mono ?_
       (case side1 => repeat (first | exact (Kd.C_below HR0_0.out HB.out) | (with_reducible refine Kd.C_alloc ?_ _) | (with_reducible refine Kd.C_drewN ?_ _) | (with_reducible refine Kd.C_drew ?_)))
       (case side2 => exact HC0_0.out)
       (case side3 => repeat (first | exact (Kd.C_below HR0_1.out HB.out) | (with_reducible refine Kd.C_alloc ?_ _) | (with_reducible refine Kd.C_drewN ?_ _) | (with_reducible refine Kd.C_drew ?_)))
       (case side4 => exact HC0_1.out)
       rintro e w54 ⟨v590, v593, rfl, ho0, ho1, hb⟩
       refine ⟨_, rfl, ?_⟩
       have n0_ := Aside0.mk (Kd.S_lower ho0 (below_size (by repeat (first | (with_reducible first | exact HB.out | apply below_alloc | apply pw_below_drewN | apply below_drew1 | refine below_set ?_ GE586.out | refine below_set ?_ GE587.out) | exact HB.out))))
       have n1_ := Aside0.mk (Kd.R_lower ho1 (below_size (by repeat (first | (with_reducible first | exact HB.out | apply below_alloc | apply pw_below_drewN | apply below_drew1 | refine below_set ?_ GE586.out | refine below_set ?_ GE587.out) | exact HB.out))))
       have n2_ := Aside0.mk (blk_below (g := gb586) (o := .cells #[.slice A0_0 l0_0.length c0_0, .slice A0_1 l0_1.length c0_1] 67 (0, 0)) (by (with_reducible repeat (first | refine blk_drewN ?_ _ | refine blk_drew ?_ | refine blk_alloc ?_ _)); exact BK586.out) hb)
       have n3_ := Aside0.mk (blk_below (g := gb587) (o := .cells #[.int .i64 a1_0, .int .i64 a1_1, .int .i64 a1_2, .int .u64 a1_3] 69 (0, 0)) (by (with_reducible repeat (first | refine blk_drewN ?_ _ | refine blk_drew ?_ | refine blk_alloc ?_ _)); exact BK587.out) hb)
       have n4_ := Aside0.mk (below_step (by repeat (first | (with_reducible first | exact HB.out | apply below_alloc | apply pw_below_drewN | apply below_drew1 | refine below_set ?_ GE586.out | refine below_set ?_ GE587.out) | exact HB.out)) hb)
       clear BK586
       clear BK587
       clear HB
       have HO591 := n0_
       have HO594 := n1_
       have BK586 := n2_
       have BK587 := n3_
       have HB := n4_
       clear n0_ n1_ n2_ n3_ n4_
       (try clear hb)
       (try clear hb2)
       (try clear hk)
       (try clear hi)
       (try clear ho0)
       (try clear ho1)
       refine hK.out _ _ ⟨(blk_cell BK586.out 0).trans rfl, (blk_cell BK586.out 1).trans rfl, (blk_cell BK587.out 0).trans rfl, (blk_cell BK587.out 1).trans rfl, (blk_cell BK587.out 2).trans rfl, (blk_cell BK587.out 3).trans rfl⟩ (fun hHeld => ?_)
       clear hK K
       refine norm_ (a' := ?_) ?_ ?_
       rotate_left
       · show Act.put _ (some 15) _ = _
         simp only [Act.put, List.setIfInBounds_toArray, List.set_cons_zero, List.set_cons_succ, i64_w, i32_w]
         rfl
       refine one_ (i := 3) (N := some 17) #[true, true, true, true, false, false] rfl rfl (by kernel_rfl) (by decide) (fun K hK => ?_)
       refine goes_ Tryd.func32 (by kernel_rfl) rfl #[.agg #[.int .i64 a1_0, .int .i64 a1_1, .int .i64 a1_2, .int .u64 a1_3]] (by rfl) rfl rfl (by (try simp only [List.map_toArray, List.map_cons, List.map_nil]); first | done | rfl | (simp only [List.length_drop, List.length_take]; rfl)) ?_
       with_reducible refine (laws_toOperand.calls a1_0 a1_1 a1_2 a1_3 t595 t596 t597 t598 _ A11.out).mono ?_
       rintro e w55 ⟨rfl, hb⟩
       refine ⟨_, rfl, ?_⟩
       have n0_ := Aside0.mk (Kd.S_below (by (with_reducible repeat (first | apply Kd.S_alloc | apply Kd.S_drewN | apply Kd.S_drew)); exact HO591.out) hb)
       have n1_ := Aside0.mk (Kd.R_below (by (with_reducible repeat (first | apply Kd.R_alloc | apply Kd.R_drewN | apply Kd.R_drew)); exact HO594.out) hb)
       have n2_ := Aside0.mk (blk_below (g := gb586) (o := .cells #[.slice A0_0 l0_0.length c0_0, .slice A0_1 l0_1.length c0_1] 67 (0, 0)) (by (with_reducible repeat (first | refine blk_drewN ?_ _ | refine blk_drew ?_ | refine blk_alloc ?_ _)); exact BK586.out) hb)
       have n3_ := Aside0.mk (blk_below (g := gb587) (o := .cells #[.int .i64 a1_0, .int .i64 a1_1, .int .i64 a1_2, .int .u64 a1_3] 69 (0, 0)) (by (with_reducible repeat (first | refine blk_drewN ?_ _ | refine blk_drew ?_ | refine blk_alloc ?_ _)); exact BK587.out) hb)
       have n4_ := Aside0.mk (below_step (by repeat (first | (with_reducible first | exact HB.out | apply below_alloc | apply pw_below_drewN | apply below_drew1 | refine below_set ?_ GE586.out | refine below_set ?_ GE587.out) | exact HB.out)) hb)
       clear HO591
       clear HO594
       clear BK586
       clear BK587
       clear HB
       have HO591 := n0_
       have HO594 := n1_
       have BK586 := n2_
       have BK587 := n3_
       have HB := n4_
       clear n0_ n1_ n2_ n3_ n4_
       (try clear hb)
       (try clear hb2)
       (try clear hk)
       (try clear hi)
       obtain ⟨Ao56, co56, eo56⟩ := Kd.S_slice HO591.out
       (first | subst eo56 | (injection eo56 with f1_ f2_ f3_; have f4_ := f1_.symm; have f5_ := f3_.symm; clear f1_ f2_ f3_; subst f4_; subst f5_))
       obtain ⟨Ao57, co57, eo57⟩ := Kd.R_slice HO594.out
       (first | subst eo57 | (injection eo57 with f1_ f2_ f3_; have f4_ := f1_.symm; have f5_ := f3_.symm; clear f1_ f2_ f3_; subst f4_; subst f5_))
       refine hK.out _ _ ⟨(blk_cell BK586.out 0).trans rfl, (blk_cell BK586.out 1).trans rfl, (blk_cell BK587.out 0).trans rfl, (blk_cell BK587.out 1).trans rfl, (blk_cell BK587.out 2).trans rfl, (blk_cell BK587.out 3).trans rfl⟩ (fun hHeld => ?_)
       clear hK K
       refine norm_ (a' := ?_) ?_ ?_
       rotate_left
       · show Act.put _ (some 17) _ = _
         simp only [Act.put, List.setIfInBounds_toArray, List.set_cons_zero, List.set_cons_succ, i64_w, i32_w]
         rfl
       refine one_ (i := 4) (N := some 18) #[true, true, true, true, true, false] rfl rfl (by kernel_rfl) (by decide) (fun K hK => ?_)
       refine goes_ Tryd.func30 (by kernel_rfl) rfl #[.agg #[.slice Ao56 t589.length co56, .slice Ao57 t592.length co57], .agg #[.int .i64 t595, .int .i64 t596, .int .i64 t597, .int .u64 t598]] (by rfl) rfl rfl (by (try simp only [List.map_toArray, List.map_cons, List.map_nil]); first | done | rfl | (simp only [List.length_drop, List.length_take]; rfl)) ?_
       with_reducible refine (spec_FormatOperand.calls k _ _ t589 _ _ t592 t595 t596 t597 t598 t599 _ ?side1 ?side2 ?side3 ?side4 A12.out).mono ?_
       (case side1 => repeat (first | exact (Kd.S_reads' HO591.out).2.2 | (with_reducible refine Kd.C_alloc ?_ _) | (with_reducible refine Kd.C_drewN ?_ _) | (with_reducible refine Kd.C_drew ?_)))
       (case side2 => exact (Kd.S_reads' HO591.out).2.1)
       (case side3 => repeat (first | exact (Kd.R_reads' HO594.out).2.2 | (with_reducible refine Kd.C_alloc ?_ _) | (with_reducible refine Kd.C_drewN ?_ _) | (with_reducible refine Kd.C_drew ?_)))
       (case side4 => exact (Kd.R_reads' HO594.out).2.1)
       rintro e w58 ⟨rfl, hb⟩
       refine ⟨_, rfl, ?_⟩
       have n0_ := Aside0.mk (Kd.S_below (by (with_reducible repeat (first | apply Kd.S_alloc | apply Kd.S_drewN | apply Kd.S_drew)); exact HO591.out) hb)
       have n1_ := Aside0.mk (Kd.R_below (by (with_reducible repeat (first | apply Kd.R_alloc | apply Kd.R_drewN | apply Kd.R_drew)); exact HO594.out) hb)
       have n2_ := Aside0.mk (blk_below (g := gb586) (o := .cells #[.slice A0_0 l0_0.length c0_0, .slice A0_1 l0_1.length c0_1] 67 (0, 0)) (by (with_reducible repeat (first | refine blk_drewN ?_ _ | refine blk_drew ?_ | refine blk_alloc ?_ _)); exact BK586.out) hb)
       have n3_ := Aside0.mk (blk_below (g := gb587) (o := .cells #[.int .i64 a1_0, .int .i64 a1_1, .int .i64 a1_2, .int .u64 a1_3] 69 (0, 0)) (by (with_reducible repeat (first | refine blk_drewN ?_ _ | refine blk_drew ?_ | refine blk_alloc ?_ _)); exact BK587.out) hb)
       have n4_ := Aside0.mk (below_step (by repeat (first | (with_reducible first | exact HB.out | apply below_alloc | apply pw_below_drewN | apply below_drew1 | refine below_set ?_ GE586.out | refine below_set ?_ GE587.out) | exact HB.out)) hb)
       clear HO591
       clear HO594
       clear BK586
       clear BK587
       clear HB
       have HO591 := n0_
       have HO594 := n1_
       have BK586 := n2_
       have BK587 := n3_
       have HB := n4_
       clear n0_ n1_ n2_ n3_ n4_
       (try clear hb)
       (try clear hb2)
       (try clear hk)
       (try clear hi)
       refine hK.out _ _ ⟨(blk_cell BK586.out 0).trans rfl, (blk_cell BK586.out 1).trans rfl, (blk_cell BK587.out 0).trans rfl, (blk_cell BK587.out 1).trans rfl, (blk_cell BK587.out 2).trans rfl, (blk_cell BK587.out 3).trans rfl⟩ (fun hHeld => ?_)
       clear hK K
       refine norm_ (a' := ?_) ?_ ?_
       rotate_left
       · show Act.put _ (some 18) _ = _
         simp only [Act.put, List.setIfInBounds_toArray, List.set_cons_zero, List.set_cons_succ, i64_w, i32_w]
         rfl
       refine pure_ (i := 5) (N := some 6) (v := ?_) (a' := ?_) #[true, true, true, true, true, true] rfl rfl (by kernel_rfl) (fun _ _ _ h => h) (Or.inl ⟨by rfl, ?_⟩) ?_ ?_
       rotate_left
       · intro w'
         go_simp
         with_reducible rfl
       rotate_left
       · simp only [Act.put, List.setIfInBounds_toArray, List.set_cons_zero, List.set_cons_succ, i64_w, i32_w]
         rfl
       refine done_ (by kernel_rfl) ?_
       have hcz59_0 : w58.cell? ⟨gb586, 0, none⟩ = some (.slice A0_0 l0_0.length c0_0) := (blk_cell BK586.out 0).trans rfl
       have hcz59_1 : w58.cell? ⟨gb586, 1, none⟩ = some (.slice A0_1 l0_1.length c0_1) := (blk_cell BK586.out 1).trans rfl
       have hfz59_0 := blk_frozen BK586.out 0
       have hfz59_1 := blk_frozen BK586.out 1
       try go_wp2_with (first | ((with_reducible refine gate_callee (f := 31) rfl ?_); refine goesL_ (some 20) rfl rfl Tryd.func31 (by kernel_rfl) rfl #[.agg #[.slice A0_0 l0_0.length c0_0, .slice A0_1 l0_1.length c0_1]] rfl (by (try simp only [List.map_toArray, List.map_cons, List.map_nil]); first | done | rfl | (simp only [List.length_drop, List.length_take]; rfl)) ?_; (with_reducible refine (laws_toModule.calls k _ _ l0_0 _ _ l0_1 t600 t603 _ ?side1 ?side2 ?side3 ?side4 A13.out).mono ?_); (case side1 => repeat (first | exact (Kd.C_below HR0_0.out HB.out) | (with_reducible refine Kd.C_alloc ?_ _) | (with_reducible refine Kd.C_drewN ?_ _) | (with_reducible refine Kd.C_drew ?_))); (case side2 => exact HC0_0.out); (case side3 => repeat (first | exact (Kd.C_below HR0_1.out HB.out) | (with_reducible refine Kd.C_alloc ?_ _) | (with_reducible refine Kd.C_drewN ?_ _) | (with_reducible refine Kd.C_drew ?_))); (case side4 => exact HC0_1.out); rintro e w60 ⟨v601, v604, rfl, ho0, ho1, hb⟩; refine ⟨_, rfl, ?_⟩; have n0_ := Aside0.mk (Kd.S_elder' (by (with_reducible repeat (first | apply Kd.S_alloc | apply Kd.S_drewN | apply Kd.S_drew)); exact HO591.out) (Kd.S_base ho0) hb); have n1_ := Aside0.mk (Kd.R_elder' (by (with_reducible repeat (first | apply Kd.R_alloc | apply Kd.R_drewN | apply Kd.R_drew)); exact HO594.out) (Kd.R_base ho1) hb); have n2_ := Aside0.mk (Kd.S_lower (Kd.S_new' ho0 (Kd.S_lt (by (with_reducible repeat (first | apply Kd.S_alloc | apply Kd.S_drewN | apply Kd.S_drew)); exact HO591.out))) (below_size (by repeat (first | (with_reducible first | exact HB.out | apply below_alloc | apply pw_below_drewN | apply below_drew1 | refine below_set ?_ GE586.out | refine below_set ?_ GE587.out) | exact HB.out)))); have n3_ := Aside0.mk (Kd.R_lower (Kd.R_new' ho1 (Kd.R_lt (by (with_reducible repeat (first | apply Kd.R_alloc | apply Kd.R_drewN | apply Kd.R_drew)); exact HO594.out))) (below_size (by repeat (first | (with_reducible first | exact HB.out | apply below_alloc | apply pw_below_drewN | apply below_drew1 | refine below_set ?_ GE586.out | refine below_set ?_ GE587.out) | exact HB.out)))); have n4_ := Aside0.mk (blk_below (g := gb586) (o := .cells #[.slice A0_0 l0_0.length c0_0, .slice A0_1 l0_1.length c0_1] 67 (0, 0)) (by (with_reducible repeat (first | refine blk_drewN ?_ _ | refine blk_drew ?_ | refine blk_alloc ?_ _)); exact BK586.out) hb); have n5_ := Aside0.mk (blk_below (g := gb587) (o := .cells #[.int .i64 a1_0, .int .i64 a1_1, .int .i64 a1_2, .int .u64 a1_3] 69 (0, 0)) (by (with_reducible repeat (first | refine blk_drewN ?_ _ | refine blk_drew ?_ | refine blk_alloc ?_ _)); exact BK587.out) hb); have n6_ := Aside0.mk (below_step (by repeat (first | (with_reducible first | exact HB.out | apply below_alloc | apply pw_below_drewN | apply below_drew1 | refine below_set ?_ GE586.out | refine below_set ?_ GE587.out) | exact HB.out)) hb); clear HO591; clear HO594; clear BK586; clear BK587; clear HB; have HO591 := n0_; have HO594 := n1_; have HO602 := n2_; have HO605 := n3_; have BK586 := n4_; have BK587 := n5_; have HB := n6_; clear n0_ n1_ n2_ n3_ n4_ n5_ n6_; (try clear hb); (try clear hb2); (try clear hk); (try clear hi); (try clear ho0); (try clear ho1)) | ((with_reducible refine gate_dst (N := 7) rfl ?_); refine box_event ?hg (N := 7) ?hd (cs := #[.slice none 0 0, .slice none 0 0]) (t := 75) ?hr ?_; (case hd => rfl); (case hg => rfl); (case hr => first | (go_simp; done) | (go_simp; rfl)); intro gb606 hg w61 hbox hb; have n0_ := Aside0.mk (Kd.S_below (by (with_reducible repeat (first | apply Kd.S_alloc | apply Kd.S_drewN | apply Kd.S_drew)); exact HO591.out) hb); have n1_ := Aside0.mk (Kd.R_below (by (with_reducible repeat (first | apply Kd.R_alloc | apply Kd.R_drewN | apply Kd.R_drew)); exact HO594.out) hb); have n2_ := Aside0.mk (Kd.S_below (by (with_reducible repeat (first | apply Kd.S_alloc | apply Kd.S_drewN | apply Kd.S_drew)); exact HO602.out) hb); have n3_ := Aside0.mk (Kd.R_below (by (with_reducible repeat (first | apply Kd.R_alloc | apply Kd.R_drewN | apply Kd.R_drew)); exact HO605.out) hb); have n4_ := Aside0.mk (blk_below (g := gb586) (o := .cells #[.slice A0_0 l0_0.length c0_0, .slice A0_1 l0_1.length c0_1] 67 (0, 0)) (by (with_reducible repeat (first | refine blk_drewN ?_ _ | refine blk_drew ?_ | refine blk_alloc ?_ _)); exact BK586.out) hb); have n5_ := Aside0.mk (blk_below (g := gb587) (o := .cells #[.int .i64 a1_0, .int .i64 a1_1, .int .i64 a1_2, .int .u64 a1_3] 69 (0, 0)) (by (with_reducible repeat (first | refine blk_drewN ?_ _ | refine blk_drew ?_ | refine blk_alloc ?_ _)); exact BK587.out) hb); have n6_ := Aside0.mk (below_step (by repeat (first | (with_reducible first | exact HB.out | apply below_alloc | apply pw_below_drewN | apply below_drew1 | refine below_set ?_ GE586.out | refine below_set ?_ GE587.out) | exact HB.out)) hb); have n7_ := Aside0.mk (hbox); have n8_ := Aside0.mk ((by rw [hg]; exact (below_size (by repeat (first | (with_reducible first | exact HB.out | apply below_alloc | apply pw_below_drewN | apply below_drew1 | refine below_set ?_ GE586.out | refine below_set ?_ GE587.out) | exact HB.out))) : w.heap.size ≤ gb606)); have n9_ := Aside0.mk ((by rw [hg]; exact (below_size (by repeat (first | (with_reducible first | exact HB.out | apply below_alloc | apply pw_below_drewN | apply below_drew1 | refine below_set ?_ GE586.out | refine below_set ?_ GE587.out) | exact HB.out))) : w.heap.size ≤ gb606)); have n10_ := Aside0.mk ((by rw [hg]; exact Nat.ne_of_lt (blk_lt (g := gb586) (o := .cells #[.slice A0_0 l0_0.length c0_0, .slice A0_1 l0_1.length c0_1] 67 (0, 0)) (by (with_reducible repeat (first | refine blk_drewN ?_ _ | refine blk_drew ?_ | refine blk_alloc ?_ _)); exact BK586.out)) : gb586 ≠ gb606)); have n11_ := Aside0.mk ((by rw [hg]; exact Nat.ne_of_gt (blk_lt (g := gb586) (o := .cells #[.slice A0_0 l0_0.length c0_0, .slice A0_1 l0_1.length c0_1] 67 (0, 0)) (by (with_reducible repeat (first | refine blk_drewN ?_ _ | refine blk_drew ?_ | refine blk_alloc ?_ _)); exact BK586.out)) : gb606 ≠ gb586)); have n12_ := Aside0.mk ((by rw [hg]; exact Nat.ne_of_lt (blk_lt (g := gb587) (o := .cells #[.int .i64 a1_0, .int .i64 a1_1, .int .i64 a1_2, .int .u64 a1_3] 69 (0, 0)) (by (with_reducible repeat (first | refine blk_drewN ?_ _ | refine blk_drew ?_ | refine blk_alloc ?_ _)); exact BK587.out)) : gb587 ≠ gb606)); have n13_ := Aside0.mk ((by rw [hg]; exact Nat.ne_of_gt (blk_lt (g := gb587) (o := .cells #[.int .i64 a1_0, .int .i64 a1_1, .int .i64 a1_2, .int .u64 a1_3] 69 (0, 0)) (by (with_reducible repeat (first | refine blk_drewN ?_ _ | refine blk_drew ?_ | refine blk_alloc ?_ _)); exact BK587.out)) : gb606 ≠ gb587)); clear HO591; clear HO594; clear HO602; clear HO605; clear BK586; clear BK587; clear HB; have HO591 := n0_; have HO594 := n1_; have HO602 := n2_; have HO605 := n3_; have BK586 := n4_; have BK587 := n5_; have HB := n6_; have BK606 := n7_; have GW606 := n8_; have GE606 := n9_; have NB586_606 := n10_; have NB606_586 := n11_; have NB587_606 := n12_; have NB606_587 := n13_; clear n0_ n1_ n2_ n3_ n4_ n5_ n6_ n7_ n8_ n9_ n10_ n11_ n12_ n13_; clear hb hbox hg; obtain ⟨Ao62, co62, eo62⟩ := Kd.S_slice HO602.out; subst eo62; have hnb63 := NB606_586.out; have hnc63 := NB586_606.out; have hnb64 := NB606_587.out; have hnc64 := NB587_606.out; have hcz65_0 : w61.cell? ⟨gb606, 0, none⟩ = some (.slice none 0 0) := (blk_cell BK606.out 0).trans rfl; have hcz65_1 : w61.cell? ⟨gb606, 1, none⟩ = some (.slice none 0 0) := (blk_cell BK606.out 1).trans rfl; have hfz65_0 := blk_frozen BK606.out 0; have hfz65_1 := blk_frozen BK606.out 1; obtain ⟨Ao66, co66, eo66⟩ := Kd.R_slice HO605.out; subst eo66))
       have n0_ : Aside0 (Kd.S k127 127 ((w61.setCell ⟨gb606, 0, none⟩ (.slice Ao62 t600.length co62)).setCell ⟨gb606, 1, none⟩ (.slice Ao66 t603.length co66)) w.heap.size (fun k_ => some k_ ≠ (.slice Ao62 t600.length co62 : Value).ownBlock) (.slice Ao56 t589.length co56) t589) := ⟨by (with_reducible repeat (first | apply Kd.S_alloc | apply Kd.S_drewN | apply Kd.S_drew)); exact Kd.S_mono (Kd.S_far (p := ⟨gb606, 1, none⟩) (Kd.S_far (p := ⟨gb606, 0, none⟩) (Kd.S_types HO591.out BK606.out (by decide)) (fun _ hk => hk.2) (.slice Ao62 t600.length co62)) (fun _ hk => hk.2) (.slice Ao66 t603.length co66)) (fun _ hk => hk.1.2)⟩
       have n1_ : Aside0 (Kd.R k149 149 ((w61.setCell ⟨gb606, 0, none⟩ (.slice Ao62 t600.length co62)).setCell ⟨gb606, 1, none⟩ (.slice Ao66 t603.length co66)) w.heap.size (fun k_ => some k_ ≠ (.slice Ao66 t603.length co66 : Value).ownBlock) (.slice Ao57 t592.length co57) t592) := ⟨by (with_reducible repeat (first | apply Kd.R_alloc | apply Kd.R_drewN | apply Kd.R_drew)); exact Kd.R_mono (Kd.R_far (p := ⟨gb606, 1, none⟩) (Kd.R_far (p := ⟨gb606, 0, none⟩) (Kd.R_types HO594.out BK606.out (by decide)) (fun _ hk => hk.2) (.slice Ao62 t600.length co62)) (fun _ hk => hk.2) (.slice Ao66 t603.length co66)) (fun _ hk => hk.1.2)⟩
       have n2_ : Aside0 (Kd.S k127 127 ((w61.setCell ⟨gb606, 0, none⟩ (.slice Ao62 t600.length co62)).setCell ⟨gb606, 1, none⟩ (.slice Ao66 t603.length co66)) w.heap.size (fun k_ => some k_ ≠ (.slice Ao56 t589.length co56 : Value).ownBlock) (.slice Ao62 t600.length co62) t600) := ⟨by (with_reducible repeat (first | apply Kd.S_alloc | apply Kd.S_drewN | apply Kd.S_drew)); exact Kd.S_mono (Kd.S_far (p := ⟨gb606, 1, none⟩) (Kd.S_far (p := ⟨gb606, 0, none⟩) (Kd.S_types HO602.out BK606.out (by decide)) (fun _ hk => hk.2) (.slice Ao62 t600.length co62)) (fun _ hk => hk.2) (.slice Ao66 t603.length co66)) (fun _ hk => hk.1.2)⟩
       have n3_ : Aside0 (Kd.R k149 149 ((w61.setCell ⟨gb606, 0, none⟩ (.slice Ao62 t600.length co62)).setCell ⟨gb606, 1, none⟩ (.slice Ao66 t603.length co66)) w.heap.size (fun k_ => some k_ ≠ (.slice Ao57 t592.length co57 : Value).ownBlock) (.slice Ao66 t603.length co66) t603) := ⟨by (with_reducible repeat (first | apply Kd.R_alloc | apply Kd.R_drewN | apply Kd.R_drew)); exact Kd.R_mono (Kd.R_far (p := ⟨gb606, 1, none⟩) (Kd.R_far (p := ⟨gb606, 0, none⟩) (Kd.R_types HO605.out BK606.out (by decide)) (fun _ hk => hk.2) (.slice Ao62 t600.length co62)) (fun _ hk => hk.2) (.slice Ao66 t603.length co66)) (fun _ hk => hk.1.2)⟩
       have n4_ : Aside0 (((w61.setCell ⟨gb606, 0, none⟩ (.slice Ao62 t600.length co62)).setCell ⟨gb606, 1, none⟩ (.slice Ao66 t603.length co66)).heap[gb586]? = some (.cells #[.slice A0_0 l0_0.length c0_0, .slice A0_1 l0_1.length c0_1] 67 (0, 0))) := ⟨by (with_reducible repeat (first | refine blk_drewN ?_ _ | refine blk_drew ?_ | refine blk_alloc ?_ _)); refine blk_far ?_ NB586_606.out _; (with_reducible repeat (first | refine blk_drewN ?_ _ | refine blk_drew ?_ | refine blk_alloc ?_ _)); refine blk_far ?_ NB586_606.out _; (with_reducible repeat (first | refine blk_drewN ?_ _ | refine blk_drew ?_ | refine blk_alloc ?_ _)); exact BK586.out⟩
       have n5_ : Aside0 (((w61.setCell ⟨gb606, 0, none⟩ (.slice Ao62 t600.length co62)).setCell ⟨gb606, 1, none⟩ (.slice Ao66 t603.length co66)).heap[gb587]? = some (.cells #[.int .i64 a1_0, .int .i64 a1_1, .int .i64 a1_2, .int .u64 a1_3] 69 (0, 0))) := ⟨by (with_reducible repeat (first | refine blk_drewN ?_ _ | refine blk_drew ?_ | refine blk_alloc ?_ _)); refine blk_far ?_ NB587_606.out _; (with_reducible repeat (first | refine blk_drewN ?_ _ | refine blk_drew ?_ | refine blk_alloc ?_ _)); refine blk_far ?_ NB587_606.out _; (with_reducible repeat (first | refine blk_drewN ?_ _ | refine blk_drew ?_ | refine blk_alloc ?_ _)); exact BK587.out⟩
       have n6_ : Aside0 (((w61.setCell ⟨gb606, 0, none⟩ (.slice Ao62 t600.length co62)).setCell ⟨gb606, 1, none⟩ (.slice Ao66 t603.length co66)).heap[gb606]? = some (.cells #[.slice Ao62 t600.length co62, .slice Ao66 t603.length co66] 75 (0, 0))) := ⟨by (with_reducible repeat (first | refine blk_drewN ?_ _ | refine blk_drew ?_ | refine blk_alloc ?_ _)); refine blk_put (cs := #[.slice Ao62 t600.length co62, .slice none 0 0]) ?_ 1 _ rfl; (with_reducible repeat (first | refine blk_drewN ?_ _ | refine blk_drew ?_ | refine blk_alloc ?_ _)); refine blk_put (cs := #[.slice none 0 0, .slice none 0 0]) ?_ 0 _ rfl; (with_reducible repeat (first | refine blk_drewN ?_ _ | refine blk_drew ?_ | refine blk_alloc ?_ _)); exact BK606.out⟩
       have n7_ : Aside0 (Below w.heap.size w ((w61.setCell ⟨gb606, 0, none⟩ (.slice Ao62 t600.length co62)).setCell ⟨gb606, 1, none⟩ (.slice Ao66 t603.length co66))) := ⟨by repeat (first | (with_reducible first | exact HB.out | apply below_alloc | apply pw_below_drewN | apply below_drew1 | refine below_set ?_ GE586.out | refine below_set ?_ GE587.out | refine below_set ?_ GE606.out) | exact HB.out)⟩
       (try clear HO591)
       (try clear HO594)
       (try clear HO602)
       (try clear HO605)
       (try clear BK586)
       (try clear BK587)
       (try clear BK606)
       (try clear HB)
       generalize ((w61.setCell ⟨gb606, 0, none⟩ (.slice Ao62 t600.length co62)).setCell ⟨gb606, 1, none⟩ (.slice Ao66 t603.length co66)) = w67 at n0_ n1_ n2_ n3_ n4_ n5_ n6_ n7_ ⊢
       have HO591 := n0_
       have HO594 := n1_
       have HO602 := n2_
       have HO605 := n3_
       have BK586 := n4_
       have BK587 := n5_
       have BK606 := n6_
       have HB := n7_
       clear n0_ n1_ n2_ n3_ n4_ n5_ n6_ n7_
       have n0_ := Aside0.mk (Kd.S_drew HO591.out)
       have n1_ := Aside0.mk (Kd.R_drew HO594.out)
       have n2_ := Aside0.mk (Kd.S_drew HO602.out)
       have n3_ := Aside0.mk (Kd.R_drew HO605.out)
       have n4_ := Aside0.mk (blk_drew BK586.out)
       have n5_ := Aside0.mk (blk_drew BK587.out)
       have n6_ := Aside0.mk (blk_drew BK606.out)
       have n7_ := Aside0.mk (below_drew1 HB.out)
       clear HO591
       clear HO594
       clear HO602
       clear HO605
       clear BK586
       clear BK587
       clear BK606
       clear HB
       have HO591 := n0_
       have HO594 := n1_
       have HO602 := n2_
       have HO605 := n3_
       have BK586 := n4_
       have BK587 := n5_
       have BK606 := n6_
       have HB := n7_
       clear n0_ n1_ n2_ n3_ n4_ n5_ n6_ n7_
       refine start_ (n := 5) (S := fun w' => w'.cell? ⟨gb606, 0, none⟩ = some (.slice Ao62 t600.length co62) ∧ w'.cell? ⟨gb606, 1, none⟩ = some (.slice Ao66 t603.length co66) ∧ w'.cell? ⟨gb587, 0, none⟩ = some (.int .i64 a1_0) ∧ w'.cell? ⟨gb587, 1, none⟩ = some (.int .i64 a1_1) ∧ w'.cell? ⟨gb587, 2, none⟩ = some (.int .i64 a1_2) ∧ w'.cell? ⟨gb587, 3, none⟩ = some (.int .u64 a1_3)) (ds := []) #[false, false, false, false, false] (by kernel_rfl) rfl rfl ⟨(blk_cell BK606.out 0).trans rfl, (blk_cell BK606.out 1).trans rfl, (blk_cell BK587.out 0).trans rfl, (blk_cell BK587.out 1).trans rfl, (blk_cell BK587.out 2).trans rfl, (blk_cell BK587.out 3).trans rfl⟩ (fun hHeld => ?_)
       generalize w67.drew = w68 at HO591 HO594 HO602 HO605 BK586 BK587 BK606 HB hHeld ⊢
       refine take_ (i := 0) (N := some 21) (v := ?_) (a' := ?_) #[true, false, false, false, false] rfl rfl (by kernel_rfl) (fun _ _ _ h => h) (Or.inl ⟨by rfl, ?_⟩) hHeld ?_ ?_
       rotate_left
       · rintro w' ⟨s0, s1, s2, s3, s4, s5⟩
         go_simp
         with_reducible rfl
       rotate_left
       · simp only [Act.put, List.setIfInBounds_toArray, List.set_cons_zero, List.set_cons_succ, i64_w, i32_w]
         rfl
       refine take_ (i := 1) (N := some 22) (v := ?_) (a' := ?_) #[true, true, false, false, false] rfl rfl (by kernel_rfl) (fun _ _ _ h => h) (Or.inl ⟨by rfl, ?_⟩) hHeld ?_ ?_
       rotate_left
       · rintro w' ⟨s0, s1, s2, s3, s4, s5⟩
         go_simp
         with_reducible rfl
       rotate_left
       · simp only [Act.put, List.setIfInBounds_toArray, List.set_cons_zero, List.set_cons_succ, i64_w, i32_w]
         rfl
       refine one_ (i := 2) (N := some 23) #[true, true, true, false, false] rfl rfl (by kernel_rfl) (by decide) (fun K hK => ?_)
       refine goes_ Tryd.func32 (by kernel_rfl) rfl #[.agg #[.int .i64 a1_0, .int .i64 a1_1, .int .i64 a1_2, .int .u64 a1_3]] (by rfl) rfl rfl (by (try simp only [List.map_toArray, List.map_cons, List.map_nil]); first | done | rfl | (simp only [List.length_drop, List.length_take]; rfl)) ?_
       with_reducible refine (laws_toOperand.calls a1_0 a1_1 a1_2 a1_3 t607 t608 t609 t610 _ A14.out).mono ?_
       rintro e w69 ⟨rfl, hb⟩
       refine ⟨_, rfl, ?_⟩
       have n0_ := Aside0.mk (Kd.S_below (by (with_reducible repeat (first | apply Kd.S_alloc | apply Kd.S_drewN | apply Kd.S_drew)); exact HO591.out) hb)
       have n1_ := Aside0.mk (Kd.R_below (by (with_reducible repeat (first | apply Kd.R_alloc | apply Kd.R_drewN | apply Kd.R_drew)); exact HO594.out) hb)
       have n2_ := Aside0.mk (Kd.S_below (by (with_reducible repeat (first | apply Kd.S_alloc | apply Kd.S_drewN | apply Kd.S_drew)); exact HO602.out) hb)
       have n3_ := Aside0.mk (Kd.R_below (by (with_reducible repeat (first | apply Kd.R_alloc | apply Kd.R_drewN | apply Kd.R_drew)); exact HO605.out) hb)
       have n4_ := Aside0.mk (blk_below (g := gb586) (o := .cells #[.slice A0_0 l0_0.length c0_0, .slice A0_1 l0_1.length c0_1] 67 (0, 0)) (by (with_reducible repeat (first | refine blk_drewN ?_ _ | refine blk_drew ?_ | refine blk_alloc ?_ _)); exact BK586.out) hb)
       have n5_ := Aside0.mk (blk_below (g := gb587) (o := .cells #[.int .i64 a1_0, .int .i64 a1_1, .int .i64 a1_2, .int .u64 a1_3] 69 (0, 0)) (by (with_reducible repeat (first | refine blk_drewN ?_ _ | refine blk_drew ?_ | refine blk_alloc ?_ _)); exact BK587.out) hb)
       have n6_ := Aside0.mk (blk_below (g := gb606) (o := .cells #[.slice Ao62 t600.length co62, .slice Ao66 t603.length co66] 75 (0, 0)) (by (with_reducible repeat (first | refine blk_drewN ?_ _ | refine blk_drew ?_ | refine blk_alloc ?_ _)); exact BK606.out) hb)
       have n7_ := Aside0.mk (below_step (by repeat (first | (with_reducible first | exact HB.out | apply below_alloc | apply pw_below_drewN | apply below_drew1 | refine below_set ?_ GE586.out | refine below_set ?_ GE587.out | refine below_set ?_ GE606.out) | exact HB.out)) hb)
       clear HO591
       clear HO594
       clear HO602
       clear HO605
       clear BK586
       clear BK587
       clear BK606
       clear HB
       have HO591 := n0_
       have HO594 := n1_
       have HO602 := n2_
       have HO605 := n3_
       have BK586 := n4_
       have BK587 := n5_
       have BK606 := n6_
       have HB := n7_
       clear n0_ n1_ n2_ n3_ n4_ n5_ n6_ n7_
       (try clear hb)
       (try clear hb2)
       (try clear hk)
       (try clear hi)
       refine hK.out _ _ ⟨(blk_cell BK606.out 0).trans rfl, (blk_cell BK606.out 1).trans rfl, (blk_cell BK587.out 0).trans rfl, (blk_cell BK587.out 1).trans rfl, (blk_cell BK587.out 2).trans rfl, (blk_cell BK587.out 3).trans rfl⟩ (fun hHeld => ?_)
       clear hK K
       refine norm_ (a' := ?_) ?_ ?_
       rotate_left
       · show Act.put _ (some 23) _ = _
         simp only [Act.put, List.setIfInBounds_toArray, List.set_cons_zero, List.set_cons_succ, i64_w, i32_w]
         rfl
       refine one_ (i := 3) (N := some 24) #[true, true, true, true, false] rfl rfl (by kernel_rfl) (by decide) (fun K hK => ?_)
       refine goes_ Tryd.func33 (by kernel_rfl) rfl #[.agg #[.slice Ao62 t600.length co62, .slice Ao66 t603.length co66], .agg #[.int .i64 t607, .int .i64 t608, .int .i64 t609, .int .u64 t610]] (by rfl) rfl rfl (by (try simp only [List.map_toArray, List.map_cons, List.map_nil]); first | done | rfl | (simp only [List.length_drop, List.length_take]; rfl)) ?_
       with_reducible refine (impl_FormatOperand.calls _ _ t600 _ _ t603 t607 t608 t609 t610 t611 _ ?tLtTab ?side1 ?side2 ?side3 ?side4 A15.out).mono ?_
       (case tLtTab => exact HLtTab.out.on HB.out)
       (case side1 => repeat (first | exact (Kd.S_reads' HO602.out).2.2 | (with_reducible refine Kd.C_alloc ?_ _) | (with_reducible refine Kd.C_drewN ?_ _) | (with_reducible refine Kd.C_drew ?_)))
       (case side2 => exact (Kd.S_reads' HO602.out).2.1)
       (case side3 => repeat (first | exact (Kd.R_reads' HO605.out).2.2 | (with_reducible refine Kd.C_alloc ?_ _) | (with_reducible refine Kd.C_drewN ?_ _) | (with_reducible refine Kd.C_drew ?_)))
       (case side4 => exact (Kd.R_reads' HO605.out).2.1)
       rintro e w70 ⟨rfl, hb⟩
       refine ⟨_, rfl, ?_⟩
       have n0_ := Aside0.mk (Kd.S_below (by (with_reducible repeat (first | apply Kd.S_alloc | apply Kd.S_drewN | apply Kd.S_drew)); exact HO591.out) hb)
       have n1_ := Aside0.mk (Kd.R_below (by (with_reducible repeat (first | apply Kd.R_alloc | apply Kd.R_drewN | apply Kd.R_drew)); exact HO594.out) hb)
       have n2_ := Aside0.mk (Kd.S_below (by (with_reducible repeat (first | apply Kd.S_alloc | apply Kd.S_drewN | apply Kd.S_drew)); exact HO602.out) hb)
       have n3_ := Aside0.mk (Kd.R_below (by (with_reducible repeat (first | apply Kd.R_alloc | apply Kd.R_drewN | apply Kd.R_drew)); exact HO605.out) hb)
       have n4_ := Aside0.mk (blk_below (g := gb586) (o := .cells #[.slice A0_0 l0_0.length c0_0, .slice A0_1 l0_1.length c0_1] 67 (0, 0)) (by (with_reducible repeat (first | refine blk_drewN ?_ _ | refine blk_drew ?_ | refine blk_alloc ?_ _)); exact BK586.out) hb)
       have n5_ := Aside0.mk (blk_below (g := gb587) (o := .cells #[.int .i64 a1_0, .int .i64 a1_1, .int .i64 a1_2, .int .u64 a1_3] 69 (0, 0)) (by (with_reducible repeat (first | refine blk_drewN ?_ _ | refine blk_drew ?_ | refine blk_alloc ?_ _)); exact BK587.out) hb)
       have n6_ := Aside0.mk (blk_below (g := gb606) (o := .cells #[.slice Ao62 t600.length co62, .slice Ao66 t603.length co66] 75 (0, 0)) (by (with_reducible repeat (first | refine blk_drewN ?_ _ | refine blk_drew ?_ | refine blk_alloc ?_ _)); exact BK606.out) hb)
       have n7_ := Aside0.mk (below_step (by repeat (first | (with_reducible first | exact HB.out | apply below_alloc | apply pw_below_drewN | apply below_drew1 | refine below_set ?_ GE586.out | refine below_set ?_ GE587.out | refine below_set ?_ GE606.out) | exact HB.out)) hb)
       clear HO591
       clear HO594
       clear HO602
       clear HO605
       clear BK586
       clear BK587
       clear BK606
       clear HB
       have HO591 := n0_
       have HO594 := n1_
       have HO602 := n2_
       have HO605 := n3_
       have BK586 := n4_
       have BK587 := n5_
       have BK606 := n6_
       have HB := n7_
       clear n0_ n1_ n2_ n3_ n4_ n5_ n6_ n7_
       (try clear hb)
       (try clear hb2)
       (try clear hk)
       (try clear hi)
       refine hK.out _ _ ⟨(blk_cell BK606.out 0).trans rfl, (blk_cell BK606.out 1).trans rfl, (blk_cell BK587.out 0).trans rfl, (blk_cell BK587.out 1).trans rfl, (blk_cell BK587.out 2).trans rfl, (blk_cell BK587.out 3).trans rfl⟩ (fun hHeld => ?_)
       clear hK K
       refine norm_ (a' := ?_) ?_ ?_
       rotate_left
       · show Act.put _ (some 24) _ = _
         simp only [Act.put, List.setIfInBounds_toArray, List.set_cons_zero, List.set_cons_succ, i64_w, i32_w]
         rfl
       refine pure_ (i := 4) (N := some 8) (v := ?_) (a' := ?_) #[true, true, true, true, true] rfl rfl (by kernel_rfl) (fun _ _ _ h => h) (Or.inl ⟨by rfl, ?_⟩) ?_ ?_
       rotate_left
       · intro w'
         go_simp
         with_reducible rfl
       rotate_left
       · simp only [Act.put, List.setIfInBounds_toArray, List.set_cons_zero, List.set_cons_succ, i64_w, i32_w]
         rfl
       refine done_ (by kernel_rfl) ?_
       try go_wp2
       have n0_ := Aside0.mk (Kd.S_drew HO591.out)
       have n1_ := Aside0.mk (Kd.R_drew HO594.out)
       have n2_ := Aside0.mk (Kd.S_drew HO602.out)
       have n3_ := Aside0.mk (Kd.R_drew HO605.out)
       have n4_ := Aside0.mk (blk_drew BK586.out)
       have n5_ := Aside0.mk (blk_drew BK587.out)
       have n6_ := Aside0.mk (blk_drew BK606.out)
       have n7_ := Aside0.mk (below_drew1 HB.out)
       clear HO591
       clear HO594
       clear HO602
       clear HO605
       clear BK586
       clear BK587
       clear BK606
       clear HB
       have HO591 := n0_
       have HO594 := n1_
       have HO602 := n2_
       have HO605 := n3_
       have BK586 := n4_
       have BK587 := n5_
       have BK606 := n6_
       have HB := n7_
       clear n0_ n1_ n2_ n3_ n4_ n5_ n6_ n7_
       refine start_ (n := 5) (S := fun w' => w'.cell? ⟨gb606, 0, none⟩ = some (.slice Ao62 t600.length co62) ∧ w'.cell? ⟨gb606, 1, none⟩ = some (.slice Ao66 t603.length co66) ∧ w'.cell? ⟨gb586, 0, none⟩ = some (.slice A0_0 l0_0.length c0_0) ∧ w'.cell? ⟨gb586, 1, none⟩ = some (.slice A0_1 l0_1.length c0_1)) (ds := []) #[false, false, false, false, false] (by kernel_rfl) rfl rfl ⟨(blk_cell BK606.out 0).trans rfl, (blk_cell BK606.out 1).trans rfl, (blk_cell BK586.out 0).trans rfl, (blk_cell BK586.out 1).trans rfl⟩ (fun hHeld => ?_)
       generalize w70.drew = w71 at HO591 HO594 HO602 HO605 BK586 BK587 BK606 HB hHeld ⊢
       refine take_ (i := 0) (N := some 28) (v := ?_) (a' := ?_) #[true, false, false, false, false] rfl rfl (by kernel_rfl) (fun _ _ _ h => h) (Or.inl ⟨by rfl, ?_⟩) hHeld ?_ ?_
       rotate_left
       · rintro w' ⟨s0, s1, s2, s3⟩
         go_simp
         with_reducible rfl
       rotate_left
       · simp only [Act.put, List.setIfInBounds_toArray, List.set_cons_zero, List.set_cons_succ, i64_w, i32_w]
         rfl
       refine take_ (i := 1) (N := some 29) (v := ?_) (a' := ?_) #[true, true, false, false, false] rfl rfl (by kernel_rfl) (fun _ _ _ h => h) (Or.inl ⟨by rfl, ?_⟩) hHeld ?_ ?_
       rotate_left
       · rintro w' ⟨s0, s1, s2, s3⟩
         go_simp
         with_reducible rfl
       rotate_left
       · simp only [Act.put, List.setIfInBounds_toArray, List.set_cons_zero, List.set_cons_succ, i64_w, i32_w]
         rfl
       refine one_ (i := 2) (N := some 30) #[true, true, true, false, false] rfl rfl (by kernel_rfl) (by decide) (fun K hK => ?_)
       refine goes_ Tryd.func31 (by kernel_rfl) rfl #[.agg #[.slice A0_0 l0_0.length c0_0, .slice A0_1 l0_1.length c0_1]] (by rfl) rfl rfl (by (try simp only [List.map_toArray, List.map_cons, List.map_nil]); first | done | rfl | (simp only [List.length_drop, List.length_take]; rfl)) ?_
       with_reducible refine (laws_toModule.calls k _ _ l0_0 _ _ l0_1 t612 t615 _ ?side1 ?side2 ?side3 ?side4 A17.out).mono ?_
       (case side1 => repeat (first | exact (Kd.C_below HR0_0.out HB.out) | (with_reducible refine Kd.C_alloc ?_ _) | (with_reducible refine Kd.C_drewN ?_ _) | (with_reducible refine Kd.C_drew ?_)))
       (case side2 => exact HC0_0.out)
       (case side3 => repeat (first | exact (Kd.C_below HR0_1.out HB.out) | (with_reducible refine Kd.C_alloc ?_ _) | (with_reducible refine Kd.C_drewN ?_ _) | (with_reducible refine Kd.C_drew ?_)))
       (case side4 => exact HC0_1.out)
       rintro e w72 ⟨v613, v616, rfl, ho0, ho1, hb⟩
       refine ⟨_, rfl, ?_⟩
       have n0_ := Aside0.mk (Kd.S_elder' (by (with_reducible repeat (first | apply Kd.S_alloc | apply Kd.S_drewN | apply Kd.S_drew)); exact HO591.out) (Kd.S_base ho0) hb)
       have n1_ := Aside0.mk (Kd.R_elder' (by (with_reducible repeat (first | apply Kd.R_alloc | apply Kd.R_drewN | apply Kd.R_drew)); exact HO594.out) (Kd.R_base ho1) hb)
       have n2_ := Aside0.mk (Kd.S_elder' (by (with_reducible repeat (first | apply Kd.S_alloc | apply Kd.S_drewN | apply Kd.S_drew)); exact HO602.out) (Kd.S_base ho0) hb)
       have n3_ := Aside0.mk (Kd.R_elder' (by (with_reducible repeat (first | apply Kd.R_alloc | apply Kd.R_drewN | apply Kd.R_drew)); exact HO605.out) (Kd.R_base ho1) hb)
       have n4_ := Aside0.mk (Kd.S_lower (Kd.S_new' (Kd.S_new' ho0 (Kd.S_lt (by (with_reducible repeat (first | apply Kd.S_alloc | apply Kd.S_drewN | apply Kd.S_drew)); exact HO591.out))) (Kd.S_lt (by (with_reducible repeat (first | apply Kd.S_alloc | apply Kd.S_drewN | apply Kd.S_drew)); exact HO602.out))) (below_size (by repeat (first | (with_reducible first | exact HB.out | apply below_alloc | apply pw_below_drewN | apply below_drew1 | refine below_set ?_ GE586.out | refine below_set ?_ GE587.out | refine below_set ?_ GE606.out) | exact HB.out))))
       have n5_ := Aside0.mk (Kd.R_lower (Kd.R_new' (Kd.R_new' ho1 (Kd.R_lt (by (with_reducible repeat (first | apply Kd.R_alloc | apply Kd.R_drewN | apply Kd.R_drew)); exact HO594.out))) (Kd.R_lt (by (with_reducible repeat (first | apply Kd.R_alloc | apply Kd.R_drewN | apply Kd.R_drew)); exact HO605.out))) (below_size (by repeat (first | (with_reducible first | exact HB.out | apply below_alloc | apply pw_below_drewN | apply below_drew1 | refine below_set ?_ GE586.out | refine below_set ?_ GE587.out | refine below_set ?_ GE606.out) | exact HB.out))))
       have n6_ := Aside0.mk (blk_below (g := gb586) (o := .cells #[.slice A0_0 l0_0.length c0_0, .slice A0_1 l0_1.length c0_1] 67 (0, 0)) (by (with_reducible repeat (first | refine blk_drewN ?_ _ | refine blk_drew ?_ | refine blk_alloc ?_ _)); exact BK586.out) hb)
       have n7_ := Aside0.mk (blk_below (g := gb587) (o := .cells #[.int .i64 a1_0, .int .i64 a1_1, .int .i64 a1_2, .int .u64 a1_3] 69 (0, 0)) (by (with_reducible repeat (first | refine blk_drewN ?_ _ | refine blk_drew ?_ | refine blk_alloc ?_ _)); exact BK587.out) hb)
       have n8_ := Aside0.mk (blk_below (g := gb606) (o := .cells #[.slice Ao62 t600.length co62, .slice Ao66 t603.length co66] 75 (0, 0)) (by (with_reducible repeat (first | refine blk_drewN ?_ _ | refine blk_drew ?_ | refine blk_alloc ?_ _)); exact BK606.out) hb)
       have n9_ := Aside0.mk (below_step (by repeat (first | (with_reducible first | exact HB.out | apply below_alloc | apply pw_below_drewN | apply below_drew1 | refine below_set ?_ GE586.out | refine below_set ?_ GE587.out | refine below_set ?_ GE606.out) | exact HB.out)) hb)
       clear HO591
       clear HO594
       clear HO602
       clear HO605
       clear BK586
       clear BK587
       clear BK606
       clear HB
       have HO591 := n0_
       have HO594 := n1_
       have HO602 := n2_
       have HO605 := n3_
       have HO614 := n4_
       have HO617 := n5_
       have BK586 := n6_
       have BK587 := n7_
       have BK606 := n8_
       have HB := n9_
       clear n0_ n1_ n2_ n3_ n4_ n5_ n6_ n7_ n8_ n9_
       (try clear hb)
       (try clear hb2)
       (try clear hk)
       (try clear hi)
       (try clear ho0)
       (try clear ho1)
       obtain ⟨Ao73, co73, eo73⟩ := Kd.S_slice HO614.out
       (first | subst eo73 | (injection eo73 with f1_ f2_ f3_; have f4_ := f1_.symm; have f5_ := f3_.symm; clear f1_ f2_ f3_; subst f4_; subst f5_))
       obtain ⟨Ao74, co74, eo74⟩ := Kd.R_slice HO617.out
       (first | subst eo74 | (injection eo74 with f1_ f2_ f3_; have f4_ := f1_.symm; have f5_ := f3_.symm; clear f1_ f2_ f3_; subst f4_; subst f5_))
       refine hK.out _ _ ⟨(blk_cell BK606.out 0).trans rfl, (blk_cell BK606.out 1).trans rfl, (blk_cell BK586.out 0).trans rfl, (blk_cell BK586.out 1).trans rfl⟩ (fun hHeld => ?_)
       clear hK K
       refine norm_ (a' := ?_) ?_ ?_
       rotate_left
       · show Act.put _ (some 30) _ = _
         simp only [Act.put, List.setIfInBounds_toArray, List.set_cons_zero, List.set_cons_succ, i64_w, i32_w]
         rfl
       refine one_ (i := 3) (N := some 31) #[true, true, true, true, false] rfl rfl (by kernel_rfl) (by decide) (fun K hK => ?_)
       refine goes_ Tryd.func34 (by kernel_rfl) rfl #[.agg #[.slice Ao62 t600.length co62, .slice Ao66 t603.length co66], .agg #[.slice Ao73 t612.length co73, .slice Ao74 t615.length co74]] (by rfl) rfl rfl (by (try simp only [List.map_toArray, List.map_cons, List.map_nil]); first | done | rfl | (simp only [List.length_drop, List.length_take]; rfl)) ?_
       with_reducible refine (laws_eqModule.calls k _ _ t600 _ _ t603 _ _ t612 _ _ t615 false _ ?side1 ?side2 ?side3 ?side4 ?side5 ?side6 ?side7 ?side8 A18.out).mono ?_
       (case side1 => repeat (first | exact (Kd.S_reads' HO602.out).2.2 | (with_reducible refine Kd.C_alloc ?_ _) | (with_reducible refine Kd.C_drewN ?_ _) | (with_reducible refine Kd.C_drew ?_)))
       (case side2 => exact (Kd.S_reads' HO602.out).2.1)
       (case side3 => repeat (first | exact (Kd.R_reads' HO605.out).2.2 | (with_reducible refine Kd.C_alloc ?_ _) | (with_reducible refine Kd.C_drewN ?_ _) | (with_reducible refine Kd.C_drew ?_)))
       (case side4 => exact (Kd.R_reads' HO605.out).2.1)
       (case side5 => repeat (first | exact (Kd.S_reads' HO614.out).2.2 | (with_reducible refine Kd.C_alloc ?_ _) | (with_reducible refine Kd.C_drewN ?_ _) | (with_reducible refine Kd.C_drew ?_)))
       (case side6 => exact (Kd.S_reads' HO614.out).2.1)
       (case side7 => repeat (first | exact (Kd.R_reads' HO617.out).2.2 | (with_reducible refine Kd.C_alloc ?_ _) | (with_reducible refine Kd.C_drewN ?_ _) | (with_reducible refine Kd.C_drew ?_)))
       (case side8 => exact (Kd.R_reads' HO617.out).2.1)
       rintro e w75 ⟨rfl, hb⟩
       refine ⟨_, rfl, ?_⟩
       have n0_ := Aside0.mk (Kd.S_below (by (with_reducible repeat (first | apply Kd.S_alloc | apply Kd.S_drewN | apply Kd.S_drew)); exact HO591.out) hb)
       have n1_ := Aside0.mk (Kd.R_below (by (with_reducible repeat (first | apply Kd.R_alloc | apply Kd.R_drewN | apply Kd.R_drew)); exact HO594.out) hb)
       have n2_ := Aside0.mk (Kd.S_below (by (with_reducible repeat (first | apply Kd.S_alloc | apply Kd.S_drewN | apply Kd.S_drew)); exact HO602.out) hb)
       have n3_ := Aside0.mk (Kd.R_below (by (with_reducible repeat (first | apply Kd.R_alloc | apply Kd.R_drewN | apply Kd.R_drew)); exact HO605.out) hb)
       have n4_ := Aside0.mk (Kd.S_below (by (with_reducible repeat (first | apply Kd.S_alloc | apply Kd.S_drewN | apply Kd.S_drew)); exact HO614.out) hb)
       have n5_ := Aside0.mk (Kd.R_below (by (with_reducible repeat (first | apply Kd.R_alloc | apply Kd.R_drewN | apply Kd.R_drew)); exact HO617.out) hb)
       have n6_ := Aside0.mk (blk_below (g := gb586) (o := .cells #[.slice A0_0 l0_0.length c0_0, .slice A0_1 l0_1.length c0_1] 67 (0, 0)) (by (with_reducible repeat (first | refine blk_drewN ?_ _ | refine blk_drew ?_ | refine blk_alloc ?_ _)); exact BK586.out) hb)
       have n7_ := Aside0.mk (blk_below (g := gb587) (o := .cells #[.int .i64 a1_0, .int .i64 a1_1, .int .i64 a1_2, .int .u64 a1_3] 69 (0, 0)) (by (with_reducible repeat (first | refine blk_drewN ?_ _ | refine blk_drew ?_ | refine blk_alloc ?_ _)); exact BK587.out) hb)
       have n8_ := Aside0.mk (blk_below (g := gb606) (o := .cells #[.slice Ao62 t600.length co62, .slice Ao66 t603.length co66] 75 (0, 0)) (by (with_reducible repeat (first | refine blk_drewN ?_ _ | refine blk_drew ?_ | refine blk_alloc ?_ _)); exact BK606.out) hb)
       have n9_ := Aside0.mk (below_step (by repeat (first | (with_reducible first | exact HB.out | apply below_alloc | apply pw_below_drewN | apply below_drew1 | refine below_set ?_ GE586.out | refine below_set ?_ GE587.out | refine below_set ?_ GE606.out) | exact HB.out)) hb)
       clear HO591
       clear HO594
       clear HO602
       clear HO605
       clear HO614
       clear HO617
       clear BK586
       clear BK587
       clear BK606
       clear HB
       have HO591 := n0_
       have HO594 := n1_
       have HO602 := n2_
       have HO605 := n3_
       have HO614 := n4_
       have HO617 := n5_
       have BK586 := n6_
       have BK587 := n7_
       have BK606 := n8_
       have HB := n9_
       clear n0_ n1_ n2_ n3_ n4_ n5_ n6_ n7_ n8_ n9_
       (try clear hb)
       (try clear hb2)
       (try clear hk)
       (try clear hi)
       refine hK.out _ _ ⟨(blk_cell BK606.out 0).trans rfl, (blk_cell BK606.out 1).trans rfl, (blk_cell BK586.out 0).trans rfl, (blk_cell BK586.out 1).trans rfl⟩ (fun hHeld => ?_)
       clear hK K
       refine norm_ (a' := ?_) ?_ ?_
       rotate_left
       · show Act.put _ (some 31) _ = _
         simp only [Act.put, List.setIfInBounds_toArray, List.set_cons_zero, List.set_cons_succ, i64_w, i32_w]
         rfl
       refine pure_ (i := 4) (N := some 32) (v := ?_) (a' := ?_) #[true, true, true, true, true] rfl rfl (by kernel_rfl) (fun _ _ _ h => h) (Or.inl ⟨by rfl, ?_⟩) ?_ ?_
       rotate_left
       · intro w'
         go_simp
         with_reducible rfl
       rotate_left
       · simp only [Act.put, List.setIfInBounds_toArray, List.set_cons_zero, List.set_cons_succ, i64_w, i32_w]
         rfl
       refine done_ (by kernel_rfl) ?_
       try go_wp2
       go_ret
       exact ⟨by first | rfl | (simp [errW_none, errW_some] <;> rfl) | (simp [*, errW_none, errW_some] <;> rfl), by repeat (first | (with_reducible first | exact HB.out | apply below_alloc | apply pw_below_drewN | apply below_drew1 | refine below_set ?_ GE586.out | refine below_set ?_ GE587.out | refine below_set ?_ GE606.out) | exact HB.out)⟩
   · rw [if_neg c16] at H
     have c16b0 : (t611.toList == t599.toList) = false := beq_eq_false_iff_ne.mpr c16
     have c16b1 : (t611.toList != t599.toList) = true := bne_iff_ne.mpr c16
     obtain rfl := Option.some.inj H
     go_enter Tryd.func7, Tryd.ntmps7
     try go_wp2_with (first | ((with_reducible refine gate_dst (N := 2) rfl ?_); refine box_event ?hg (N := 2) ?hd (cs := #[.slice A0_0 l0_0.length c0_0, .slice A0_1 l0_1.length c0_1]) (t := 67) ?hr ?_; (case hd => rfl); (case hg => rfl); (case hr => first | (go_simp; done) | (go_simp; rfl)); intro gb586 hg w76 hbox hb; have n0_ := Aside0.mk (below_step (by repeat (first | (with_reducible first | exact HB.out | apply below_alloc | apply pw_below_drewN | apply below_drew1) | exact HB.out)) hb); have n1_ := Aside0.mk (hbox); have n2_ := Aside0.mk ((by rw [hg]; exact (below_size (by repeat (first | (with_reducible first | exact HB.out | apply below_alloc | apply pw_below_drewN | apply below_drew1) | exact HB.out))) : w.heap.size ≤ gb586)); have n3_ := Aside0.mk ((by rw [hg]; exact (below_size (by repeat (first | (with_reducible first | exact HB.out | apply below_alloc | apply pw_below_drewN | apply below_drew1) | exact HB.out))) : w.heap.size ≤ gb586)); clear HB; have HB := n0_; have BK586 := n1_; have GW586 := n2_; have GE586 := n3_; clear n0_ n1_ n2_ n3_; clear hb hbox hg) | ((with_reducible refine gate_dst (N := 3) rfl ?_); refine box_event ?hg (N := 3) ?hd (cs := #[.int .i64 a1_0, .int .i64 a1_1, .int .i64 a1_2, .int .u64 a1_3]) (t := 69) ?hr ?_; (case hd => rfl); (case hg => rfl); (case hr => first | (go_simp; done) | (go_simp; rfl)); intro gb587 hg w77 hbox hb; have n0_ := Aside0.mk (blk_below (g := gb586) (o := .cells #[.slice A0_0 l0_0.length c0_0, .slice A0_1 l0_1.length c0_1] 67 (0, 0)) (by (with_reducible repeat (first | refine blk_drewN ?_ _ | refine blk_drew ?_ | refine blk_alloc ?_ _)); exact BK586.out) hb); have n1_ := Aside0.mk (below_step (by repeat (first | (with_reducible first | exact HB.out | apply below_alloc | apply pw_below_drewN | apply below_drew1 | refine below_set ?_ GE586.out) | exact HB.out)) hb); have n2_ := Aside0.mk (hbox); have n3_ := Aside0.mk ((by rw [hg]; exact (below_size (by repeat (first | (with_reducible first | exact HB.out | apply below_alloc | apply pw_below_drewN | apply below_drew1 | refine below_set ?_ GE586.out) | exact HB.out))) : w.heap.size ≤ gb587)); have n4_ := Aside0.mk ((by rw [hg]; exact (below_size (by repeat (first | (with_reducible first | exact HB.out | apply below_alloc | apply pw_below_drewN | apply below_drew1 | refine below_set ?_ GE586.out) | exact HB.out))) : w.heap.size ≤ gb587)); have n5_ := Aside0.mk ((by rw [hg]; exact Nat.ne_of_lt (blk_lt (g := gb586) (o := .cells #[.slice A0_0 l0_0.length c0_0, .slice A0_1 l0_1.length c0_1] 67 (0, 0)) (by (with_reducible repeat (first | refine blk_drewN ?_ _ | refine blk_drew ?_ | refine blk_alloc ?_ _)); exact BK586.out)) : gb586 ≠ gb587)); have n6_ := Aside0.mk ((by rw [hg]; exact Nat.ne_of_gt (blk_lt (g := gb586) (o := .cells #[.slice A0_0 l0_0.length c0_0, .slice A0_1 l0_1.length c0_1] 67 (0, 0)) (by (with_reducible repeat (first | refine blk_drewN ?_ _ | refine blk_drew ?_ | refine blk_alloc ?_ _)); exact BK586.out)) : gb587 ≠ gb586)); clear BK586; clear HB; have BK586 := n0_; have HB := n1_; have BK587 := n2_; have GW587 := n3_; have GE587 := n4_; have NB586_587 := n5_; have NB587_586 := n6_; clear n0_ n1_ n2_ n3_ n4_ n5_ n6_; clear hb hbox hg; have hnb78 := NB586_587.out; have hnc78 := NB587_586.out; have hcz79_0 : w77.cell? ⟨gb586, 0, none⟩ = some (.slice A0_0 l0_0.length c0_0) := (blk_cell BK586.out 0).trans rfl; have hcz79_1 : w77.cell? ⟨gb586, 1, none⟩ = some (.slice A0_1 l0_1.length c0_1) := (blk_cell BK586.out 1).trans rfl; have hfz79_0 := blk_frozen BK586.out 0; have hfz79_1 := blk_frozen BK586.out 1) | ((with_reducible refine gate_callee (f := 29) rfl ?_); refine goesL_ (some 11) rfl rfl Tryd.func29 (by kernel_rfl) rfl #[.agg #[.slice A0_0 l0_0.length c0_0, .slice A0_1 l0_1.length c0_1], .int .i64 1048576] rfl (by (try simp only [List.map_toArray, List.map_cons, List.map_nil]); first | done | rfl | (simp only [List.length_drop, List.length_take]; rfl)) ?_; (with_reducible refine (laws_szModule.calls k _ _ l0_0 _ _ l0_1 1048576 t588 _ ?side1 ?side2 ?side3 ?side4 A3.out).mono ?_); (case side1 => repeat (first | exact (Kd.C_below HR0_0.out HB.out) | (with_reducible refine Kd.C_alloc ?_ _) | (with_reducible refine Kd.C_drewN ?_ _) | (with_reducible refine Kd.C_drew ?_))); (case side2 => exact HC0_0.out); (case side3 => repeat (first | exact (Kd.C_below HR0_1.out HB.out) | (with_reducible refine Kd.C_alloc ?_ _) | (with_reducible refine Kd.C_drewN ?_ _) | (with_reducible refine Kd.C_drew ?_))); (case side4 => exact HC0_1.out); rintro e w80 ⟨rfl, hb⟩; refine ⟨_, rfl, ?_⟩; have n0_ := Aside0.mk (blk_below (g := gb586) (o := .cells #[.slice A0_0 l0_0.length c0_0, .slice A0_1 l0_1.length c0_1] 67 (0, 0)) (by (with_reducible repeat (first | refine blk_drewN ?_ _ | refine blk_drew ?_ | refine blk_alloc ?_ _)); exact BK586.out) hb); have n1_ := Aside0.mk (blk_below (g := gb587) (o := .cells #[.int .i64 a1_0, .int .i64 a1_1, .int .i64 a1_2, .int .u64 a1_3] 69 (0, 0)) (by (with_reducible repeat (first | refine blk_drewN ?_ _ | refine blk_drew ?_ | refine blk_alloc ?_ _)); exact BK587.out) hb); have n2_ := Aside0.mk (below_step (by repeat (first | (with_reducible first | exact HB.out | apply below_alloc | apply pw_below_drewN | apply below_drew1 | refine below_set ?_ GE586.out | refine below_set ?_ GE587.out) | exact HB.out)) hb); clear BK586; clear BK587; clear HB; have BK586 := n0_; have BK587 := n1_; have HB := n2_; clear n0_ n1_ n2_; (try clear hb); (try clear hb2); (try clear hk); (try clear hi)))
     have n0_ := Aside0.mk (blk_drew BK586.out)
     have n1_ := Aside0.mk (blk_drew BK587.out)
     have n2_ := Aside0.mk (below_drew1 HB.out)
     clear BK586
     clear BK587
     clear HB
     have BK586 := n0_
     have BK587 := n1_
     have HB := n2_
     clear n0_ n1_ n2_
     refine start_ (n := 6) (S := fun w' => w'.cell? ⟨gb586, 0, none⟩ = some (.slice A0_0 l0_0.length c0_0) ∧ w'.cell? ⟨gb586, 1, none⟩ = some (.slice A0_1 l0_1.length c0_1) ∧ w'.cell? ⟨gb587, 0, none⟩ = some (.int .i64 a1_0) ∧ w'.cell? ⟨gb587, 1, none⟩ = some (.int .i64 a1_1) ∧ w'.cell? ⟨gb587, 2, none⟩ = some (.int .i64 a1_2) ∧ w'.cell? ⟨gb587, 3, none⟩ = some (.int .u64 a1_3)) (ds := []) #[false, false, false, false, false, false] (by kernel_rfl) rfl rfl ⟨(blk_cell BK586.out 0).trans rfl, (blk_cell BK586.out 1).trans rfl, (blk_cell BK587.out 0).trans rfl, (blk_cell BK587.out 1).trans rfl, (blk_cell BK587.out 2).trans rfl, (blk_cell BK587.out 3).trans rfl⟩ (fun hHeld => ?_)
     generalize w80.drew = w81 at BK586 BK587 HB hHeld ⊢
     refine take_ (i := 0) (N := some 14) (v := ?_) (a' := ?_) #[true, false, false, false, false, false] rfl rfl (by kernel_rfl) (fun _ _ _ h => h) (Or.inl ⟨by rfl, ?_⟩) hHeld ?_ ?_
     rotate_left
     · rintro w' ⟨s0, s1, s2, s3, s4, s5⟩
       go_simp
       with_reducible rfl
     rotate_left
     · simp only [Act.put, List.setIfInBounds_toArray, List.set_cons_zero, List.set_cons_succ, i64_w, i32_w]
       rfl
     refine take_ (i := 2) (N := some 16) (v := ?_) (a' := ?_) #[true, false, true, false, false, false] rfl rfl (by kernel_rfl) (fun _ _ _ h => h) (Or.inl ⟨by rfl, ?_⟩) hHeld ?_ ?_
     rotate_left
     · rintro w' ⟨s0, s1, s2, s3, s4, s5⟩
       go_simp
       with_reducible rfl
     rotate_left
     · simp only [Act.put, List.setIfInBounds_toArray, List.set_cons_zero, List.set_cons_succ, i64_w, i32_w]
       rfl
     refine one_ (i := 1) (N := some 15) #[true, true, true, false, false, false] rfl rfl (by kernel_rfl) (by decide) (fun K hK => ?_)
     refine goes_ Tryd.func31 (by kernel_rfl) rfl #[.agg #[.slice A0_0 l0_0.length c0_0, .slice A0_1 l0_1.length c0_1]] (by rfl) rfl rfl (by (try simp only [List.map_toArray, List.map_cons, List.map_nil]); first | done | rfl | (simp only [List.length_drop, List.length_take]; rfl)) ?_
     with_reducible refine (laws_toModule.calls k _ _ l0_0 _ _ l0_1 t589 t592 _ ?side1 ?side2 ?side3 ?side4 A10.out).mono ?_
     (case side1 => repeat (first | exact (Kd.C_below HR0_0.out HB.out) | (with_reducible refine Kd.C_alloc ?_ _) | (with_reducible refine Kd.C_drewN ?_ _) | (with_reducible refine Kd.C_drew ?_)))
     (case side2 => exact HC0_0.out)
     (case side3 => repeat (first | exact (Kd.C_below HR0_1.out HB.out) | (with_reducible refine Kd.C_alloc ?_ _) | (with_reducible refine Kd.C_drewN ?_ _) | (with_reducible refine Kd.C_drew ?_)))
     (case side4 => exact HC0_1.out)
     rintro e w82 ⟨v590, v593, rfl, ho0, ho1, hb⟩
     refine ⟨_, rfl, ?_⟩
     have n0_ := Aside0.mk (Kd.S_lower ho0 (below_size (by repeat (first | (with_reducible first | exact HB.out | apply below_alloc | apply pw_below_drewN | apply below_drew1 | refine below_set ?_ GE586.out | refine below_set ?_ GE587.out) | exact HB.out))))
     have n1_ := Aside0.mk (Kd.R_lower ho1 (below_size (by repeat (first | (with_reducible first | exact HB.out | apply below_alloc | apply pw_below_drewN | apply below_drew1 | refine below_set ?_ GE586.out | refine below_set ?_ GE587.out) | exact HB.out))))
     have n2_ := Aside0.mk (blk_below (g := gb586) (o := .cells #[.slice A0_0 l0_0.length c0_0, .slice A0_1 l0_1.length c0_1] 67 (0, 0)) (by (with_reducible repeat (first | refine blk_drewN ?_ _ | refine blk_drew ?_ | refine blk_alloc ?_ _)); exact BK586.out) hb)
     have n3_ := Aside0.mk (blk_below (g := gb587) (o := .cells #[.int .i64 a1_0, .int .i64 a1_1, .int .i64 a1_2, .int .u64 a1_3] 69 (0, 0)) (by (with_reducible repeat (first | refine blk_drewN ?_ _ | refine blk_drew ?_ | refine blk_alloc ?_ _)); exact BK587.out) hb)
     have n4_ := Aside0.mk (below_step (by repeat (first | (with_reducible first | exact HB.out | apply below_alloc | apply pw_below_drewN | apply below_drew1 | refine below_set ?_ GE586.out | refine below_set ?_ GE587.out) | exact HB.out)) hb)
     clear BK586
     clear BK587
     clear HB
     have HO591 := n0_
     have HO594 := n1_
     have BK586 := n2_
     have BK587 := n3_
     have HB := n4_
     clear n0_ n1_ n2_ n3_ n4_
     (try clear hb)
     (try clear hb2)
     (try clear hk)
     (try clear hi)
     (try clear ho0)
     (try clear ho1)
     refine hK.out _ _ ⟨(blk_cell BK586.out 0).trans rfl, (blk_cell BK586.out 1).trans rfl, (blk_cell BK587.out 0).trans rfl, (blk_cell BK587.out 1).trans rfl, (blk_cell BK587.out 2).trans rfl, (blk_cell BK587.out 3).trans rfl⟩ (fun hHeld => ?_)
     clear hK K
     refine norm_ (a' := ?_) ?_ ?_
     rotate_left
     · show Act.put _ (some 15) _ = _
       simp only [Act.put, List.setIfInBounds_toArray, List.set_cons_zero, List.set_cons_succ, i64_w, i32_w]
       rfl
     refine one_ (i := 3) (N := some 17) #[true, true, true, true, false, false] rfl rfl (by kernel_rfl) (by decide) (fun K hK => ?_)
     refine goes_ Tryd.func32 (by kernel_rfl) rfl #[.agg #[.int .i64 a1_0, .int .i64 a1_1, .int .i64 a1_2, .int .u64 a1_3]] (by rfl) rfl rfl (by (try simp only [List.map_toArray, List.map_cons, List.map_nil]); first | done | rfl | (simp only [List.length_drop, List.length_take]; rfl)) ?_
     with_reducible refine (laws_toOperand.calls a1_0 a1_1 a1_2 a1_3 t595 t596 t597 t598 _ A11.out).mono ?_
     rintro e w83 ⟨rfl, hb⟩
     refine ⟨_, rfl, ?_⟩
     have n0_ := Aside0.mk (Kd.S_below (by (with_reducible repeat (first | apply Kd.S_alloc | apply Kd.S_drewN | apply Kd.S_drew)); exact HO591.out) hb)
     have n1_ := Aside0.mk (Kd.R_below (by (with_reducible repeat (first | apply Kd.R_alloc | apply Kd.R_drewN | apply Kd.R_drew)); exact HO594.out) hb)
     have n2_ := Aside0.mk (blk_below (g := gb586) (o := .cells #[.slice A0_0 l0_0.length c0_0, .slice A0_1 l0_1.length c0_1] 67 (0, 0)) (by (with_reducible repeat (first | refine blk_drewN ?_ _ | refine blk_drew ?_ | refine blk_alloc ?_ _)); exact BK586.out) hb)
     have n3_ := Aside0.mk (blk_below (g := gb587) (o := .cells #[.int .i64 a1_0, .int .i64 a1_1, .int .i64 a1_2, .int .u64 a1_3] 69 (0, 0)) (by (with_reducible repeat (first | refine blk_drewN ?_ _ | refine blk_drew ?_ | refine blk_alloc ?_ _)); exact BK587.out) hb)
     have n4_ := Aside0.mk (below_step (by repeat (first | (with_reducible first | exact HB.out | apply below_alloc | apply pw_below_drewN | apply below_drew1 | refine below_set ?_ GE586.out | refine below_set ?_ GE587.out) | exact HB.out)) hb)
     clear HO591
     clear HO594
     clear BK586
     clear BK587
     clear HB
     have HO591 := n0_
     have HO594 := n1_
     have BK586 := n2_
     have BK587 := n3_
     have HB := n4_
     clear n0_ n1_ n2_ n3_ n4_
     (try clear hb)
     (try clear hb2)
     (try clear hk)
     (try clear hi)
     obtain ⟨Ao84, co84, eo84⟩ := Kd.S_slice HO591.out
     (first | subst eo84 | (injection eo84 with f1_ f2_ f3_; have f4_ := f1_.symm; have f5_ := f3_.symm; clear f1_ f2_ f3_; subst f4_; subst f5_))
     obtain ⟨Ao85, co85, eo85⟩ := Kd.R_slice HO594.out
     (first | subst eo85 | (injection eo85 with f1_ f2_ f3_; have f4_ := f1_.symm; have f5_ := f3_.symm; clear f1_ f2_ f3_; subst f4_; subst f5_))
     refine hK.out _ _ ⟨(blk_cell BK586.out 0).trans rfl, (blk_cell BK586.out 1).trans rfl, (blk_cell BK587.out 0).trans rfl, (blk_cell BK587.out 1).trans rfl, (blk_cell BK587.out 2).trans rfl, (blk_cell BK587.out 3).trans rfl⟩ (fun hHeld => ?_)
     clear hK K
     refine norm_ (a' := ?_) ?_ ?_
     rotate_left
     · show Act.put _ (some 17) _ = _
       simp only [Act.put, List.setIfInBounds_toArray, List.set_cons_zero, List.set_cons_succ, i64_w, i32_w]
       rfl
     refine one_ (i := 4) (N := some 18) #[true, true, true, true, true, false] rfl rfl (by kernel_rfl) (by decide) (fun K hK => ?_)
     refine goes_ Tryd.func30 (by kernel_rfl) rfl #[.agg #[.slice Ao84 t589.length co84, .slice Ao85 t592.length co85], .agg #[.int .i64 t595, .int .i64 t596, .int .i64 t597, .int .u64 t598]] (by rfl) rfl rfl (by (try simp only [List.map_toArray, List.map_cons, List.map_nil]); first | done | rfl | (simp only [List.length_drop, List.length_take]; rfl)) ?_
     with_reducible refine (spec_FormatOperand.calls k _ _ t589 _ _ t592 t595 t596 t597 t598 t599 _ ?side1 ?side2 ?side3 ?side4 A12.out).mono ?_
     (case side1 => repeat (first | exact (Kd.S_reads' HO591.out).2.2 | (with_reducible refine Kd.C_alloc ?_ _) | (with_reducible refine Kd.C_drewN ?_ _) | (with_reducible refine Kd.C_drew ?_)))
     (case side2 => exact (Kd.S_reads' HO591.out).2.1)
     (case side3 => repeat (first | exact (Kd.R_reads' HO594.out).2.2 | (with_reducible refine Kd.C_alloc ?_ _) | (with_reducible refine Kd.C_drewN ?_ _) | (with_reducible refine Kd.C_drew ?_)))
     (case side4 => exact (Kd.R_reads' HO594.out).2.1)
     rintro e w86 ⟨rfl, hb⟩
     refine ⟨_, rfl, ?_⟩
     have n0_ := Aside0.mk (Kd.S_below (by (with_reducible repeat (first | apply Kd.S_alloc | apply Kd.S_drewN | apply Kd.S_drew)); exact HO591.out) hb)
     have n1_ := Aside0.mk (Kd.R_below (by (with_reducible repeat (first | apply Kd.R_alloc | apply Kd.R_drewN | apply Kd.R_drew)); exact HO594.out) hb)
     have n2_ := Aside0.mk (blk_below (g := gb586) (o := .cells #[.slice A0_0 l0_0.length c0_0, .slice A0_1 l0_1.length c0_1] 67 (0, 0)) (by (with_reducible repeat (first | refine blk_drewN ?_ _ | refine blk_drew ?_ | refine blk_alloc ?_ _)); exact BK586.out) hb)
     have n3_ := Aside0.mk (blk_below (g := gb587) (o := .cells #[.int .i64 a1_0, .int .i64 a1_1, .int .i64 a1_2, .int .u64 a1_3] 69 (0, 0)) (by (with_reducible repeat (first | refine blk_drewN ?_ _ | refine blk_drew ?_ | refine blk_alloc ?_ _)); exact BK587.out) hb)
     have n4_ := Aside0.mk (below_step (by repeat (first | (with_reducible first | exact HB.out | apply below_alloc | apply pw_below_drewN | apply below_drew1 | refine below_set ?_ GE586.out | refine below_set ?_ GE587.out) | exact HB.out)) hb)
     clear HO591
     clear HO594
     clear BK586
     clear BK587
     clear HB
     have HO591 := n0_
     have HO594 := n1_
     have BK586 := n2_
     have BK587 := n3_
     have HB := n4_
     clear n0_ n1_ n2_ n3_ n4_
     (try clear hb)
     (try clear hb2)
     (try clear hk)
     (try clear hi)
     refine hK.out _ _ ⟨(blk_cell BK586.out 0).trans rfl, (blk_cell BK586.out 1).trans rfl, (blk_cell BK587.out 0).trans rfl, (blk_cell BK587.out 1).trans rfl, (blk_cell BK587.out 2).trans rfl, (blk_cell BK587.out 3).trans rfl⟩ (fun hHeld => ?_)
     clear hK K
     refine norm_ (a' := ?_) ?_ ?_
     rotate_left
     · show Act.put _ (some 18) _ = _
       simp only [Act.put, List.setIfInBounds_toArray, List.set_cons_zero, List.set_cons_succ, i64_w, i32_w]
       rfl
     refine pure_ (i := 5) (N := some 6) (v := ?_) (a' := ?_) #[true, true, true, true, true, true] rfl rfl (by kernel_rfl) (fun _ _ _ h => h) (Or.inl ⟨by rfl, ?_⟩) ?_ ?_
     rotate_left
     · intro w'
       go_simp
       with_reducible rfl
     rotate_left
     · simp only [Act.put, List.setIfInBounds_toArray, List.set_cons_zero, List.set_cons_succ, i64_w, i32_w]
       rfl
     refine done_ (by kernel_rfl) ?_
     have hcz87_0 : w86.cell? ⟨gb586, 0, none⟩ = some (.slice A0_0 l0_0.length c0_0) := (blk_cell BK586.out 0).trans rfl
     have hcz87_1 : w86.cell? ⟨gb586, 1, none⟩ = some (.slice A0_1 l0_1.length c0_1) := (blk_cell BK586.out 1).trans rfl
     have hfz87_0 := blk_frozen BK586.out 0
     have hfz87_1 := blk_frozen BK586.out 1
     try go_wp2_with (first | ((with_reducible refine gate_callee (f := 31) rfl ?_); refine goesL_ (some 20) rfl rfl Tryd.func31 (by kernel_rfl) rfl #[.agg #[.slice A0_0 l0_0.length c0_0, .slice A0_1 l0_1.length c0_1]] rfl (by (try simp only [List.map_toArray, List.map_cons, List.map_nil]); first | done | rfl | (simp only [List.length_drop, List.length_take]; rfl)) ?_; (with_reducible refine (laws_toModule.calls k _ _ l0_0 _ _ l0_1 t600 t603 _ ?side1 ?side2 ?side3 ?side4 A13.out).mono ?_); (case side1 => repeat (first | exact (Kd.C_below HR0_0.out HB.out) | (with_reducible refine Kd.C_alloc ?_ _) | (with_reducible refine Kd.C_drewN ?_ _) | (with_reducible refine Kd.C_drew ?_))); (case side2 => exact HC0_0.out); (case side3 => repeat (first | exact (Kd.C_below HR0_1.out HB.out) | (with_reducible refine Kd.C_alloc ?_ _) | (with_reducible refine Kd.C_drewN ?_ _) | (with_reducible refine Kd.C_drew ?_))); (case side4 => exact HC0_1.out); rintro e w88 ⟨v601, v604, rfl, ho0, ho1, hb⟩; refine ⟨_, rfl, ?_⟩; have n0_ := Aside0.mk (Kd.S_elder' (by (with_reducible repeat (first | apply Kd.S_alloc | apply Kd.S_drewN | apply Kd.S_drew)); exact HO591.out) (Kd.S_base ho0) hb); have n1_ := Aside0.mk (Kd.R_elder' (by (with_reducible repeat (first | apply Kd.R_alloc | apply Kd.R_drewN | apply Kd.R_drew)); exact HO594.out) (Kd.R_base ho1) hb); have n2_ := Aside0.mk (Kd.S_lower (Kd.S_new' ho0 (Kd.S_lt (by (with_reducible repeat (first | apply Kd.S_alloc | apply Kd.S_drewN | apply Kd.S_drew)); exact HO591.out))) (below_size (by repeat (first | (with_reducible first | exact HB.out | apply below_alloc | apply pw_below_drewN | apply below_drew1 | refine below_set ?_ GE586.out | refine below_set ?_ GE587.out) | exact HB.out)))); have n3_ := Aside0.mk (Kd.R_lower (Kd.R_new' ho1 (Kd.R_lt (by (with_reducible repeat (first | apply Kd.R_alloc | apply Kd.R_drewN | apply Kd.R_drew)); exact HO594.out))) (below_size (by repeat (first | (with_reducible first | exact HB.out | apply below_alloc | apply pw_below_drewN | apply below_drew1 | refine below_set ?_ GE586.out | refine below_set ?_ GE587.out) | exact HB.out)))); have n4_ := Aside0.mk (blk_below (g := gb586) (o := .cells #[.slice A0_0 l0_0.length c0_0, .slice A0_1 l0_1.length c0_1] 67 (0, 0)) (by (with_reducible repeat (first | refine blk_drewN ?_ _ | refine blk_drew ?_ | refine blk_alloc ?_ _)); exact BK586.out) hb); have n5_ := Aside0.mk (blk_below (g := gb587) (o := .cells #[.int .i64 a1_0, .int .i64 a1_1, .int .i64 a1_2, .int .u64 a1_3] 69 (0, 0)) (by (with_reducible repeat (first | refine blk_drewN ?_ _ | refine blk_drew ?_ | refine blk_alloc ?_ _)); exact BK587.out) hb); have n6_ := Aside0.mk (below_step (by repeat (first | (with_reducible first | exact HB.out | apply below_alloc | apply pw_below_drewN | apply below_drew1 | refine below_set ?_ GE586.out | refine below_set ?_ GE587.out) | exact HB.out)) hb); clear HO591; clear HO594; clear BK586; clear BK587; clear HB; have HO591 := n0_; have HO594 := n1_; have HO602 := n2_; have HO605 := n3_; have BK586 := n4_; have BK587 := n5_; have HB := n6_; clear n0_ n1_ n2_ n3_ n4_ n5_ n6_; (try clear hb); (try clear hb2); (try clear hk); (try clear hi); (try clear ho0); (try clear ho1)) | ((with_reducible refine gate_dst (N := 7) rfl ?_); refine box_event ?hg (N := 7) ?hd (cs := #[.slice none 0 0, .slice none 0 0]) (t := 75) ?hr ?_; (case hd => rfl); (case hg => rfl); (case hr => first | (go_simp; done) | (go_simp; rfl)); intro gb606 hg w89 hbox hb; have n0_ := Aside0.mk (Kd.S_below (by (with_reducible repeat (first | apply Kd.S_alloc | apply Kd.S_drewN | apply Kd.S_drew)); exact HO591.out) hb); have n1_ := Aside0.mk (Kd.R_below (by (with_reducible repeat (first | apply Kd.R_alloc | apply Kd.R_drewN | apply Kd.R_drew)); exact HO594.out) hb); have n2_ := Aside0.mk (Kd.S_below (by (with_reducible repeat (first | apply Kd.S_alloc | apply Kd.S_drewN | apply Kd.S_drew)); exact HO602.out) hb); have n3_ := Aside0.mk (Kd.R_below (by (with_reducible repeat (first | apply Kd.R_alloc | apply Kd.R_drewN | apply Kd.R_drew)); exact HO605.out) hb); have n4_ := Aside0.mk (blk_below (g := gb586) (o := .cells #[.slice A0_0 l0_0.length c0_0, .slice A0_1 l0_1.length c0_1] 67 (0, 0)) (by (with_reducible repeat (first | refine blk_drewN ?_ _ | refine blk_drew ?_ | refine blk_alloc ?_ _)); exact BK586.out) hb); have n5_ := Aside0.mk (blk_below (g := gb587) (o := .cells #[.int .i64 a1_0, .int .i64 a1_1, .int .i64 a1_2, .int .u64 a1_3] 69 (0, 0)) (by (with_reducible repeat (first | refine blk_drewN ?_ _ | refine blk_drew ?_ | refine blk_alloc ?_ _)); exact BK587.out) hb); have n6_ := Aside0.mk (below_step (by repeat (first | (with_reducible first | exact HB.out | apply below_alloc | apply pw_below_drewN | apply below_drew1 | refine below_set ?_ GE586.out | refine below_set ?_ GE587.out) | exact HB.out)) hb); have n7_ := Aside0.mk (hbox); have n8_ := Aside0.mk ((by rw [hg]; exact (below_size (by repeat (first | (with_reducible first | exact HB.out | apply below_alloc | apply pw_below_drewN | apply below_drew1 | refine below_set ?_ GE586.out | refine below_set ?_ GE587.out) | exact HB.out))) : w.heap.size ≤ gb606)); have n9_ := Aside0.mk ((by rw [hg]; exact (below_size (by repeat (first | (with_reducible first | exact HB.out | apply below_alloc | apply pw_below_drewN | apply below_drew1 | refine below_set ?_ GE586.out | refine below_set ?_ GE587.out) | exact HB.out))) : w.heap.size ≤ gb606)); have n10_ := Aside0.mk ((by rw [hg]; exact Nat.ne_of_lt (blk_lt (g := gb586) (o := .cells #[.slice A0_0 l0_0.length c0_0, .slice A0_1 l0_1.length c0_1] 67 (0, 0)) (by (with_reducible repeat (first | refine blk_drewN ?_ _ | refine blk_drew ?_ | refine blk_alloc ?_ _)); exact BK586.out)) : gb586 ≠ gb606)); have n11_ := Aside0.mk ((by rw [hg]; exact Nat.ne_of_gt (blk_lt (g := gb586) (o := .cells #[.slice A0_0 l0_0.length c0_0, .slice A0_1 l0_1.length c0_1] 67 (0, 0)) (by (with_reducible repeat (first | refine blk_drewN ?_ _ | refine blk_drew ?_ | refine blk_alloc ?_ _)); exact BK586.out)) : gb606 ≠ gb586)); have n12_ := Aside0.mk ((by rw [hg]; exact Nat.ne_of_lt (blk_lt (g := gb587) (o := .cells #[.int .i64 a1_0, .int .i64 a1_1, .int .i64 a1_2, .int .u64 a1_3] 69 (0, 0)) (by (with_reducible repeat (first | refine blk_drewN ?_ _ | refine blk_drew ?_ | refine blk_alloc ?_ _)); exact BK587.out)) : gb587 ≠ gb606)); have n13_ := Aside0.mk ((by rw [hg]; exact Nat.ne_of_gt (blk_lt (g := gb587) (o := .cells #[.int .i64 a1_0, .int .i64 a1_1, .int .i64 a1_2, .int .u64 a1_3] 69 (0, 0)) (by (with_reducible repeat (first | refine blk_drewN ?_ _ | refine blk_drew ?_ | refine blk_alloc ?_ _)); exact BK587.out)) : gb606 ≠ gb587)); clear HO591; clear HO594; clear HO602; clear HO605; clear BK586; clear BK587; clear HB; have HO591 := n0_; have HO594 := n1_; have HO602 := n2_; have HO605 := n3_; have BK586 := n4_; have BK587 := n5_; have HB := n6_; have BK606 := n7_; have GW606 := n8_; have GE606 := n9_; have NB586_606 := n10_; have NB606_586 := n11_; have NB587_606 := n12_; have NB606_587 := n13_; clear n0_ n1_ n2_ n3_ n4_ n5_ n6_ n7_ n8_ n9_ n10_ n11_ n12_ n13_; clear hb hbox hg; obtain ⟨Ao90, co90, eo90⟩ := Kd.S_slice HO602.out; subst eo90; have hnb91 := NB606_586.out; have hnc91 := NB586_606.out; have hnb92 := NB606_587.out; have hnc92 := NB587_606.out; have hcz93_0 : w89.cell? ⟨gb606, 0, none⟩ = some (.slice none 0 0) := (blk_cell BK606.out 0).trans rfl; have hcz93_1 : w89.cell? ⟨gb606, 1, none⟩ = some (.slice none 0 0) := (blk_cell BK606.out 1).trans rfl; have hfz93_0 := blk_frozen BK606.out 0; have hfz93_1 := blk_frozen BK606.out 1; obtain ⟨Ao94, co94, eo94⟩ := Kd.R_slice HO605.out; subst eo94))
     have n0_ : Aside0 (Kd.S k127 127 ((w89.setCell ⟨gb606, 0, none⟩ (.slice Ao90 t600.length co90)).setCell ⟨gb606, 1, none⟩ (.slice Ao94 t603.length co94)) w.heap.size (fun k_ => some k_ ≠ (.slice Ao90 t600.length co90 : Value).ownBlock) (.slice Ao84 t589.length co84) t589) := ⟨by (with_reducible repeat (first | apply Kd.S_alloc | apply Kd.S_drewN | apply Kd.S_drew)); exact Kd.S_mono (Kd.S_far (p := ⟨gb606, 1, none⟩) (Kd.S_far (p := ⟨gb606, 0, none⟩) (Kd.S_types HO591.out BK606.out (by decide)) (fun _ hk => hk.2) (.slice Ao90 t600.length co90)) (fun _ hk => hk.2) (.slice Ao94 t603.length co94)) (fun _ hk => hk.1.2)⟩
     have n1_ : Aside0 (Kd.R k149 149 ((w89.setCell ⟨gb606, 0, none⟩ (.slice Ao90 t600.length co90)).setCell ⟨gb606, 1, none⟩ (.slice Ao94 t603.length co94)) w.heap.size (fun k_ => some k_ ≠ (.slice Ao94 t603.length co94 : Value).ownBlock) (.slice Ao85 t592.length co85) t592) := ⟨by (with_reducible repeat (first | apply Kd.R_alloc | apply Kd.R_drewN | apply Kd.R_drew)); exact Kd.R_mono (Kd.R_far (p := ⟨gb606, 1, none⟩) (Kd.R_far (p := ⟨gb606, 0, none⟩) (Kd.R_types HO594.out BK606.out (by decide)) (fun _ hk => hk.2) (.slice Ao90 t600.length co90)) (fun _ hk => hk.2) (.slice Ao94 t603.length co94)) (fun _ hk => hk.1.2)⟩
     have n2_ : Aside0 (Kd.S k127 127 ((w89.setCell ⟨gb606, 0, none⟩ (.slice Ao90 t600.length co90)).setCell ⟨gb606, 1, none⟩ (.slice Ao94 t603.length co94)) w.heap.size (fun k_ => some k_ ≠ (.slice Ao84 t589.length co84 : Value).ownBlock) (.slice Ao90 t600.length co90) t600) := ⟨by (with_reducible repeat (first | apply Kd.S_alloc | apply Kd.S_drewN | apply Kd.S_drew)); exact Kd.S_mono (Kd.S_far (p := ⟨gb606, 1, none⟩) (Kd.S_far (p := ⟨gb606, 0, none⟩) (Kd.S_types HO602.out BK606.out (by decide)) (fun _ hk => hk.2) (.slice Ao90 t600.length co90)) (fun _ hk => hk.2) (.slice Ao94 t603.length co94)) (fun _ hk => hk.1.2)⟩
     have n3_ : Aside0 (Kd.R k149 149 ((w89.setCell ⟨gb606, 0, none⟩ (.slice Ao90 t600.length co90)).setCell ⟨gb606, 1, none⟩ (.slice Ao94 t603.length co94)) w.heap.size (fun k_ => some k_ ≠ (.slice Ao85 t592.length co85 : Value).ownBlock) (.slice Ao94 t603.length co94) t603) := ⟨by (with_reducible repeat (first | apply Kd.R_alloc | apply Kd.R_drewN | apply Kd.R_drew)); exact Kd.R_mono (Kd.R_far (p := ⟨gb606, 1, none⟩) (Kd.R_far (p := ⟨gb606, 0, none⟩) (Kd.R_types HO605.out BK606.out (by decide)) (fun _ hk => hk.2) (.slice Ao90 t600.length co90)) (fun _ hk => hk.2) (.slice Ao94 t603.length co94)) (fun _ hk => hk.1.2)⟩
     have n4_ : Aside0 (((w89.setCell ⟨gb606, 0, none⟩ (.slice Ao90 t600.length co90)).setCell ⟨gb606, 1, none⟩ (.slice Ao94 t603.length co94)).heap[gb586]? = some (.cells #[.slice A0_0 l0_0.length c0_0, .slice A0_1 l0_1.length c0_1] 67 (0, 0))) := ⟨by (with_reducible repeat (first | refine blk_drewN ?_ _ | refine blk_drew ?_ | refine blk_alloc ?_ _)); refine blk_far ?_ NB586_606.out _; (with_reducible repeat (first | refine blk_drewN ?_ _ | refine blk_drew ?_ | refine blk_alloc ?_ _)); refine blk_far ?_ NB586_606.out _; (with_reducible repeat (first | refine blk_drewN ?_ _ | refine blk_drew ?_ | refine blk_alloc ?_ _)); exact BK586.out⟩
     have n5_ : Aside0 (((w89.setCell ⟨gb606, 0, none⟩ (.slice Ao90 t600.length co90)).setCell ⟨gb606, 1, none⟩ (.slice Ao94 t603.length co94)).heap[gb587]? = some (.cells #[.int .i64 a1_0, .int .i64 a1_1, .int .i64 a1_2, .int .u64 a1_3] 69 (0, 0))) := ⟨by (with_reducible repeat (first | refine blk_drewN ?_ _ | refine blk_drew ?_ | refine blk_alloc ?_ _)); refine blk_far ?_ NB587_606.out _; (with_reducible repeat (first | refine blk_drewN ?_ _ | refine blk_drew ?_ | refine blk_alloc ?_ _)); refine blk_far ?_ NB587_606.out _; (with_reducible repeat (first | refine blk_drewN ?_ _ | refine blk_drew ?_ | refine blk_alloc ?_ _)); exact BK587.out⟩
     have n6_ : Aside0 (((w89.setCell ⟨gb606, 0, none⟩ (.slice Ao90 t600.length co90)).setCell ⟨gb606, 1, none⟩ (.slice Ao94 t603.length co94)).heap[gb606]? = some (.cells #[.slice Ao90 t600.length co90, .slice Ao94 t603.length co94] 75 (0, 0))) := ⟨by (with_reducible repeat (first | refine blk_drewN ?_ _ | refine blk_drew ?_ | refine blk_alloc ?_ _)); refine blk_put (cs := #[.slice Ao90 t600.length co90, .slice none 0 0]) ?_ 1 _ rfl; (with_reducible repeat (first | refine blk_drewN ?_ _ | refine blk_drew ?_ | refine blk_alloc ?_ _)); refine blk_put (cs := #[.slice none 0 0, .slice none 0 0]) ?_ 0 _ rfl; (with_reducible repeat (first | refine blk_drewN ?_ _ | refine blk_drew ?_ | refine blk_alloc ?_ _)); exact BK606.out⟩
     have n7_ : Aside0 (Below w.heap.size w ((w89.setCell ⟨gb606, 0, none⟩ (.slice Ao90 t600.length co90)).setCell ⟨gb606, 1, none⟩ (.slice Ao94 t603.length co94))) := ⟨by repeat (first | (with_reducible first | exact HB.out | apply below_alloc | apply pw_below_drewN | apply below_drew1 | refine below_set ?_ GE586.out | refine below_set ?_ GE587.out | refine below_set ?_ GE606.out) | exact HB.out)⟩
     (try clear HO591)
     (try clear HO594)
     (try clear HO602)
     (try clear HO605)
     (try clear BK586)
     (try clear BK587)
     (try clear BK606)
     (try clear HB)
     generalize ((w89.setCell ⟨gb606, 0, none⟩ (.slice Ao90 t600.length co90)).setCell ⟨gb606, 1, none⟩ (.slice Ao94 t603.length co94)) = w95 at n0_ n1_ n2_ n3_ n4_ n5_ n6_ n7_ ⊢
     have HO591 := n0_
     have HO594 := n1_
     have HO602 := n2_
     have HO605 := n3_
     have BK586 := n4_
     have BK587 := n5_
     have BK606 := n6_
     have HB := n7_
     clear n0_ n1_ n2_ n3_ n4_ n5_ n6_ n7_
     have n0_ := Aside0.mk (Kd.S_drew HO591.out)
     have n1_ := Aside0.mk (Kd.R_drew HO594.out)
     have n2_ := Aside0.mk (Kd.S_drew HO602.out)
     have n3_ := Aside0.mk (Kd.R_drew HO605.out)
     have n4_ := Aside0.mk (blk_drew BK586.out)
     have n5_ := Aside0.mk (blk_drew BK587.out)
     have n6_ := Aside0.mk (blk_drew BK606.out)
     have n7_ := Aside0.mk (below_drew1 HB.out)
     clear HO591
     clear HO594
     clear HO602
     clear HO605
     clear BK586
     clear BK587
     clear BK606
     clear HB
     have HO591 := n0_
     have HO594 := n1_
     have HO602 := n2_
     have HO605 := n3_
     have BK586 := n4_
     have BK587 := n5_
     have BK606 := n6_
     have HB := n7_
     clear n0_ n1_ n2_ n3_ n4_ n5_ n6_ n7_
     refine start_ (n := 5) (S := fun w' => w'.cell? ⟨gb606, 0, none⟩ = some (.slice Ao90 t600.length co90) ∧ w'.cell? ⟨gb606, 1, none⟩ = some (.slice Ao94 t603.length co94) ∧ w'.cell? ⟨gb587, 0, none⟩ = some (.int .i64 a1_0) ∧ w'.cell? ⟨gb587, 1, none⟩ = some (.int .i64 a1_1) ∧ w'.cell? ⟨gb587, 2, none⟩ = some (.int .i64 a1_2) ∧ w'.cell? ⟨gb587, 3, none⟩ = some (.int .u64 a1_3)) (ds := []) #[false, false, false, false, false] (by kernel_rfl) rfl rfl ⟨(blk_cell BK606.out 0).trans rfl, (blk_cell BK606.out 1).trans rfl, (blk_cell BK587.out 0).trans rfl, (blk_cell BK587.out 1).trans rfl, (blk_cell BK587.out 2).trans rfl, (blk_cell BK587.out 3).trans rfl⟩ (fun hHeld => ?_)
     generalize w95.drew = w96 at HO591 HO594 HO602 HO605 BK586 BK587 BK606 HB hHeld ⊢
     refine take_ (i := 0) (N := some 21) (v := ?_) (a' := ?_) #[true, false, false, false, false] rfl rfl (by kernel_rfl) (fun _ _ _ h => h) (Or.inl ⟨by rfl, ?_⟩) hHeld ?_ ?_
     rotate_left
     · rintro w' ⟨s0, s1, s2, s3, s4, s5⟩
       go_simp
       with_reducible rfl
     rotate_left
     · simp only [Act.put, List.setIfInBounds_toArray, List.set_cons_zero, List.set_cons_succ, i64_w, i32_w]
       rfl
     refine take_ (i := 1) (N := some 22) (v := ?_) (a' := ?_) #[true, true, false, false, false] rfl rfl (by kernel_rfl) (fun _ _ _ h => h) (Or.inl ⟨by rfl, ?_⟩) hHeld ?_ ?_
     rotate_left
     · rintro w' ⟨s0, s1, s2, s3, s4, s5⟩
       go_simp
       with_reducible rfl
     rotate_left
     · simp only [Act.put, List.setIfInBounds_toArray, List.set_cons_zero, List.set_cons_succ, i64_w, i32_w]
       rfl
     refine one_ (i := 2) (N := some 23) #[true, true, true, false, false] rfl rfl (by kernel_rfl) (by decide) (fun K hK => ?_)
     refine goes_ Tryd.func32 (by kernel_rfl) rfl #[.agg #[.int .i64 a1_0, .int .i64 a1_1, .int .i64 a1_2, .int .u64 a1_3]] (by rfl) rfl rfl (by (try simp only [List.map_toArray, List.map_cons, List.map_nil]); first | done | rfl | (simp only [List.length_drop, List.length_take]; rfl)) ?_
     with_reducible refine (laws_toOperand.calls a1_0 a1_1 a1_2 a1_3 t607 t608 t609 t610 _ A14.out).mono ?_
     rintro e w97 ⟨rfl, hb⟩
     refine ⟨_, rfl, ?_⟩
     have n0_ := Aside0.mk (Kd.S_below (by (with_reducible repeat (first | apply Kd.S_alloc | apply Kd.S_drewN | apply Kd.S_drew)); exact HO591.out) hb)
     have n1_ := Aside0.mk (Kd.R_below (by (with_reducible repeat (first | apply Kd.R_alloc | apply Kd.R_drewN | apply Kd.R_drew)); exact HO594.out) hb)
     have n2_ := Aside0.mk (Kd.S_below (by (with_reducible repeat (first | apply Kd.S_alloc | apply Kd.S_drewN | apply Kd.S_drew)); exact HO602.out) hb)
     have n3_ := Aside0.mk (Kd.R_below (by (with_reducible repeat (first | apply Kd.R_alloc | apply Kd.R_drewN | apply Kd.R_drew)); exact HO605.out) hb)
     have n4_ := Aside0.mk (blk_below (g := gb586) (o := .cells #[.slice A0_0 l0_0.length c0_0, .slice A0_1 l0_1.length c0_1] 67 (0, 0)) (by (with_reducible repeat (first | refine blk_drewN ?_ _ | refine blk_drew ?_ | refine blk_alloc ?_ _)); exact BK586.out) hb)
     have n5_ := Aside0.mk (blk_below (g := gb587) (o := .cells #[.int .i64 a1_0, .int .i64 a1_1, .int .i64 a1_2, .int .u64 a1_3] 69 (0, 0)) (by (with_reducible repeat (first | refine blk_drewN ?_ _ | refine blk_drew ?_ | refine blk_alloc ?_ _)); exact BK587.out) hb)
     have n6_ := Aside0.mk (blk_below (g := gb606) (o := .cells #[.slice Ao90 t600.length co90, .slice Ao94 t603.length co94] 75 (0, 0)) (by (with_reducible repeat (first | refine blk_drewN ?_ _ | refine blk_drew ?_ | refine blk_alloc ?_ _)); exact BK606.out) hb)
     have n7_ := Aside0.mk (below_step (by repeat (first | (with_reducible first | exact HB.out | apply below_alloc | apply pw_below_drewN | apply below_drew1 | refine below_set ?_ GE586.out | refine below_set ?_ GE587.out | refine below_set ?_ GE606.out) | exact HB.out)) hb)
     clear HO591
     clear HO594
     clear HO602
     clear HO605
     clear BK586
     clear BK587
     clear BK606
     clear HB
     have HO591 := n0_
     have HO594 := n1_
     have HO602 := n2_
     have HO605 := n3_
     have BK586 := n4_
     have BK587 := n5_
     have BK606 := n6_
     have HB := n7_
     clear n0_ n1_ n2_ n3_ n4_ n5_ n6_ n7_
     (try clear hb)
     (try clear hb2)
     (try clear hk)
     (try clear hi)
     refine hK.out _ _ ⟨(blk_cell BK606.out 0).trans rfl, (blk_cell BK606.out 1).trans rfl, (blk_cell BK587.out 0).trans rfl, (blk_cell BK587.out 1).trans rfl, (blk_cell BK587.out 2).trans rfl, (blk_cell BK587.out 3).trans rfl⟩ (fun hHeld => ?_)
     clear hK K
     refine norm_ (a' := ?_) ?_ ?_
     rotate_left
     · show Act.put _ (some 23) _ = _
       simp only [Act.put, List.setIfInBounds_toArray, List.set_cons_zero, List.set_cons_succ, i64_w, i32_w]
       rfl
     refine one_ (i := 3) (N := some 24) #[true, true, true, true, false] rfl rfl (by kernel_rfl) (by decide) (fun K hK => ?_)
     refine goes_ Tryd.func33 (by kernel_rfl) rfl #[.agg #[.slice Ao90 t600.length co90, .slice Ao94 t603.length co94], .agg #[.int .i64 t607, .int .i64 t608, .int .i64 t609, .int .u64 t610]] (by rfl) rfl rfl (by (try simp only [List.map_toArray, List.map_cons, List.map_nil]); first | done | rfl | (simp only [List.length_drop, List.length_take]; rfl)) ?_
     with_reducible refine (impl_FormatOperand.calls _ _ t600 _ _ t603 t607 t608 t609 t610 t611 _ ?tLtTab ?side1 ?side2 ?side3 ?side4 A15.out).mono ?_
     (case tLtTab => exact HLtTab.out.on HB.out)
     (case side1 => repeat (first | exact (Kd.S_reads' HO602.out).2.2 | (with_reducible refine Kd.C_alloc ?_ _) | (with_reducible refine Kd.C_drewN ?_ _) | (with_reducible refine Kd.C_drew ?_)))
     (case side2 => exact (Kd.S_reads' HO602.out).2.1)
     (case side3 => repeat (first | exact (Kd.R_reads' HO605.out).2.2 | (with_reducible refine Kd.C_alloc ?_ _) | (with_reducible refine Kd.C_drewN ?_ _) | (with_reducible refine Kd.C_drew ?_)))
     (case side4 => exact (Kd.R_reads' HO605.out).2.1)
     rintro e w98 ⟨rfl, hb⟩
     refine ⟨_, rfl, ?_⟩
     have n0_ := Aside0.mk (Kd.S_below (by (with_reducible repeat (first | apply Kd.S_alloc | apply Kd.S_drewN | apply Kd.S_drew)); exact HO591.out) hb)
     have n1_ := Aside0.mk (Kd.R_below (by (with_reducible repeat (first | apply Kd.R_alloc | apply Kd.R_drewN | apply Kd.R_drew)); exact HO594.out) hb)
     have n2_ := Aside0.mk (Kd.S_below (by (with_reducible repeat (first | apply Kd.S_alloc | apply Kd.S_drewN | apply Kd.S_drew)); exact HO602.out) hb)
     have n3_ := Aside0.mk (Kd.R_below (by (with_reducible repeat (first | apply Kd.R_alloc | apply Kd.R_drewN | apply Kd.R_drew)); exact HO605.out) hb)
     have n4_ := Aside0.mk (blk_below (g := gb586) (o := .cells #[.slice A0_0 l0_0.length c0_0, .slice A0_1 l0_1.length c0_1] 67 (0, 0)) (by (with_reducible repeat (first | refine blk_drewN ?_ _ | refine blk_drew ?_ | refine blk_alloc ?_ _)); exact BK586.out) hb)
     have n5_ := Aside0.mk (blk_below (g := gb587) (o := .cells #[.int .i64 a1_0, .int .i64 a1_1, .int .i64 a1_2, .int .u64 a1_3] 69 (0, 0)) (by (with_reducible repeat (first | refine blk_drewN ?_ _ | refine blk_drew ?_ | refine blk_alloc ?_ _)); exact BK587.out) hb)
     have n6_ := Aside0.mk (blk_below (g := gb606) (o := .cells #[.slice Ao90 t600.length co90, .slice Ao94 t603.length co94] 75 (0, 0)) (by (with_reducible repeat (first | refine blk_drewN ?_ _ | refine blk_drew ?_ | refine blk_alloc ?_ _)); exact BK606.out) hb)
     have n7_ := Aside0.mk (below_step (by repeat (first | (with_reducible first | exact HB.out | apply below_alloc | apply pw_below_drewN | apply below_drew1 | refine below_set ?_ GE586.out | refine below_set ?_ GE587.out | refine below_set ?_ GE606.out) | exact HB.out)) hb)
     clear HO591
     clear HO594
     clear HO602
     clear HO605
     clear BK586
     clear BK587
     clear BK606
     clear HB
     have HO591 := n0_
     have HO594 := n1_
     have HO602 := n2_
     have HO605 := n3_
     have BK586 := n4_
     have BK587 := n5_
     have BK606 := n6_
     have HB := n7_
     clear n0_ n1_ n2_ n3_ n4_ n5_ n6_ n7_
     (try clear hb)
     (try clear hb2)
     (try clear hk)
     (try clear hi)
     refine hK.out _ _ ⟨(blk_cell BK606.out 0).trans rfl, (blk_cell BK606.out 1).trans rfl, (blk_cell BK587.out 0).trans rfl, (blk_cell BK587.out 1).trans rfl, (blk_cell BK587.out 2).trans rfl, (blk_cell BK587.out 3).trans rfl⟩ (fun hHeld => ?_)
     clear hK K
     refine norm_ (a' := ?_) ?_ ?_
     rotate_left
     · show Act.put _ (some 24) _ = _
       simp only [Act.put, List.setIfInBounds_toArray, List.set_cons_zero, List.set_cons_succ, i64_w, i32_w]
       rfl
     refine pure_ (i := 4) (N := some 8) (v := ?_) (a' := ?_) #[true, true, true, true, true] rfl rfl (by kernel_rfl) (fun _ _ _ h => h) (Or.inl ⟨by rfl, ?_⟩) ?_ ?_
     rotate_left
     · intro w'
       go_simp
       with_reducible rfl
     rotate_left
     · simp only [Act.put, List.setIfInBounds_toArray, List.set_cons_zero, List.set_cons_succ, i64_w, i32_w]
       rfl
     refine done_ (by kernel_rfl) ?_
     try go_wp2
     go_ret
     exact ⟨by first | rfl | (simp [errW_none, errW_some] <;> rfl) | (simp [*, errW_none, errW_some] <;> rfl), by repeat (first | (with_reducible first | exact HB.out | apply below_alloc | apply pw_below_drewN | apply below_drew1 | refine below_set ?_ GE586.out | refine below_set ?_ GE587.out | refine below_set ?_ GE606.out) | exact HB.out)⟩

end Go.Proofs.YtkohjiajbdkcbaaDoor.All


/- Plain laws of the printed functions: eventually (Ev), step by step; loops over a list. -/
namespace Go.Proofs.YtkohjiajbdkcbaaDoor.All
open Go.RowKit Go.Proofs.YtkohjiajbdkcbaaDoorW.PrintWords Go.Proofs.YtkohjiajbdkcbaaDoorW.PrintLast Go.Proofs.YtkohjiajbdkcbaaDoorW.PrintMore
set_option linter.unusedVariables false
set_option linter.unusedSimpArgs false
theorem Ev.succ {α : Type} {g : Nat → Option α} {r : α} (h : Ev (fun k => g (k + 1)) r) : Ev g r := by
  obtain ⟨K, hK⟩ := h
  refine ⟨K + 1, fun k hk => ?_⟩
  obtain ⟨m, rfl⟩ : ∃ m, k = m + 1 := ⟨k - 1, by omega⟩
  exact hK m (by omega)
theorem Ev.pos {α : Type} {c : Prop} [Decidable c] {g h : Nat → Option α} {r : α} (hc : c) (k : Ev g r) : Ev (fun n => if c then g n else h n) r := Ev.congr (fun n => if_pos hc) k
theorem Ev.neg {α : Type} {c : Prop} [Decidable c] {g h : Nat → Option α} {r : α} (hc : ¬ c) (k : Ev h r) : Ev (fun n => if c then g n else h n) r := Ev.congr (fun n => if_neg hc) k
theorem Ev.some_bind {α β : Type} {a : α} {f : Nat → α → Option β} {r : β} (k : Ev (fun n => f n a) r) : Ev (fun n => (some a).bind (f n)) r := k
theorem Ev.eq_bind {α β : Type} {o : Option α} {a : α} {f : Nat → α → Option β} {r : β} (h : o = some a) (k : Ev (fun n => f n a) r) : Ev (fun n => o.bind (f n)) r := by subst h; exact k
theorem Ev.some {α : Type} {a r : α} (h : a = r) : Ev (fun _ => some a) r := h ▸ Ev.now a
theorem Ev.of_eq {α : Type} {o : Option α} {r : α} (h : o = .some r) : Ev (fun _ => o) r := ⟨0, fun _ _ => h⟩
theorem wrap64_id {x : Int} (h1 : -9223372036854775808 ≤ x) (h2 : x ≤ 9223372036854775807) : wrap64 x = x := by unfold wrap64; omega
theorem wrap64_nat {i : Nat} (h : i < 9223372036854775807) : wrap64 ((i : Int) + 1) = ((i + 1 : Nat) : Int) := by rw [wrap64_id (by omega) (by omega)]; rfl
theorem getD_eq {α : Type} {xs : List α} {i : Nat} (h : i < xs.length) (z : α) : xs.getD i z = xs[i] := by rw [List.getD_eq_getElem?_getD, List.getElem?_eq_getElem h]; rfl
/-- A loop that fills a list of the same length. -/
theorem to_gen {α β : Type} (f : α → β) (z : β) (za : α) (xs : List α) (g : Nat → List β → Int → Option (List β))
    (hstep : ∀ (i : Nat) (out : List β) (r : List β), i < xs.length → out.length = xs.length → Ev (fun k => g k (out.set i (f (xs.getD i za))) ((i + 1 : Nat) : Int)) r → Ev (fun k => g k out (i : Int)) r)
    (hend : ∀ out : List β, out.length = xs.length → Ev (fun k => g k out (xs.length : Int)) out) : Ev (fun k => g k (List.replicate xs.length z) 0) (xs.map f) := by
  have key : ∀ d i : Nat, i + d = xs.length → Ev (fun k => g k ((xs.map f).take i ++ List.replicate (xs.length - i) z) (i : Int)) (xs.map f) := by
    intro d
    induction d with
    | zero =>
      intro i hi
      obtain rfl : i = xs.length := by omega
      rw [Nat.sub_self, List.replicate_zero, List.append_nil, List.take_of_length_le (by simp)]
      exact hend _ (by simp)
    | succ d ih =>
      intro i hi
      have h1 := ih (i + 1) (by omega)
      refine hstep i _ _ (by omega) (by simp; omega) ?_
      have e : ((xs.map f).take i ++ List.replicate (xs.length - i) z).set i (f (xs.getD i za)) = (xs.map f).take (i + 1) ++ List.replicate (xs.length - (i + 1)) z := by
        have hl : ((xs.map f).take i).length = i := by simp; omega
        rw [List.set_append_right _ _ (by omega), hl, Nat.sub_self]
        obtain ⟨m, hm⟩ : ∃ m, xs.length - i = m + 1 := ⟨xs.length - i - 1, by omega⟩
        rw [hm, List.replicate_succ, List.set_cons_zero, List.take_succ_eq_append_getElem (by simp; omega), show xs.length - (i + 1) = m by omega, List.append_assoc]
        congr 1
        simp [List.getElem?_eq_getElem (show i < xs.length by omega)]
      rw [e]
      exact h1
  have h0 := key xs.length 0 (by omega)
  simpa using h0
/-- A loop whose end is r, whatever happens on the way. -/
theorem for_gen {ρ : Type} (r : ρ) (n : Nat) (g : Nat → Int → Option ρ) (hstep : ∀ i : Nat, i < n → Ev (fun k => g k ((i + 1 : Nat) : Int)) r → Ev (fun k => g k (i : Int)) r) (hend : Ev (fun k => g k (n : Int)) r) : Ev (fun k => g k 0) r := by
  have key : ∀ d i : Nat, i + d = n → Ev (fun k => g k (i : Int)) r := by
    intro d
    induction d with
    | zero => intro i hi; obtain rfl : i = n := by omega
              exact hend
    | succ d ih => intro i hi; exact hstep i (by omega) (ih (i + 1) (by omega))
  exact key n 0 (by omega)
/-- A loop that says yes at each step. -/
theorem all_gen (n : Nat) (g : Nat → Int → Option Bool) (hstep : ∀ i : Nat, i < n → Ev (fun k => g k ((i + 1 : Nat) : Int)) true → Ev (fun k => g k (i : Int)) true) (hend : Ev (fun k => g k (n : Int)) true) : Ev (fun k => g k 0) true := for_gen true n g hstep hend
/-- A loop that takes sizes off; below 0 it ends with -1. -/
theorem sz_gen {α : Type} (s : α → Nat) (za : α) (xs : List α) (g : Nat → Int → Int → Option Int)
    (hstep : ∀ (i : Nat) (a r : Int), i < xs.length → 0 ≤ a → a ≤ 1048576 → (if (s (xs.getD i za) : Int) ≤ a then Ev (fun k => g k (a - s (xs.getD i za)) ((i + 1 : Nat) : Int)) r else r = -1) → Ev (fun k => g k a (i : Int)) r)
    (hend : ∀ a : Int, Ev (fun k => g k a (xs.length : Int)) a) (a : Int) (h0 : 0 ≤ a) (h1 : a ≤ 1048576) : Ev (fun k => g k a 0) (if ((xs.map s).sum : Int) ≤ a then a - (xs.map s).sum else -1) := by
  have key : ∀ d i : Nat, i + d = xs.length → ∀ a : Int, 0 ≤ a → a ≤ 1048576 → Ev (fun k => g k a (i : Int)) (if ((((xs.drop i).map s).sum : Nat) : Int) ≤ a then a - (((xs.drop i).map s).sum : Nat) else -1) := by
    intro d
    induction d with
    | zero =>
      intro i hi a h0 h1
      obtain rfl : i = xs.length := by omega
      rw [List.drop_length]
      simp [h0]
      exact hend a
    | succ d ih =>
      intro i hi a h0 h1
      have hlt : i < xs.length := by omega
      refine hstep i a _ hlt h0 h1 ?_
      rw [List.drop_eq_getElem_cons hlt, List.map_cons, List.sum_cons, getD_eq hlt]
      split
      · rename_i hc
        have h2 := ih (i + 1) (by omega) (a - (s xs[i] : Nat)) (by omega) (by omega)
        have e : (if ((((xs.drop (i + 1)).map s).sum : Nat) : Int) ≤ a - (s xs[i] : Nat) then a - (s xs[i] : Nat) - (((xs.drop (i + 1)).map s).sum : Nat) else -1) = (if ((s xs[i] + ((xs.drop (i + 1)).map s).sum : Nat) : Int) ≤ a then a - (s xs[i] + ((xs.drop (i + 1)).map s).sum : Nat) else -1) := by
          split <;> split <;> omega
        rw [← e]
        exact h2
      · rename_i hc
        rw [if_neg (by omega)]
  have h2 := key xs.length 0 (by omega) a h0 h1
  simpa using h2
theorem sum_getD_le {α : Type} (s : α → Nat) (z : α) : ∀ (xs : List α) (i : Nat), i < xs.length → s (xs.getD i z) ≤ (xs.map s).sum
  | x :: xs, 0, _ => by simp
  | x :: xs, i + 1, h => by
    have := sum_getD_le s z xs i (by simpa using h)
    simp only [List.getD_cons_succ, List.map_cons, List.sum_cons] at this ⊢
    omega
end Go.Proofs.YtkohjiajbdkcbaaDoor.All


namespace Go.Proofs.YtkohjiajbdkcbaaDoor.All
open Go.RowKit Go.Proofs.YtkohjiajbdkcbaaDoorW.PrintWords Go.Proofs.YtkohjiajbdkcbaaDoorW.PrintLast Go.Proofs.YtkohjiajbdkcbaaDoorW.PrintMore
attribute [local go_sem] max2_int min2_int max_two min_two max_three min_three max_four min_four   -- for this text's walks alone
set_option linter.unusedVariables false
set_option linter.unusedSimpArgs false

/-! ### impl_Cut: function 21 -/
end Go.Proofs.YtkohjiajbdkcbaaDoor.All


/- Plain laws of words: widths, cuts, signs. -/
namespace Go.Proofs.YtkohjiajbdkcbaaDoor.All
open Go.RowKit Go.Proofs.YtkohjiajbdkcbaaDoorW.PrintWords Go.Proofs.YtkohjiajbdkcbaaDoorW.PrintLast Go.Proofs.YtkohjiajbdkcbaaDoorW.PrintMore
set_option linter.unusedVariables false
set_option linter.unusedSimpArgs false
def VW (w : Int) : Prop := w = 1 ∨ w = 8 ∨ w = 16 ∨ w = 32 ∨ w = 64
instance (w : Int) : Decidable (VW w) := by unfold VW; exact inferInstance
def pw (w : Int) : Int := if w = 1 then 2 else if w = 8 then 256 else if w = 16 then 65536 else if w = 32 then 4294967296 else 18446744073709551616
def cutW (w v : Int) : Int := v % pw w
def sgnW (w v : Int) : Int := if pw w ≤ 2 * v then v - pw w else v
theorem validI_f (w : Int) : impl_ValidWidth.f w = some (decide (VW w)) := by
  by_cases h : VW w
  · rw [decide_eq_true h]
    rcases h with rfl | rfl | rfl | rfl | rfl <;> rfl
  · rw [decide_eq_false h]
    unfold VW at h
    unfold impl_ValidWidth.f
    rw [if_neg (by omega), if_neg (by omega), if_neg (by omega), if_neg (by omega), beq_eq_false_iff_ne.mpr (by omega)]
theorem validS_f (w : Int) : spec_ValidWidth.f w = some (decide (VW w)) := by
  by_cases h : VW w
  · rw [decide_eq_true h]
    rcases h with rfl | rfl | rfl | rfl | rfl <;> rfl
  · rw [decide_eq_false h]
    unfold VW at h
    unfold spec_ValidWidth.f
    rw [if_neg (by omega), if_neg (by omega), if_neg (by omega), if_neg (by omega), beq_eq_false_iff_ne.mpr (by omega)]
theorem maskI_f {w : Int} (h : VW w) : impl_mask.f w = some (pw w - 1) := by
  rcases h with rfl | rfl | rfl | rfl | rfl <;> kernel_rfl
theorem maskS_f {w : Int} (h : VW w) : spec_l1Mask.f w = some (pw w - 1) := by
  rcases h with rfl | rfl | rfl | rfl | rfl <;> kernel_rfl
theorem and_mask {w v : Int} (h : VW w) (h0 : 0 ≤ v) (h1 : v < 18446744073709551616) : Go.bits .and .u64 v (pw w - 1) = cutW w v := by
  obtain ⟨n, rfl⟩ : ∃ n : Nat, v = (n : Int) := ⟨v.toNat, by omega⟩
  have key : ∀ k : Nat, n &&& (2 ^ k - 1) = n % 2 ^ k := fun k => Nat.and_two_pow_sub_one_eq_mod n k
  rcases h with rfl | rfl | rfl | rfl | rfl
  · rw [show pw 1 - 1 = ((2 ^ 1 - 1 : Nat) : Int) from rfl, u64_and_nat _ _ (by omega) (by decide), key 1]; rfl
  · rw [show pw 8 - 1 = ((2 ^ 8 - 1 : Nat) : Int) from rfl, u64_and_nat _ _ (by omega) (by decide), key 8]; rfl
  · rw [show pw 16 - 1 = ((2 ^ 16 - 1 : Nat) : Int) from rfl, u64_and_nat _ _ (by omega) (by decide), key 16]; rfl
  · rw [show pw 32 - 1 = ((2 ^ 32 - 1 : Nat) : Int) from rfl, u64_and_nat _ _ (by omega) (by decide), key 32]; rfl
  · rw [show pw 64 - 1 = ((2 ^ 64 - 1 : Nat) : Int) from rfl, u64_and_nat _ _ (by omega) (by decide), key 64]; rfl
theorem hi_zero {n k : Nat} (hk : k ≤ 64) (hn : n < 18446744073709551616) : n &&& (2 ^ 64 - ((2 ^ k - 1) + 1)) = 0 ↔ n < 2 ^ k := by
  have hp : 2 ^ k - 1 < 2 ^ 64 := Nat.lt_of_lt_of_le (Nat.sub_lt (Nat.two_pow_pos k) (by decide)) (Nat.pow_le_pow_right (by decide) hk)
  constructor
  · intro h
    rcases Nat.lt_or_ge n (2 ^ k) with hl | hl
    · exact hl
    · obtain ⟨i, hi, hb⟩ := Nat.exists_ge_and_testBit_of_ge_two_pow hl
      have hi64 : i < 64 := by
        rcases Nat.lt_or_ge i 64 with h2 | h2
        · exact h2
        · have := Nat.testBit_lt_two_pow (x := n) (i := i) (Nat.lt_of_lt_of_le hn (Nat.pow_le_pow_right (n := 2) (by decide) h2))
          rw [this] at hb; cases hb
      have h3 : (n &&& (2 ^ 64 - ((2 ^ k - 1) + 1))).testBit i = true := by
        rw [Nat.testBit_and, hb, Nat.testBit_two_pow_sub_succ hp, Nat.testBit_two_pow_sub_one]
        simp only [Bool.true_and, Bool.and_eq_true, decide_eq_true_eq, Bool.not_eq_true', decide_eq_false_iff_not]
        omega
      rw [h] at h3
      simp at h3
  · intro h
    apply Nat.eq_of_testBit_eq
    intro i
    rw [Nat.testBit_and, Nat.testBit_two_pow_sub_succ hp, Nat.testBit_two_pow_sub_one, Nat.zero_testBit]
    by_cases hi : i < k
    · simp [hi]
    · have := Nat.testBit_lt_two_pow (x := n) (i := i) (Nat.lt_of_lt_of_le h (Nat.pow_le_pow_right (n := 2) (by decide) (by omega)))
      simp [this]
theorem not_mask {w v : Int} (h : VW w) (h0 : 0 ≤ v) (h1 : v < 18446744073709551616) : (Go.bits .andNot .u64 v (pw w - 1) == 0) = decide (v < pw w) := by
  obtain ⟨n, rfl⟩ : ∃ n : Nat, v = (n : Int) := ⟨v.toNat, by omega⟩
  have hn : n < 18446744073709551616 := by omega
  rw [Bool.eq_iff_iff, beq_iff_eq, decide_eq_true_eq]
  rcases h with rfl | rfl | rfl | rfl | rfl
  · rw [show pw 1 - 1 = ((2 ^ 1 - 1 : Nat) : Int) from rfl, u64_andNot_nat _ _ hn (by decide)]
    have := hi_zero (k := 1) (n := n) (by decide) hn
    rw [show (18446744073709551615 - (2 ^ 1 - 1) : Nat) = 2 ^ 64 - ((2 ^ 1 - 1) + 1) from rfl]
    rw [show pw 1 = ((2 ^ 1 : Nat) : Int) from rfl]
    omega
  · rw [show pw 8 - 1 = ((2 ^ 8 - 1 : Nat) : Int) from rfl, u64_andNot_nat _ _ hn (by decide)]
    have := hi_zero (k := 8) (n := n) (by decide) hn
    rw [show (18446744073709551615 - (2 ^ 8 - 1) : Nat) = 2 ^ 64 - ((2 ^ 8 - 1) + 1) from rfl]
    rw [show pw 8 = ((2 ^ 8 : Nat) : Int) from rfl]
    omega
  · rw [show pw 16 - 1 = ((2 ^ 16 - 1 : Nat) : Int) from rfl, u64_andNot_nat _ _ hn (by decide)]
    have := hi_zero (k := 16) (n := n) (by decide) hn
    rw [show (18446744073709551615 - (2 ^ 16 - 1) : Nat) = 2 ^ 64 - ((2 ^ 16 - 1) + 1) from rfl]
    rw [show pw 16 = ((2 ^ 16 : Nat) : Int) from rfl]
    omega
  · rw [show pw 32 - 1 = ((2 ^ 32 - 1 : Nat) : Int) from rfl, u64_andNot_nat _ _ hn (by decide)]
    have := hi_zero (k := 32) (n := n) (by decide) hn
    rw [show (18446744073709551615 - (2 ^ 32 - 1) : Nat) = 2 ^ 64 - ((2 ^ 32 - 1) + 1) from rfl]
    rw [show pw 32 = ((2 ^ 32 : Nat) : Int) from rfl]
    omega
  · rw [show pw 64 - 1 = ((2 ^ 64 - 1 : Nat) : Int) from rfl, u64_andNot_nat _ _ hn (by decide)]
    have := hi_zero (k := 64) (n := n) (by decide) hn
    rw [show (18446744073709551615 - (2 ^ 64 - 1) : Nat) = 2 ^ 64 - ((2 ^ 64 - 1) + 1) from rfl]
    rw [show pw 64 = ((2 ^ 64 : Nat) : Int) from rfl]
    omega
theorem pw_pos (w : Int) : 2 ≤ pw w ∧ pw w ≤ 18446744073709551616 := by unfold pw; repeat' split <;> omega
theorem cutW_range (w v : Int) : 0 ≤ cutW w v ∧ cutW w v < pw w := by have := pw_pos w; unfold cutW; exact ⟨Int.emod_nonneg _ (by omega), Int.emod_lt_of_pos _ (by omega)⟩
theorem cutS_f {w v : Int} (h : VW w) (h0 : 0 ≤ v) (h1 : v < 18446744073709551616) : spec_Cut.f w v = some (cutW w v) := by
  unfold spec_Cut.f
  rw [validS_f, decide_eq_true h]; simp only [Option.bind_some, if_true]
  rw [maskS_f h]; simp only [Option.bind_some]
  rw [and_mask h h0 h1]
theorem cutW_self {w v : Int} (h0 : 0 ≤ v) : v = cutW w v ↔ v < pw w := by
  have := cutW_range w v
  constructor
  · intro e; omega
  · intro h; unfold cutW; rw [Int.emod_eq_of_lt h0 h]
theorem isI_f {w v : Int} (h0 : 0 ≤ v) (h1 : v < 18446744073709551616) : impl_isWord.f w v = some (decide (VW w ∧ v < pw w)) := by
  unfold impl_isWord.f
  rw [validI_f]
  by_cases h : VW w
  · rw [decide_eq_true h]; simp only [Option.bind_some, if_true]
    rw [maskI_f h]; simp only [Option.bind_some]
    rw [not_mask h h0 h1]
    congr 1
    simp [h]
  · rw [decide_eq_false h]
    simp [h]
theorem isS_f {w v : Int} (h0 : 0 ≤ v) (h1 : v < 18446744073709551616) : spec_l1Is.f w v = some (decide (VW w ∧ v < pw w)) := by
  unfold spec_l1Is.f
  rw [validS_f]
  by_cases h : VW w
  · rw [decide_eq_true h]; simp only [Option.bind_some, if_true]
    rw [cutS_f h h0 h1]; simp only [Option.bind_some]
    congr 1
    rw [Bool.eq_iff_iff, beq_iff_eq, decide_eq_true_eq, cutW_self h0]
    simp [h]
  · rw [decide_eq_false h]
    simp [h]
theorem sgnI_f {w v : Int} (h : VW w) (h0 : 0 ≤ v) (h1 : v < pw w) : impl_Signed.f w v = some (sgnW w v) := by
  have hp := pw_pos w
  unfold impl_Signed.f
  rw [isI_f h0 (by omega), decide_eq_true ⟨h, h1⟩]; simp only [Option.bind_some, if_true]
  unfold sgnW
  rcases h with rfl | rfl | rfl | rfl | rfl
  · rw [show wrap64 (64 - 1) = 63 from by kernel_rfl, if_pos (by decide)]
    rw [show pw 1 = 2 from rfl] at h1 ⊢
    congr 1
    unfold shr shl
    rw [show min (63 : Int).toNat IntKind.i64.bits = 63 from rfl, show min (63 : Int).toNat IntKind.u64.bits = 63 from rfl, IntKind.wrap_u64, show (2 : Int) ^ 63 = 9223372036854775808 from by decide]
    unfold wrap64
    split <;> omega
  · rw [show wrap64 (64 - 8) = 56 from by kernel_rfl, if_pos (by decide)]
    rw [show pw 8 = 256 from rfl] at h1 ⊢
    congr 1
    unfold shr shl
    rw [show min (56 : Int).toNat IntKind.i64.bits = 56 from rfl, show min (56 : Int).toNat IntKind.u64.bits = 56 from rfl, IntKind.wrap_u64, show (2 : Int) ^ 56 = 72057594037927936 from by decide]
    unfold wrap64
    split <;> omega
  · rw [show wrap64 (64 - 16) = 48 from by kernel_rfl, if_pos (by decide)]
    rw [show pw 16 = 65536 from rfl] at h1 ⊢
    congr 1
    unfold shr shl
    rw [show min (48 : Int).toNat IntKind.i64.bits = 48 from rfl, show min (48 : Int).toNat IntKind.u64.bits = 48 from rfl, IntKind.wrap_u64, show (2 : Int) ^ 48 = 281474976710656 from by decide]
    unfold wrap64
    split <;> omega
  · rw [show wrap64 (64 - 32) = 32 from by kernel_rfl, if_pos (by decide)]
    rw [show pw 32 = 4294967296 from rfl] at h1 ⊢
    congr 1
    unfold shr shl
    rw [show min (32 : Int).toNat IntKind.i64.bits = 32 from rfl, show min (32 : Int).toNat IntKind.u64.bits = 32 from rfl, IntKind.wrap_u64, show (2 : Int) ^ 32 = 4294967296 from by decide]
    unfold wrap64
    split <;> omega
  · rw [show wrap64 (64 - 64) = 0 from by kernel_rfl, if_pos (by decide)]
    rw [show pw 64 = 18446744073709551616 from rfl] at h1 ⊢
    congr 1
    unfold shr shl
    rw [show min (0 : Int).toNat IntKind.i64.bits = 0 from rfl, show min (0 : Int).toNat IntKind.u64.bits = 0 from rfl, IntKind.wrap_u64, show (2 : Int) ^ 0 = 1 from by decide]
    unfold wrap64
    split <;> omega
theorem topS_f {w v : Int} (h : VW w) (h0 : 0 ≤ v) (h1 : v < pw w) : spec_l1Top.f w v = some (decide (pw w ≤ 2 * v)) := by
  unfold spec_l1Top.f
  rcases h with rfl | rfl | rfl | rfl | rfl
  · rw [show IntKind.u64.wrap (wrap64 (1 - 1)) = 0 from by kernel_rfl, if_pos (by decide)]
    rw [show pw 1 = 2 from rfl] at h1 ⊢
    congr 1
    unfold shr
    rw [show min (0 : Int).toNat IntKind.u64.bits = 0 from rfl, show (2 : Int) ^ 0 = 1 from by decide, Bool.eq_iff_iff, beq_iff_eq, decide_eq_true_eq]
    omega
  · rw [show IntKind.u64.wrap (wrap64 (8 - 1)) = 7 from by kernel_rfl, if_pos (by decide)]
    rw [show pw 8 = 256 from rfl] at h1 ⊢
    congr 1
    unfold shr
    rw [show min (7 : Int).toNat IntKind.u64.bits = 7 from rfl, show (2 : Int) ^ 7 = 128 from by decide, Bool.eq_iff_iff, beq_iff_eq, decide_eq_true_eq]
    omega
  · rw [show IntKind.u64.wrap (wrap64 (16 - 1)) = 15 from by kernel_rfl, if_pos (by decide)]
    rw [show pw 16 = 65536 from rfl] at h1 ⊢
    congr 1
    unfold shr
    rw [show min (15 : Int).toNat IntKind.u64.bits = 15 from rfl, show (2 : Int) ^ 15 = 32768 from by decide, Bool.eq_iff_iff, beq_iff_eq, decide_eq_true_eq]
    omega
  · rw [show IntKind.u64.wrap (wrap64 (32 - 1)) = 31 from by kernel_rfl, if_pos (by decide)]
    rw [show pw 32 = 4294967296 from rfl] at h1 ⊢
    congr 1
    unfold shr
    rw [show min (31 : Int).toNat IntKind.u64.bits = 31 from rfl, show (2 : Int) ^ 31 = 2147483648 from by decide, Bool.eq_iff_iff, beq_iff_eq, decide_eq_true_eq]
    omega
  · rw [show IntKind.u64.wrap (wrap64 (64 - 1)) = 63 from by kernel_rfl, if_pos (by decide)]
    rw [show pw 64 = 18446744073709551616 from rfl] at h1 ⊢
    congr 1
    unfold shr
    rw [show min (63 : Int).toNat IntKind.u64.bits = 63 from rfl, show (2 : Int) ^ 63 = 9223372036854775808 from by decide, Bool.eq_iff_iff, beq_iff_eq, decide_eq_true_eq]
    omega
theorem or_hi {n k : Nat} (hk : k ≤ 64) (hn : n < 2 ^ k) : n ||| (2 ^ 64 - 2 ^ k) = n + (2 ^ 64 - 2 ^ k) := by
  have h := Nat.two_pow_add_eq_or_of_lt hn (2 ^ (64 - k) - 1)
  have e : 2 ^ k * (2 ^ (64 - k) - 1) = 2 ^ 64 - 2 ^ k := by
    rw [Nat.mul_sub, ← Nat.pow_add, Nat.mul_one, show k + (64 - k) = 64 by omega]
  rw [e] at h
  rw [Nat.or_comm, ← h, Nat.add_comm]
theorem sgnS_f {w v : Int} (h : VW w) (h0 : 0 ≤ v) (h1 : v < pw w) : spec_Signed.f w v = some (sgnW w v) := by
  have hp := pw_pos w
  unfold spec_Signed.f
  rw [isS_f h0 (by omega), decide_eq_true ⟨h, h1⟩]; simp only [Option.bind_some, if_true]
  rw [topS_f h h0 h1]; simp only [Option.bind_some]
  unfold sgnW
  by_cases c : pw w ≤ 2 * v
  · rw [decide_eq_true c, if_pos rfl, if_pos c, maskS_f h]; simp only [Option.bind_some]
    congr 1
    obtain ⟨n, rfl⟩ : ∃ n : Nat, v = (n : Int) := ⟨v.toNat, by omega⟩
    rcases h with rfl | rfl | rfl | rfl | rfl
    · rw [show pw 1 = ((2 ^ 1 : Nat) : Int) from rfl] at h1 c ⊢
      have hn : n < 2 ^ 1 := by omega
      rw [show (((2 ^ 1 : Nat) : Int) - 1) = ((2 ^ 1 - 1 : Nat) : Int) from rfl, show (18446744073709551615 : Int) = ((18446744073709551615 : Nat) : Int) from rfl, u64_xor_nat _ _ (by decide) (by decide), show (18446744073709551615 ^^^ (2 ^ 1 - 1) : Nat) = 2 ^ 64 - 2 ^ 1 from rfl, u64_or_nat _ _ (by omega) (by decide), or_hi (by decide) hn]
      unfold wrap64
      omega
    · rw [show pw 8 = ((2 ^ 8 : Nat) : Int) from rfl] at h1 c ⊢
      have hn : n < 2 ^ 8 := by omega
      rw [show (((2 ^ 8 : Nat) : Int) - 1) = ((2 ^ 8 - 1 : Nat) : Int) from rfl, show (18446744073709551615 : Int) = ((18446744073709551615 : Nat) : Int) from rfl, u64_xor_nat _ _ (by decide) (by decide), show (18446744073709551615 ^^^ (2 ^ 8 - 1) : Nat) = 2 ^ 64 - 2 ^ 8 from rfl, u64_or_nat _ _ (by omega) (by decide), or_hi (by decide) hn]
      unfold wrap64
      omega
    · rw [show pw 16 = ((2 ^ 16 : Nat) : Int) from rfl] at h1 c ⊢
      have hn : n < 2 ^ 16 := by omega
      rw [show (((2 ^ 16 : Nat) : Int) - 1) = ((2 ^ 16 - 1 : Nat) : Int) from rfl, show (18446744073709551615 : Int) = ((18446744073709551615 : Nat) : Int) from rfl, u64_xor_nat _ _ (by decide) (by decide), show (18446744073709551615 ^^^ (2 ^ 16 - 1) : Nat) = 2 ^ 64 - 2 ^ 16 from rfl, u64_or_nat _ _ (by omega) (by decide), or_hi (by decide) hn]
      unfold wrap64
      omega
    · rw [show pw 32 = ((2 ^ 32 : Nat) : Int) from rfl] at h1 c ⊢
      have hn : n < 2 ^ 32 := by omega
      rw [show (((2 ^ 32 : Nat) : Int) - 1) = ((2 ^ 32 - 1 : Nat) : Int) from rfl, show (18446744073709551615 : Int) = ((18446744073709551615 : Nat) : Int) from rfl, u64_xor_nat _ _ (by decide) (by decide), show (18446744073709551615 ^^^ (2 ^ 32 - 1) : Nat) = 2 ^ 64 - 2 ^ 32 from rfl, u64_or_nat _ _ (by omega) (by decide), or_hi (by decide) hn]
      unfold wrap64
      omega
    · rw [show pw 64 = ((2 ^ 64 : Nat) : Int) from rfl] at h1 c ⊢
      have hn : n < 2 ^ 64 := by omega
      rw [show (((2 ^ 64 : Nat) : Int) - 1) = ((2 ^ 64 - 1 : Nat) : Int) from rfl, show (18446744073709551615 : Int) = ((18446744073709551615 : Nat) : Int) from rfl, u64_xor_nat _ _ (by decide) (by decide), show (18446744073709551615 ^^^ (2 ^ 64 - 1) : Nat) = 2 ^ 64 - 2 ^ 64 from rfl, u64_or_nat _ _ (by omega) (by decide), or_hi (by decide) hn]
      unfold wrap64
      omega
  · rw [decide_eq_false c, if_neg (by decide), if_neg c]
    congr 1
    unfold wrap64
    omega
theorem sgnW_range {w v : Int} (h0 : 0 ≤ v) (h1 : v < pw w) : -9223372036854775808 ≤ sgnW w v ∧ sgnW w v ≤ 9223372036854775807 := by
  have hp := pw_pos w
  unfold sgnW
  split <;> omega
theorem size_f {n : Int} (h0 : -9223372036854775808 ≤ n) (h1 : n ≤ 9223372036854775807) : spec_l1Size.f n = some (n.natAbs : Int) := by
  unfold spec_l1Size.f
  rw [IntKind.wrap_u64, IntKind.wrap_u64, IntKind.wrap_u64]
  unfold wrap64
  split <;> (congr 1; omega)
end Go.Proofs.YtkohjiajbdkcbaaDoor.All


/- Plain laws of decimal texts: what is written, and what is read. -/
namespace Go.Proofs.YtkohjiajbdkcbaaDoor.All
open Go.RowKit Go.Proofs.YtkohjiajbdkcbaaDoorW.PrintWords Go.Proofs.YtkohjiajbdkcbaaDoorW.PrintLast Go.Proofs.YtkohjiajbdkcbaaDoorW.PrintMore
set_option linter.unusedVariables false
set_option linter.unusedSimpArgs false
def bsOf (l : List UInt8) : ByteArray := ⟨l.toArray⟩
theorem bsOf_append (a b : List UInt8) : bsOf a ++ bsOf b = bsOf (a ++ b) := by
  apply ByteArray.ext
  rw [ByteArray.data_append]
  simp [bsOf]
theorem bsOf_size (a : List UInt8) : (bsOf a).size = a.length := by simp [bsOf, ByteArray.size]
theorem digit_str {d : Int} (h0 : 0 ≤ d) (h1 : d < 10) : strOfNums ([(IntKind.u64.wrap (48 + d)) % 256] : List Int) = bsOf [UInt8.ofNat (48 + d.toNat)] := by
  have e : (IntKind.u64.wrap (48 + d)) % 256 = 48 + d := by rw [IntKind.wrap_u64]; omega
  rw [e]
  unfold strOfNums bsOf
  simp only [List.map_cons, List.map_nil]
  rw [show (48 + d).toNat = 48 + d.toNat by omega]
theorem decDigits_small {u : Nat} (h : u < 10) : Lib.decDigits u = [UInt8.ofNat (48 + u)] := by rw [Lib.decDigits, dif_pos h]
theorem decDigits_big {u : Nat} (h : ¬ u < 10) : Lib.decDigits u = Lib.decDigits (u / 10) ++ [UInt8.ofNat (48 + u % 10)] := by rw [Lib.decDigits, dif_neg h]
theorem decDigits_len {u : Nat} (h : u < 18446744073709551616) : (Lib.decDigits u).length ≤ 20 := by rw [Lib.decDigits_length]; exact Lib.nDigits_le20 u h
theorem l1Decimal_f : ∀ (u : Nat), u < 18446744073709551616 → Ev (fun k => spec_l1Decimal.f k (u : Int)) (bsOf (Lib.decDigits u)) := by
  intro u
  induction u using Nat.strongRecOn with
  | _ u ih =>
    intro h
    refine Ev.succ ?_
    simp only [spec_l1Decimal.f]
    by_cases c : u < 10
    · refine Ev.pos (by omega) (Ev.some ?_)
      rw [digit_str (by omega) (by omega), decDigits_small c]; rfl
    · refine Ev.neg (by omega) ?_
      have e1 : IntKind.u64.wrap (Int.tdiv (u : Int) 10) = ((u / 10 : Nat) : Int) := by
        rw [IntKind.wrap_u64, Int.tdiv_eq_ediv_of_nonneg (by omega)]; omega
      have e2 : Int.tmod (u : Int) 10 = ((u % 10 : Nat) : Int) := by
        rw [Int.tmod_eq_emod_of_nonneg (by omega)]; rfl
      rw [e1, e2]
      refine Ev.bind (ih (u / 10) (by omega) (by omega)) (Ev.some_bind ?_)
      rw [digit_str (by omega) (by omega), Int.toNat_natCast, bsOf_append]
      have hl := decDigits_len (u := u / 10) (by omega)
      refine Ev.pos (by rw [bsOf_size, bsOf_size]; simp; omega) (Ev.some ?_)
      rw [decDigits_big c]
/-- The number that a word of a width says. -/
def numW (w v : Int) : Int := if w = 1 then v else sgnW w v
def fmtW (w v : Int) : ByteArray := bsOf (Lib.itoa (numW w v))
theorem itoa_pos {n : Int} (h : 0 ≤ n) : Lib.itoa n = Lib.decDigits n.toNat := by unfold Lib.itoa; rw [if_neg (by omega)]
theorem itoa_neg {n : Int} (h : n < 0) : Lib.itoa n = 45 :: Lib.decDigits n.natAbs := by unfold Lib.itoa; rw [if_pos h]
theorem fmtI_f {w v : Int} (h : VW w) (h0 : 0 ≤ v) (h1 : v < pw w) : impl_FormatWord.f w v = some (fmtW w v) := by
  have hp := pw_pos w
  unfold impl_FormatWord.f
  rw [isI_f h0 (by omega), decide_eq_true ⟨h, h1⟩]; simp only [Option.bind_some, if_true]
  unfold fmtW numW
  by_cases c : w = 1
  · subst c
    rw [show pw 1 = 2 from rfl] at h1
    rw [if_pos rfl, if_pos rfl]
    unfold strconv_FormatUint_50.f
    rw [if_pos h0, if_pos (by omega), if_pos rfl, itoa_pos h0]; rfl
  · have hr := sgnW_range h0 h1
    rw [if_neg c, if_neg c, sgnI_f h h0 h1]; simp only [Option.bind_some]
    unfold strconv_FormatInt_39.f
    rw [if_pos hr.1, if_pos hr.2, if_pos rfl]; rfl
theorem fmtI_no {w v : Int} (h0 : 0 ≤ v) (h1 : v < 18446744073709551616) (h : ¬ (VW w ∧ v < pw w)) : impl_FormatWord.f w v = some ⟨#[]⟩ := by
  unfold impl_FormatWord.f
  rw [isI_f h0 h1, decide_eq_false h]; rfl
theorem fmtS_f {w v : Int} (h : VW w) (h0 : 0 ≤ v) (h1 : v < pw w) : Ev (fun k => spec_FormatWord.f k w v) (fmtW w v) := by
  have hp := pw_pos w
  have hr := sgnW_range h0 h1
  obtain ⟨n, rfl⟩ : ∃ n : Nat, v = (n : Int) := ⟨v.toNat, by omega⟩
  unfold spec_FormatWord.f
  rw [isS_f h0 (by omega), decide_eq_true ⟨h, h1⟩]; simp only [Option.bind_some, if_true]
  rw [sgnS_f h h0 h1]; simp only [Option.bind_some]
  unfold fmtW numW
  have plain : Ev (fun k => spec_FormatWord.j0 k (n : Int) (sgnW w n) false) (bsOf (Lib.decDigits n)) := by
    refine Ev.succ ?_
    simp only [spec_FormatWord.j0]
    exact Ev.neg (by decide) (Ev.bind (l1Decimal_f n (by omega)) (Ev.now _))
  by_cases c : w = 1
  · subst c
    rw [if_pos rfl, itoa_pos h0, Int.toNat_natCast]
    exact Ev.neg (by decide) plain
  · have hw : 1 < w := by unfold VW at h; omega
    rw [if_neg c]
    refine Ev.pos hw ?_
    by_cases cn : sgnW w n < 0
    · rw [decide_eq_true cn, itoa_neg cn]
      refine Ev.succ ?_
      simp only [spec_FormatWord.j0]
      refine Ev.pos trivial ?_
      rw [size_f hr.1 hr.2]
      refine Ev.some_bind (Ev.bind (l1Decimal_f _ (by omega)) ?_)
      have hl := decDigits_len (u := (sgnW w n).natAbs) (by omega)
      refine Ev.pos (by rw [bsOf_size]; omega) (Ev.some ?_)
      exact bsOf_append [45] _
    · have e : sgnW w n = n := by unfold sgnW at cn ⊢; split <;> omega
      rw [decide_eq_false cn]
      rw [show Lib.itoa (sgnW w n) = Lib.decDigits n by rw [e, itoa_pos h0, Int.toNat_natCast]]
      exact plain
theorem fmtS_no {w v : Int} (h0 : 0 ≤ v) (h1 : v < 18446744073709551616) (h : ¬ (VW w ∧ v < pw w)) : Ev (fun k => spec_FormatWord.f k w v) ⟨#[]⟩ := by
  unfold spec_FormatWord.f
  rw [isS_f h0 h1, decide_eq_false h]
  exact Ev.now _
theorem l3Int_f {n : Int} (h0 : -9223372036854775808 ≤ n) (h1 : n ≤ 9223372036854775807) : Ev (fun k => spec_l3Int.f k n) (bsOf (Lib.itoa n)) := by
  unfold spec_l3Int.f
  by_cases c : n < 0
  · refine Ev.pos c ?_
    rw [size_f h0 h1, itoa_neg c]
    refine Ev.some_bind (Ev.bind (l1Decimal_f _ (by omega)) ?_)
    have hl := decDigits_len (u := n.natAbs) (by omega)
    refine Ev.pos (by rw [bsOf_size]; omega) (Ev.some ?_)
    exact bsOf_append [45] _
  · refine Ev.neg c ?_
    have e : IntKind.u64.wrap n = ((n.toNat : Nat) : Int) := by rw [IntKind.wrap_u64]; omega
    rw [e, itoa_pos (by omega)]
    exact Ev.bind (l1Decimal_f _ (by omega)) (Ev.now _)
end Go.Proofs.YtkohjiajbdkcbaaDoor.All


/- Plain laws of the laws' sz, to and eq over Module. Printed by gen_plain.py. -/
namespace Go.Proofs.YtkohjiajbdkcbaaDoor.All
open Go.RowKit Go.Proofs.YtkohjiajbdkcbaaDoorW.PrintWords Go.Proofs.YtkohjiajbdkcbaaDoorW.PrintLast Go.Proofs.YtkohjiajbdkcbaaDoorW.PrintMore
set_option linter.unusedVariables false
set_option linter.unusedSimpArgs false
theorem sz_bind {s1 s2 : Nat} {a : Int} {g : Nat → Option Int} {G : Nat → Int → Option Int} (h : Ev g (if (s1 : Int) ≤ a then a - (s1 : Int) else -1)) (h2 : (s1 : Int) ≤ a → Ev (fun k => G k (a - (s1 : Int))) (if (s2 : Int) ≤ a - (s1 : Int) then a - (s1 : Int) - (s2 : Int) else -1)) : Ev (fun k => (g k).bind fun t => if t < 0 then some (-1) else G k t) (if ((s1 + s2 : Nat) : Int) ≤ a then a - ((s1 + s2 : Nat) : Int) else -1) := by
  by_cases c : (s1 : Int) ≤ a
  · rw [if_pos c] at h
    refine Ev.bind h (Ev.neg (by omega) ?_)
    have e : (if (s2 : Int) ≤ a - (s1 : Int) then a - (s1 : Int) - (s2 : Int) else -1) = (if ((s1 + s2 : Nat) : Int) ≤ a then a - ((s1 + s2 : Nat) : Int) else -1) := by split <;> split <;> omega
    rw [← e]
    exact h2 c
  · rw [if_neg c] at h
    rw [if_neg (by omega)]
    exact Ev.bind h (Ev.pos (by omega) (Ev.now _))
theorem sz_str {s1 s2 : Nat} {a : Int} {G : Nat → Option Int} (h2 : (s1 : Int) ≤ a → Ev G (if (s2 : Int) ≤ a - (s1 : Int) then a - (s1 : Int) - (s2 : Int) else -1)) : Ev (fun k => if a - (s1 : Int) < 0 then some (-1) else G k) (if ((s1 + s2 : Nat) : Int) ≤ a then a - ((s1 + s2 : Nat) : Int) else -1) := by
  by_cases c : (s1 : Int) ≤ a
  · have e : (if (s2 : Int) ≤ a - (s1 : Int) then a - (s1 : Int) - (s2 : Int) else -1) = (if ((s1 + s2 : Nat) : Int) ≤ a then a - ((s1 + s2 : Nat) : Int) else -1) := by split <;> split <;> omega
    rw [← e]
    exact Ev.neg (by omega) (h2 c)
  · rw [if_neg (by omega)]
    exact Ev.pos (by omega) (Ev.now _)
theorem sz_end (a : Int) (h : 0 ≤ a) : Ev (fun _ => some a) (if ((0 : Nat) : Int) ≤ a then a - ((0 : Nat) : Int) else -1) := by
  rw [if_pos (by omega)]
  exact Ev.some (by omega)
theorem szByteS_f (l : List Int) (a : Int) (h0 : 0 ≤ a) (h1 : a ≤ 1048576) (hl : l.length ≤ 9223372036854775807) : Ev (fun k => laws_szByteS.f l a) (if (l.length : Int) ≤ a then a - (l.length : Int) else -1) := by
  unfold laws_szByteS.f; rw [wrap64_id (by omega) (by omega)]
  by_cases h : (l.length : Int) ≤ a
  · rw [if_pos h]; exact Ev.neg (by omega) (Ev.now _)
  · rw [if_neg h]; exact Ev.pos (by omega) (Ev.now _)
theorem toByteS_f (l : List Int) (hl : l.length ≤ 1048576) : Ev (fun k => laws_toByteS.f k l) l := by
  unfold laws_toByteS.f
  refine Ev.pos (by omega) (Ev.pos (by omega) ?_)
  have h := to_gen (fun x : Int => x) 0 0 l (fun k out i => laws_toByteS.l0 k l out i) (fun i out r hi ho h => by
    refine Ev.succ ?_
    simp only [laws_toByteS.l0]
    refine Ev.pos (by omega) (Ev.pos (by omega) (Ev.pos (by omega) ?_))
    rw [wrap64_nat (by omega)]
    simpa [rd] using h) (fun out _ => by
    refine Ev.succ ?_
    simp only [laws_toByteS.l0]
    exact Ev.neg (by omega) (Ev.now _))
  simpa using h
theorem eqByteS_f (l : List Int) (hl : l.length ≤ 1048576) : Ev (fun k => laws_eqByteS.f k l l) true := by
  unfold laws_eqByteS.f
  refine Ev.pos rfl (all_gen l.length (fun k i => laws_eqByteS.l0 k l l i) (fun i hi h => ?_) ?_)
  · refine Ev.succ ?_
    simp only [laws_eqByteS.l0]
    rw [wrap64_nat (by omega)]
    exact Ev.pos (by omega) (Ev.pos (by omega) (Ev.pos (by omega) (Ev.pos (by trivial) h)))
  · refine Ev.succ ?_
    simp only [laws_eqByteS.l0]
    exact Ev.neg (by omega) (Ev.now _)
def iGlobal (x : S141) : S127 := ⟨x.f0, x.f1, x.f2, x.f3, x.f4⟩
def sGlobal (x : S141) : Nat := x.f0.size + (x.f4.length + (0))
def lGlobal (x : S141) : Prop := x.f0.size ≤ 9223372036854775807 ∧ x.f4.length ≤ 9223372036854775807
def bGlobal (x : S127) : Prop := x.f4.length ≤ 1048576
theorem szGlobal_f (x : S141) (a : Int) (h0 : 0 ≤ a) (h1 : a ≤ 1048576) (hx : lGlobal x) : Ev (fun k => laws_szGlobal.f x.f0 x.f1 x.f2 x.f3 x.f4 a) (if (sGlobal x : Int) ≤ a then a - (sGlobal x : Int) else -1) := by
  obtain ⟨k0, k1⟩ := hx
  unfold laws_szGlobal.f sGlobal
  rw [wrap64_id (by omega) (by omega)]
  refine sz_str (fun e0 => ?_)
  refine sz_bind (szByteS_f _ _ (by omega) (by omega) k1) (fun e1 => ?_)
  exact sz_end _ (by omega)
theorem toGlobal_f (x : S141) (h : sGlobal x ≤ 1048576) : Ev (fun k => laws_toGlobal.f k x.f0 x.f1 x.f2 x.f3 x.f4) (x.f0, x.f1, x.f2, x.f3, x.f4) := by
  unfold sGlobal at h
  unfold laws_toGlobal.f
  refine Ev.bind (toByteS_f _ (by omega)) ?_
  exact Ev.now _
theorem eqGlobal_f (x : S127) (hb : bGlobal x) : Ev (fun k => laws_eqGlobal.f k x.f0 x.f1 x.f2 x.f3 x.f4 x.f0 x.f1 x.f2 x.f3 x.f4) true := by
  have k0 := hb
  unfold laws_eqGlobal.f
  refine Ev.pos rfl ?_
  refine Ev.pos rfl ?_
  refine Ev.neg (by simp) ?_
  refine Ev.pos rfl ?_
  refine Ev.bind (eqByteS_f _ k0) (Ev.pos rfl ?_)
  exact Ev.now _
theorem bGlobal_of (x : S141) (h : sGlobal x ≤ 1048576) : bGlobal (iGlobal x) := by
  unfold sGlobal at h
  refine ?_
  · show x.f4.length ≤ _; omega
def sGlobalS (xs : List S141) : Nat := xs.length + (xs.map sGlobal).sum
def lGlobalS (xs : List S141) : Prop := xs.length ≤ 9223372036854775807 ∧ ∀ x ∈ xs, lGlobal x
def bGlobalS (xs : List S127) : Prop := xs.length ≤ 1048576 ∧ ∀ x ∈ xs, bGlobal x
theorem szGlobalS_f (xs : List S141) (a : Int) (h0 : 0 ≤ a) (h1 : a ≤ 1048576) (hx : lGlobalS xs) : Ev (fun k => laws_szGlobalS.f k xs a) (if (sGlobalS xs : Int) ≤ a then a - (sGlobalS xs : Int) else -1) := by
  obtain ⟨hl, hx⟩ := hx
  unfold laws_szGlobalS.f
  rw [wrap64_id (by omega) (by omega)]
  by_cases c : (xs.length : Int) ≤ a
  · refine Ev.neg (by omega) ?_
    have h := sz_gen sGlobal z141 xs (fun k a i => laws_szGlobalS.l0 k xs a i) (fun i a r hi h0 h1 h => by
      refine Ev.succ ?_
      simp only [laws_szGlobalS.l0]
      refine Ev.pos (by omega) (Ev.pos (by omega) ?_)
      have hm : lGlobal (rd_T141 xs i) := hx _ (by simp only [rd_T141, Int.toNat_natCast]; rw [getD_eq hi]; exact List.getElem_mem hi)
      have e : rd_T141 xs i = xs.getD i z141 := by simp [rd_T141]
      refine Ev.bind (szGlobal_f _ a h0 h1 hm) ?_
      rw [e]
      split at h
      · rename_i hc
        rw [if_pos hc, wrap64_nat (by omega)]
        exact Ev.neg (by omega) h
      · rename_i hc
        rw [if_neg hc]
        exact Ev.pos (by omega) (Ev.some h.symm)) (fun a => by
      refine Ev.succ ?_
      simp only [laws_szGlobalS.l0]
      exact Ev.neg (by omega) (Ev.now _)) (a - xs.length) (by omega) (by omega)
    have e : (if ((xs.map sGlobal).sum : Int) ≤ a - xs.length then a - xs.length - (xs.map sGlobal).sum else -1) = (if (sGlobalS xs : Int) ≤ a then a - sGlobalS xs else -1) := by unfold sGlobalS; split <;> split <;> omega
    rw [← e]
    exact h
  · rw [if_neg (by unfold sGlobalS; omega)]
    exact Ev.pos (by omega) (Ev.now _)
theorem atGlobalS {xs : List S141} {i : Nat} (h : sGlobalS xs ≤ 1048576) (hi : i < xs.length) : sGlobal (xs.getD i z141) ≤ 1048576 := by
  have := sum_getD_le sGlobal z141 xs i hi
  unfold sGlobalS at h
  omega
theorem toGlobalS_f (l : List S141) (hl : sGlobalS l ≤ 1048576) : Ev (fun k => laws_toGlobalS.f k l) (l.map iGlobal) := by
  unfold laws_toGlobalS.f
  have hl1 : l.length ≤ 1048576 := by unfold sGlobalS at hl; omega
  refine Ev.pos (by omega) (Ev.pos (by omega) ?_)
  have h := to_gen iGlobal z127 z141 l (fun k out i => laws_toGlobalS.l0 k l out i) (fun i out r hi ho h => by
    refine Ev.succ ?_
    simp only [laws_toGlobalS.l0]
    have e : rd_T141 l i = l.getD i z141 := by simp [rd_T141]
    rw [e]
    refine Ev.pos (by omega) (Ev.pos (by omega) (Ev.bind (toGlobal_f _ (atGlobalS hl hi)) (Ev.pos (by omega) ?_)))
    rw [wrap64_nat (by omega)]
    exact h) (fun out _ => by
    refine Ev.succ ?_
    simp only [laws_toGlobalS.l0]
    exact Ev.neg (by omega) (Ev.now _))
  simpa using h
theorem eqGlobalS_f (l : List S127) (hb : bGlobalS l) : Ev (fun k => laws_eqGlobalS.f k l l) true := by
  obtain ⟨hl, hb⟩ := hb
  unfold laws_eqGlobalS.f
  refine Ev.pos rfl (all_gen l.length (fun k i => laws_eqGlobalS.l0 k l l i) (fun i hi h => ?_) ?_)
  · refine Ev.succ ?_
    simp only [laws_eqGlobalS.l0]
    rw [wrap64_nat (by omega)]
    have hm : bGlobal (rd_T127 l i) := hb _ (by simp only [rd_T127, Int.toNat_natCast]; rw [getD_eq hi]; exact List.getElem_mem hi)
    exact Ev.pos (by omega) (Ev.pos (by omega) (Ev.pos (by omega) (Ev.bind (eqGlobal_f _ hm) (Ev.pos rfl h))))
  · refine Ev.succ ?_
    simp only [laws_eqGlobalS.l0]
    exact Ev.neg (by omega) (Ev.now _)
theorem bGlobalS_of (xs : List S141) (h : sGlobalS xs ≤ 1048576) : bGlobalS (xs.map iGlobal) := by
  refine ⟨by rw [List.length_map]; unfold sGlobalS at h; omega, fun y hy => ?_⟩
  obtain ⟨x, hx, rfl⟩ := List.mem_map.1 hy
  obtain ⟨i, hi, rfl⟩ := List.getElem_of_mem hx
  have := atGlobalS h hi
  rw [getD_eq hi] at this
  exact bGlobal_of _ this
theorem szInt64S_f (l : List Int) (a : Int) (h0 : 0 ≤ a) (h1 : a ≤ 1048576) (hl : l.length ≤ 9223372036854775807) : Ev (fun k => laws_szInt64S.f l a) (if (l.length : Int) ≤ a then a - (l.length : Int) else -1) := by
  unfold laws_szInt64S.f; rw [wrap64_id (by omega) (by omega)]
  by_cases h : (l.length : Int) ≤ a
  · rw [if_pos h]; exact Ev.neg (by omega) (Ev.now _)
  · rw [if_neg h]; exact Ev.pos (by omega) (Ev.now _)
theorem toInt64S_f (l : List Int) (hl : l.length ≤ 1048576) : Ev (fun k => laws_toInt64S.f k l) l := by
  unfold laws_toInt64S.f
  refine Ev.pos (by omega) (Ev.pos (by omega) ?_)
  have h := to_gen (fun x : Int => x) 0 0 l (fun k out i => laws_toInt64S.l0 k l out i) (fun i out r hi ho h => by
    refine Ev.succ ?_
    simp only [laws_toInt64S.l0]
    refine Ev.pos (by omega) (Ev.pos (by omega) (Ev.pos (by omega) ?_))
    rw [wrap64_nat (by omega)]
    simpa [rd] using h) (fun out _ => by
    refine Ev.succ ?_
    simp only [laws_toInt64S.l0]
    exact Ev.neg (by omega) (Ev.now _))
  simpa using h
theorem eqInt64S_f (l : List Int) (hl : l.length ≤ 1048576) : Ev (fun k => laws_eqInt64S.f k l l) true := by
  unfold laws_eqInt64S.f
  refine Ev.pos rfl (all_gen l.length (fun k i => laws_eqInt64S.l0 k l l i) (fun i hi h => ?_) ?_)
  · refine Ev.succ ?_
    simp only [laws_eqInt64S.l0]
    rw [wrap64_nat (by omega)]
    exact Ev.pos (by omega) (Ev.pos (by omega) (Ev.pos (by omega) (Ev.pos (by trivial) h)))
  · refine Ev.succ ?_
    simp only [laws_eqInt64S.l0]
    exact Ev.neg (by omega) (Ev.now _)
def iOperand (x : S69) : S77 := ⟨x.f0, x.f1, x.f2, x.f3⟩
theorem toOperand_f (x : S69) : Ev (fun k => laws_toOperand.f x.f0 x.f1 x.f2 x.f3) (x.f0, x.f1, x.f2, x.f3) := by
  unfold laws_toOperand.f
  exact Ev.now _
theorem eqOperand_f (x : S77) : Ev (fun k => laws_eqOperand.f x.f0 x.f1 x.f2 x.f3 x.f0 x.f1 x.f2 x.f3) true := by
  unfold laws_eqOperand.f
  first | exact Ev.of_eq (by simp) | (repeat (first | exact Ev.now _ | refine Ev.pos rfl ?_ | refine Ev.neg (by simp) ?_))
theorem szOperandS_f (l : List S69) (a : Int) (h0 : 0 ≤ a) (h1 : a ≤ 1048576) (hl : l.length ≤ 9223372036854775807) : Ev (fun k => laws_szOperandS.f l a) (if (l.length : Int) ≤ a then a - (l.length : Int) else -1) := by
  unfold laws_szOperandS.f; rw [wrap64_id (by omega) (by omega)]
  by_cases h : (l.length : Int) ≤ a
  · rw [if_pos h]; exact Ev.neg (by omega) (Ev.now _)
  · rw [if_neg h]; exact Ev.pos (by omega) (Ev.now _)
theorem toOperandS_f (l : List S69) (hl : l.length ≤ 1048576) : Ev (fun k => laws_toOperandS.f k l) (l.map iOperand) := by
  unfold laws_toOperandS.f
  refine Ev.pos (by omega) (Ev.pos (by omega) ?_)
  have h := to_gen iOperand z77 z69 l (fun k out i => laws_toOperandS.l0 k l out i) (fun i out r hi ho h => by
    refine Ev.succ ?_
    simp only [laws_toOperandS.l0]
    have e : rd_T69 l i = l.getD i z69 := by simp [rd_T69]
    rw [e]
    refine Ev.pos (by omega) (Ev.pos (by omega) (Ev.bind (toOperand_f _) (Ev.pos (by omega) ?_)))
    rw [wrap64_nat (by omega)]
    exact h) (fun out _ => by
    refine Ev.succ ?_
    simp only [laws_toOperandS.l0]
    exact Ev.neg (by omega) (Ev.now _))
  simpa using h
theorem eqOperandS_f (l : List S77) (hl : l.length ≤ 1048576) : Ev (fun k => laws_eqOperandS.f k l l) true := by
  unfold laws_eqOperandS.f
  refine Ev.pos rfl (all_gen l.length (fun k i => laws_eqOperandS.l0 k l l i) (fun i hi h => ?_) ?_)
  · refine Ev.succ ?_
    simp only [laws_eqOperandS.l0]
    rw [wrap64_nat (by omega)]
    exact Ev.pos (by omega) (Ev.pos (by omega) (Ev.pos (by omega) (Ev.bind (eqOperand_f _) (Ev.pos rfl h))))
  · refine Ev.succ ?_
    simp only [laws_eqOperandS.l0]
    exact Ev.neg (by omega) (Ev.now _)
theorem szUint64S_f (l : List Int) (a : Int) (h0 : 0 ≤ a) (h1 : a ≤ 1048576) (hl : l.length ≤ 9223372036854775807) : Ev (fun k => laws_szUint64S.f l a) (if (l.length : Int) ≤ a then a - (l.length : Int) else -1) := by
  unfold laws_szUint64S.f; rw [wrap64_id (by omega) (by omega)]
  by_cases h : (l.length : Int) ≤ a
  · rw [if_pos h]; exact Ev.neg (by omega) (Ev.now _)
  · rw [if_neg h]; exact Ev.pos (by omega) (Ev.now _)
theorem toUint64S_f (l : List Int) (hl : l.length ≤ 1048576) : Ev (fun k => laws_toUint64S.f k l) l := by
  unfold laws_toUint64S.f
  refine Ev.pos (by omega) (Ev.pos (by omega) ?_)
  have h := to_gen (fun x : Int => x) 0 0 l (fun k out i => laws_toUint64S.l0 k l out i) (fun i out r hi ho h => by
    refine Ev.succ ?_
    simp only [laws_toUint64S.l0]
    refine Ev.pos (by omega) (Ev.pos (by omega) (Ev.pos (by omega) ?_))
    rw [wrap64_nat (by omega)]
    simpa [rd] using h) (fun out _ => by
    refine Ev.succ ?_
    simp only [laws_toUint64S.l0]
    exact Ev.neg (by omega) (Ev.now _))
  simpa using h
theorem eqUint64S_f (l : List Int) (hl : l.length ≤ 1048576) : Ev (fun k => laws_eqUint64S.f k l l) true := by
  unfold laws_eqUint64S.f
  refine Ev.pos rfl (all_gen l.length (fun k i => laws_eqUint64S.l0 k l l i) (fun i hi h => ?_) ?_)
  · refine Ev.succ ?_
    simp only [laws_eqUint64S.l0]
    rw [wrap64_nat (by omega)]
    exact Ev.pos (by omega) (Ev.pos (by omega) (Ev.pos (by omega) (Ev.pos (by trivial) h)))
  · refine Ev.succ ?_
    simp only [laws_eqUint64S.l0]
    exact Ev.neg (by omega) (Ev.now _)
def iInstr (x : S202) : S205 := ⟨x.f0, x.f1, x.f2, x.f3, x.f4, x.f5, (x.f6.map iOperand), x.f7, x.f8⟩
def sInstr (x : S202) : Nat := x.f6.length + (x.f7.length + (x.f8.length + (0)))
def lInstr (x : S202) : Prop := x.f6.length ≤ 9223372036854775807 ∧ x.f7.length ≤ 9223372036854775807 ∧ x.f8.length ≤ 9223372036854775807
def bInstr (x : S205) : Prop := x.f6.length ≤ 1048576 ∧ x.f7.length ≤ 1048576 ∧ x.f8.length ≤ 1048576
theorem szInstr_f (x : S202) (a : Int) (h0 : 0 ≤ a) (h1 : a ≤ 1048576) (hx : lInstr x) : Ev (fun k => laws_szInstr.f x.f0 x.f1 x.f2 x.f3 x.f4 x.f5 x.f6 x.f7 x.f8 a) (if (sInstr x : Int) ≤ a then a - (sInstr x : Int) else -1) := by
  obtain ⟨k0, k1, k2⟩ := hx
  unfold laws_szInstr.f sInstr
  refine sz_bind (szOperandS_f _ _ (by omega) (by omega) k0) (fun e0 => ?_)
  refine sz_bind (szInt64S_f _ _ (by omega) (by omega) k1) (fun e1 => ?_)
  refine sz_bind (szUint64S_f _ _ (by omega) (by omega) k2) (fun e2 => ?_)
  exact sz_end _ (by omega)
theorem toInstr_f (x : S202) (h : sInstr x ≤ 1048576) : Ev (fun k => laws_toInstr.f k x.f0 x.f1 x.f2 x.f3 x.f4 x.f5 x.f6 x.f7 x.f8) (x.f0, x.f1, x.f2, x.f3, x.f4, x.f5, (x.f6.map iOperand), x.f7, x.f8) := by
  unfold sInstr at h
  unfold laws_toInstr.f
  refine Ev.bind (toOperandS_f _ (by omega)) ?_
  refine Ev.bind (toInt64S_f _ (by omega)) ?_
  refine Ev.bind (toUint64S_f _ (by omega)) ?_
  exact Ev.now _
theorem eqInstr_f (x : S205) (hb : bInstr x) : Ev (fun k => laws_eqInstr.f k x.f0 x.f1 x.f2 x.f3 x.f4 x.f5 x.f6 x.f7 x.f8 x.f0 x.f1 x.f2 x.f3 x.f4 x.f5 x.f6 x.f7 x.f8) true := by
  obtain ⟨k0, k1, k2⟩ := hb
  unfold laws_eqInstr.f
  refine Ev.pos rfl ?_
  refine Ev.pos rfl ?_
  refine Ev.pos rfl ?_
  refine Ev.pos rfl ?_
  refine Ev.pos rfl ?_
  refine Ev.pos rfl ?_
  refine Ev.bind (eqOperandS_f _ k0) (Ev.pos rfl ?_)
  refine Ev.bind (eqInt64S_f _ k1) (Ev.pos rfl ?_)
  refine Ev.bind (eqUint64S_f _ k2) (Ev.pos rfl ?_)
  exact Ev.now _
theorem bInstr_of (x : S202) (h : sInstr x ≤ 1048576) : bInstr (iInstr x) := by
  unfold sInstr at h
  refine ⟨?_, ?_, ?_⟩
  · show (x.f6.map iOperand).length ≤ _; rw [List.length_map]; omega
  · show x.f7.length ≤ _; omega
  · show x.f8.length ≤ _; omega
def sInstrS (xs : List S202) : Nat := xs.length + (xs.map sInstr).sum
def lInstrS (xs : List S202) : Prop := xs.length ≤ 9223372036854775807 ∧ ∀ x ∈ xs, lInstr x
def bInstrS (xs : List S205) : Prop := xs.length ≤ 1048576 ∧ ∀ x ∈ xs, bInstr x
theorem szInstrS_f (xs : List S202) (a : Int) (h0 : 0 ≤ a) (h1 : a ≤ 1048576) (hx : lInstrS xs) : Ev (fun k => laws_szInstrS.f k xs a) (if (sInstrS xs : Int) ≤ a then a - (sInstrS xs : Int) else -1) := by
  obtain ⟨hl, hx⟩ := hx
  unfold laws_szInstrS.f
  rw [wrap64_id (by omega) (by omega)]
  by_cases c : (xs.length : Int) ≤ a
  · refine Ev.neg (by omega) ?_
    have h := sz_gen sInstr z202 xs (fun k a i => laws_szInstrS.l0 k xs a i) (fun i a r hi h0 h1 h => by
      refine Ev.succ ?_
      simp only [laws_szInstrS.l0]
      refine Ev.pos (by omega) (Ev.pos (by omega) ?_)
      have hm : lInstr (rd_T202 xs i) := hx _ (by simp only [rd_T202, Int.toNat_natCast]; rw [getD_eq hi]; exact List.getElem_mem hi)
      have e : rd_T202 xs i = xs.getD i z202 := by simp [rd_T202]
      refine Ev.bind (szInstr_f _ a h0 h1 hm) ?_
      rw [e]
      split at h
      · rename_i hc
        rw [if_pos hc, wrap64_nat (by omega)]
        exact Ev.neg (by omega) h
      · rename_i hc
        rw [if_neg hc]
        exact Ev.pos (by omega) (Ev.some h.symm)) (fun a => by
      refine Ev.succ ?_
      simp only [laws_szInstrS.l0]
      exact Ev.neg (by omega) (Ev.now _)) (a - xs.length) (by omega) (by omega)
    have e : (if ((xs.map sInstr).sum : Int) ≤ a - xs.length then a - xs.length - (xs.map sInstr).sum else -1) = (if (sInstrS xs : Int) ≤ a then a - sInstrS xs else -1) := by unfold sInstrS; split <;> split <;> omega
    rw [← e]
    exact h
  · rw [if_neg (by unfold sInstrS; omega)]
    exact Ev.pos (by omega) (Ev.now _)
theorem atInstrS {xs : List S202} {i : Nat} (h : sInstrS xs ≤ 1048576) (hi : i < xs.length) : sInstr (xs.getD i z202) ≤ 1048576 := by
  have := sum_getD_le sInstr z202 xs i hi
  unfold sInstrS at h
  omega
theorem toInstrS_f (l : List S202) (hl : sInstrS l ≤ 1048576) : Ev (fun k => laws_toInstrS.f k l) (l.map iInstr) := by
  unfold laws_toInstrS.f
  have hl1 : l.length ≤ 1048576 := by unfold sInstrS at hl; omega
  refine Ev.pos (by omega) (Ev.pos (by omega) ?_)
  have h := to_gen iInstr z205 z202 l (fun k out i => laws_toInstrS.l0 k l out i) (fun i out r hi ho h => by
    refine Ev.succ ?_
    simp only [laws_toInstrS.l0]
    have e : rd_T202 l i = l.getD i z202 := by simp [rd_T202]
    rw [e]
    refine Ev.pos (by omega) (Ev.pos (by omega) (Ev.bind (toInstr_f _ (atInstrS hl hi)) (Ev.pos (by omega) ?_)))
    rw [wrap64_nat (by omega)]
    exact h) (fun out _ => by
    refine Ev.succ ?_
    simp only [laws_toInstrS.l0]
    exact Ev.neg (by omega) (Ev.now _))
  simpa using h
theorem eqInstrS_f (l : List S205) (hb : bInstrS l) : Ev (fun k => laws_eqInstrS.f k l l) true := by
  obtain ⟨hl, hb⟩ := hb
  unfold laws_eqInstrS.f
  refine Ev.pos rfl (all_gen l.length (fun k i => laws_eqInstrS.l0 k l l i) (fun i hi h => ?_) ?_)
  · refine Ev.succ ?_
    simp only [laws_eqInstrS.l0]
    rw [wrap64_nat (by omega)]
    have hm : bInstr (rd_T205 l i) := hb _ (by simp only [rd_T205, Int.toNat_natCast]; rw [getD_eq hi]; exact List.getElem_mem hi)
    exact Ev.pos (by omega) (Ev.pos (by omega) (Ev.pos (by omega) (Ev.bind (eqInstr_f _ hm) (Ev.pos rfl h))))
  · refine Ev.succ ?_
    simp only [laws_eqInstrS.l0]
    exact Ev.neg (by omega) (Ev.now _)
theorem bInstrS_of (xs : List S202) (h : sInstrS xs ≤ 1048576) : bInstrS (xs.map iInstr) := by
  refine ⟨by rw [List.length_map]; unfold sInstrS at h; omega, fun y hy => ?_⟩
  obtain ⟨x, hx, rfl⟩ := List.mem_map.1 hy
  obtain ⟨i, hi, rfl⟩ := List.getElem_of_mem hx
  have := atInstrS h hi
  rw [getD_eq hi] at this
  exact bInstr_of _ this
def iBlock (x : S184) : S187 := ⟨(x.f0.map iInstr)⟩
def sBlock (x : S184) : Nat := sInstrS x.f0 + (0)
def lBlock (x : S184) : Prop := lInstrS x.f0
def bBlock (x : S187) : Prop := bInstrS x.f0
theorem szBlock_f (x : S184) (a : Int) (h0 : 0 ≤ a) (h1 : a ≤ 1048576) (hx : lBlock x) : Ev (fun k => laws_szBlock.f k x.f0 a) (if (sBlock x : Int) ≤ a then a - (sBlock x : Int) else -1) := by
  have k0 := hx
  unfold laws_szBlock.f sBlock
  refine sz_bind (szInstrS_f _ _ (by omega) (by omega) k0) (fun e0 => ?_)
  exact sz_end _ (by omega)
theorem toBlock_f (x : S184) (h : sBlock x ≤ 1048576) : Ev (fun k => laws_toBlock.f k x.f0) (x.f0.map iInstr) := by
  unfold sBlock at h
  unfold laws_toBlock.f
  refine Ev.bind (toInstrS_f _ (by omega)) ?_
  exact Ev.now _
theorem eqBlock_f (x : S187) (hb : bBlock x) : Ev (fun k => laws_eqBlock.f k x.f0 x.f0) true := by
  have k0 := hb
  unfold laws_eqBlock.f
  refine Ev.bind (eqInstrS_f _ k0) (Ev.pos rfl ?_)
  exact Ev.now _
theorem bBlock_of (x : S184) (h : sBlock x ≤ 1048576) : bBlock (iBlock x) := by
  unfold sBlock at h
  refine ?_
  · exact bInstrS_of _ (by omega)
def sBlockS (xs : List S184) : Nat := xs.length + (xs.map sBlock).sum
def lBlockS (xs : List S184) : Prop := xs.length ≤ 9223372036854775807 ∧ ∀ x ∈ xs, lBlock x
def bBlockS (xs : List S187) : Prop := xs.length ≤ 1048576 ∧ ∀ x ∈ xs, bBlock x
theorem szBlockS_f (xs : List S184) (a : Int) (h0 : 0 ≤ a) (h1 : a ≤ 1048576) (hx : lBlockS xs) : Ev (fun k => laws_szBlockS.f k xs a) (if (sBlockS xs : Int) ≤ a then a - (sBlockS xs : Int) else -1) := by
  obtain ⟨hl, hx⟩ := hx
  unfold laws_szBlockS.f
  rw [wrap64_id (by omega) (by omega)]
  by_cases c : (xs.length : Int) ≤ a
  · refine Ev.neg (by omega) ?_
    have h := sz_gen sBlock z184 xs (fun k a i => laws_szBlockS.l0 k xs a i) (fun i a r hi h0 h1 h => by
      refine Ev.succ ?_
      simp only [laws_szBlockS.l0]
      refine Ev.pos (by omega) (Ev.pos (by omega) ?_)
      have hm : lBlock (rd_T184 xs i) := hx _ (by simp only [rd_T184, Int.toNat_natCast]; rw [getD_eq hi]; exact List.getElem_mem hi)
      have e : rd_T184 xs i = xs.getD i z184 := by simp [rd_T184]
      refine Ev.bind (szBlock_f _ a h0 h1 hm) ?_
      rw [e]
      split at h
      · rename_i hc
        rw [if_pos hc, wrap64_nat (by omega)]
        exact Ev.neg (by omega) h
      · rename_i hc
        rw [if_neg hc]
        exact Ev.pos (by omega) (Ev.some h.symm)) (fun a => by
      refine Ev.succ ?_
      simp only [laws_szBlockS.l0]
      exact Ev.neg (by omega) (Ev.now _)) (a - xs.length) (by omega) (by omega)
    have e : (if ((xs.map sBlock).sum : Int) ≤ a - xs.length then a - xs.length - (xs.map sBlock).sum else -1) = (if (sBlockS xs : Int) ≤ a then a - sBlockS xs else -1) := by unfold sBlockS; split <;> split <;> omega
    rw [← e]
    exact h
  · rw [if_neg (by unfold sBlockS; omega)]
    exact Ev.pos (by omega) (Ev.now _)
theorem atBlockS {xs : List S184} {i : Nat} (h : sBlockS xs ≤ 1048576) (hi : i < xs.length) : sBlock (xs.getD i z184) ≤ 1048576 := by
  have := sum_getD_le sBlock z184 xs i hi
  unfold sBlockS at h
  omega
theorem toBlockS_f (l : List S184) (hl : sBlockS l ≤ 1048576) : Ev (fun k => laws_toBlockS.f k l) (l.map iBlock) := by
  unfold laws_toBlockS.f
  have hl1 : l.length ≤ 1048576 := by unfold sBlockS at hl; omega
  refine Ev.pos (by omega) (Ev.pos (by omega) ?_)
  have h := to_gen iBlock z187 z184 l (fun k out i => laws_toBlockS.l0 k l out i) (fun i out r hi ho h => by
    refine Ev.succ ?_
    simp only [laws_toBlockS.l0]
    have e : rd_T184 l i = l.getD i z184 := by simp [rd_T184]
    rw [e]
    refine Ev.pos (by omega) (Ev.pos (by omega) (Ev.bind (toBlock_f _ (atBlockS hl hi)) (Ev.pos (by omega) ?_)))
    rw [wrap64_nat (by omega)]
    exact h) (fun out _ => by
    refine Ev.succ ?_
    simp only [laws_toBlockS.l0]
    exact Ev.neg (by omega) (Ev.now _))
  simpa using h
theorem eqBlockS_f (l : List S187) (hb : bBlockS l) : Ev (fun k => laws_eqBlockS.f k l l) true := by
  obtain ⟨hl, hb⟩ := hb
  unfold laws_eqBlockS.f
  refine Ev.pos rfl (all_gen l.length (fun k i => laws_eqBlockS.l0 k l l i) (fun i hi h => ?_) ?_)
  · refine Ev.succ ?_
    simp only [laws_eqBlockS.l0]
    rw [wrap64_nat (by omega)]
    have hm : bBlock (rd_T187 l i) := hb _ (by simp only [rd_T187, Int.toNat_natCast]; rw [getD_eq hi]; exact List.getElem_mem hi)
    exact Ev.pos (by omega) (Ev.pos (by omega) (Ev.pos (by omega) (Ev.bind (eqBlock_f _ hm) (Ev.pos rfl h))))
  · refine Ev.succ ?_
    simp only [laws_eqBlockS.l0]
    exact Ev.neg (by omega) (Ev.now _)
theorem bBlockS_of (xs : List S184) (h : sBlockS xs ≤ 1048576) : bBlockS (xs.map iBlock) := by
  refine ⟨by rw [List.length_map]; unfold sBlockS at h; omega, fun y hy => ?_⟩
  obtain ⟨x, hx, rfl⟩ := List.mem_map.1 hy
  obtain ⟨i, hi, rfl⟩ := List.getElem_of_mem hx
  have := atBlockS h hi
  rw [getD_eq hi] at this
  exact bBlock_of _ this
def iFunc (x : S145) : S149 := ⟨x.f0, x.f1, x.f2, x.f3, (x.f4.map iBlock)⟩
def sFunc (x : S145) : Nat := x.f0.size + (x.f2.length + (sBlockS x.f4 + (0)))
def lFunc (x : S145) : Prop := x.f0.size ≤ 9223372036854775807 ∧ x.f2.length ≤ 9223372036854775807 ∧ lBlockS x.f4
def bFunc (x : S149) : Prop := x.f2.length ≤ 1048576 ∧ bBlockS x.f4
theorem szFunc_f (x : S145) (a : Int) (h0 : 0 ≤ a) (h1 : a ≤ 1048576) (hx : lFunc x) : Ev (fun k => laws_szFunc.f k x.f0 x.f1 x.f2 x.f3 x.f4 a) (if (sFunc x : Int) ≤ a then a - (sFunc x : Int) else -1) := by
  obtain ⟨k0, k1, k2⟩ := hx
  unfold laws_szFunc.f sFunc
  rw [wrap64_id (by omega) (by omega)]
  refine sz_str (fun e0 => ?_)
  refine sz_bind (szInt64S_f _ _ (by omega) (by omega) k1) (fun e1 => ?_)
  refine sz_bind (szBlockS_f _ _ (by omega) (by omega) k2) (fun e2 => ?_)
  exact sz_end _ (by omega)
theorem toFunc_f (x : S145) (h : sFunc x ≤ 1048576) : Ev (fun k => laws_toFunc.f k x.f0 x.f1 x.f2 x.f3 x.f4) (x.f0, x.f1, x.f2, x.f3, (x.f4.map iBlock)) := by
  unfold sFunc at h
  unfold laws_toFunc.f
  refine Ev.bind (toInt64S_f _ (by omega)) ?_
  refine Ev.bind (toBlockS_f _ (by omega)) ?_
  exact Ev.now _
theorem eqFunc_f (x : S149) (hb : bFunc x) : Ev (fun k => laws_eqFunc.f k x.f0 x.f1 x.f2 x.f3 x.f4 x.f0 x.f1 x.f2 x.f3 x.f4) true := by
  obtain ⟨k0, k1⟩ := hb
  unfold laws_eqFunc.f
  refine Ev.pos rfl ?_
  refine Ev.pos rfl ?_
  refine Ev.bind (eqInt64S_f _ k0) (Ev.pos rfl ?_)
  refine Ev.pos rfl ?_
  refine Ev.bind (eqBlockS_f _ k1) (Ev.pos rfl ?_)
  exact Ev.now _
theorem bFunc_of (x : S145) (h : sFunc x ≤ 1048576) : bFunc (iFunc x) := by
  unfold sFunc at h
  refine ⟨?_, ?_⟩
  · show x.f2.length ≤ _; omega
  · exact bBlockS_of _ (by omega)
def sFuncS (xs : List S145) : Nat := xs.length + (xs.map sFunc).sum
def lFuncS (xs : List S145) : Prop := xs.length ≤ 9223372036854775807 ∧ ∀ x ∈ xs, lFunc x
def bFuncS (xs : List S149) : Prop := xs.length ≤ 1048576 ∧ ∀ x ∈ xs, bFunc x
theorem szFuncS_f (xs : List S145) (a : Int) (h0 : 0 ≤ a) (h1 : a ≤ 1048576) (hx : lFuncS xs) : Ev (fun k => laws_szFuncS.f k xs a) (if (sFuncS xs : Int) ≤ a then a - (sFuncS xs : Int) else -1) := by
  obtain ⟨hl, hx⟩ := hx
  unfold laws_szFuncS.f
  rw [wrap64_id (by omega) (by omega)]
  by_cases c : (xs.length : Int) ≤ a
  · refine Ev.neg (by omega) ?_
    have h := sz_gen sFunc z145 xs (fun k a i => laws_szFuncS.l0 k xs a i) (fun i a r hi h0 h1 h => by
      refine Ev.succ ?_
      simp only [laws_szFuncS.l0]
      refine Ev.pos (by omega) (Ev.pos (by omega) ?_)
      have hm : lFunc (rd_T145 xs i) := hx _ (by simp only [rd_T145, Int.toNat_natCast]; rw [getD_eq hi]; exact List.getElem_mem hi)
      have e : rd_T145 xs i = xs.getD i z145 := by simp [rd_T145]
      refine Ev.bind (szFunc_f _ a h0 h1 hm) ?_
      rw [e]
      split at h
      · rename_i hc
        rw [if_pos hc, wrap64_nat (by omega)]
        exact Ev.neg (by omega) h
      · rename_i hc
        rw [if_neg hc]
        exact Ev.pos (by omega) (Ev.some h.symm)) (fun a => by
      refine Ev.succ ?_
      simp only [laws_szFuncS.l0]
      exact Ev.neg (by omega) (Ev.now _)) (a - xs.length) (by omega) (by omega)
    have e : (if ((xs.map sFunc).sum : Int) ≤ a - xs.length then a - xs.length - (xs.map sFunc).sum else -1) = (if (sFuncS xs : Int) ≤ a then a - sFuncS xs else -1) := by unfold sFuncS; split <;> split <;> omega
    rw [← e]
    exact h
  · rw [if_neg (by unfold sFuncS; omega)]
    exact Ev.pos (by omega) (Ev.now _)
theorem atFuncS {xs : List S145} {i : Nat} (h : sFuncS xs ≤ 1048576) (hi : i < xs.length) : sFunc (xs.getD i z145) ≤ 1048576 := by
  have := sum_getD_le sFunc z145 xs i hi
  unfold sFuncS at h
  omega
theorem toFuncS_f (l : List S145) (hl : sFuncS l ≤ 1048576) : Ev (fun k => laws_toFuncS.f k l) (l.map iFunc) := by
  unfold laws_toFuncS.f
  have hl1 : l.length ≤ 1048576 := by unfold sFuncS at hl; omega
  refine Ev.pos (by omega) (Ev.pos (by omega) ?_)
  have h := to_gen iFunc z149 z145 l (fun k out i => laws_toFuncS.l0 k l out i) (fun i out r hi ho h => by
    refine Ev.succ ?_
    simp only [laws_toFuncS.l0]
    have e : rd_T145 l i = l.getD i z145 := by simp [rd_T145]
    rw [e]
    refine Ev.pos (by omega) (Ev.pos (by omega) (Ev.bind (toFunc_f _ (atFuncS hl hi)) (Ev.pos (by omega) ?_)))
    rw [wrap64_nat (by omega)]
    exact h) (fun out _ => by
    refine Ev.succ ?_
    simp only [laws_toFuncS.l0]
    exact Ev.neg (by omega) (Ev.now _))
  simpa using h
theorem eqFuncS_f (l : List S149) (hb : bFuncS l) : Ev (fun k => laws_eqFuncS.f k l l) true := by
  obtain ⟨hl, hb⟩ := hb
  unfold laws_eqFuncS.f
  refine Ev.pos rfl (all_gen l.length (fun k i => laws_eqFuncS.l0 k l l i) (fun i hi h => ?_) ?_)
  · refine Ev.succ ?_
    simp only [laws_eqFuncS.l0]
    rw [wrap64_nat (by omega)]
    have hm : bFunc (rd_T149 l i) := hb _ (by simp only [rd_T149, Int.toNat_natCast]; rw [getD_eq hi]; exact List.getElem_mem hi)
    exact Ev.pos (by omega) (Ev.pos (by omega) (Ev.pos (by omega) (Ev.bind (eqFunc_f _ hm) (Ev.pos rfl h))))
  · refine Ev.succ ?_
    simp only [laws_eqFuncS.l0]
    exact Ev.neg (by omega) (Ev.now _)
theorem bFuncS_of (xs : List S145) (h : sFuncS xs ≤ 1048576) : bFuncS (xs.map iFunc) := by
  refine ⟨by rw [List.length_map]; unfold sFuncS at h; omega, fun y hy => ?_⟩
  obtain ⟨x, hx, rfl⟩ := List.mem_map.1 hy
  obtain ⟨i, hi, rfl⟩ := List.getElem_of_mem hx
  have := atFuncS h hi
  rw [getD_eq hi] at this
  exact bFunc_of _ this
def sModule (f0 : List S141) (f1 : List S145) : Nat := sGlobalS f0 + (sFuncS f1 + (0))
def lModule (f0 : List S141) (f1 : List S145) : Prop := lGlobalS f0 ∧ lFuncS f1
def bModule (f0 : List S127) (f1 : List S149) : Prop := bGlobalS f0 ∧ bFuncS f1
theorem szModule_f (f0 : List S141) (f1 : List S145) (a : Int) (h0 : 0 ≤ a) (h1 : a ≤ 1048576) (hx : lModule f0 f1) : Ev (fun k => laws_szModule.f k f0 f1 a) (if (sModule f0 f1 : Int) ≤ a then a - (sModule f0 f1 : Int) else -1) := by
  obtain ⟨k0, k1⟩ := hx
  unfold laws_szModule.f sModule
  refine sz_bind (szGlobalS_f _ _ (by omega) (by omega) k0) (fun e0 => ?_)
  refine sz_bind (szFuncS_f _ _ (by omega) (by omega) k1) (fun e1 => ?_)
  exact sz_end _ (by omega)
theorem toModule_f (f0 : List S141) (f1 : List S145) (h : sModule f0 f1 ≤ 1048576) : Ev (fun k => laws_toModule.f k f0 f1) ((f0.map iGlobal), (f1.map iFunc)) := by
  unfold sModule at h
  unfold laws_toModule.f
  refine Ev.bind (toGlobalS_f _ (by omega)) ?_
  refine Ev.bind (toFuncS_f _ (by omega)) ?_
  exact Ev.now _
theorem eqModule_f (f0 : List S127) (f1 : List S149) (hb : bModule f0 f1) : Ev (fun k => laws_eqModule.f k f0 f1 f0 f1) true := by
  obtain ⟨k0, k1⟩ := hb
  unfold laws_eqModule.f
  refine Ev.bind (eqGlobalS_f _ k0) (Ev.pos rfl ?_)
  refine Ev.bind (eqFuncS_f _ k1) (Ev.pos rfl ?_)
  exact Ev.now _
theorem bModule_of (f0 : List S141) (f1 : List S145) (h : sModule f0 f1 ≤ 1048576) : bModule (f0.map iGlobal) (f1.map iFunc) := by
  unfold sModule at h
  refine ⟨?_, ?_⟩
  · exact bGlobalS_of _ (by omega)
  · exact bFuncS_of _ (by omega)
end Go.Proofs.YtkohjiajbdkcbaaDoor.All


/- What reads as data of a type can be read as a value of its kind. -/
namespace Go.Proofs.YtkohjiajbdkcbaaDoor.All
open Go.RowKit Go.Proofs.YtkohjiajbdkcbaaDoorW.PrintWords Go.Proofs.YtkohjiajbdkcbaaDoorW.PrintLast Go.Proofs.YtkohjiajbdkcbaaDoorW.PrintMore
set_option linter.unusedVariables false
set_option linter.unusedSimpArgs false
structure Rdb {α : Type} (d : Kd α) (P : Program) (t : TypeId) (ok : α → Prop) : Prop where
  sz : P.cellsOf t = d.sz
  rd : ∀ {H : Type} {enc : TypeId × Value → H} {w : World} {base : Nat} {sp : Nat → Bool} {held : Bool} {fuel : Nat} {cs : List Value} {x : DataW H × List MemPlace}, DataW.trod enc P w base sp held fuel t cs = some x → ∃ a, d.K w a cs ∧ ok a
theorem Rdb.int {P : Program} {t : TypeId} {k : IntKind} (ht : P.underlying t = some (.int k)) (hs : P.cellsOf t = 1) : Rdb (Kd.int k) P t (fun a => (Lit.int k a).wf = true) :=
  ⟨hs, fun h => by obtain ⟨n, rfl, _, hw⟩ := DataW.trod_int ht h; exact ⟨n, rfl, hw⟩⟩
theorem Rdb.bool {P : Program} {t : TypeId} (ht : P.underlying t = some .bool) (hs : P.cellsOf t = 1) : Rdb Kd.bool P t (fun _ => True) :=
  ⟨hs, fun h => by obtain ⟨b, rfl, _⟩ := DataW.trod_bool ht h; exact ⟨b, rfl, trivial⟩⟩
theorem Rdb.string {P : Program} {t : TypeId} (ht : P.underlying t = some .string) (hs : P.cellsOf t = 1) : Rdb Kd.string P t (fun s => s.size ≤ 9223372036854775807) :=
  ⟨hs, fun h => by obtain ⟨s, rfl, _, hm⟩ := DataW.trod_string ht h; exact ⟨s, rfl, hm⟩⟩
theorem rdb_list {α : Type} {P : Nat → α → Prop} : ∀ n : Nat, (∀ j, j < n → ∃ x, P j x) → ∃ l : List α, l.length = n ∧ ∀ (j : Nat) (x : α), l[j]? = some x → P j x
  | 0, _ => ⟨[], rfl, fun j x h => by simp at h⟩
  | n + 1, h => by
    obtain ⟨l, hl, hp⟩ := rdb_list n (fun j hj => h j (by omega))
    obtain ⟨x, hx⟩ := h n (by omega)
    refine ⟨l ++ [x], by simp [hl], fun j y hy => ?_⟩
    by_cases hj : j < n
    · rw [List.getElem?_append_left (by omega)] at hy
      exact hp j y hy
    · have hlt := (List.getElem?_eq_some_iff.1 hy).1
      simp [hl] at hlt
      have : j = n := by omega
      subst this
      rw [List.getElem?_append_right (by omega)] at hy
      simp [hl] at hy
      subst hy
      exact hx
theorem Rdb.slice {α : Type} {d : Kd α} {P : Program} {t e : TypeId} {ok : α → Prop} (ht : P.underlying t = some (.slice e)) (hs : P.cellsOf t = 1) (h : Rdb d P e ok) : Rdb (Kd.slice e d) P t (fun xs => xs.length ≤ 9223372036854775807 ∧ ∀ x ∈ xs, ok x) := by
  refine ⟨hs, fun {H enc w base sp held fuel cs x} hx => ?_⟩
  rcases Deep.open_slice ht hx with ⟨rfl, _⟩ | ⟨a, len, cap, m, n, D, Pl, rfl, hb, hl, hm, hmm, _, hel⟩
  · exact ⟨[], ⟨none, 0, rfl, Nat.le_refl _, rfl, by simp, fun h0 => by simp at h0⟩, by simp, fun x hx => by simp at hx⟩
  · have hmax : len ≤ 9223372036854775807 := Nat.le_trans hl hm
    have hlm : len ≤ m := by rw [hmm]; split <;> omega
    obtain ⟨xs, hlen, hxs⟩ := rdb_list (P := fun j (x : α) => ok x ∧ ∃ c, c.length = d.sz ∧ d.K w x c ∧ ∀ (i : Nat) (u : Value), c[i]? = some u → w.cell? (a.add (j * d.sz + i)) = some u) len (fun j hj => by
      obtain ⟨cs', hc, htr⟩ := hel j (by omega)
      obtain ⟨x, hK, hok⟩ := h.rd htr
      obtain ⟨_, hcl, hcc⟩ := World.cells?_some hc
      rw [h.sz] at hcl hcc
      refine ⟨x, hok, cs', hcl, hK, fun i u hu => ?_⟩
      have hi := (List.getElem?_eq_some_iff.1 hu).1
      have := hcc i (by omega)
      rw [Addr.add_add] at this
      exact this.trans hu)
    refine ⟨xs, ⟨some a, cap, by rw [hlen], by omega, rfl, by omega, fun _ => ⟨a, rfl, fun j p hj => (hxs j p hj).2⟩⟩, by omega, fun x hx => ?_⟩
    obtain ⟨j, hj⟩ := List.getElem?_of_mem hx
    exact (hxs j x hj).1
/-- The fields of a struct (types and places) from cell 'off' on. -/
structure RdbFs {α : Type} (d : Kd α) (P : Program) (fs : List (TypeId × Nat)) (off : Nat) (ok : α → Prop) : Prop where
  rd : ∀ {H : Type} {enc : TypeId × Value → H} {w : World} {base : Nat} {sp : Nat → Bool} {held : Bool} {n : Nat} {cs : List Value}, cs.length = off + d.sz →
    (∀ f ∈ fs, ∃ x, DataW.trod enc P w base sp held n f.1 ((cs.drop f.2).take (P.cellsOf f.1)) = some x) → ∃ a, d.K w a (cs.drop off) ∧ ok a
theorem RdbFs.one {α : Type} {d : Kd α} {P : Program} {t : TypeId} {off : Nat} {ok : α → Prop} (h : Rdb d P t ok) : RdbFs d P [(t, off)] off ok := by
  refine ⟨fun {H enc w base sp held n cs} hl hf => ?_⟩
  obtain ⟨x, hx⟩ := hf (t, off) (by simp)
  simp only at hx
  rw [h.sz, List.take_of_length_le (by rw [List.length_drop]; omega)] at hx
  exact h.rd hx
theorem RdbFs.cons {α β : Type} {a : Kd α} {b : Kd β} {P : Program} {t : TypeId} {fs : List (TypeId × Nat)} {off off' : Nat} {ok : α → Prop} {ok' : β → Prop} (ho : off + a.sz = off') (h : Rdb a P t ok) (hs : RdbFs b P fs off' ok') : RdbFs (Kd.pair a b) P ((t, off) :: fs) off (fun x => ok x.1 ∧ ok' x.2) := by
  subst ho
  refine ⟨fun {H enc w base sp held n cs} hl hf => ?_⟩
  have hl' : cs.length = off + a.sz + b.sz := by rw [hl]; show off + (a.sz + b.sz) = _; omega
  obtain ⟨x, hx⟩ := hf (t, off) (by simp)
  simp only at hx
  rw [h.sz] at hx
  obtain ⟨y, hy, oky⟩ := h.rd hx
  obtain ⟨z, hz, okz⟩ := hs.rd hl' (fun g hg => hf g (by simp [hg]))
  refine ⟨(y, z), ⟨(cs.drop off).take a.sz, cs.drop (off + a.sz), ?_, hy, hz⟩, oky, okz⟩
  rw [← List.drop_drop, List.take_append_drop]
theorem Rdb.struct {α : Type} {d : Kd α} {P : Program} {t : TypeId} {fs : Array Field} {ok : α → Prop} (ht : P.underlying t = some (.struct fs)) (hs : P.cellsOf t = d.sz) (tos : List (TypeId × Nat)) (htos : fs.toList.map (fun f => (f.type, f.offset)) = tos) (h : RdbFs d P tos 0 ok) : Rdb d P t ok := by
  subst htos
  refine ⟨hs, fun hx => ?_⟩
  obtain ⟨xs, n, rfl, rfl, hl, hxl, hf⟩ := DataW.trod_struct ht hx
  have := h.rd (n := n) (by rw [hl, hs, Nat.zero_add]) (fun f hfm => by
    obtain ⟨f', hf', rfl⟩ := List.mem_map.1 hfm
    obtain ⟨i, hi⟩ := List.getElem?_of_mem hf'
    rw [Array.getElem?_toList] at hi
    have h1 := hf i f' hi
    have hlt : i < xs.length := by rw [hxl]; exact (Array.getElem?_eq_some_iff.1 hi).1
    exact ⟨xs[i], by rw [h1, List.getElem?_eq_getElem hlt]⟩)
  simpa using this
theorem Rdb.iso {α β : Type} {d : Kd α} {P : Program} {t : TypeId} {ok : α → Prop} {f : β → α} (h : Rdb d P t ok) (g : α → β) (hg : ∀ y, f (g y) = y) : Rdb (Kd.iso d f) P t (fun x => ok (f x)) :=
  ⟨h.sz, fun hx => by
    obtain ⟨a, hK, hok⟩ := h.rd hx
    refine ⟨g a, ?_, by rw [hg]; exact hok⟩
    show d.K _ (f (g a)) _
    rw [hg]
    exact hK⟩
end Go.Proofs.YtkohjiajbdkcbaaDoor.All


/- How the laws' arguments read. Printed by gen_row.py. -/
namespace Go.Proofs.YtkohjiajbdkcbaaDoor.All
open Go.RowKit Go.Proofs.YtkohjiajbdkcbaaDoorW.PrintWords
set_option linter.unusedVariables false
def ok141 (x : S141) : Prop := x.f0.size ≤ 9223372036854775807 ∧ (Lit.int .i64 x.f1).wf = true ∧ True ∧ (Lit.int .i64 x.f3).wf = true ∧ (x.f4.length ≤ 9223372036854775807 ∧ ∀ y ∈ x.f4, (Lit.int .u8 y).wf = true)
set_option maxRecDepth 100000 in
theorem rdb141 : Rdb k141 Tryd.prog 141 ok141 := Rdb.iso (f := fun x : S141 => (x.f0, x.f1, x.f2, x.f3, x.f4)) (Rdb.struct Tryd.underlying141 (by kernel_rfl) [(9, 0), (2, 1), (4, 2), (2, 3), (41, 4)] rfl (RdbFs.cons rfl (Rdb.string Tryd.underlying9 (by kernel_rfl)) (RdbFs.cons rfl (Rdb.int Tryd.underlying2 (by kernel_rfl)) (RdbFs.cons rfl (Rdb.bool Tryd.underlying4 (by kernel_rfl)) (RdbFs.cons rfl (Rdb.int Tryd.underlying2 (by kernel_rfl)) (RdbFs.one (Rdb.slice Tryd.underlying41 (by kernel_rfl) (Rdb.int Tryd.underlying5 (by kernel_rfl))))))))) (fun y => (⟨y.1, y.2.1, y.2.2.1, y.2.2.2.1, y.2.2.2.2⟩ : S141)) (fun _ => rfl)
def ok69 (x : S69) : Prop := (Lit.int .i64 x.f0).wf = true ∧ (Lit.int .i64 x.f1).wf = true ∧ (Lit.int .i64 x.f2).wf = true ∧ (Lit.int .u64 x.f3).wf = true
set_option maxRecDepth 100000 in
theorem rdb69 : Rdb k69 Tryd.prog 69 ok69 := Rdb.iso (f := fun x : S69 => (x.f0, x.f1, x.f2, x.f3)) (Rdb.struct Tryd.underlying69 (by kernel_rfl) [(2, 0), (2, 1), (2, 2), (22, 3)] rfl (RdbFs.cons rfl (Rdb.int Tryd.underlying2 (by kernel_rfl)) (RdbFs.cons rfl (Rdb.int Tryd.underlying2 (by kernel_rfl)) (RdbFs.cons rfl (Rdb.int Tryd.underlying2 (by kernel_rfl)) (RdbFs.one (Rdb.int Tryd.underlying22 (by kernel_rfl))))))) (fun y => (⟨y.1, y.2.1, y.2.2.1, y.2.2.2⟩ : S69)) (fun _ => rfl)
def ok202 (x : S202) : Prop := (Lit.int .i64 x.f0).wf = true ∧ (Lit.int .i64 x.f1).wf = true ∧ (Lit.int .i64 x.f2).wf = true ∧ (Lit.int .i64 x.f3).wf = true ∧ (Lit.int .i64 x.f4).wf = true ∧ (Lit.int .i64 x.f5).wf = true ∧ (x.f6.length ≤ 9223372036854775807 ∧ ∀ y ∈ x.f6, ok69 y) ∧ (x.f7.length ≤ 9223372036854775807 ∧ ∀ y ∈ x.f7, (Lit.int .i64 y).wf = true) ∧ (x.f8.length ≤ 9223372036854775807 ∧ ∀ y ∈ x.f8, (Lit.int .u64 y).wf = true)
set_option maxRecDepth 100000 in
theorem rdb202 : Rdb k202 Tryd.prog 202 ok202 := Rdb.iso (f := fun x : S202 => (x.f0, x.f1, x.f2, x.f3, x.f4, x.f5, x.f6, x.f7, x.f8)) (Rdb.struct Tryd.underlying202 (by kernel_rfl) [(2, 0), (2, 1), (2, 2), (2, 3), (2, 4), (2, 5), (200, 6), (52, 7), (25, 8)] rfl (RdbFs.cons rfl (Rdb.int Tryd.underlying2 (by kernel_rfl)) (RdbFs.cons rfl (Rdb.int Tryd.underlying2 (by kernel_rfl)) (RdbFs.cons rfl (Rdb.int Tryd.underlying2 (by kernel_rfl)) (RdbFs.cons rfl (Rdb.int Tryd.underlying2 (by kernel_rfl)) (RdbFs.cons rfl (Rdb.int Tryd.underlying2 (by kernel_rfl)) (RdbFs.cons rfl (Rdb.int Tryd.underlying2 (by kernel_rfl)) (RdbFs.cons rfl (Rdb.slice Tryd.underlying200 (by kernel_rfl) rdb69) (RdbFs.cons rfl (Rdb.slice Tryd.underlying52 (by kernel_rfl) (Rdb.int Tryd.underlying2 (by kernel_rfl))) (RdbFs.one (Rdb.slice Tryd.underlying25 (by kernel_rfl) (Rdb.int Tryd.underlying22 (by kernel_rfl))))))))))))) (fun y => (⟨y.1, y.2.1, y.2.2.1, y.2.2.2.1, y.2.2.2.2.1, y.2.2.2.2.2.1, y.2.2.2.2.2.2.1, y.2.2.2.2.2.2.2.1, y.2.2.2.2.2.2.2.2⟩ : S202)) (fun _ => rfl)
def ok184 (x : S184) : Prop := (x.f0.length ≤ 9223372036854775807 ∧ ∀ y ∈ x.f0, ok202 y)
set_option maxRecDepth 100000 in
theorem rdb184 : Rdb k184 Tryd.prog 184 ok184 := Rdb.iso (f := fun x : S184 => x.f0) (Rdb.struct Tryd.underlying184 (by kernel_rfl) [(182, 0)] rfl (RdbFs.one (Rdb.slice Tryd.underlying182 (by kernel_rfl) rdb202))) (fun y => (⟨y⟩ : S184)) (fun _ => rfl)
def ok145 (x : S145) : Prop := x.f0.size ≤ 9223372036854775807 ∧ (Lit.int .i64 x.f1).wf = true ∧ (x.f2.length ≤ 9223372036854775807 ∧ ∀ y ∈ x.f2, (Lit.int .i64 y).wf = true) ∧ (Lit.int .i64 x.f3).wf = true ∧ (x.f4.length ≤ 9223372036854775807 ∧ ∀ y ∈ x.f4, ok184 y)
set_option maxRecDepth 100000 in
theorem rdb145 : Rdb k145 Tryd.prog 145 ok145 := Rdb.iso (f := fun x : S145 => (x.f0, x.f1, x.f2, x.f3, x.f4)) (Rdb.struct Tryd.underlying145 (by kernel_rfl) [(9, 0), (2, 1), (52, 2), (2, 3), (143, 4)] rfl (RdbFs.cons rfl (Rdb.string Tryd.underlying9 (by kernel_rfl)) (RdbFs.cons rfl (Rdb.int Tryd.underlying2 (by kernel_rfl)) (RdbFs.cons rfl (Rdb.slice Tryd.underlying52 (by kernel_rfl) (Rdb.int Tryd.underlying2 (by kernel_rfl))) (RdbFs.cons rfl (Rdb.int Tryd.underlying2 (by kernel_rfl)) (RdbFs.one (Rdb.slice Tryd.underlying143 (by kernel_rfl) rdb184))))))) (fun y => (⟨y.1, y.2.1, y.2.2.1, y.2.2.2.1, y.2.2.2.2⟩ : S145)) (fun _ => rfl)
set_option maxRecDepth 100000 in
theorem rdbTop67 : Rdb (Kd.pair (Kd.slice 141 k141) (Kd.slice 145 k145)) Tryd.prog 67 (fun x => (x.1.length ≤ 9223372036854775807 ∧ ∀ y ∈ x.1, ok141 y) ∧ (x.2.length ≤ 9223372036854775807 ∧ ∀ y ∈ x.2, ok145 y)) := Rdb.struct Tryd.underlying67 (by kernel_rfl) [(64, 0), (65, 1)] rfl (RdbFs.cons rfl (Rdb.slice Tryd.underlying64 (by kernel_rfl) rdb141) (RdbFs.one (Rdb.slice Tryd.underlying65 (by kernel_rfl) rdb145)))
set_option maxRecDepth 100000 in
theorem rdbTop69 : Rdb (Kd.pair (Kd.int .i64) (Kd.pair (Kd.int .i64) (Kd.pair (Kd.int .i64) (Kd.int .u64)))) Tryd.prog 69 (fun x => (Lit.int .i64 x.1).wf = true ∧ (Lit.int .i64 x.2.1).wf = true ∧ (Lit.int .i64 x.2.2.1).wf = true ∧ (Lit.int .u64 x.2.2.2).wf = true) := Rdb.struct Tryd.underlying69 (by kernel_rfl) [(2, 0), (2, 1), (2, 2), (22, 3)] rfl (RdbFs.cons rfl (Rdb.int Tryd.underlying2 (by kernel_rfl)) (RdbFs.cons rfl (Rdb.int Tryd.underlying2 (by kernel_rfl)) (RdbFs.cons rfl (Rdb.int Tryd.underlying2 (by kernel_rfl)) (RdbFs.one (Rdb.int Tryd.underlying22 (by kernel_rfl))))))
end Go.Proofs.YtkohjiajbdkcbaaDoor.All


/- FnExactFormatOperand: the printed law is true of all arguments. -/
namespace Go.Proofs.YtkohjiajbdkcbaaDoor.Pure
open Go.Proofs.YtkohjiajbdkcbaaDoor.All
open Go.RowKit Go.Proofs.YtkohjiajbdkcbaaDoorW.PrintWords Go.Proofs.YtkohjiajbdkcbaaDoorW.PrintLast Go.Proofs.YtkohjiajbdkcbaaDoorW.PrintMore
set_option linter.unusedVariables false
set_option linter.unusedSimpArgs false
theorem lGlobalS_ok {l : List S141} (h : l.length ≤ 9223372036854775807 ∧ ∀ y ∈ l, ok141 y) : lGlobalS l := by
  refine ⟨h.1, fun b hb => ?_⟩
  have h1 := h.2 b hb
  unfold ok141 at h1
  obtain ⟨g0, _, _, _, g4⟩ := h1
  exact ⟨g0, g4.1⟩
theorem lFuncS_ok {l : List S145} (h : l.length ≤ 9223372036854775807 ∧ ∀ y ∈ l, ok145 y) : lFuncS l := by
  refine ⟨h.1, fun f hf => ?_⟩
  have h0 := h.2 f hf
  unfold ok145 at h0
  obtain ⟨g0, _, g2, _, g4⟩ := h0
  refine ⟨g0, g2.1, g4.1, fun b hb => ?_⟩
  have h1 := g4.2 b hb
  unfold ok184 at h1
  refine ⟨h1.1, fun x hx => ?_⟩
  have h2 := h1.2 x hx
  unfold ok202 at h2
  obtain ⟨_, _, _, _, _, _, h6, h7, h8⟩ := h2
  exact ⟨h6.1, h7.1, h8.1⟩
theorem globalS_name {xs : List S141} {i : Nat} (h : sGlobalS xs ≤ 1048576) (hi : i < xs.length) : ((xs.map iGlobal).getD i z127).f0.size ≤ 1048576 := by
  have h1 := atGlobalS h hi
  rw [getD_eq hi] at h1
  rw [getD_eq (by simpa using hi), List.getElem_map]
  unfold sGlobal at h1
  show xs[i].f0.size ≤ _
  omega
/-- What both say. -/
def operandText (gs : List S127) (kd ty ix wd : Int) : ByteArray :=
  if kd = 1 then (if VW ty ∧ wd < pw ty then fmtW ty wd else ⟨#[]⟩) else if kd = 2 then ⟨#[110, 117, 108, 108]⟩ else if kd = 3 then ⟨#[112, 111, 105, 115, 111, 110]⟩ else
  if kd = 4 then ⟨#[37]⟩ ++ bsOf (Lib.itoa ix) else if kd = 5 ∧ 0 ≤ ix ∧ ix < (gs.length : Int) then ⟨#[64]⟩ ++ (rd_T127 gs ix).f0 else ⟨#[]⟩
theorem FnExactFormatOperand : ∀ (l0_0 : List S141) (l0_1 : List S145) (a1_0 : Int) (a1_1 : Int) (a1_2 : Int) (a1_3 : Int), (l0_0.length ≤ 9223372036854775807 ∧ ∀ y ∈ l0_0, ok141 y) → (l0_1.length ≤ 9223372036854775807 ∧ ∀ y ∈ l0_1, ok145 y) → (Lit.int .i64 a1_0).wf = true → (Lit.int .i64 a1_1).wf = true → (Lit.int .i64 a1_2).wf = true → (Lit.int .u64 a1_3).wf = true → ∃ k, laws_FnExactFormatOperand.f k l0_0 l0_1 a1_0 a1_1 a1_2 a1_3 = some true := by
  intro gs fs kd ty ix wd hg hf _ _ hix hwd
  refine Ev.rounds ?_
  unfold laws_FnExactFormatOperand.f
  have hi : -9223372036854775808 ≤ ix ∧ ix ≤ 9223372036854775807 := bounds_i64 hix
  have hw : 0 ≤ wd ∧ wd < 18446744073709551616 := by have := bounds_u64 hwd; omega
  refine Ev.bind (szModule_f gs fs 1048576 (by omega) (by omega) ⟨lGlobalS_ok hg, lFuncS_ok hf⟩) ?_
  by_cases hs : ((sModule gs fs : Nat) : Int) ≤ 1048576
  · rw [if_pos hs]
    refine Ev.neg (by omega) ?_
    have hs' : sModule gs fs ≤ 1048576 := by omega
    have ht := toModule_f gs fs hs'
    have hE := eqModule_f _ _ (bModule_of gs fs hs')
    have hsg : sGlobalS gs ≤ 1048576 := by unfold sModule at hs'; omega
    have hname : ∀ i : Int, 0 ≤ i → i < ((gs.map iGlobal).length : Int) → (rd_T127 (gs.map iGlobal) i).f0.size ≤ 1048576 := fun i h0 h1 => globalS_name hsg (by rw [List.length_map] at h1; omega)
    have hil := Lib.itoa_length_le ix hi.1 hi.2
    have hS : Ev (fun k => spec_FormatOperand.f k (gs.map iGlobal) (fs.map iFunc) kd ty ix wd) (operandText (gs.map iGlobal) kd ty ix wd) := by
      unfold spec_FormatOperand.f operandText
      by_cases k1 : kd = 1
      · rw [if_pos k1]
        refine Ev.pos k1 ?_
        by_cases hv : VW ty ∧ wd < pw ty
        · rw [if_pos hv]
          exact Ev.bind (fmtS_f hv.1 hw.1 hv.2) (Ev.now _)
        · rw [if_neg hv]
          exact Ev.bind (fmtS_no hw.1 hw.2 hv) (Ev.now _)
      rw [if_neg k1]
      refine Ev.neg k1 ?_
      by_cases k2 : kd = 2
      · rw [if_pos k2]; exact Ev.pos k2 (Ev.now _)
      rw [if_neg k2]
      refine Ev.neg k2 ?_
      by_cases k3 : kd = 3
      · rw [if_pos k3]; exact Ev.pos k3 (Ev.now _)
      rw [if_neg k3]
      refine Ev.neg k3 ?_
      by_cases k4 : kd = 4
      · rw [if_pos k4]
        exact Ev.pos k4 (Ev.bind (l3Int_f hi.1 hi.2) (Ev.pos (by rw [bsOf_size]; omega) (Ev.now _)))
      rw [if_neg k4]
      refine Ev.neg k4 ?_
      by_cases k5 : kd = 5
      · refine Ev.pos k5 ?_
        by_cases h0 : 0 ≤ ix
        · refine Ev.pos h0 ?_
          by_cases h1 : ix < ((gs.map iGlobal).length : Int)
          · have := hname ix h0 h1
            have hc : kd = 5 ∧ 0 ≤ ix ∧ ix < ((gs.map iGlobal).length : Int) := ⟨k5, h0, h1⟩
            rw [if_pos hc]
            exact Ev.pos h1 (Ev.pos h0 (Ev.pos (by omega) (Ev.now _)))
          · rw [if_neg (fun h : kd = 5 ∧ 0 ≤ ix ∧ ix < ((gs.map iGlobal).length : Int) => h1 h.2.2)]
            exact Ev.neg h1 (Ev.now _)
        · rw [if_neg (fun h : kd = 5 ∧ 0 ≤ ix ∧ ix < ((gs.map iGlobal).length : Int) => h0 h.2.1)]
          exact Ev.neg h0 (Ev.now _)
      · rw [if_neg (fun h : kd = 5 ∧ 0 ≤ ix ∧ ix < ((gs.map iGlobal).length : Int) => k5 h.1)]
        exact Ev.neg k5 (Ev.now _)
    have hI : impl_FormatOperand.f (gs.map iGlobal) (fs.map iFunc) kd ty ix wd = some (operandText (gs.map iGlobal) kd ty ix wd) := by
      unfold impl_FormatOperand.f operandText
      by_cases k1 : kd = 1
      · rw [if_pos k1, if_pos k1]
        by_cases hv : VW ty ∧ wd < pw ty
        · rw [if_pos hv, fmtI_f hv.1 hw.1 hv.2]; rfl
        · rw [if_neg hv, fmtI_no hw.1 hw.2 hv]; rfl
      rw [if_neg k1, if_neg k1]
      by_cases k2 : kd = 2
      · rw [if_pos k2, if_pos k2]
      rw [if_neg k2, if_neg k2]
      by_cases k3 : kd = 3
      · rw [if_pos k3, if_pos k3]
      rw [if_neg k3, if_neg k3]
      by_cases k4 : kd = 4
      · rw [if_pos k4, if_pos k4]
        unfold strconv_FormatInt_39.f
        rw [if_pos hi.1, if_pos hi.2, if_pos rfl]; simp only [Option.bind_some]
        rw [if_pos (by show 1 + (bsOf (Lib.itoa ix)).size ≤ _; rw [bsOf_size]; omega)]; rfl
      rw [if_neg k4, if_neg k4]
      by_cases k5 : kd = 5
      · rw [if_pos k5]
        by_cases h0 : 0 ≤ ix
        · rw [if_pos h0]
          by_cases h1 : ix < ((gs.map iGlobal).length : Int)
          · have := hname ix h0 h1
            have hc : kd = 5 ∧ 0 ≤ ix ∧ ix < ((gs.map iGlobal).length : Int) := ⟨k5, h0, h1⟩
            rw [if_pos h1, if_pos h0, if_pos (by omega), if_pos hc]
          · rw [if_neg h1, if_neg (fun h : kd = 5 ∧ 0 ≤ ix ∧ ix < ((gs.map iGlobal).length : Int) => h1 h.2.2)]
        · rw [if_neg h0, if_neg (fun h : kd = 5 ∧ 0 ≤ ix ∧ ix < ((gs.map iGlobal).length : Int) => h0 h.2.1)]
      · rw [if_neg k5, if_neg (fun h : kd = 5 ∧ 0 ≤ ix ∧ ix < ((gs.map iGlobal).length : Int) => k5 h.1)]
    have hO : laws_toOperand.f kd ty ix wd = some (kd, ty, ix, wd) := rfl
    generalize operandText (gs.map iGlobal) kd ty ix wd = r at hS hI
    refine Ev.bind ht (Ev.eq_bind hO (Ev.bind hS (Ev.bind ht (Ev.eq_bind hO (Ev.eq_bind hI (Ev.pos rfl (Ev.bind ht (Ev.bind hE (Ev.pos rfl (Ev.now _))))))))))
  · rw [if_neg hs]
    exact Ev.pos (by omega) (Ev.now _)
end Go.Proofs.YtkohjiajbdkcbaaDoor.Pure


/- From the row's list of package-level variables to the facts of Laid. -/
namespace Go.Proofs.YtkohjiajbdkcbaaDoor.All
open Go.RowKit Go.Proofs.YtkohjiajbdkcbaaDoorW.PrintWords Go.Proofs.YtkohjiajbdkcbaaDoorW.PrintLast Go.Proofs.YtkohjiajbdkcbaaDoorW.PrintMore
set_option linter.unusedVariables false
set_option linter.unusedSimpArgs false
theorem var_kept {P : Program} {W w' : World} {n : String} {cs : Array Value} (h : W.var? P n = some cs) (hb : Below W.heap.size W w') : w'.var? P n = some cs := by
  unfold World.var? at h ⊢
  cases hg : P.globalNamed n with
  | none => rw [hg] at h; cases h
  | some g =>
    rw [hg] at h
    simp only [Option.bind_some] at h ⊢
    have hl : g < W.heap.size := by
      rcases Nat.lt_or_ge g W.heap.size with hl | hl
      · exact hl
      · rw [Array.getElem?_eq_none hl] at h; cases h
    rw [hb.block g hl]
    exact h
theorem ltTab_of {W : World} {x y : String × DataW Unit} {r : List (String × DataW Unit)} (h : laidMet Tryd.prog (x :: y :: ("internal/strconv.uint64pow10", Lib.tabData .u64 Lib.pow10Tab) :: r) W) : LtTab W := fun w' hb => by
  have h2 := Lib.tabIs_of_head (g := 0) (t := 171) (e := 22) (n := 20) (by kernel_rfl) (by kernel_rfl) Tryd.underlying171 Tryd.underlying22 (by kernel_rfl) (by kernel_rfl) h.tail.tail
  exact var_kept h2 hb
end Go.Proofs.YtkohjiajbdkcbaaDoor.All

