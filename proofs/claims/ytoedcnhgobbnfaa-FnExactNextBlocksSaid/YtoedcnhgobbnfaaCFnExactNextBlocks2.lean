/- Part 2 of the proof of FnExactNextBlocks: functions of the translation with what they return, and plain laws of these. Written by programs of this session over the kit's print, and by hand. -/
import Derived.Test.YtoedcnhgobbnfaaProg
import Derived.Test.YtoedcnhgobbnfaaWApart
import Derived.Test.YtoedcnhgobbnfaaWArr
import Derived.Test.YtoedcnhgobbnfaaWFoot
import Derived.Test.YtoedcnhgobbnfaaWGuard
import Derived.Test.YtoedcnhgobbnfaaWKept
import Derived.Test.YtoedcnhgobbnfaaWLast
import Derived.Test.YtoedcnhgobbnfaaWMore
import Derived.Test.YtoedcnhgobbnfaaWN
import Derived.Test.YtoedcnhgobbnfaaWNEv
import Derived.Test.YtoedcnhgobbnfaaWQPut
import Derived.Test.YtoedcnhgobbnfaaWRepsOne
import Derived.Test.YtoedcnhgobbnfaaWShare
import Derived.Test.YtoedcnhgobbnfaaWTab
import Derived.Test.YtoedcnhgobbnfaaWWords
import Derived.Test.YtoedcnhgobbnfaaWZeros
import Derived.Below
import Derived.Deep.Draws
import Derived.Deep.AppendLies
import Derived.Maps.AppendAt
import Derived.OwnWalk
import Derived.Laws.BytesArg
import Derived.Laws.MakeOwn
import Derived.Laws.OwnMore
import Derived.Deep.OwnRows
import Derived.Tactics
import Derived.Lib.ConvBytes
import Derived.Laws.Slices
import Derived.WalkKit
import Derived.KernelRfl
import Derived.RowKit3
import Derived.Deep.LoopGhost
import Derived.Deep.QuietTactic
import Derived.BigQuiet
import Derived.WideLaws
import Derived.Deep.DeepCutAuto
import Derived.Deep.CutBlock
import Derived.Deep.RegionHeld3
import Derived.Laws.Rows
import Derived.Lib.AppendStr
import Derived.ArgAppend
import Derived.Laws.IdiomCopy
import Derived.OrdersHeld
import Derived.Laws.BitsLemmas
import Derived.RowKit
import Derived.Maps.OwnSet
import Derived.Maps.OwnOps
import Derived.Deep.Slices
import Derived.ChangeArms
import Derived.ProofKit
import Derived.OpenShut
import Derived.ShutString
import Derived.ChangeOld
import Derived.SizedLaws
import Derived.Test.YtoedcnhgobbnfaaCFnExactNextBlocks1
namespace Go.Proofs.Ytoedcnhgobbnfaa.All
open Go.RowKit Go.Proofs.YtoedcnhgobbnfaaW.PrintWords Go.Proofs.YtoedcnhgobbnfaaW.PrintLast Go.Proofs.YtoedcnhgobbnfaaW.PrintMore
attribute [local go_sem] max2_int min2_int max_two min_two max_three min_three max_four min_four   -- for this text's walks alone
set_option linter.unusedVariables false
set_option linter.unusedSimpArgs false

/-! ### laws_toInstr: function 108 -/
def laws_toInstr.f (k : Nat) (a0_0 : Int) (a0_1 : Int) (a0_2 : Int) (a0_3 : Int) (a0_4 : Int) (a0_5 : Int) (l0_6 : List (S158)) (l0_7 : List Int) (l0_8 : List Int) : Option (Int × Int × Int × Int × Int × Int × (List (S75)) × List Int × List Int) := (laws_toOperandS.f k l0_6).bind fun t189 => ((laws_toInt64S.f k l0_7).bind fun t192 => ((laws_toUint64S.f k l0_8).bind fun t195 => (some (a0_0, a0_1, a0_2, a0_3, a0_4, a0_5, t189, t192, t195))))
set_option maxHeartbeats 8000000 in
set_option maxRecDepth 100000 in
theorem laws_toInstr.calls (k : Nat) (a0_0 : Int) (a0_1 : Int) (a0_2 : Int) (a0_3 : Int) (a0_4 : Int) (a0_5 : Int) (A0_6 : Option Addr) (c0_6 : Nat) (l0_6 : List (S158)) (A0_7 : Option Addr) (c0_7 : Nat) (l0_7 : List Int) (A0_8 : Option Addr) (c0_8 : Nat) (l0_8 : List Int) (r1 : Int) (r2 : Int) (r3 : Int) (r4 : Int) (r5 : Int) (r6 : Int) (r7 : List (S75)) (r8 : List Int) (r9 : List Int) (w : World) (hr0_6 : Kd.C k158 w A0_6 l0_6.length l0_6) (hc0_6 : l0_6.length ≤ c0_6) (hr0_7 : Kd.C (Kd.int .i64) w A0_7 l0_7.length l0_7) (hc0_7 : l0_7.length ≤ c0_7) (hr0_8 : Kd.C (Kd.int .u64) w A0_8 l0_8.length l0_8) (hc0_8 : l0_8.length ≤ c0_8) (h : laws_toInstr.f k a0_0 a0_1 a0_2 a0_3 a0_4 a0_5 l0_6 l0_7 l0_8 = some (r1, r2, r3, r4, r5, r6, r7, r8, r9)) :
    Calls Try.prog 108 #[.agg #[.int .i64 a0_0, .int .i64 a0_1, .int .i64 a0_2, .int .i64 a0_3, .int .i64 a0_4, .int .i64 a0_5, .slice A0_6 l0_6.length c0_6, .slice A0_7 l0_7.length c0_7, .slice A0_8 l0_8.length c0_8]] w fun e w' => ∃ v6_ v7_ v8_ : Value, e = .returned (.agg #[.int .i64 r1, .int .i64 r2, .int .i64 r3, .int .i64 r4, .int .i64 r5, .int .i64 r6, v6_, v7_, v8_]) ∧ Kd.R k75 75 w' w.heap.size (fun _ => True) v6_ r7 ∧ Kd.R (Kd.int .i64) 2 w' w.heap.size (fun _ => True) v7_ r8 ∧ Kd.R (Kd.int .u64) 73 w' w.heap.size (fun _ => True) v8_ r9 ∧ Below w.heap.size w w' := by
  have hu140 := Try.underlying140
  have hu66 := Try.underlying66
  have HR0_6 := Aside0.mk hr0_6
  have HC0_6 := Aside0.mk hc0_6
  clear hr0_6 hc0_6
  have HR0_7 := Aside0.mk hr0_7
  have HC0_7 := Aside0.mk hc0_7
  clear hr0_7 hc0_7
  have HR0_8 := Aside0.mk hr0_8
  have HC0_8 := Aside0.mk hc0_8
  clear hr0_8 hc0_8
  have HB := Aside0.mk (Below.refl w.heap.size w)
  have H : ((laws_toOperandS.f k l0_6).bind fun t189 => ((laws_toInt64S.f k l0_7).bind fun t192 => ((laws_toUint64S.f k l0_8).bind fun t195 => (some (a0_0, a0_1, a0_2, a0_3, a0_4, a0_5, t189, t192, t195))))) = some (r1, r2, r3, r4, r5, r6, r7, r8, r9) := h
  clear h
  replace H := Option.bind_eq_some_iff.mp H
  obtain ⟨t189, A20, H⟩ := H
  replace H : ((laws_toInt64S.f k l0_7).bind fun t192 => ((laws_toUint64S.f k l0_8).bind fun t195 => (some (a0_0, a0_1, a0_2, a0_3, a0_4, a0_5, t189, t192, t195)))) = some (r1, r2, r3, r4, r5, r6, r7, r8, r9) := H
  have A2 := Aside0.mk A20
  clear A20
  replace H := Option.bind_eq_some_iff.mp H
  obtain ⟨t192, A30, H⟩ := H
  replace H : ((laws_toUint64S.f k l0_8).bind fun t195 => (some (a0_0, a0_1, a0_2, a0_3, a0_4, a0_5, t189, t192, t195))) = some (r1, r2, r3, r4, r5, r6, r7, r8, r9) := H
  have A3 := Aside0.mk A30
  clear A30
  replace H := Option.bind_eq_some_iff.mp H
  obtain ⟨t195, A40, H⟩ := H
  replace H : (some (a0_0, a0_1, a0_2, a0_3, a0_4, a0_5, t189, t192, t195)) = some (r1, r2, r3, r4, r5, r6, r7, r8, r9) := H
  have A4 := Aside0.mk A40
  clear A40
  simp only [Option.some.injEq, Prod.mk.injEq] at H
  obtain ⟨rfl, rfl, rfl, rfl, rfl, rfl, rfl, rfl, rfl⟩ := H
  go_enter Try.func108, Try.ntmps108
  go_wp2_with (first | ((with_reducible refine gate_dst (N := 1) rfl ?_); refine box_event ?hg (N := 1) ?hd (cs := #[.int .i64 a0_0, .int .i64 a0_1, .int .i64 a0_2, .int .i64 a0_3, .int .i64 a0_4, .int .i64 a0_5, .slice A0_6 l0_6.length c0_6, .slice A0_7 l0_7.length c0_7, .slice A0_8 l0_8.length c0_8]) (t := 140) ?hr ?_; (case hd => rfl); (case hg => rfl); (case hr => first | (go_simp; done) | (go_simp; rfl)); intro gb186 hg w5 hbox hb; have n0_ := Aside0.mk (below_step (by repeat (first | (with_reducible first | exact HB.out | apply below_alloc | apply pw_below_drewN | apply below_drew1) | exact HB.out)) hb); have n1_ := Aside0.mk (hbox); have n2_ := Aside0.mk ((by rw [hg]; exact (below_size (by repeat (first | (with_reducible first | exact HB.out | apply below_alloc | apply pw_below_drewN | apply below_drew1) | exact HB.out))) : w.heap.size ≤ gb186)); have n3_ := Aside0.mk ((by rw [hg]; exact (below_size (by repeat (first | (with_reducible first | exact HB.out | apply below_alloc | apply pw_below_drewN | apply below_drew1) | exact HB.out))) : w.heap.size ≤ gb186)); clear HB; have HB := n0_; have BK186 := n1_; have GW186 := n2_; have GE186 := n3_; clear n0_ n1_ n2_ n3_; clear hb hbox hg) | ((with_reducible refine gate_dst (N := 2) rfl ?_); refine box_event ?hg (N := 2) ?hd (cs := #[.int .i64 0, .int .i64 0, .int .i64 0, .int .i64 0, .int .i64 0, .int .i64 0, .slice none 0 0, .slice none 0 0, .slice none 0 0]) (t := 66) ?hr ?_; (case hd => rfl); (case hg => rfl); (case hr => first | (go_simp; done) | (go_simp; rfl)); intro gb187 hg w6 hbox hb; have n0_ := Aside0.mk (blk_below (g := gb186) (o := .cells #[.int .i64 a0_0, .int .i64 a0_1, .int .i64 a0_2, .int .i64 a0_3, .int .i64 a0_4, .int .i64 a0_5, .slice A0_6 l0_6.length c0_6, .slice A0_7 l0_7.length c0_7, .slice A0_8 l0_8.length c0_8] 140 (0, 0)) (by (with_reducible repeat (first | refine blk_drewN ?_ _ | refine blk_drew ?_ | refine blk_alloc ?_ _)); exact BK186.out) hb); have n1_ := Aside0.mk (below_step (by repeat (first | (with_reducible first | exact HB.out | apply below_alloc | apply pw_below_drewN | apply below_drew1 | refine below_set ?_ GE186.out) | exact HB.out)) hb); have n2_ := Aside0.mk (hbox); have n3_ := Aside0.mk ((by rw [hg]; exact (below_size (by repeat (first | (with_reducible first | exact HB.out | apply below_alloc | apply pw_below_drewN | apply below_drew1 | refine below_set ?_ GE186.out) | exact HB.out))) : w.heap.size ≤ gb187)); have n4_ := Aside0.mk ((by rw [hg]; exact (below_size (by repeat (first | (with_reducible first | exact HB.out | apply below_alloc | apply pw_below_drewN | apply below_drew1 | refine below_set ?_ GE186.out) | exact HB.out))) : w.heap.size ≤ gb187)); have n5_ := Aside0.mk ((by rw [hg]; exact Nat.ne_of_lt (blk_lt (g := gb186) (o := .cells #[.int .i64 a0_0, .int .i64 a0_1, .int .i64 a0_2, .int .i64 a0_3, .int .i64 a0_4, .int .i64 a0_5, .slice A0_6 l0_6.length c0_6, .slice A0_7 l0_7.length c0_7, .slice A0_8 l0_8.length c0_8] 140 (0, 0)) (by (with_reducible repeat (first | refine blk_drewN ?_ _ | refine blk_drew ?_ | refine blk_alloc ?_ _)); exact BK186.out)) : gb186 ≠ gb187)); have n6_ := Aside0.mk ((by rw [hg]; exact Nat.ne_of_gt (blk_lt (g := gb186) (o := .cells #[.int .i64 a0_0, .int .i64 a0_1, .int .i64 a0_2, .int .i64 a0_3, .int .i64 a0_4, .int .i64 a0_5, .slice A0_6 l0_6.length c0_6, .slice A0_7 l0_7.length c0_7, .slice A0_8 l0_8.length c0_8] 140 (0, 0)) (by (with_reducible repeat (first | refine blk_drewN ?_ _ | refine blk_drew ?_ | refine blk_alloc ?_ _)); exact BK186.out)) : gb187 ≠ gb186)); clear BK186; clear HB; have BK186 := n0_; have HB := n1_; have BK187 := n2_; have GW187 := n3_; have GE187 := n4_; have NB186_187 := n5_; have NB187_186 := n6_; clear n0_ n1_ n2_ n3_ n4_ n5_ n6_; clear hb hbox hg) | ((with_reducible refine gate_dst (N := 3) rfl ?_); refine box_event ?hg (N := 3) ?hd (cs := #[.int .i64 0, .int .i64 0, .int .i64 0, .int .i64 0, .int .i64 0, .int .i64 0, .slice none 0 0, .slice none 0 0, .slice none 0 0]) (t := 66) ?hr ?_; (case hd => rfl); (case hg => rfl); (case hr => first | (go_simp; done) | (go_simp; rfl)); intro gb188 hg w7 hbox hb; have n0_ := Aside0.mk (blk_below (g := gb186) (o := .cells #[.int .i64 a0_0, .int .i64 a0_1, .int .i64 a0_2, .int .i64 a0_3, .int .i64 a0_4, .int .i64 a0_5, .slice A0_6 l0_6.length c0_6, .slice A0_7 l0_7.length c0_7, .slice A0_8 l0_8.length c0_8] 140 (0, 0)) (by (with_reducible repeat (first | refine blk_drewN ?_ _ | refine blk_drew ?_ | refine blk_alloc ?_ _)); exact BK186.out) hb); have n1_ := Aside0.mk (blk_below (g := gb187) (o := .cells #[.int .i64 0, .int .i64 0, .int .i64 0, .int .i64 0, .int .i64 0, .int .i64 0, .slice none 0 0, .slice none 0 0, .slice none 0 0] 66 (0, 0)) (by (with_reducible repeat (first | refine blk_drewN ?_ _ | refine blk_drew ?_ | refine blk_alloc ?_ _)); exact BK187.out) hb); have n2_ := Aside0.mk (below_step (by repeat (first | (with_reducible first | exact HB.out | apply below_alloc | apply pw_below_drewN | apply below_drew1 | refine below_set ?_ GE186.out | refine below_set ?_ GE187.out) | exact HB.out)) hb); have n3_ := Aside0.mk (hbox); have n4_ := Aside0.mk ((by rw [hg]; exact (below_size (by repeat (first | (with_reducible first | exact HB.out | apply below_alloc | apply pw_below_drewN | apply below_drew1 | refine below_set ?_ GE186.out | refine below_set ?_ GE187.out) | exact HB.out))) : w.heap.size ≤ gb188)); have n5_ := Aside0.mk ((by rw [hg]; exact (below_size (by repeat (first | (with_reducible first | exact HB.out | apply below_alloc | apply pw_below_drewN | apply below_drew1 | refine below_set ?_ GE186.out | refine below_set ?_ GE187.out) | exact HB.out))) : w.heap.size ≤ gb188)); have n6_ := Aside0.mk ((by rw [hg]; exact Nat.ne_of_lt (blk_lt (g := gb186) (o := .cells #[.int .i64 a0_0, .int .i64 a0_1, .int .i64 a0_2, .int .i64 a0_3, .int .i64 a0_4, .int .i64 a0_5, .slice A0_6 l0_6.length c0_6, .slice A0_7 l0_7.length c0_7, .slice A0_8 l0_8.length c0_8] 140 (0, 0)) (by (with_reducible repeat (first | refine blk_drewN ?_ _ | refine blk_drew ?_ | refine blk_alloc ?_ _)); exact BK186.out)) : gb186 ≠ gb188)); have n7_ := Aside0.mk ((by rw [hg]; exact Nat.ne_of_gt (blk_lt (g := gb186) (o := .cells #[.int .i64 a0_0, .int .i64 a0_1, .int .i64 a0_2, .int .i64 a0_3, .int .i64 a0_4, .int .i64 a0_5, .slice A0_6 l0_6.length c0_6, .slice A0_7 l0_7.length c0_7, .slice A0_8 l0_8.length c0_8] 140 (0, 0)) (by (with_reducible repeat (first | refine blk_drewN ?_ _ | refine blk_drew ?_ | refine blk_alloc ?_ _)); exact BK186.out)) : gb188 ≠ gb186)); have n8_ := Aside0.mk ((by rw [hg]; exact Nat.ne_of_lt (blk_lt (g := gb187) (o := .cells #[.int .i64 0, .int .i64 0, .int .i64 0, .int .i64 0, .int .i64 0, .int .i64 0, .slice none 0 0, .slice none 0 0, .slice none 0 0] 66 (0, 0)) (by (with_reducible repeat (first | refine blk_drewN ?_ _ | refine blk_drew ?_ | refine blk_alloc ?_ _)); exact BK187.out)) : gb187 ≠ gb188)); have n9_ := Aside0.mk ((by rw [hg]; exact Nat.ne_of_gt (blk_lt (g := gb187) (o := .cells #[.int .i64 0, .int .i64 0, .int .i64 0, .int .i64 0, .int .i64 0, .int .i64 0, .slice none 0 0, .slice none 0 0, .slice none 0 0] 66 (0, 0)) (by (with_reducible repeat (first | refine blk_drewN ?_ _ | refine blk_drew ?_ | refine blk_alloc ?_ _)); exact BK187.out)) : gb188 ≠ gb187)); clear BK186; clear BK187; clear HB; have BK186 := n0_; have BK187 := n1_; have HB := n2_; have BK188 := n3_; have GW188 := n4_; have GE188 := n5_; have NB186_188 := n6_; have NB188_186 := n7_; have NB187_188 := n8_; have NB188_187 := n9_; clear n0_ n1_ n2_ n3_ n4_ n5_ n6_ n7_ n8_ n9_; clear hb hbox hg; have hnb8 := NB186_187.out; have hnc8 := NB187_186.out; have hnb9 := NB186_188.out; have hnc9 := NB188_186.out; have hcz10_0 : w7.cell? ⟨gb186, 0, none⟩ = some (.int .i64 a0_0) := (blk_cell BK186.out 0).trans rfl; have hcz10_1 : w7.cell? ⟨gb186, 1, none⟩ = some (.int .i64 a0_1) := (blk_cell BK186.out 1).trans rfl; have hcz10_2 : w7.cell? ⟨gb186, 2, none⟩ = some (.int .i64 a0_2) := (blk_cell BK186.out 2).trans rfl; have hcz10_3 : w7.cell? ⟨gb186, 3, none⟩ = some (.int .i64 a0_3) := (blk_cell BK186.out 3).trans rfl; have hcz10_4 : w7.cell? ⟨gb186, 4, none⟩ = some (.int .i64 a0_4) := (blk_cell BK186.out 4).trans rfl; have hcz10_5 : w7.cell? ⟨gb186, 5, none⟩ = some (.int .i64 a0_5) := (blk_cell BK186.out 5).trans rfl; have hcz10_6 : w7.cell? ⟨gb186, 6, none⟩ = some (.slice A0_6 l0_6.length c0_6) := (blk_cell BK186.out 6).trans rfl; have hcz10_7 : w7.cell? ⟨gb186, 7, none⟩ = some (.slice A0_7 l0_7.length c0_7) := (blk_cell BK186.out 7).trans rfl; have hcz10_8 : w7.cell? ⟨gb186, 8, none⟩ = some (.slice A0_8 l0_8.length c0_8) := (blk_cell BK186.out 8).trans rfl; have hfz10_0 := blk_frozen BK186.out 0; have hfz10_1 := blk_frozen BK186.out 1; have hfz10_2 := blk_frozen BK186.out 2; have hfz10_3 := blk_frozen BK186.out 3; have hfz10_4 := blk_frozen BK186.out 4; have hfz10_5 := blk_frozen BK186.out 5; have hfz10_6 := blk_frozen BK186.out 6; have hfz10_7 := blk_frozen BK186.out 7; have hfz10_8 := blk_frozen BK186.out 8; have hnb11 := NB188_187.out; have hnc11 := NB187_188.out; have hcz12_0 : w7.cell? ⟨gb188, 0, none⟩ = some (.int .i64 0) := (blk_cell BK188.out 0).trans rfl; have hcz12_1 : w7.cell? ⟨gb188, 1, none⟩ = some (.int .i64 0) := (blk_cell BK188.out 1).trans rfl; have hcz12_2 : w7.cell? ⟨gb188, 2, none⟩ = some (.int .i64 0) := (blk_cell BK188.out 2).trans rfl; have hcz12_3 : w7.cell? ⟨gb188, 3, none⟩ = some (.int .i64 0) := (blk_cell BK188.out 3).trans rfl; have hcz12_4 : w7.cell? ⟨gb188, 4, none⟩ = some (.int .i64 0) := (blk_cell BK188.out 4).trans rfl; have hcz12_5 : w7.cell? ⟨gb188, 5, none⟩ = some (.int .i64 0) := (blk_cell BK188.out 5).trans rfl; have hcz12_6 : w7.cell? ⟨gb188, 6, none⟩ = some (.slice none 0 0) := (blk_cell BK188.out 6).trans rfl; have hcz12_7 : w7.cell? ⟨gb188, 7, none⟩ = some (.slice none 0 0) := (blk_cell BK188.out 7).trans rfl; have hcz12_8 : w7.cell? ⟨gb188, 8, none⟩ = some (.slice none 0 0) := (blk_cell BK188.out 8).trans rfl; have hfz12_0 := blk_frozen BK188.out 0; have hfz12_1 := blk_frozen BK188.out 1; have hfz12_2 := blk_frozen BK188.out 2; have hfz12_3 := blk_frozen BK188.out 3; have hfz12_4 := blk_frozen BK188.out 4; have hfz12_5 := blk_frozen BK188.out 5; have hfz12_6 := blk_frozen BK188.out 6; have hfz12_7 := blk_frozen BK188.out 7; have hfz12_8 := blk_frozen BK188.out 8) | ((with_reducible refine gate_callee (f := 118) rfl ?_); refine goesL_ (some 24) rfl rfl Try.func118 (by kernel_rfl) rfl #[.slice A0_6 l0_6.length c0_6] rfl (by (try simp only [List.map_toArray, List.map_cons, List.map_nil]); first | done | rfl | (simp only [List.length_drop, List.length_take]; rfl)) ?_; (with_reducible refine (laws_toOperandS.calls k _ _ l0_6 t189 _ ?side1 ?side2 A2.out).mono ?_); (case side1 => exact Kd.C_below HR0_6.out (by repeat (first | (with_reducible first | exact HB.out | apply below_alloc | apply pw_below_drewN | apply below_drew1 | refine below_set ?_ GE186.out | refine below_set ?_ GE187.out | refine below_set ?_ GE188.out) | exact HB.out))); (case side2 => exact HC0_6.out); rintro e w13 ⟨v190, rfl, ho0, hb⟩; refine ⟨_, rfl, ?_⟩; have n0_ := Aside0.mk (Kd.R_lower ho0 (below_size (by repeat (first | (with_reducible first | exact HB.out | apply below_alloc | apply pw_below_drewN | apply below_drew1 | refine below_set ?_ GE186.out | refine below_set ?_ GE187.out | refine below_set ?_ GE188.out) | exact HB.out)))); have n1_ := Aside0.mk (blk_below (g := gb186) (o := .cells #[.int .i64 a0_0, .int .i64 a0_1, .int .i64 a0_2, .int .i64 a0_3, .int .i64 a0_4, .int .i64 a0_5, .slice A0_6 l0_6.length c0_6, .slice A0_7 l0_7.length c0_7, .slice A0_8 l0_8.length c0_8] 140 (0, 0)) (by (with_reducible repeat (first | refine blk_drewN ?_ _ | refine blk_drew ?_ | refine blk_alloc ?_ _)); refine blk_far ?_ NB186_188.out _; (with_reducible repeat (first | refine blk_drewN ?_ _ | refine blk_drew ?_ | refine blk_alloc ?_ _)); refine blk_far ?_ NB186_188.out _; (with_reducible repeat (first | refine blk_drewN ?_ _ | refine blk_drew ?_ | refine blk_alloc ?_ _)); refine blk_far ?_ NB186_188.out _; (with_reducible repeat (first | refine blk_drewN ?_ _ | refine blk_drew ?_ | refine blk_alloc ?_ _)); refine blk_far ?_ NB186_188.out _; (with_reducible repeat (first | refine blk_drewN ?_ _ | refine blk_drew ?_ | refine blk_alloc ?_ _)); refine blk_far ?_ NB186_188.out _; (with_reducible repeat (first | refine blk_drewN ?_ _ | refine blk_drew ?_ | refine blk_alloc ?_ _)); refine blk_far ?_ NB186_188.out _; (with_reducible repeat (first | refine blk_drewN ?_ _ | refine blk_drew ?_ | refine blk_alloc ?_ _)); exact BK186.out) hb); have n2_ := Aside0.mk (blk_below (g := gb187) (o := .cells #[.int .i64 0, .int .i64 0, .int .i64 0, .int .i64 0, .int .i64 0, .int .i64 0, .slice none 0 0, .slice none 0 0, .slice none 0 0] 66 (0, 0)) (by (with_reducible repeat (first | refine blk_drewN ?_ _ | refine blk_drew ?_ | refine blk_alloc ?_ _)); refine blk_far ?_ NB187_188.out _; (with_reducible repeat (first | refine blk_drewN ?_ _ | refine blk_drew ?_ | refine blk_alloc ?_ _)); refine blk_far ?_ NB187_188.out _; (with_reducible repeat (first | refine blk_drewN ?_ _ | refine blk_drew ?_ | refine blk_alloc ?_ _)); refine blk_far ?_ NB187_188.out _; (with_reducible repeat (first | refine blk_drewN ?_ _ | refine blk_drew ?_ | refine blk_alloc ?_ _)); refine blk_far ?_ NB187_188.out _; (with_reducible repeat (first | refine blk_drewN ?_ _ | refine blk_drew ?_ | refine blk_alloc ?_ _)); refine blk_far ?_ NB187_188.out _; (with_reducible repeat (first | refine blk_drewN ?_ _ | refine blk_drew ?_ | refine blk_alloc ?_ _)); refine blk_far ?_ NB187_188.out _; (with_reducible repeat (first | refine blk_drewN ?_ _ | refine blk_drew ?_ | refine blk_alloc ?_ _)); exact BK187.out) hb); have n3_ := Aside0.mk (blk_below (g := gb188) (o := .cells #[.int .i64 a0_0, .int .i64 a0_1, .int .i64 a0_2, .int .i64 a0_3, .int .i64 a0_4, .int .i64 a0_5, .slice none 0 0, .slice none 0 0, .slice none 0 0] 66 (0, 0)) (by (with_reducible repeat (first | refine blk_drewN ?_ _ | refine blk_drew ?_ | refine blk_alloc ?_ _)); refine blk_put (cs := #[.int .i64 a0_0, .int .i64 a0_1, .int .i64 a0_2, .int .i64 a0_3, .int .i64 a0_4, .int .i64 0, .slice none 0 0, .slice none 0 0, .slice none 0 0]) ?_ 5 _ rfl; (with_reducible repeat (first | refine blk_drewN ?_ _ | refine blk_drew ?_ | refine blk_alloc ?_ _)); refine blk_put (cs := #[.int .i64 a0_0, .int .i64 a0_1, .int .i64 a0_2, .int .i64 a0_3, .int .i64 0, .int .i64 0, .slice none 0 0, .slice none 0 0, .slice none 0 0]) ?_ 4 _ rfl; (with_reducible repeat (first | refine blk_drewN ?_ _ | refine blk_drew ?_ | refine blk_alloc ?_ _)); refine blk_put (cs := #[.int .i64 a0_0, .int .i64 a0_1, .int .i64 a0_2, .int .i64 0, .int .i64 0, .int .i64 0, .slice none 0 0, .slice none 0 0, .slice none 0 0]) ?_ 3 _ rfl; (with_reducible repeat (first | refine blk_drewN ?_ _ | refine blk_drew ?_ | refine blk_alloc ?_ _)); refine blk_put (cs := #[.int .i64 a0_0, .int .i64 a0_1, .int .i64 0, .int .i64 0, .int .i64 0, .int .i64 0, .slice none 0 0, .slice none 0 0, .slice none 0 0]) ?_ 2 _ rfl; (with_reducible repeat (first | refine blk_drewN ?_ _ | refine blk_drew ?_ | refine blk_alloc ?_ _)); refine blk_put (cs := #[.int .i64 a0_0, .int .i64 0, .int .i64 0, .int .i64 0, .int .i64 0, .int .i64 0, .slice none 0 0, .slice none 0 0, .slice none 0 0]) ?_ 1 _ rfl; (with_reducible repeat (first | refine blk_drewN ?_ _ | refine blk_drew ?_ | refine blk_alloc ?_ _)); refine blk_put (cs := #[.int .i64 0, .int .i64 0, .int .i64 0, .int .i64 0, .int .i64 0, .int .i64 0, .slice none 0 0, .slice none 0 0, .slice none 0 0]) ?_ 0 _ rfl; (with_reducible repeat (first | refine blk_drewN ?_ _ | refine blk_drew ?_ | refine blk_alloc ?_ _)); exact BK188.out) hb); have n4_ := Aside0.mk (below_step (by repeat (first | (with_reducible first | exact HB.out | apply below_alloc | apply pw_below_drewN | apply below_drew1 | refine below_set ?_ GE186.out | refine below_set ?_ GE187.out | refine below_set ?_ GE188.out) | exact HB.out)) hb); clear BK186; clear BK187; clear BK188; clear HB; have HO191 := n0_; have BK186 := n1_; have BK187 := n2_; have BK188 := n3_; have HB := n4_; clear n0_ n1_ n2_ n3_ n4_; (try clear hb); (try clear hb2); (try clear hk); (try clear hi); (try clear ho0); obtain ⟨Ao14, co14, eo14⟩ := Kd.R_slice HO191.out; subst eo14; have hcz15_0 : w13.cell? ⟨gb188, 0, none⟩ = some (.int .i64 a0_0) := (blk_cell BK188.out 0).trans rfl; have hcz15_1 : w13.cell? ⟨gb188, 1, none⟩ = some (.int .i64 a0_1) := (blk_cell BK188.out 1).trans rfl; have hcz15_2 : w13.cell? ⟨gb188, 2, none⟩ = some (.int .i64 a0_2) := (blk_cell BK188.out 2).trans rfl; have hcz15_3 : w13.cell? ⟨gb188, 3, none⟩ = some (.int .i64 a0_3) := (blk_cell BK188.out 3).trans rfl; have hcz15_4 : w13.cell? ⟨gb188, 4, none⟩ = some (.int .i64 a0_4) := (blk_cell BK188.out 4).trans rfl; have hcz15_5 : w13.cell? ⟨gb188, 5, none⟩ = some (.int .i64 a0_5) := (blk_cell BK188.out 5).trans rfl; have hcz15_6 : w13.cell? ⟨gb188, 6, none⟩ = some (.slice none 0 0) := (blk_cell BK188.out 6).trans rfl; have hcz15_7 : w13.cell? ⟨gb188, 7, none⟩ = some (.slice none 0 0) := (blk_cell BK188.out 7).trans rfl; have hcz15_8 : w13.cell? ⟨gb188, 8, none⟩ = some (.slice none 0 0) := (blk_cell BK188.out 8).trans rfl; have hfz15_0 := blk_frozen BK188.out 0; have hfz15_1 := blk_frozen BK188.out 1; have hfz15_2 := blk_frozen BK188.out 2; have hfz15_3 := blk_frozen BK188.out 3; have hfz15_4 := blk_frozen BK188.out 4; have hfz15_5 := blk_frozen BK188.out 5; have hfz15_6 := blk_frozen BK188.out 6; have hfz15_7 := blk_frozen BK188.out 7; have hfz15_8 := blk_frozen BK188.out 8; have hcz16_0 : w13.cell? ⟨gb186, 0, none⟩ = some (.int .i64 a0_0) := (blk_cell BK186.out 0).trans rfl; have hcz16_1 : w13.cell? ⟨gb186, 1, none⟩ = some (.int .i64 a0_1) := (blk_cell BK186.out 1).trans rfl; have hcz16_2 : w13.cell? ⟨gb186, 2, none⟩ = some (.int .i64 a0_2) := (blk_cell BK186.out 2).trans rfl; have hcz16_3 : w13.cell? ⟨gb186, 3, none⟩ = some (.int .i64 a0_3) := (blk_cell BK186.out 3).trans rfl; have hcz16_4 : w13.cell? ⟨gb186, 4, none⟩ = some (.int .i64 a0_4) := (blk_cell BK186.out 4).trans rfl; have hcz16_5 : w13.cell? ⟨gb186, 5, none⟩ = some (.int .i64 a0_5) := (blk_cell BK186.out 5).trans rfl; have hcz16_6 : w13.cell? ⟨gb186, 6, none⟩ = some (.slice A0_6 l0_6.length c0_6) := (blk_cell BK186.out 6).trans rfl; have hcz16_7 : w13.cell? ⟨gb186, 7, none⟩ = some (.slice A0_7 l0_7.length c0_7) := (blk_cell BK186.out 7).trans rfl; have hcz16_8 : w13.cell? ⟨gb186, 8, none⟩ = some (.slice A0_8 l0_8.length c0_8) := (blk_cell BK186.out 8).trans rfl; have hfz16_0 := blk_frozen BK186.out 0; have hfz16_1 := blk_frozen BK186.out 1; have hfz16_2 := blk_frozen BK186.out 2; have hfz16_3 := blk_frozen BK186.out 3; have hfz16_4 := blk_frozen BK186.out 4; have hfz16_5 := blk_frozen BK186.out 5; have hfz16_6 := blk_frozen BK186.out 6; have hfz16_7 := blk_frozen BK186.out 7; have hfz16_8 := blk_frozen BK186.out 8) | ((with_reducible refine gate_callee (f := 47) rfl ?_); refine goesL_ (some 28) rfl rfl Try.func47 (by kernel_rfl) rfl #[.slice A0_7 l0_7.length c0_7] rfl (by (try simp only [List.map_toArray, List.map_cons, List.map_nil]); first | done | rfl | (simp only [List.length_drop, List.length_take]; rfl)) ?_; (with_reducible refine (laws_toInt64S.calls k _ _ l0_7 t192 _ ?side1 ?side2 A3.out).mono ?_); (case side1 => exact Kd.C_below HR0_7.out (by repeat (first | (with_reducible first | exact HB.out | apply below_alloc | apply pw_below_drewN | apply below_drew1 | refine below_set ?_ GE186.out | refine below_set ?_ GE187.out | refine below_set ?_ GE188.out) | exact HB.out))); (case side2 => exact HC0_7.out); rintro e w17 ⟨v193, rfl, ho0, hb⟩; refine ⟨_, rfl, ?_⟩; have n0_ := Aside0.mk (Kd.R_below (by (with_reducible repeat (first | apply Kd.R_alloc | apply Kd.R_drewN | apply Kd.R_drew)); exact (Kd.R_mono (Kd.R_far (p := ⟨gb188, 6, none⟩) (Kd.R_types HO191.out BK188.out (by decide)) (fun _ hk => hk.2) (.slice Ao14 t189.length co14)) (fun _ h_ => h_.1))) hb); have n1_ := Aside0.mk (Kd.R_lower ho0 (below_size (by repeat (first | (with_reducible first | exact HB.out | apply below_alloc | apply pw_below_drewN | apply below_drew1 | refine below_set ?_ GE186.out | refine below_set ?_ GE187.out | refine below_set ?_ GE188.out) | exact HB.out)))); have n2_ := Aside0.mk (blk_below (g := gb186) (o := .cells #[.int .i64 a0_0, .int .i64 a0_1, .int .i64 a0_2, .int .i64 a0_3, .int .i64 a0_4, .int .i64 a0_5, .slice A0_6 l0_6.length c0_6, .slice A0_7 l0_7.length c0_7, .slice A0_8 l0_8.length c0_8] 140 (0, 0)) (by (with_reducible repeat (first | refine blk_drewN ?_ _ | refine blk_drew ?_ | refine blk_alloc ?_ _)); refine blk_far ?_ NB186_188.out _; (with_reducible repeat (first | refine blk_drewN ?_ _ | refine blk_drew ?_ | refine blk_alloc ?_ _)); exact BK186.out) hb); have n3_ := Aside0.mk (blk_below (g := gb187) (o := .cells #[.int .i64 0, .int .i64 0, .int .i64 0, .int .i64 0, .int .i64 0, .int .i64 0, .slice none 0 0, .slice none 0 0, .slice none 0 0] 66 (0, 0)) (by (with_reducible repeat (first | refine blk_drewN ?_ _ | refine blk_drew ?_ | refine blk_alloc ?_ _)); refine blk_far ?_ NB187_188.out _; (with_reducible repeat (first | refine blk_drewN ?_ _ | refine blk_drew ?_ | refine blk_alloc ?_ _)); exact BK187.out) hb); have n4_ := Aside0.mk (blk_below (g := gb188) (o := .cells #[.int .i64 a0_0, .int .i64 a0_1, .int .i64 a0_2, .int .i64 a0_3, .int .i64 a0_4, .int .i64 a0_5, .slice Ao14 t189.length co14, .slice none 0 0, .slice none 0 0] 66 (0, 0)) (by (with_reducible repeat (first | refine blk_drewN ?_ _ | refine blk_drew ?_ | refine blk_alloc ?_ _)); refine blk_put (cs := #[.int .i64 a0_0, .int .i64 a0_1, .int .i64 a0_2, .int .i64 a0_3, .int .i64 a0_4, .int .i64 a0_5, .slice none 0 0, .slice none 0 0, .slice none 0 0]) ?_ 6 _ rfl; (with_reducible repeat (first | refine blk_drewN ?_ _ | refine blk_drew ?_ | refine blk_alloc ?_ _)); exact BK188.out) hb); have n5_ := Aside0.mk (below_step (by repeat (first | (with_reducible first | exact HB.out | apply below_alloc | apply pw_below_drewN | apply below_drew1 | refine below_set ?_ GE186.out | refine below_set ?_ GE187.out | refine below_set ?_ GE188.out) | exact HB.out)) hb); clear HO191; clear BK186; clear BK187; clear BK188; clear HB; have HO191 := n0_; have HO194 := n1_; have BK186 := n2_; have BK187 := n3_; have BK188 := n4_; have HB := n5_; clear n0_ n1_ n2_ n3_ n4_ n5_; (try clear hb); (try clear hb2); (try clear hk); (try clear hi); (try clear ho0); obtain ⟨Ao18, co18, eo18⟩ := Kd.R_slice HO194.out; subst eo18; have hcz19_0 : w17.cell? ⟨gb188, 0, none⟩ = some (.int .i64 a0_0) := (blk_cell BK188.out 0).trans rfl; have hcz19_1 : w17.cell? ⟨gb188, 1, none⟩ = some (.int .i64 a0_1) := (blk_cell BK188.out 1).trans rfl; have hcz19_2 : w17.cell? ⟨gb188, 2, none⟩ = some (.int .i64 a0_2) := (blk_cell BK188.out 2).trans rfl; have hcz19_3 : w17.cell? ⟨gb188, 3, none⟩ = some (.int .i64 a0_3) := (blk_cell BK188.out 3).trans rfl; have hcz19_4 : w17.cell? ⟨gb188, 4, none⟩ = some (.int .i64 a0_4) := (blk_cell BK188.out 4).trans rfl; have hcz19_5 : w17.cell? ⟨gb188, 5, none⟩ = some (.int .i64 a0_5) := (blk_cell BK188.out 5).trans rfl; have hcz19_6 : w17.cell? ⟨gb188, 6, none⟩ = some (.slice Ao14 t189.length co14) := (blk_cell BK188.out 6).trans rfl; have hcz19_7 : w17.cell? ⟨gb188, 7, none⟩ = some (.slice none 0 0) := (blk_cell BK188.out 7).trans rfl; have hcz19_8 : w17.cell? ⟨gb188, 8, none⟩ = some (.slice none 0 0) := (blk_cell BK188.out 8).trans rfl; have hfz19_0 := blk_frozen BK188.out 0; have hfz19_1 := blk_frozen BK188.out 1; have hfz19_2 := blk_frozen BK188.out 2; have hfz19_3 := blk_frozen BK188.out 3; have hfz19_4 := blk_frozen BK188.out 4; have hfz19_5 := blk_frozen BK188.out 5; have hfz19_6 := blk_frozen BK188.out 6; have hfz19_7 := blk_frozen BK188.out 7; have hfz19_8 := blk_frozen BK188.out 8; have hcz20_0 : w17.cell? ⟨gb186, 0, none⟩ = some (.int .i64 a0_0) := (blk_cell BK186.out 0).trans rfl; have hcz20_1 : w17.cell? ⟨gb186, 1, none⟩ = some (.int .i64 a0_1) := (blk_cell BK186.out 1).trans rfl; have hcz20_2 : w17.cell? ⟨gb186, 2, none⟩ = some (.int .i64 a0_2) := (blk_cell BK186.out 2).trans rfl; have hcz20_3 : w17.cell? ⟨gb186, 3, none⟩ = some (.int .i64 a0_3) := (blk_cell BK186.out 3).trans rfl; have hcz20_4 : w17.cell? ⟨gb186, 4, none⟩ = some (.int .i64 a0_4) := (blk_cell BK186.out 4).trans rfl; have hcz20_5 : w17.cell? ⟨gb186, 5, none⟩ = some (.int .i64 a0_5) := (blk_cell BK186.out 5).trans rfl; have hcz20_6 : w17.cell? ⟨gb186, 6, none⟩ = some (.slice A0_6 l0_6.length c0_6) := (blk_cell BK186.out 6).trans rfl; have hcz20_7 : w17.cell? ⟨gb186, 7, none⟩ = some (.slice A0_7 l0_7.length c0_7) := (blk_cell BK186.out 7).trans rfl; have hcz20_8 : w17.cell? ⟨gb186, 8, none⟩ = some (.slice A0_8 l0_8.length c0_8) := (blk_cell BK186.out 8).trans rfl; have hfz20_0 := blk_frozen BK186.out 0; have hfz20_1 := blk_frozen BK186.out 1; have hfz20_2 := blk_frozen BK186.out 2; have hfz20_3 := blk_frozen BK186.out 3; have hfz20_4 := blk_frozen BK186.out 4; have hfz20_5 := blk_frozen BK186.out 5; have hfz20_6 := blk_frozen BK186.out 6; have hfz20_7 := blk_frozen BK186.out 7; have hfz20_8 := blk_frozen BK186.out 8) | ((with_reducible refine gate_callee (f := 119) rfl ?_); refine goesL_ (some 32) rfl rfl Try.func119 (by kernel_rfl) rfl #[.slice A0_8 l0_8.length c0_8] rfl (by (try simp only [List.map_toArray, List.map_cons, List.map_nil]); first | done | rfl | (simp only [List.length_drop, List.length_take]; rfl)) ?_; (with_reducible refine (laws_toUint64S.calls k _ _ l0_8 t195 _ ?side1 ?side2 A4.out).mono ?_); (case side1 => exact Kd.C_below HR0_8.out (by repeat (first | (with_reducible first | exact HB.out | apply below_alloc | apply pw_below_drewN | apply below_drew1 | refine below_set ?_ GE186.out | refine below_set ?_ GE187.out | refine below_set ?_ GE188.out) | exact HB.out))); (case side2 => exact HC0_8.out); rintro e w21 ⟨v196, rfl, ho0, hb⟩; refine ⟨_, rfl, ?_⟩; have n0_ := Aside0.mk (Kd.R_below (by (with_reducible repeat (first | apply Kd.R_alloc | apply Kd.R_drewN | apply Kd.R_drew)); exact (Kd.R_mono (Kd.R_far (p := ⟨gb188, 7, none⟩) (Kd.R_types HO191.out BK188.out (by decide)) (fun _ hk => hk.2) (.slice Ao18 t192.length co18)) (fun _ h_ => h_.1))) hb); have n1_ := Aside0.mk (Kd.R_below (by (with_reducible repeat (first | apply Kd.R_alloc | apply Kd.R_drewN | apply Kd.R_drew)); exact (Kd.R_mono (Kd.R_far (p := ⟨gb188, 7, none⟩) (Kd.R_types HO194.out BK188.out (by decide)) (fun _ hk => hk.2) (.slice Ao18 t192.length co18)) (fun _ h_ => h_.1))) hb); have n2_ := Aside0.mk (Kd.R_lower ho0 (below_size (by repeat (first | (with_reducible first | exact HB.out | apply below_alloc | apply pw_below_drewN | apply below_drew1 | refine below_set ?_ GE186.out | refine below_set ?_ GE187.out | refine below_set ?_ GE188.out) | exact HB.out)))); have n3_ := Aside0.mk (blk_below (g := gb186) (o := .cells #[.int .i64 a0_0, .int .i64 a0_1, .int .i64 a0_2, .int .i64 a0_3, .int .i64 a0_4, .int .i64 a0_5, .slice A0_6 l0_6.length c0_6, .slice A0_7 l0_7.length c0_7, .slice A0_8 l0_8.length c0_8] 140 (0, 0)) (by (with_reducible repeat (first | refine blk_drewN ?_ _ | refine blk_drew ?_ | refine blk_alloc ?_ _)); refine blk_far ?_ NB186_188.out _; (with_reducible repeat (first | refine blk_drewN ?_ _ | refine blk_drew ?_ | refine blk_alloc ?_ _)); exact BK186.out) hb); have n4_ := Aside0.mk (blk_below (g := gb187) (o := .cells #[.int .i64 0, .int .i64 0, .int .i64 0, .int .i64 0, .int .i64 0, .int .i64 0, .slice none 0 0, .slice none 0 0, .slice none 0 0] 66 (0, 0)) (by (with_reducible repeat (first | refine blk_drewN ?_ _ | refine blk_drew ?_ | refine blk_alloc ?_ _)); refine blk_far ?_ NB187_188.out _; (with_reducible repeat (first | refine blk_drewN ?_ _ | refine blk_drew ?_ | refine blk_alloc ?_ _)); exact BK187.out) hb); have n5_ := Aside0.mk (blk_below (g := gb188) (o := .cells #[.int .i64 a0_0, .int .i64 a0_1, .int .i64 a0_2, .int .i64 a0_3, .int .i64 a0_4, .int .i64 a0_5, .slice Ao14 t189.length co14, .slice Ao18 t192.length co18, .slice none 0 0] 66 (0, 0)) (by (with_reducible repeat (first | refine blk_drewN ?_ _ | refine blk_drew ?_ | refine blk_alloc ?_ _)); refine blk_put (cs := #[.int .i64 a0_0, .int .i64 a0_1, .int .i64 a0_2, .int .i64 a0_3, .int .i64 a0_4, .int .i64 a0_5, .slice Ao14 t189.length co14, .slice none 0 0, .slice none 0 0]) ?_ 7 _ rfl; (with_reducible repeat (first | refine blk_drewN ?_ _ | refine blk_drew ?_ | refine blk_alloc ?_ _)); exact BK188.out) hb); have n6_ := Aside0.mk (below_step (by repeat (first | (with_reducible first | exact HB.out | apply below_alloc | apply pw_below_drewN | apply below_drew1 | refine below_set ?_ GE186.out | refine below_set ?_ GE187.out | refine below_set ?_ GE188.out) | exact HB.out)) hb); clear HO191; clear HO194; clear BK186; clear BK187; clear BK188; clear HB; have HO191 := n0_; have HO194 := n1_; have HO197 := n2_; have BK186 := n3_; have BK187 := n4_; have BK188 := n5_; have HB := n6_; clear n0_ n1_ n2_ n3_ n4_ n5_ n6_; (try clear hb); (try clear hb2); (try clear hk); (try clear hi); (try clear ho0); obtain ⟨Ao22, co22, eo22⟩ := Kd.R_slice HO197.out; subst eo22; have hcz23_0 : w21.cell? ⟨gb188, 0, none⟩ = some (.int .i64 a0_0) := (blk_cell BK188.out 0).trans rfl; have hcz23_1 : w21.cell? ⟨gb188, 1, none⟩ = some (.int .i64 a0_1) := (blk_cell BK188.out 1).trans rfl; have hcz23_2 : w21.cell? ⟨gb188, 2, none⟩ = some (.int .i64 a0_2) := (blk_cell BK188.out 2).trans rfl; have hcz23_3 : w21.cell? ⟨gb188, 3, none⟩ = some (.int .i64 a0_3) := (blk_cell BK188.out 3).trans rfl; have hcz23_4 : w21.cell? ⟨gb188, 4, none⟩ = some (.int .i64 a0_4) := (blk_cell BK188.out 4).trans rfl; have hcz23_5 : w21.cell? ⟨gb188, 5, none⟩ = some (.int .i64 a0_5) := (blk_cell BK188.out 5).trans rfl; have hcz23_6 : w21.cell? ⟨gb188, 6, none⟩ = some (.slice Ao14 t189.length co14) := (blk_cell BK188.out 6).trans rfl; have hcz23_7 : w21.cell? ⟨gb188, 7, none⟩ = some (.slice Ao18 t192.length co18) := (blk_cell BK188.out 7).trans rfl; have hcz23_8 : w21.cell? ⟨gb188, 8, none⟩ = some (.slice none 0 0) := (blk_cell BK188.out 8).trans rfl; have hfz23_0 := blk_frozen BK188.out 0; have hfz23_1 := blk_frozen BK188.out 1; have hfz23_2 := blk_frozen BK188.out 2; have hfz23_3 := blk_frozen BK188.out 3; have hfz23_4 := blk_frozen BK188.out 4; have hfz23_5 := blk_frozen BK188.out 5; have hfz23_6 := blk_frozen BK188.out 6; have hfz23_7 := blk_frozen BK188.out 7; have hfz23_8 := blk_frozen BK188.out 8; have hcz24_0 : w21.cell? ⟨gb187, 0, none⟩ = some (.int .i64 0) := (blk_cell BK187.out 0).trans rfl; have hcz24_1 : w21.cell? ⟨gb187, 1, none⟩ = some (.int .i64 0) := (blk_cell BK187.out 1).trans rfl; have hcz24_2 : w21.cell? ⟨gb187, 2, none⟩ = some (.int .i64 0) := (blk_cell BK187.out 2).trans rfl; have hcz24_3 : w21.cell? ⟨gb187, 3, none⟩ = some (.int .i64 0) := (blk_cell BK187.out 3).trans rfl; have hcz24_4 : w21.cell? ⟨gb187, 4, none⟩ = some (.int .i64 0) := (blk_cell BK187.out 4).trans rfl; have hcz24_5 : w21.cell? ⟨gb187, 5, none⟩ = some (.int .i64 0) := (blk_cell BK187.out 5).trans rfl; have hcz24_6 : w21.cell? ⟨gb187, 6, none⟩ = some (.slice none 0 0) := (blk_cell BK187.out 6).trans rfl; have hcz24_7 : w21.cell? ⟨gb187, 7, none⟩ = some (.slice none 0 0) := (blk_cell BK187.out 7).trans rfl; have hcz24_8 : w21.cell? ⟨gb187, 8, none⟩ = some (.slice none 0 0) := (blk_cell BK187.out 8).trans rfl; have hfz24_0 := blk_frozen BK187.out 0; have hfz24_1 := blk_frozen BK187.out 1; have hfz24_2 := blk_frozen BK187.out 2; have hfz24_3 := blk_frozen BK187.out 3; have hfz24_4 := blk_frozen BK187.out 4; have hfz24_5 := blk_frozen BK187.out 5; have hfz24_6 := blk_frozen BK187.out 6; have hfz24_7 := blk_frozen BK187.out 7; have hfz24_8 := blk_frozen BK187.out 8))
  refine bodyPost_ret (results_cell_row rfl _ _ gb187 66 #[.int .i64 a0_0, .int .i64 a0_1, .int .i64 a0_2, .int .i64 a0_3, .int .i64 a0_4, .int .i64 a0_5, .slice Ao14 t189.length co14, .slice Ao18 t192.length co18, .slice Ao22 t195.length co22] (0, 0) _ rfl (by (with_reducible repeat (first | refine blk_drewN ?_ _ | refine blk_drew ?_ | refine blk_alloc ?_ _)); refine blk_put (cs := #[.int .i64 a0_0, .int .i64 a0_1, .int .i64 a0_2, .int .i64 a0_3, .int .i64 a0_4, .int .i64 a0_5, .slice Ao14 t189.length co14, .slice Ao18 t192.length co18, .slice none 0 0]) ?_ 8 _ rfl; (with_reducible repeat (first | refine blk_drewN ?_ _ | refine blk_drew ?_ | refine blk_alloc ?_ _)); refine blk_put (cs := #[.int .i64 a0_0, .int .i64 a0_1, .int .i64 a0_2, .int .i64 a0_3, .int .i64 a0_4, .int .i64 a0_5, .slice Ao14 t189.length co14, .slice none 0 0, .slice none 0 0]) ?_ 7 _ rfl; (with_reducible repeat (first | refine blk_drewN ?_ _ | refine blk_drew ?_ | refine blk_alloc ?_ _)); refine blk_put (cs := #[.int .i64 a0_0, .int .i64 a0_1, .int .i64 a0_2, .int .i64 a0_3, .int .i64 a0_4, .int .i64 a0_5, .slice none 0 0, .slice none 0 0, .slice none 0 0]) ?_ 6 _ rfl; (with_reducible repeat (first | refine blk_drewN ?_ _ | refine blk_drew ?_ | refine blk_alloc ?_ _)); refine blk_put (cs := #[.int .i64 a0_0, .int .i64 a0_1, .int .i64 a0_2, .int .i64 a0_3, .int .i64 a0_4, .int .i64 0, .slice none 0 0, .slice none 0 0, .slice none 0 0]) ?_ 5 _ rfl; (with_reducible repeat (first | refine blk_drewN ?_ _ | refine blk_drew ?_ | refine blk_alloc ?_ _)); refine blk_put (cs := #[.int .i64 a0_0, .int .i64 a0_1, .int .i64 a0_2, .int .i64 a0_3, .int .i64 0, .int .i64 0, .slice none 0 0, .slice none 0 0, .slice none 0 0]) ?_ 4 _ rfl; (with_reducible repeat (first | refine blk_drewN ?_ _ | refine blk_drew ?_ | refine blk_alloc ?_ _)); refine blk_put (cs := #[.int .i64 a0_0, .int .i64 a0_1, .int .i64 a0_2, .int .i64 0, .int .i64 0, .int .i64 0, .slice none 0 0, .slice none 0 0, .slice none 0 0]) ?_ 3 _ rfl; (with_reducible repeat (first | refine blk_drewN ?_ _ | refine blk_drew ?_ | refine blk_alloc ?_ _)); refine blk_put (cs := #[.int .i64 a0_0, .int .i64 a0_1, .int .i64 0, .int .i64 0, .int .i64 0, .int .i64 0, .slice none 0 0, .slice none 0 0, .slice none 0 0]) ?_ 2 _ rfl; (with_reducible repeat (first | refine blk_drewN ?_ _ | refine blk_drew ?_ | refine blk_alloc ?_ _)); refine blk_put (cs := #[.int .i64 a0_0, .int .i64 0, .int .i64 0, .int .i64 0, .int .i64 0, .int .i64 0, .slice none 0 0, .slice none 0 0, .slice none 0 0]) ?_ 1 _ rfl; (with_reducible repeat (first | refine blk_drewN ?_ _ | refine blk_drew ?_ | refine blk_alloc ?_ _)); refine blk_put (cs := #[.int .i64 0, .int .i64 0, .int .i64 0, .int .i64 0, .int .i64 0, .int .i64 0, .slice none 0 0, .slice none 0 0, .slice none 0 0]) ?_ 0 _ rfl; (with_reducible repeat (first | refine blk_drewN ?_ _ | refine blk_drew ?_ | refine blk_alloc ?_ _)); refine blk_far ?_ NB187_188.out _; (with_reducible repeat (first | refine blk_drewN ?_ _ | refine blk_drew ?_ | refine blk_alloc ?_ _)); exact BK187.out) Try.underlying66 rfl (by kernel_rfl)) rfl ?_
  exact ⟨_, _, _, by first | rfl | (simp [errW_none, errW_some] <;> rfl) | (simp [*, errW_none, errW_some] <;> rfl), by (with_reducible repeat (first | apply Kd.R_alloc | apply Kd.R_drewN | apply Kd.R_drew)); exact Kd.R_mono (Kd.R_far (p := ⟨gb187, 8, none⟩) (Kd.R_far (p := ⟨gb187, 7, none⟩) (Kd.R_far (p := ⟨gb187, 6, none⟩) (Kd.R_far (p := ⟨gb187, 5, none⟩) (Kd.R_far (p := ⟨gb187, 4, none⟩) (Kd.R_far (p := ⟨gb187, 3, none⟩) (Kd.R_far (p := ⟨gb187, 2, none⟩) (Kd.R_far (p := ⟨gb187, 1, none⟩) (Kd.R_far (p := ⟨gb187, 0, none⟩) (Kd.R_far (p := ⟨gb188, 8, none⟩) (Kd.R_types (Kd.R_types HO191.out BK188.out (by decide)) BK187.out (by decide)) (fun _ hk => hk.1.2) (.slice Ao22 t195.length co22)) (fun _ hk => hk.2) (.int .i64 a0_0)) (fun _ hk => hk.2) (.int .i64 a0_1)) (fun _ hk => hk.2) (.int .i64 a0_2)) (fun _ hk => hk.2) (.int .i64 a0_3)) (fun _ hk => hk.2) (.int .i64 a0_4)) (fun _ hk => hk.2) (.int .i64 a0_5)) (fun _ hk => hk.2) (.slice Ao14 t189.length co14)) (fun _ hk => hk.2) (.slice Ao18 t192.length co18)) (fun _ hk => hk.2) (.slice Ao22 t195.length co22)) (fun _ hk => trivial), by (with_reducible repeat (first | apply Kd.R_alloc | apply Kd.R_drewN | apply Kd.R_drew)); exact Kd.R_mono (Kd.R_far (p := ⟨gb187, 8, none⟩) (Kd.R_far (p := ⟨gb187, 7, none⟩) (Kd.R_far (p := ⟨gb187, 6, none⟩) (Kd.R_far (p := ⟨gb187, 5, none⟩) (Kd.R_far (p := ⟨gb187, 4, none⟩) (Kd.R_far (p := ⟨gb187, 3, none⟩) (Kd.R_far (p := ⟨gb187, 2, none⟩) (Kd.R_far (p := ⟨gb187, 1, none⟩) (Kd.R_far (p := ⟨gb187, 0, none⟩) (Kd.R_far (p := ⟨gb188, 8, none⟩) (Kd.R_types (Kd.R_types HO194.out BK188.out (by decide)) BK187.out (by decide)) (fun _ hk => hk.1.2) (.slice Ao22 t195.length co22)) (fun _ hk => hk.2) (.int .i64 a0_0)) (fun _ hk => hk.2) (.int .i64 a0_1)) (fun _ hk => hk.2) (.int .i64 a0_2)) (fun _ hk => hk.2) (.int .i64 a0_3)) (fun _ hk => hk.2) (.int .i64 a0_4)) (fun _ hk => hk.2) (.int .i64 a0_5)) (fun _ hk => hk.2) (.slice Ao14 t189.length co14)) (fun _ hk => hk.2) (.slice Ao18 t192.length co18)) (fun _ hk => hk.2) (.slice Ao22 t195.length co22)) (fun _ hk => trivial), by (with_reducible repeat (first | apply Kd.R_alloc | apply Kd.R_drewN | apply Kd.R_drew)); exact Kd.R_mono (Kd.R_far (p := ⟨gb187, 8, none⟩) (Kd.R_far (p := ⟨gb187, 7, none⟩) (Kd.R_far (p := ⟨gb187, 6, none⟩) (Kd.R_far (p := ⟨gb187, 5, none⟩) (Kd.R_far (p := ⟨gb187, 4, none⟩) (Kd.R_far (p := ⟨gb187, 3, none⟩) (Kd.R_far (p := ⟨gb187, 2, none⟩) (Kd.R_far (p := ⟨gb187, 1, none⟩) (Kd.R_far (p := ⟨gb187, 0, none⟩) (Kd.R_far (p := ⟨gb188, 8, none⟩) (Kd.R_types (Kd.R_types HO197.out BK188.out (by decide)) BK187.out (by decide)) (fun _ hk => hk.1.2) (.slice Ao22 t195.length co22)) (fun _ hk => hk.2) (.int .i64 a0_0)) (fun _ hk => hk.2) (.int .i64 a0_1)) (fun _ hk => hk.2) (.int .i64 a0_2)) (fun _ hk => hk.2) (.int .i64 a0_3)) (fun _ hk => hk.2) (.int .i64 a0_4)) (fun _ hk => hk.2) (.int .i64 a0_5)) (fun _ hk => hk.2) (.slice Ao14 t189.length co14)) (fun _ hk => hk.2) (.slice Ao18 t192.length co18)) (fun _ hk => hk.2) (.slice Ao22 t195.length co22)) (fun _ hk => trivial), by repeat (first | (with_reducible first | exact HB.out | apply below_alloc | apply pw_below_drewN | apply below_drew1 | refine below_set ?_ GE186.out | refine below_set ?_ GE187.out | refine below_set ?_ GE188.out) | exact HB.out)⟩

end Go.Proofs.Ytoedcnhgobbnfaa.All

namespace Go.Proofs.Ytoedcnhgobbnfaa.All
open Go.RowKit Go.Proofs.YtoedcnhgobbnfaaW.PrintWords Go.Proofs.YtoedcnhgobbnfaaW.PrintLast Go.Proofs.YtoedcnhgobbnfaaW.PrintMore
attribute [local go_sem] max2_int min2_int max_two min_two max_three min_three max_four min_four   -- for this text's walks alone
set_option linter.unusedVariables false
set_option linter.unusedSimpArgs false

/-! ### laws_toInstrS: function 82 -/
def laws_toInstrS.l0 : Nat → List (S140) → List (S66) → Int → Option ((List (S66)))
  | 0, _, _, _ => none
  | k + 1, x0, x3, x4 => if x4 < (x0.length : Int) then (if 0 ≤ x4 then ((laws_toInstr.f k ((rd_T140 x0 x4).f0) ((rd_T140 x0 x4).f1) ((rd_T140 x0 x4).f2) ((rd_T140 x0 x4).f3) ((rd_T140 x0 x4).f4) ((rd_T140 x0 x4).f5) ((rd_T140 x0 x4).f6) ((rd_T140 x0 x4).f7) ((rd_T140 x0 x4).f8)).bind fun bt202 => (if x4 < (x3.length : Int) then (laws_toInstrS.l0 k x0 (x3.set (x4 : Int).toNat (⟨bt202.1, bt202.2.1, bt202.2.2.1, bt202.2.2.2.1, bt202.2.2.2.2.1, bt202.2.2.2.2.2.1, bt202.2.2.2.2.2.2.1, bt202.2.2.2.2.2.2.2.1, bt202.2.2.2.2.2.2.2.2⟩ : S66)) (wrap64 (x4 + 1))) else (none))) else (none)) else (some x3)
def laws_toInstrS.f (k : Nat) (l0 : List (S140)) : Option ((List (S66))) := if 0 ≤ (l0.length : Int) then (if ((l0.length : Int) : Int).toNat ≤ 2345624805922 then (laws_toInstrS.l0 k l0 (List.replicate ((l0.length : Int) : Int).toNat z66) 0) else (none)) else (none)
set_option maxHeartbeats 8000000 in
set_option maxRecDepth 100000 in
theorem laws_toInstrS.calls (k : Nat) (A0 : Option Addr) (c0 : Nat) (l0 : List (S140)) (r : List (S66)) (w : World) (hr0 : Kd.C k140 w A0 l0.length l0) (hc0 : l0.length ≤ c0) (h : laws_toInstrS.f k l0 = some r) :
    Calls Try.prog 82 #[.slice A0 l0.length c0] w fun e w' => ∃ v0_ : Value, e = .returned (v0_) ∧ Kd.S k66 66 w' w.heap.size (fun _ => True) v0_ r ∧ Below w.heap.size w w' := by
  have hu140 := Try.underlying140
  have hu66 := Try.underlying66
  have HR0 := Aside0.mk hr0
  have HC0 := Aside0.mk hc0
  clear hr0 hc0
  have HB := Aside0.mk (Below.refl w.heap.size w)
  have H : (if 0 ≤ (l0.length : Int) then (if ((l0.length : Int) : Int).toNat ≤ 2345624805922 then (laws_toInstrS.l0 k l0 (List.replicate ((l0.length : Int) : Int).toNat z66) 0) else (none)) else (none)) = some r := h
  clear h
  by_cases c2 : 0 ≤ (l0.length : Int)
  · rw [if_pos c2] at H
    have c2b0 := eq_true c2
    have c2b1 : decide (0 ≤ (l0.length : Int)) = true := decide_eq_true c2
    clear c2
    by_cases c3 : ((l0.length : Int) : Int).toNat ≤ 2345624805922
    · rw [if_pos c3] at H
      have c3b0 := eq_true c3
      have c3b1 : decide (((l0.length : Int) : Int).toNat ≤ 2345624805922) = true := decide_eq_true c3
      clear c3
      obtain ⟨y198, hy198⟩ : ∃ y_ : List (S66), y_ = (List.replicate ((l0.length : Int) : Int).toNat z66) := ⟨_, rfl⟩
      replace H : (laws_toInstrS.l0 k l0 y198 0) = some r := by first | (rw [hy198]; with_reducible exact H) | (have H2_ := (Option.bind_some _ _).symm.trans H; rw [hy198]; with_reducible exact H2_) | (have H2_ := (Option.bind_some _ _).symm.trans H; with_reducible exact H2_) | with_reducible exact H | (rw [hy198]; exact H) | exact H
      have Ny198 := Aside0.mk hy198
      clear hy198
      have H' := Aside0.mk H
      clear H
      go_enter Try.func82, Try.ntmps82
      go_wp2_with (first | ((with_reducible refine gate_dst (N := 7) rfl ?_); refine Kd.S_make k66 _ 66 rfl (N := 7) rfl 60 _ _ rfl (l0.length : Int) rfl rfl Try.underlying60 (.agg #[(.int .i64 0), (.int .i64 0), (.int .i64 0), (.int .i64 0), (.int .i64 0), (.int .i64 0), (.slice none 0 0), (.slice none 0 0), (.slice none 0 0)]) 120 info66 rfl (by decide) (by omega) z66 (ok := fun _ => True) (okp := fun _ => True) (k66_mkM _ _ _ z66 (Kd.R_nil _ _ _ _ _) (Kd.R_nil _ _ _ _ _) (Kd.R_nil _ _ _ _ _)) (fun _ hk => hk) trivial (of_decide_eq_true (by first | (with_reducible assumption) | assumption)) (Nat.le_trans (Nat.mul_le_mul_right _ (of_decide_eq_true (by first | (with_reducible assumption) | assumption) : (l0.length : Int).toNat ≤ 2345624805922)) (by omega)) (Below.refl _ _) (Nat.le_refl _) ?_; intro v199 w4 ho5 hb hg_ hnew_; clear hg_ hnew_; (first | rw [← Ny198.out] at ho5 | (simp only [Int.reduceToNat] at ho5; rw [← Ny198.out] at ho5)); have n0_ := Aside0.mk (Kd.S_lower ho5 (below_size (by repeat (first | (with_reducible first | exact HB.out | apply below_alloc | apply pw_below_drewN | apply below_drew1) | exact HB.out)))); have n1_ := Aside0.mk (below_step (by repeat (first | (with_reducible first | exact HB.out | apply below_alloc | apply pw_below_drewN | apply below_drew1) | exact HB.out)) hb); clear HB; have HO200 := n0_; have HB := n1_; clear n0_ n1_; clear hb ho5))
      go_loopg [4] k (fun kq v4 w' => ∃ (x3_1 : List (S66)) (x4_1 : Int), v4 = .int .i64 x4_1 ∧ Aside0 (laws_toInstrS.l0 kq l0 x3_1 x4_1 = some r) ∧ Aside0 (kq ≤ k) ∧ Aside0 (Kd.S k66 66 w' w.heap.size (fun _ => True) v199 x3_1) ∧ Aside0 (Below w.heap.size w w'))
      case atStart => exact ⟨(y198), (0), (by first | rfl | (simp; done) | (simp [*]; done)), H', ⟨Nat.le_refl _⟩, ⟨by (with_reducible repeat (first | apply Kd.S_alloc | apply Kd.S_drewN | apply Kd.S_drew)); exact HO200.out⟩, ⟨by repeat (first | (with_reducible first | exact HB.out | apply below_alloc | apply pw_below_drewN | apply below_drew1) | exact HB.out)⟩⟩
      case round =>
        clear H'
        try clear c2
        try clear c2b0
        try clear c2b1
        try clear p2
        try clear c3
        try clear c3b0
        try clear c3b1
        obtain ⟨x3_1, x4_1, rfl, HA, HK1, HO_3, HB⟩ := hrel
        cases gk with
        | zero => exact absurd HA.out (by simp [laws_toInstrS.l0])
        | succ k1 =>
          have H := HA.out
          clear HA
          simp only [laws_toInstrS.l0] at H
          by_cases c6 : x4_1 < (l0.length : Int)
          · rw [if_pos c6] at H
            have c6b0 : decide (x4_1 < (l0.length : Int)) = true := decide_eq_true c6
            clear c6
            by_cases c7 : 0 ≤ x4_1
            · rw [if_pos c7] at H
              have c7b0 : decide (0 ≤ x4_1) = true := decide_eq_true c7
              clear c7
              replace H := Option.bind_eq_some_iff.mp H
              obtain ⟨⟨t202, t203, t204, t205, t206, t207, t208, t211, t214⟩, A80, H⟩ := H
              replace H : (if x4_1 < (x3_1.length : Int) then (laws_toInstrS.l0 k1 l0 (x3_1.set (x4_1 : Int).toNat (⟨t202, t203, t204, t205, t206, t207, t208, t211, t214⟩ : S66)) (wrap64 (x4_1 + 1))) else (none)) = some r := H
              have A8 := Aside0.mk A80
              clear A80
              by_cases c9 : x4_1 < (x3_1.length : Int)
              · rw [if_pos c9] at H
                have c9b0 : decide (x4_1 < (x3_1.length : Int)) = true := decide_eq_true c9
                clear c9
                obtain ⟨y217, hy217⟩ : ∃ y_ : List (S66), y_ = (x3_1.set (x4_1 : Int).toNat (⟨t202, t203, t204, t205, t206, t207, t208, t211, t214⟩ : S66)) := ⟨_, rfl⟩
                replace H : (laws_toInstrS.l0 k1 l0 y217 (wrap64 (x4_1 + 1))) = some r := by first | (rw [hy217]; with_reducible exact H) | (have H2_ := (Option.bind_some _ _).symm.trans H; rw [hy217]; with_reducible exact H2_) | (have H2_ := (Option.bind_some _ _).symm.trans H; with_reducible exact H2_) | with_reducible exact H | (rw [hy217]; exact H) | exact H
                have Ny217 := Aside0.mk hy217
                clear hy217
                have H' := Aside0.mk H
                clear H
                have p201 : 0 ≤ (x4_1 : Int) := of_decide_eq_true (by first | (with_reducible assumption) | assumption)
                have q201 : x4_1 < (l0.length : Int) := of_decide_eq_true (by first | (with_reducible assumption) | assumption)
                obtain ⟨ad201, A201_6, c201_6, A201_7, c201_7, A201_8, c201_8, e201, hx201_0, hx201_1, hx201_2, hx201_3, hx201_4, hx201_5, hx201_6, hx201_7, hx201_8, hl201_6, hi201_6, hl201_7, hi201_7, hl201_8, hi201_8⟩ := at_T140 HR0.out x4_1 p201 q201
                cases e201
                replace hx201_0 := (HB.out.cell (World.block_lt_of_cell? w _ hx201_0)).trans hx201_0
                replace hx201_1 := (HB.out.cell (World.block_lt_of_cell? w _ hx201_1)).trans hx201_1
                replace hx201_2 := (HB.out.cell (World.block_lt_of_cell? w _ hx201_2)).trans hx201_2
                replace hx201_3 := (HB.out.cell (World.block_lt_of_cell? w _ hx201_3)).trans hx201_3
                replace hx201_4 := (HB.out.cell (World.block_lt_of_cell? w _ hx201_4)).trans hx201_4
                replace hx201_5 := (HB.out.cell (World.block_lt_of_cell? w _ hx201_5)).trans hx201_5
                replace hx201_6 := (HB.out.cell (World.block_lt_of_cell? w _ hx201_6)).trans hx201_6
                replace hx201_7 := (HB.out.cell (World.block_lt_of_cell? w _ hx201_7)).trans hx201_7
                replace hx201_8 := (HB.out.cell (World.block_lt_of_cell? w _ hx201_8)).trans hx201_8
                have HR201_6 := Aside0.mk hi201_6
                have HC201_6 := Aside0.mk hl201_6
                clear hi201_6 hl201_6
                have HR201_7 := Aside0.mk hi201_7
                have HC201_7 := Aside0.mk hl201_7
                clear hi201_7 hl201_7
                have HR201_8 := Aside0.mk hi201_8
                have HC201_8 := Aside0.mk hl201_8
                clear hi201_8 hl201_8
                replace p201 := eq_true p201
                replace q201 := eq_true q201
                go_wp2_with (first | ((with_reducible refine gate_callee (f := 108) rfl ?_); refine goesL_ (some 20) rfl rfl Try.func108 (by kernel_rfl) rfl #[.agg #[.int .i64 ((rd_T140 l0 x4_1).f0), .int .i64 ((rd_T140 l0 x4_1).f1), .int .i64 ((rd_T140 l0 x4_1).f2), .int .i64 ((rd_T140 l0 x4_1).f3), .int .i64 ((rd_T140 l0 x4_1).f4), .int .i64 ((rd_T140 l0 x4_1).f5), .slice A201_6 ((rd_T140 l0 x4_1).f6).length c201_6, .slice A201_7 ((rd_T140 l0 x4_1).f7).length c201_7, .slice A201_8 ((rd_T140 l0 x4_1).f8).length c201_8]] rfl (by (try simp only [List.map_toArray, List.map_cons, List.map_nil]); first | done | rfl | (simp only [List.length_drop, List.length_take]; rfl)) ?_; (with_reducible refine (laws_toInstr.calls k1 ((rd_T140 l0 x4_1).f0) ((rd_T140 l0 x4_1).f1) ((rd_T140 l0 x4_1).f2) ((rd_T140 l0 x4_1).f3) ((rd_T140 l0 x4_1).f4) ((rd_T140 l0 x4_1).f5) _ _ ((rd_T140 l0 x4_1).f6) _ _ ((rd_T140 l0 x4_1).f7) _ _ ((rd_T140 l0 x4_1).f8) t202 t203 t204 t205 t206 t207 t208 t211 t214 _ ?side1 ?side2 ?side3 ?side4 ?side5 ?side6 A8.out).mono ?_); (case side1 => repeat (first | exact (Kd.C_below HR201_6.out HB.out) | (with_reducible refine Kd.C_alloc ?_ _) | (with_reducible refine Kd.C_drewN ?_ _) | (with_reducible refine Kd.C_drew ?_))); (case side2 => exact HC201_6.out); (case side3 => repeat (first | exact (Kd.C_below HR201_7.out HB.out) | (with_reducible refine Kd.C_alloc ?_ _) | (with_reducible refine Kd.C_drewN ?_ _) | (with_reducible refine Kd.C_drew ?_))); (case side4 => exact HC201_7.out); (case side5 => repeat (first | exact (Kd.C_below HR201_8.out HB.out) | (with_reducible refine Kd.C_alloc ?_ _) | (with_reducible refine Kd.C_drewN ?_ _) | (with_reducible refine Kd.C_drew ?_))); (case side6 => exact HC201_8.out); rintro e w11 ⟨v209, v212, v215, rfl, ho0, ho1, ho2, hb⟩; refine ⟨_, rfl, ?_⟩; have n0_ := Aside0.mk (Kd.S_mono (Kd.S_told (Kd.S_told (Kd.S_told (Kd.S_old (by (with_reducible repeat (first | apply Kd.S_alloc | apply Kd.S_drewN | apply Kd.S_drew)); exact HO_3.out) hb) (Kd.R_base ho0)) (Kd.R_base ho1)) (Kd.R_base ho2)) (fun _ h_ => h_.1)); have n1_ := Aside0.mk (Kd.R_lower ho0 (below_size (by repeat (first | (with_reducible first | exact HB.out | apply below_alloc | apply pw_below_drewN | apply below_drew1) | exact HB.out)))); have n2_ := Aside0.mk (Kd.R_lower ho1 (below_size (by repeat (first | (with_reducible first | exact HB.out | apply below_alloc | apply pw_below_drewN | apply below_drew1) | exact HB.out)))); have n3_ := Aside0.mk (Kd.R_lower ho2 (below_size (by repeat (first | (with_reducible first | exact HB.out | apply below_alloc | apply pw_below_drewN | apply below_drew1) | exact HB.out)))); have n4_ := Aside0.mk (below_step (by repeat (first | (with_reducible first | exact HB.out | apply below_alloc | apply pw_below_drewN | apply below_drew1) | exact HB.out)) hb); clear HO_3; clear HB; have HO_3 := n0_; have HO210 := n1_; have HO213 := n2_; have HO216 := n3_; have HB := n4_; clear n0_ n1_ n2_ n3_ n4_; (try clear hb); (try clear hb2); (try clear hk); (try clear hi); (try clear ho0); (try clear ho1); (try clear ho2); have p10 : 0 ≤ (x4_1 : Int) := of_decide_eq_true (by first | (with_reducible assumption) | assumption); have q10 : (x4_1 : Int) < ((x3_1.length : Int) : Int) := of_decide_eq_true (by first | (with_reducible assumption) | assumption); obtain ⟨go10, co10, eo10, gb10, gl10, cl10, HG10⟩ := Kd.S_form HO_3.out (by omega); (first | cases eo10 | (injection eo10 with ea_ en_ ec_; (first | subst ea_ | (injection ea_ with ea_; subst ea_)); subst ec_; clear en_)); have GB10 := Aside0.mk gb10; have GG10 := Aside0.mk HG10; clear gb10 gl10 HG10; obtain ⟨_, ce10, hcl10, hM10, hcc10, hfr10, _, _⟩ := Kd.S_elem HO_3.out z66 (x4_1 : Int) p10 q10; obtain ⟨ve10_6, ve10_7, ve10_8, rfl, ge10_6, ge10_7, ge10_8⟩ := k66_openM hM10; have hx10_0 : w11.cell? ⟨go10, (x4_1 : Int).toNat * 9, none⟩ = some (.int .i64 ((rd_T66 x3_1 x4_1).f0)) := hcc10 0 _ rfl; have hx10_1 : w11.cell? ⟨go10, (x4_1 : Int).toNat * 9 + 1, none⟩ = some (.int .i64 ((rd_T66 x3_1 x4_1).f1)) := hcc10 1 _ rfl; have hx10_2 : w11.cell? ⟨go10, (x4_1 : Int).toNat * 9 + 2, none⟩ = some (.int .i64 ((rd_T66 x3_1 x4_1).f2)) := hcc10 2 _ rfl; have hx10_3 : w11.cell? ⟨go10, (x4_1 : Int).toNat * 9 + 3, none⟩ = some (.int .i64 ((rd_T66 x3_1 x4_1).f3)) := hcc10 3 _ rfl; have hx10_4 : w11.cell? ⟨go10, (x4_1 : Int).toNat * 9 + 4, none⟩ = some (.int .i64 ((rd_T66 x3_1 x4_1).f4)) := hcc10 4 _ rfl; have hx10_5 : w11.cell? ⟨go10, (x4_1 : Int).toNat * 9 + 5, none⟩ = some (.int .i64 ((rd_T66 x3_1 x4_1).f5)) := hcc10 5 _ rfl; have hx10_6 : w11.cell? ⟨go10, (x4_1 : Int).toNat * 9 + 6, none⟩ = some (ve10_6) := hcc10 6 _ rfl; have hx10_7 : w11.cell? ⟨go10, (x4_1 : Int).toNat * 9 + 7, none⟩ = some (ve10_7) := hcc10 7 _ rfl; have hx10_8 : w11.cell? ⟨go10, (x4_1 : Int).toNat * 9 + 8, none⟩ = some (ve10_8) := hcc10 8 _ rfl; have hf10_0 : w11.frozen? ⟨go10, (x4_1 : Int).toNat * 9, none⟩ = false := hfr10 0; have hf10_1 : w11.frozen? ⟨go10, (x4_1 : Int).toNat * 9 + 1, none⟩ = false := hfr10 1; have hf10_2 : w11.frozen? ⟨go10, (x4_1 : Int).toNat * 9 + 2, none⟩ = false := hfr10 2; have hf10_3 : w11.frozen? ⟨go10, (x4_1 : Int).toNat * 9 + 3, none⟩ = false := hfr10 3; have hf10_4 : w11.frozen? ⟨go10, (x4_1 : Int).toNat * 9 + 4, none⟩ = false := hfr10 4; have hf10_5 : w11.frozen? ⟨go10, (x4_1 : Int).toNat * 9 + 5, none⟩ = false := hfr10 5; have hf10_6 : w11.frozen? ⟨go10, (x4_1 : Int).toNat * 9 + 6, none⟩ = false := hfr10 6; have hf10_7 : w11.frozen? ⟨go10, (x4_1 : Int).toNat * 9 + 7, none⟩ = false := hfr10 7; have hf10_8 : w11.frozen? ⟨go10, (x4_1 : Int).toNat * 9 + 8, none⟩ = false := hfr10 8; clear hcl10 hcc10 hfr10 hM10; replace p10 := eq_true p10; replace q10 := eq_true q10; have n_ := Aside0.mk (Kd.S_mono (ok' := (fun k_ => some k_ ≠ (v209 : Value).ownBlock ∧ some k_ ≠ (v212 : Value).ownBlock ∧ some k_ ≠ (v215 : Value).ownBlock)) HO_3.out (fun k_ hk => ⟨hk.1.1.2, ⟨hk.1.2, hk.2⟩⟩)); clear HO_3; have HO_3 := n_; clear n_; have HX12 := Aside0.mk (show Kd.S k66 66 w11 w.heap.size (fun k_ => ((fun _ => True)) k_ ∧ ¬ ((fun k_ => some k_ = (v209 : Value).ownBlock ∨ some k_ = (v212 : Value).ownBlock ∨ some k_ = (v215 : Value).ownBlock)) k_) (.slice (some ⟨go10, 0, none⟩) x3_1.length co10) x3_1 from (by (with_reducible repeat (first | apply Kd.S_alloc | apply Kd.S_drewN | apply Kd.S_drew)); exact Kd.S_mono HO_3.out (fun k_ hk => ⟨trivial, fun e_ => e_.elim (fun h_ => hk.1 h_) (fun h_ => h_.elim (fun h_ => hk.2.1 h_) (fun h_ => hk.2.2 h_))⟩))); obtain ⟨oki12, ce12, hcl12, hM12, hcc12, hfr12, hoki12, hH12⟩ := Kd.S_elem HX12.out z66 (x4_1 : Int) (of_decide_eq_true (by first | (with_reducible assumption) | assumption)) (by have h_ : (x4_1 : Int) < ((x3_1.length : Int) : Int) := of_decide_eq_true (by first | (with_reducible assumption) | assumption); first | exact h_ | (have e_ := (Kd.S_reads' HO_3.out).1; omega) | simpa using h_); obtain ⟨ve12_6, ve12_7, ve12_8, rfl, ge12_6, ge12_7, ge12_8⟩ := k66_openM hM12; have HP12 := Kd.S_seg hH12 (of_decide_eq_true (by first | (with_reducible assumption) | assumption)) (by have h_ : (x4_1 : Int) < ((x3_1.length : Int) : Int) := of_decide_eq_true (by first | (with_reducible assumption) | assumption); first | exact h_ | (have e_ := (Kd.S_reads' HO_3.out).1; omega) | simpa using h_) (seg := [.int .i64 t202, .int .i64 t203, .int .i64 t204, .int .i64 t205, .int .i64 t206, .int .i64 t207, v209, v212, v215]) (j := 0) (show 9 ≤ 9 from by decide) (x' := (⟨t202, t203, t204, t205, t206, t207, t208, t211, t214⟩ : S66)) (k66_mkM _ _ _ (⟨t202, t203, t204, t205, t206, t207, t208, t211, t214⟩ : S66) (Kd.R_mono (Kd.R_tight rfl (Kd.R_mono (ok' := fun k_ => ((fun _ => True)) k_ ∧ k_ ≠ go10) (Kd.R_apart' (HO210.out) (Kd.S_typed HO_3.out) (by decide)) (fun k_ hk => ⟨trivial, fun e_ => (hk.2) (by rw [e_]; rfl)⟩))) (fun _ h_ => Or.inr (Or.inl h_))) (Kd.R_mono (Kd.R_tight rfl (Kd.R_mono (ok' := fun k_ => ((fun _ => True)) k_ ∧ k_ ≠ go10) (Kd.R_apart' (HO213.out) (Kd.S_typed HO_3.out) (by decide)) (fun k_ hk => ⟨trivial, fun e_ => (hk.2) (by rw [e_]; rfl)⟩))) (fun _ h_ => Or.inr (Or.inr (Or.inl h_)))) (Kd.R_mono (Kd.R_tight rfl (Kd.R_mono (ok' := fun k_ => ((fun _ => True)) k_ ∧ k_ ≠ go10) (Kd.R_apart' (HO216.out) (Kd.S_typed HO_3.out) (by decide)) (fun k_ hk => ⟨trivial, fun e_ => (hk.2) (by rw [e_]; rfl)⟩))) (fun _ h_ => Or.inr (Or.inr (Or.inr (h_)))))) (fun _ hk => hk) (fun k_ hk_ => hk_.elim (fun h_ => ((Kd.R_mono (ok' := fun k_ => ((fun _ => True)) k_ ∧ k_ ≠ go10) (Kd.R_apart' (HO210.out) (Kd.S_typed HO_3.out) (by decide)) (fun k_ hk => ⟨trivial, fun e_ => (hk.2) (by rw [e_]; rfl)⟩))).1 k_ h_.symm) (fun h_ => h_.elim (fun h_ => ((Kd.R_mono (ok' := fun k_ => ((fun _ => True)) k_ ∧ k_ ≠ go10) (Kd.R_apart' (HO213.out) (Kd.S_typed HO_3.out) (by decide)) (fun k_ hk => ⟨trivial, fun e_ => (hk.2) (by rw [e_]; rfl)⟩))).1 k_ h_.symm) (fun h_ => ((Kd.R_mono (ok' := fun k_ => ((fun _ => True)) k_ ∧ k_ ≠ go10) (Kd.R_apart' (HO216.out) (Kd.S_typed HO_3.out) (by decide)) (fun k_ hk => ⟨trivial, fun e_ => (hk.2) (by rw [e_]; rfl)⟩))).1 k_ h_.symm))); have hx12_0 := hcc12 0 _ rfl; (try simp only [show (k66).sz = 9 from rfl, Nat.mul_one, Nat.add_zero] at hx12_0); have hf12_0 := hfr12 0; (try simp only [show (k66).sz = 9 from rfl, Nat.mul_one, Nat.add_zero] at hf12_0); have hx12_1 := hcc12 1 _ rfl; (try simp only [show (k66).sz = 9 from rfl, Nat.mul_one, Nat.add_zero] at hx12_1); have hf12_1 := hfr12 1; (try simp only [show (k66).sz = 9 from rfl, Nat.mul_one, Nat.add_zero] at hf12_1); have hx12_2 := hcc12 2 _ rfl; (try simp only [show (k66).sz = 9 from rfl, Nat.mul_one, Nat.add_zero] at hx12_2); have hf12_2 := hfr12 2; (try simp only [show (k66).sz = 9 from rfl, Nat.mul_one, Nat.add_zero] at hf12_2); have hx12_3 := hcc12 3 _ rfl; (try simp only [show (k66).sz = 9 from rfl, Nat.mul_one, Nat.add_zero] at hx12_3); have hf12_3 := hfr12 3; (try simp only [show (k66).sz = 9 from rfl, Nat.mul_one, Nat.add_zero] at hf12_3); have hx12_4 := hcc12 4 _ rfl; (try simp only [show (k66).sz = 9 from rfl, Nat.mul_one, Nat.add_zero] at hx12_4); have hf12_4 := hfr12 4; (try simp only [show (k66).sz = 9 from rfl, Nat.mul_one, Nat.add_zero] at hf12_4); have hx12_5 := hcc12 5 _ rfl; (try simp only [show (k66).sz = 9 from rfl, Nat.mul_one, Nat.add_zero] at hx12_5); have hf12_5 := hfr12 5; (try simp only [show (k66).sz = 9 from rfl, Nat.mul_one, Nat.add_zero] at hf12_5); have hx12_6 := hcc12 6 _ rfl; (try simp only [show (k66).sz = 9 from rfl, Nat.mul_one, Nat.add_zero] at hx12_6); have hf12_6 := hfr12 6; (try simp only [show (k66).sz = 9 from rfl, Nat.mul_one, Nat.add_zero] at hf12_6); have hx12_7 := hcc12 7 _ rfl; (try simp only [show (k66).sz = 9 from rfl, Nat.mul_one, Nat.add_zero] at hx12_7); have hf12_7 := hfr12 7; (try simp only [show (k66).sz = 9 from rfl, Nat.mul_one, Nat.add_zero] at hf12_7); have hx12_8 := hcc12 8 _ rfl; (try simp only [show (k66).sz = 9 from rfl, Nat.mul_one, Nat.add_zero] at hx12_8); have hf12_8 := hfr12 8; (try simp only [show (k66).sz = 9 from rfl, Nat.mul_one, Nat.add_zero] at hf12_8); clear hcl12 hcc12 hfr12 hM12 hoki12 hH12) | ((with_reducible refine gate_store (t := 66) (p := 21) rfl ?_); (try have st12_6 := fun (a_ : Addr) (m_ : Mode) (W_ : World) => run_store Try.prog W_ a_ v209 m_ (Kd.R_val HO210.out).2); (try have st12_7 := fun (a_ : Addr) (m_ : Mode) (W_ : World) => run_store Try.prog W_ a_ v212 m_ (Kd.R_val HO213.out).2); (try have st12_8 := fun (a_ : Addr) (m_ : Mode) (W_ : World) => run_store Try.prog W_ a_ v215 m_ (Kd.R_val HO216.out).2); refine store_event (t := 66) (p := 21) (v := ?vo_w13) (w1 := (((((((((w11.setCell ⟨go10, (x4_1 : Int).toNat * 9, none⟩ (.int .i64 t202)).setCell ⟨go10, (x4_1 : Int).toNat * 9 + 1, none⟩ (.int .i64 t203)).setCell ⟨go10, (x4_1 : Int).toNat * 9 + 2, none⟩ (.int .i64 t204)).setCell ⟨go10, (x4_1 : Int).toNat * 9 + 3, none⟩ (.int .i64 t205)).setCell ⟨go10, (x4_1 : Int).toNat * 9 + 4, none⟩ (.int .i64 t206)).setCell ⟨go10, (x4_1 : Int).toNat * 9 + 5, none⟩ (.int .i64 t207)).setCell ⟨go10, (x4_1 : Int).toNat * 9 + 6, none⟩ (v209)).setCell ⟨go10, (x4_1 : Int).toNat * 9 + 7, none⟩ (v212)).setCell ⟨go10, (x4_1 : Int).toNat * 9 + 8, none⟩ (v215))) ?hg ?ho ?hn ?hr ?_; (case ho => rfl); (case hg => rfl); (case hn => rfl); (case hr => first | (go_simp; done) | (go_simp; rfl)); intro w13 hw; have hg : w11.grownBy w13 (some go10) := (by rw [hw]; exact HP12.2); have hp_ : Kd.S k66 66 w13 w.heap.size (fun _ => True) (.slice (some ⟨go10, 0, none⟩) x3_1.length co10) y217 := (by rw [hw, Ny217.out]; exact HP12.1); clear HP12; (try clear st12_6); (try clear st12_7); (try clear st12_8); have n0_ := Aside0.mk (hp_); have n1_ := Aside0.mk ((by rw [hw]; exact below_set (below_set (below_set (below_set (below_set (below_set (below_set (below_set (below_set (HB.out) GB10.out) GB10.out) GB10.out) GB10.out) GB10.out) GB10.out) GB10.out) GB10.out) GB10.out : Below w.heap.size w w13)); clear HO_3; clear HB; clear HO210; clear HO213; clear HO216; have HO_3 := n0_; have HB := n1_; clear n0_ n1_; clear hg hw hp_))
                go_roundg k1
                case measure => have := HK1.out; omega
                case rel => exact ⟨(y217), (wrap64 (x4_1 + 1)), (by first | rfl | (simp; done) | (simp [*]; done)), H', ⟨by have := HK1.out; omega⟩, ⟨by (with_reducible repeat (first | apply Kd.S_alloc | apply Kd.S_drewN | apply Kd.S_drew)); exact HO_3.out⟩, ⟨by repeat (first | (with_reducible first | exact HB.out | apply below_alloc | apply pw_below_drewN | apply below_drew1) | exact HB.out)⟩⟩
              · rw [if_neg c9] at H
                exact absurd H (by simp)
            · rw [if_neg c7] at H
              exact absurd H (by simp)
          · rw [if_neg c6] at H
            have c6b0 : decide (x4_1 < (l0.length : Int)) = false := decide_eq_false c6
            clear c6
            obtain rfl := Option.some.inj H
            go_wp2
            go_ret
            exact ⟨_, by first | rfl | (simp [errW_none, errW_some] <;> rfl) | (simp [*, errW_none, errW_some] <;> rfl), by (with_reducible repeat (first | apply Kd.S_alloc | apply Kd.S_drewN | apply Kd.S_drew)); exact HO_3.out, by repeat (first | (with_reducible first | exact HB.out | apply below_alloc | apply pw_below_drewN | apply below_drew1) | exact HB.out)⟩
    · rw [if_neg c3] at H
      exact absurd H (by simp)
  · rw [if_neg c2] at H
    exact absurd H (by simp)

end Go.Proofs.Ytoedcnhgobbnfaa.All

namespace Go.Proofs.Ytoedcnhgobbnfaa.All
open Go.RowKit Go.Proofs.YtoedcnhgobbnfaaW.PrintWords Go.Proofs.YtoedcnhgobbnfaaW.PrintLast Go.Proofs.YtoedcnhgobbnfaaW.PrintMore
attribute [local go_sem] max2_int min2_int max_two min_two max_three min_three max_four min_four   -- for this text's walks alone
set_option linter.unusedVariables false
set_option linter.unusedSimpArgs false

/-! ### laws_toBlock: function 70 -/
def laws_toBlock.f (k : Nat) (l0_0 : List (S140)) : Option ((List (S66))) := (laws_toInstrS.f k l0_0).bind fun t221 => (some t221)
set_option maxHeartbeats 8000000 in
set_option maxRecDepth 100000 in
theorem laws_toBlock.calls (k : Nat) (A0_0 : Option Addr) (c0_0 : Nat) (l0_0 : List (S140)) (r : List (S66)) (w : World) (hr0_0 : Kd.C k140 w A0_0 l0_0.length l0_0) (hc0_0 : l0_0.length ≤ c0_0) (h : laws_toBlock.f k l0_0 = some r) :
    Calls Try.prog 70 #[.agg #[.slice A0_0 l0_0.length c0_0]] w fun e w' => ∃ v0_ : Value, e = .returned (.agg #[v0_]) ∧ Kd.S k66 66 w' w.heap.size (fun _ => True) v0_ r ∧ Below w.heap.size w w' := by
  have hu96 := Try.underlying96
  have hu62 := Try.underlying62
  have HR0_0 := Aside0.mk hr0_0
  have HC0_0 := Aside0.mk hc0_0
  clear hr0_0 hc0_0
  have HB := Aside0.mk (Below.refl w.heap.size w)
  have H : ((laws_toInstrS.f k l0_0).bind fun t221 => (some t221)) = some r := h
  clear h
  replace H := Option.bind_eq_some_iff.mp H
  obtain ⟨t221, A20, H⟩ := H
  replace H : (some t221) = some r := H
  have A2 := Aside0.mk A20
  clear A20
  obtain rfl := Option.some.inj H
  go_enter Try.func70, Try.ntmps70
  go_wp2_with (first | ((with_reducible refine gate_dst (N := 1) rfl ?_); refine box_event ?hg (N := 1) ?hd (cs := #[.slice A0_0 l0_0.length c0_0]) (t := 96) ?hr ?_; (case hd => rfl); (case hg => rfl); (case hr => first | (go_simp; done) | (go_simp; rfl)); intro gb218 hg w3 hbox hb; have n0_ := Aside0.mk (below_step (by repeat (first | (with_reducible first | exact HB.out | apply below_alloc | apply pw_below_drewN | apply below_drew1) | exact HB.out)) hb); have n1_ := Aside0.mk (hbox); have n2_ := Aside0.mk ((by rw [hg]; exact (below_size (by repeat (first | (with_reducible first | exact HB.out | apply below_alloc | apply pw_below_drewN | apply below_drew1) | exact HB.out))) : w.heap.size ≤ gb218)); have n3_ := Aside0.mk ((by rw [hg]; exact (below_size (by repeat (first | (with_reducible first | exact HB.out | apply below_alloc | apply pw_below_drewN | apply below_drew1) | exact HB.out))) : w.heap.size ≤ gb218)); clear HB; have HB := n0_; have BK218 := n1_; have GW218 := n2_; have GE218 := n3_; clear n0_ n1_ n2_ n3_; clear hb hbox hg) | ((with_reducible refine gate_dst (N := 2) rfl ?_); refine box_event ?hg (N := 2) ?hd (cs := #[.slice none 0 0]) (t := 62) ?hr ?_; (case hd => rfl); (case hg => rfl); (case hr => first | (go_simp; done) | (go_simp; rfl)); intro gb219 hg w4 hbox hb; have n0_ := Aside0.mk (blk_below (g := gb218) (o := .cells #[.slice A0_0 l0_0.length c0_0] 96 (0, 0)) (by (with_reducible repeat (first | refine blk_drewN ?_ _ | refine blk_drew ?_ | refine blk_alloc ?_ _)); exact BK218.out) hb); have n1_ := Aside0.mk (below_step (by repeat (first | (with_reducible first | exact HB.out | apply below_alloc | apply pw_below_drewN | apply below_drew1 | refine below_set ?_ GE218.out) | exact HB.out)) hb); have n2_ := Aside0.mk (hbox); have n3_ := Aside0.mk ((by rw [hg]; exact (below_size (by repeat (first | (with_reducible first | exact HB.out | apply below_alloc | apply pw_below_drewN | apply below_drew1 | refine below_set ?_ GE218.out) | exact HB.out))) : w.heap.size ≤ gb219)); have n4_ := Aside0.mk ((by rw [hg]; exact (below_size (by repeat (first | (with_reducible first | exact HB.out | apply below_alloc | apply pw_below_drewN | apply below_drew1 | refine below_set ?_ GE218.out) | exact HB.out))) : w.heap.size ≤ gb219)); have n5_ := Aside0.mk ((by rw [hg]; exact Nat.ne_of_lt (blk_lt (g := gb218) (o := .cells #[.slice A0_0 l0_0.length c0_0] 96 (0, 0)) (by (with_reducible repeat (first | refine blk_drewN ?_ _ | refine blk_drew ?_ | refine blk_alloc ?_ _)); exact BK218.out)) : gb218 ≠ gb219)); have n6_ := Aside0.mk ((by rw [hg]; exact Nat.ne_of_gt (blk_lt (g := gb218) (o := .cells #[.slice A0_0 l0_0.length c0_0] 96 (0, 0)) (by (with_reducible repeat (first | refine blk_drewN ?_ _ | refine blk_drew ?_ | refine blk_alloc ?_ _)); exact BK218.out)) : gb219 ≠ gb218)); clear BK218; clear HB; have BK218 := n0_; have HB := n1_; have BK219 := n2_; have GW219 := n3_; have GE219 := n4_; have NB218_219 := n5_; have NB219_218 := n6_; clear n0_ n1_ n2_ n3_ n4_ n5_ n6_; clear hb hbox hg) | ((with_reducible refine gate_dst (N := 3) rfl ?_); refine box_event ?hg (N := 3) ?hd (cs := #[.slice none 0 0]) (t := 62) ?hr ?_; (case hd => rfl); (case hg => rfl); (case hr => first | (go_simp; done) | (go_simp; rfl)); intro gb220 hg w5 hbox hb; have n0_ := Aside0.mk (blk_below (g := gb218) (o := .cells #[.slice A0_0 l0_0.length c0_0] 96 (0, 0)) (by (with_reducible repeat (first | refine blk_drewN ?_ _ | refine blk_drew ?_ | refine blk_alloc ?_ _)); exact BK218.out) hb); have n1_ := Aside0.mk (blk_below (g := gb219) (o := .cells #[.slice none 0 0] 62 (0, 0)) (by (with_reducible repeat (first | refine blk_drewN ?_ _ | refine blk_drew ?_ | refine blk_alloc ?_ _)); exact BK219.out) hb); have n2_ := Aside0.mk (below_step (by repeat (first | (with_reducible first | exact HB.out | apply below_alloc | apply pw_below_drewN | apply below_drew1 | refine below_set ?_ GE218.out | refine below_set ?_ GE219.out) | exact HB.out)) hb); have n3_ := Aside0.mk (hbox); have n4_ := Aside0.mk ((by rw [hg]; exact (below_size (by repeat (first | (with_reducible first | exact HB.out | apply below_alloc | apply pw_below_drewN | apply below_drew1 | refine below_set ?_ GE218.out | refine below_set ?_ GE219.out) | exact HB.out))) : w.heap.size ≤ gb220)); have n5_ := Aside0.mk ((by rw [hg]; exact (below_size (by repeat (first | (with_reducible first | exact HB.out | apply below_alloc | apply pw_below_drewN | apply below_drew1 | refine below_set ?_ GE218.out | refine below_set ?_ GE219.out) | exact HB.out))) : w.heap.size ≤ gb220)); have n6_ := Aside0.mk ((by rw [hg]; exact Nat.ne_of_lt (blk_lt (g := gb218) (o := .cells #[.slice A0_0 l0_0.length c0_0] 96 (0, 0)) (by (with_reducible repeat (first | refine blk_drewN ?_ _ | refine blk_drew ?_ | refine blk_alloc ?_ _)); exact BK218.out)) : gb218 ≠ gb220)); have n7_ := Aside0.mk ((by rw [hg]; exact Nat.ne_of_gt (blk_lt (g := gb218) (o := .cells #[.slice A0_0 l0_0.length c0_0] 96 (0, 0)) (by (with_reducible repeat (first | refine blk_drewN ?_ _ | refine blk_drew ?_ | refine blk_alloc ?_ _)); exact BK218.out)) : gb220 ≠ gb218)); have n8_ := Aside0.mk ((by rw [hg]; exact Nat.ne_of_lt (blk_lt (g := gb219) (o := .cells #[.slice none 0 0] 62 (0, 0)) (by (with_reducible repeat (first | refine blk_drewN ?_ _ | refine blk_drew ?_ | refine blk_alloc ?_ _)); exact BK219.out)) : gb219 ≠ gb220)); have n9_ := Aside0.mk ((by rw [hg]; exact Nat.ne_of_gt (blk_lt (g := gb219) (o := .cells #[.slice none 0 0] 62 (0, 0)) (by (with_reducible repeat (first | refine blk_drewN ?_ _ | refine blk_drew ?_ | refine blk_alloc ?_ _)); exact BK219.out)) : gb220 ≠ gb219)); clear BK218; clear BK219; clear HB; have BK218 := n0_; have BK219 := n1_; have HB := n2_; have BK220 := n3_; have GW220 := n4_; have GE220 := n5_; have NB218_220 := n6_; have NB220_218 := n7_; have NB219_220 := n8_; have NB220_219 := n9_; clear n0_ n1_ n2_ n3_ n4_ n5_ n6_ n7_ n8_ n9_; clear hb hbox hg; have hnb6 := NB218_219.out; have hnc6 := NB219_218.out; have hnb7 := NB218_220.out; have hnc7 := NB220_218.out; have hcz8_0 : w5.cell? ⟨gb218, 0, none⟩ = some (.slice A0_0 l0_0.length c0_0) := (blk_cell BK218.out 0).trans rfl; have hfz8_0 := blk_frozen BK218.out 0) | ((with_reducible refine gate_callee (f := 82) rfl ?_); refine goesL_ (some 6) rfl rfl Try.func82 (by kernel_rfl) rfl #[.slice A0_0 l0_0.length c0_0] rfl (by (try simp only [List.map_toArray, List.map_cons, List.map_nil]); first | done | rfl | (simp only [List.length_drop, List.length_take]; rfl)) ?_; (with_reducible refine (laws_toInstrS.calls k _ _ l0_0 t221 _ ?side1 ?side2 A2.out).mono ?_); (case side1 => repeat (first | exact (Kd.C_below HR0_0.out HB.out) | (with_reducible refine Kd.C_alloc ?_ _) | (with_reducible refine Kd.C_drewN ?_ _) | (with_reducible refine Kd.C_drew ?_))); (case side2 => exact HC0_0.out); rintro e w9 ⟨v222, rfl, ho0, hb⟩; refine ⟨_, rfl, ?_⟩; have n0_ := Aside0.mk (Kd.S_lower ho0 (below_size (by repeat (first | (with_reducible first | exact HB.out | apply below_alloc | apply pw_below_drewN | apply below_drew1 | refine below_set ?_ GE218.out | refine below_set ?_ GE219.out | refine below_set ?_ GE220.out) | exact HB.out)))); have n1_ := Aside0.mk (blk_below (g := gb218) (o := .cells #[.slice A0_0 l0_0.length c0_0] 96 (0, 0)) (by (with_reducible repeat (first | refine blk_drewN ?_ _ | refine blk_drew ?_ | refine blk_alloc ?_ _)); exact BK218.out) hb); have n2_ := Aside0.mk (blk_below (g := gb219) (o := .cells #[.slice none 0 0] 62 (0, 0)) (by (with_reducible repeat (first | refine blk_drewN ?_ _ | refine blk_drew ?_ | refine blk_alloc ?_ _)); exact BK219.out) hb); have n3_ := Aside0.mk (blk_below (g := gb220) (o := .cells #[.slice none 0 0] 62 (0, 0)) (by (with_reducible repeat (first | refine blk_drewN ?_ _ | refine blk_drew ?_ | refine blk_alloc ?_ _)); exact BK220.out) hb); have n4_ := Aside0.mk (below_step (by repeat (first | (with_reducible first | exact HB.out | apply below_alloc | apply pw_below_drewN | apply below_drew1 | refine below_set ?_ GE218.out | refine below_set ?_ GE219.out | refine below_set ?_ GE220.out) | exact HB.out)) hb); clear BK218; clear BK219; clear BK220; clear HB; have HO223 := n0_; have BK218 := n1_; have BK219 := n2_; have BK220 := n3_; have HB := n4_; clear n0_ n1_ n2_ n3_ n4_; (try clear hb); (try clear hb2); (try clear hk); (try clear hi); (try clear ho0); obtain ⟨Ao10, co10, eo10⟩ := Kd.S_slice HO223.out; subst eo10; have hnb11 := NB220_219.out; have hnc11 := NB219_220.out; have hcz12_0 : w9.cell? ⟨gb220, 0, none⟩ = some (.slice none 0 0) := (blk_cell BK220.out 0).trans rfl; have hfz12_0 := blk_frozen BK220.out 0; have hcz13_0 : w9.cell? ⟨gb219, 0, none⟩ = some (.slice none 0 0) := (blk_cell BK219.out 0).trans rfl; have hfz13_0 := blk_frozen BK219.out 0))
  refine bodyPost_ret (results_cell_row rfl _ _ gb219 62 #[.slice Ao10 t221.length co10] (0, 0) _ rfl (by (with_reducible repeat (first | refine blk_drewN ?_ _ | refine blk_drew ?_ | refine blk_alloc ?_ _)); refine blk_put (cs := #[.slice none 0 0]) ?_ 0 _ rfl; (with_reducible repeat (first | refine blk_drewN ?_ _ | refine blk_drew ?_ | refine blk_alloc ?_ _)); refine blk_far ?_ NB219_220.out _; (with_reducible repeat (first | refine blk_drewN ?_ _ | refine blk_drew ?_ | refine blk_alloc ?_ _)); exact BK219.out) Try.underlying62 rfl (by kernel_rfl)) rfl ?_
  exact ⟨_, by first | rfl | (simp [errW_none, errW_some] <;> rfl) | (simp [*, errW_none, errW_some] <;> rfl), by (with_reducible repeat (first | apply Kd.S_alloc | apply Kd.S_drewN | apply Kd.S_drew)); exact Kd.S_mono (Kd.S_far (p := ⟨gb219, 0, none⟩) (Kd.S_far (p := ⟨gb220, 0, none⟩) (Kd.S_types (Kd.S_types HO223.out BK220.out (by decide)) BK219.out (by decide)) (fun _ hk => hk.1.2) (.slice Ao10 t221.length co10)) (fun _ hk => hk.2) (.slice Ao10 t221.length co10)) (fun _ hk => trivial), by repeat (first | (with_reducible first | exact HB.out | apply below_alloc | apply pw_below_drewN | apply below_drew1 | refine below_set ?_ GE218.out | refine below_set ?_ GE219.out | refine below_set ?_ GE220.out) | exact HB.out)⟩

end Go.Proofs.Ytoedcnhgobbnfaa.All

namespace Go.Proofs.Ytoedcnhgobbnfaa.All
open Go.RowKit Go.Proofs.YtoedcnhgobbnfaaW.PrintWords Go.Proofs.YtoedcnhgobbnfaaW.PrintLast Go.Proofs.YtoedcnhgobbnfaaW.PrintMore
attribute [local go_sem] max2_int min2_int max_two min_two max_three min_three max_four min_four   -- for this text's walks alone
set_option linter.unusedVariables false
set_option linter.unusedSimpArgs false

/-! ### laws_toBlockS: function 48 -/
def laws_toBlockS.l0 : Nat → List (S96) → List (S62) → Int → Option ((List (S62)))
  | 0, _, _, _ => none
  | k + 1, x0, x3, x4 => if x4 < (x0.length : Int) then (if 0 ≤ x4 then ((laws_toBlock.f k ((rd_T96 x0 x4).f0)).bind fun t228 => (if x4 < (x3.length : Int) then (laws_toBlockS.l0 k x0 (x3.set (x4 : Int).toNat (⟨t228⟩ : S62)) (wrap64 (x4 + 1))) else (none))) else (none)) else (some x3)
def laws_toBlockS.f (k : Nat) (l0 : List (S96)) : Option ((List (S62))) := if 0 ≤ (l0.length : Int) then (if ((l0.length : Int) : Int).toNat ≤ 11728124029610 then (laws_toBlockS.l0 k l0 (List.replicate ((l0.length : Int) : Int).toNat z62) 0) else (none)) else (none)
set_option maxHeartbeats 8000000 in
set_option maxRecDepth 100000 in
theorem laws_toBlockS.calls (k : Nat) (A0 : Option Addr) (c0 : Nat) (l0 : List (S96)) (r : List (S62)) (w : World) (hr0 : Kd.C k96 w A0 l0.length l0) (hc0 : l0.length ≤ c0) (h : laws_toBlockS.f k l0 = some r) :
    Calls Try.prog 48 #[.slice A0 l0.length c0] w fun e w' => ∃ v0_ : Value, e = .returned (v0_) ∧ Kd.R k62 62 w' w.heap.size (fun _ => True) v0_ r ∧ Below w.heap.size w w' := by
  have hu96 := Try.underlying96
  have hu62 := Try.underlying62
  have HR0 := Aside0.mk hr0
  have HC0 := Aside0.mk hc0
  clear hr0 hc0
  have HB := Aside0.mk (Below.refl w.heap.size w)
  have H : (if 0 ≤ (l0.length : Int) then (if ((l0.length : Int) : Int).toNat ≤ 11728124029610 then (laws_toBlockS.l0 k l0 (List.replicate ((l0.length : Int) : Int).toNat z62) 0) else (none)) else (none)) = some r := h
  clear h
  by_cases c2 : 0 ≤ (l0.length : Int)
  · rw [if_pos c2] at H
    have c2b0 := eq_true c2
    have c2b1 : decide (0 ≤ (l0.length : Int)) = true := decide_eq_true c2
    clear c2
    by_cases c3 : ((l0.length : Int) : Int).toNat ≤ 11728124029610
    · rw [if_pos c3] at H
      have c3b0 := eq_true c3
      have c3b1 : decide (((l0.length : Int) : Int).toNat ≤ 11728124029610) = true := decide_eq_true c3
      clear c3
      obtain ⟨y224, hy224⟩ : ∃ y_ : List (S62), y_ = (List.replicate ((l0.length : Int) : Int).toNat z62) := ⟨_, rfl⟩
      replace H : (laws_toBlockS.l0 k l0 y224 0) = some r := by first | (rw [hy224]; with_reducible exact H) | (have H2_ := (Option.bind_some _ _).symm.trans H; rw [hy224]; with_reducible exact H2_) | (have H2_ := (Option.bind_some _ _).symm.trans H; with_reducible exact H2_) | with_reducible exact H | (rw [hy224]; exact H) | exact H
      have Ny224 := Aside0.mk hy224
      clear hy224
      have H' := Aside0.mk H
      clear H
      go_enter Try.func48, Try.ntmps48
      go_wp2_with (first | ((with_reducible refine gate_dst (N := 7) rfl ?_); refine Kd.R_make k62 _ 62 rfl (N := 7) rfl 28 _ _ rfl (l0.length : Int) rfl rfl Try.underlying28 (.agg #[(.slice none 0 0)]) 24 info62 rfl (by decide) (by omega) z62 (ok := fun _ => True) (okp := fun _ => True) (k62_mkM _ _ _ z62 (Kd.R_nil _ _ _ _ _)) (fun _ hk => hk) trivial (of_decide_eq_true (by first | (with_reducible assumption) | assumption)) (Nat.le_trans (Nat.mul_le_mul_right _ (of_decide_eq_true (by first | (with_reducible assumption) | assumption) : (l0.length : Int).toNat ≤ 11728124029610)) (by omega)) (Below.refl _ _) (Nat.le_refl _) ?_; intro v225 w4 ho5 hb hg_ hnew_; clear hg_ hnew_; (first | rw [← Ny224.out] at ho5 | (simp only [Int.reduceToNat] at ho5; rw [← Ny224.out] at ho5)); have n0_ := Aside0.mk (Kd.R_lower ho5 (below_size (by repeat (first | (with_reducible first | exact HB.out | apply below_alloc | apply pw_below_drewN | apply below_drew1) | exact HB.out)))); have n1_ := Aside0.mk (below_step (by repeat (first | (with_reducible first | exact HB.out | apply below_alloc | apply pw_below_drewN | apply below_drew1) | exact HB.out)) hb); clear HB; have HO226 := n0_; have HB := n1_; clear n0_ n1_; clear hb ho5))
      go_loopg [4] k (fun kq v4 w' => ∃ (x3_1 : List (S62)) (x4_1 : Int), v4 = .int .i64 x4_1 ∧ Aside0 (laws_toBlockS.l0 kq l0 x3_1 x4_1 = some r) ∧ Aside0 (kq ≤ k) ∧ Aside0 (Kd.R k62 62 w' w.heap.size (fun _ => True) v225 x3_1) ∧ Aside0 (Below w.heap.size w w'))
      case atStart => exact ⟨(y224), (0), (by first | rfl | (simp; done) | (simp [*]; done)), H', ⟨Nat.le_refl _⟩, ⟨by (with_reducible repeat (first | apply Kd.R_alloc | apply Kd.R_drewN | apply Kd.R_drew)); exact HO226.out⟩, ⟨by repeat (first | (with_reducible first | exact HB.out | apply below_alloc | apply pw_below_drewN | apply below_drew1) | exact HB.out)⟩⟩
      case round =>
        clear H'
        try clear c2
        try clear c2b0
        try clear c2b1
        try clear p2
        try clear c3
        try clear c3b0
        try clear c3b1
        try clear c4
        obtain ⟨x3_1, x4_1, rfl, HA, HK1, HO_3, HB⟩ := hrel
        cases gk with
        | zero => exact absurd HA.out (by simp [laws_toBlockS.l0])
        | succ k1 =>
          have H := HA.out
          clear HA
          simp only [laws_toBlockS.l0] at H
          by_cases c6 : x4_1 < (l0.length : Int)
          · rw [if_pos c6] at H
            have c6b0 : decide (x4_1 < (l0.length : Int)) = true := decide_eq_true c6
            clear c6
            by_cases c7 : 0 ≤ x4_1
            · rw [if_pos c7] at H
              have c7b0 : decide (0 ≤ x4_1) = true := decide_eq_true c7
              clear c7
              replace H := Option.bind_eq_some_iff.mp H
              obtain ⟨t228, A80, H⟩ := H
              replace H : (if x4_1 < (x3_1.length : Int) then (laws_toBlockS.l0 k1 l0 (x3_1.set (x4_1 : Int).toNat (⟨t228⟩ : S62)) (wrap64 (x4_1 + 1))) else (none)) = some r := H
              have A8 := Aside0.mk A80
              clear A80
              by_cases c9 : x4_1 < (x3_1.length : Int)
              · rw [if_pos c9] at H
                have c9b0 : decide (x4_1 < (x3_1.length : Int)) = true := decide_eq_true c9
                clear c9
                obtain ⟨y231, hy231⟩ : ∃ y_ : List (S62), y_ = (x3_1.set (x4_1 : Int).toNat (⟨t228⟩ : S62)) := ⟨_, rfl⟩
                replace H : (laws_toBlockS.l0 k1 l0 y231 (wrap64 (x4_1 + 1))) = some r := by first | (rw [hy231]; with_reducible exact H) | (have H2_ := (Option.bind_some _ _).symm.trans H; rw [hy231]; with_reducible exact H2_) | (have H2_ := (Option.bind_some _ _).symm.trans H; with_reducible exact H2_) | with_reducible exact H | (rw [hy231]; exact H) | exact H
                have Ny231 := Aside0.mk hy231
                clear hy231
                have H' := Aside0.mk H
                clear H
                have p227 : 0 ≤ (x4_1 : Int) := of_decide_eq_true (by first | (with_reducible assumption) | assumption)
                have q227 : x4_1 < (l0.length : Int) := of_decide_eq_true (by first | (with_reducible assumption) | assumption)
                obtain ⟨ad227, A227_0, c227_0, e227, hx227_0, hl227_0, hi227_0⟩ := at_T96 HR0.out x4_1 p227 q227
                cases e227
                replace hx227_0 := (HB.out.cell (World.block_lt_of_cell? w _ hx227_0)).trans hx227_0
                have HR227_0 := Aside0.mk hi227_0
                have HC227_0 := Aside0.mk hl227_0
                clear hi227_0 hl227_0
                replace p227 := eq_true p227
                replace q227 := eq_true q227
                go_wp2_with (first | ((with_reducible refine gate_callee (f := 70) rfl ?_); refine goesL_ (some 20) rfl rfl Try.func70 (by kernel_rfl) rfl #[.agg #[.slice A227_0 ((rd_T96 l0 x4_1).f0).length c227_0]] rfl (by (try simp only [List.map_toArray, List.map_cons, List.map_nil]); first | done | rfl | (simp only [List.length_drop, List.length_take]; rfl)) ?_; (with_reducible refine (laws_toBlock.calls k1 _ _ ((rd_T96 l0 x4_1).f0) t228 _ ?side1 ?side2 A8.out).mono ?_); (case side1 => repeat (first | exact (Kd.C_below HR227_0.out HB.out) | (with_reducible refine Kd.C_alloc ?_ _) | (with_reducible refine Kd.C_drewN ?_ _) | (with_reducible refine Kd.C_drew ?_))); (case side2 => exact HC227_0.out); rintro e w11 ⟨v229, rfl, ho0, hb⟩; refine ⟨_, rfl, ?_⟩; have n0_ := Aside0.mk (Kd.R_elder' (by (with_reducible repeat (first | apply Kd.R_alloc | apply Kd.R_drewN | apply Kd.R_drew)); exact HO_3.out) (Kd.S_base ho0) hb); have n1_ := Aside0.mk (Kd.S_lower ho0 (below_size (by repeat (first | (with_reducible first | exact HB.out | apply below_alloc | apply pw_below_drewN | apply below_drew1) | exact HB.out)))); have n2_ := Aside0.mk (below_step (by repeat (first | (with_reducible first | exact HB.out | apply below_alloc | apply pw_below_drewN | apply below_drew1) | exact HB.out)) hb); clear HO_3; clear HB; have HO_3 := n0_; have HO230 := n1_; have HB := n2_; clear n0_ n1_ n2_; (try clear hb); (try clear hb2); (try clear hk); (try clear hi); (try clear ho0); have p10 : 0 ≤ (x4_1 : Int) := of_decide_eq_true (by first | (with_reducible assumption) | assumption); have q10 : (x4_1 : Int) < ((x3_1.length : Int) : Int) := of_decide_eq_true (by first | (with_reducible assumption) | assumption); obtain ⟨go10, co10, eo10, gb10, gl10, cl10, HG10⟩ := Kd.R_form HO_3.out (by omega); (first | cases eo10 | (injection eo10 with ea_ en_ ec_; (first | subst ea_ | (injection ea_ with ea_; subst ea_)); subst ec_; clear en_)); have GB10 := Aside0.mk gb10; have GG10 := Aside0.mk HG10; clear gb10 gl10 HG10; obtain ⟨ce10, hcl10, hM10, hcc10, hfr10⟩ := Kd.R_elem HO_3.out z62 (x4_1 : Int) p10 q10; obtain ⟨ve10_0, rfl, ge10_0⟩ := k62_openM hM10; have hx10_0 := hcc10 0 _ rfl; have hf10_0 := hfr10 0; (try simp only [show (k62).sz = 1 from rfl, Nat.mul_one, Nat.add_zero] at hx10_0); (try simp only [show (k62).sz = 1 from rfl, Nat.mul_one, Nat.add_zero] at hf10_0); clear hcl10 hcc10 hfr10 hM10; replace p10 := eq_true p10; replace q10 := eq_true q10; have n_ := Aside0.mk (Kd.R_mono (ok' := (fun k_ => some k_ ≠ (v229 : Value).ownBlock)) HO_3.out (fun k_ hk => hk.2)); clear HO_3; have HO_3 := n_; clear n_; have HX12 := Aside0.mk (show Kd.R k62 62 w11 w.heap.size (fun _ => True) (.slice (some ⟨go10, 0, none⟩) x3_1.length co10) x3_1 from (by (with_reducible repeat (first | apply Kd.R_alloc | apply Kd.R_drewN | apply Kd.R_drew)); exact Kd.R_mono HO_3.out (fun _ hk => trivial))); obtain ⟨ce12, hcl12, hM12, hcc12, hfr12⟩ := Kd.R_elem HX12.out z62 (x4_1 : Int) (of_decide_eq_true (by first | (with_reducible assumption) | assumption)) (by have h_ : (x4_1 : Int) < ((x3_1.length : Int) : Int) := of_decide_eq_true (by first | (with_reducible assumption) | assumption); first | exact h_ | (have e_ := (Kd.R_reads' HO_3.out).1; omega) | simpa using h_); obtain ⟨ve12_0, rfl, ge12_0⟩ := k62_openM hM12; have HP12 := Kd.R_seg HX12.out (x4_1 : Int) (of_decide_eq_true (by first | (with_reducible assumption) | assumption)) (by have h_ : (x4_1 : Int) < ((x3_1.length : Int) : Int) := of_decide_eq_true (by first | (with_reducible assumption) | assumption); first | exact h_ | (have e_ := (Kd.R_reads' HO_3.out).1; omega) | simpa using h_) (seg := [v229]) (j := 0) hcl12 hcc12 (show 1 ≤ 1 from by decide) (x' := (⟨t228⟩ : S62)) (k62_mkM _ _ _ (⟨t228⟩ : S62) (Kd.R_mono (Kd.R_apart' ((Kd.S_R HO230.out)) (Kd.R_typed HO_3.out) (by decide)) (fun k_ hk => ⟨trivial, fun e_ => (hk.2) (by rw [e_]; rfl)⟩))) (fun _ hk => hk); have hx12_0 := hcc12 0 _ rfl; (try simp only [show (k62).sz = 1 from rfl, Nat.mul_one, Nat.add_zero] at hx12_0); have hf12_0 := hfr12 0; (try simp only [show (k62).sz = 1 from rfl, Nat.mul_one, Nat.add_zero] at hf12_0); clear hcl12 hcc12 hfr12 hM12; (try simp only [show (k62).sz = 1 from rfl, Nat.mul_one, Nat.add_zero] at HP12)) | ((with_reducible refine gate_store (t := 62) (p := 21) rfl ?_); (try have st12_0 := fun (a_ : Addr) (m_ : Mode) (W_ : World) => run_store Try.prog W_ a_ v229 m_ (Kd.R_val (Kd.S_R HO230.out)).2); refine store_event (t := 62) (p := 21) (v := ?vo_w13) (w1 := (w11.setCell ⟨go10, (x4_1 : Int).toNat, none⟩ (v229))) ?hg ?ho ?hn ?hr ?_; (case ho => rfl); (case hg => rfl); (case hn => rfl); (case hr => first | (go_simp; done) | (go_simp; rfl)); intro w13 hw; have hg : w11.grownBy w13 (some go10) := (by rw [hw]; exact HP12.2); have hp_ : Kd.R k62 62 w13 w.heap.size (fun _ => True) (.slice (some ⟨go10, 0, none⟩) x3_1.length co10) y231 := (by rw [hw, Ny231.out]; exact HP12.1); clear HP12; (try clear st12_0); have n0_ := Aside0.mk (hp_); have n1_ := Aside0.mk ((by rw [hw]; exact below_set (HB.out) GB10.out : Below w.heap.size w w13)); clear HO_3; clear HB; clear HO230; have HO_3 := n0_; have HB := n1_; clear n0_ n1_; clear hg hw hp_))
                go_roundg k1
                case measure => have := HK1.out; omega
                case rel => exact ⟨(y231), (wrap64 (x4_1 + 1)), (by first | rfl | (simp; done) | (simp [*]; done)), H', ⟨by have := HK1.out; omega⟩, ⟨by (with_reducible repeat (first | apply Kd.R_alloc | apply Kd.R_drewN | apply Kd.R_drew)); exact HO_3.out⟩, ⟨by repeat (first | (with_reducible first | exact HB.out | apply below_alloc | apply pw_below_drewN | apply below_drew1) | exact HB.out)⟩⟩
              · rw [if_neg c9] at H
                exact absurd H (by simp)
            · rw [if_neg c7] at H
              exact absurd H (by simp)
          · rw [if_neg c6] at H
            have c6b0 : decide (x4_1 < (l0.length : Int)) = false := decide_eq_false c6
            clear c6
            obtain rfl := Option.some.inj H
            go_wp2
            go_ret
            exact ⟨_, by first | rfl | (simp [errW_none, errW_some] <;> rfl) | (simp [*, errW_none, errW_some] <;> rfl), by (with_reducible repeat (first | apply Kd.R_alloc | apply Kd.R_drewN | apply Kd.R_drew)); exact HO_3.out, by repeat (first | (with_reducible first | exact HB.out | apply below_alloc | apply pw_below_drewN | apply below_drew1) | exact HB.out)⟩
    · rw [if_neg c3] at H
      exact absurd H (by simp)
  · rw [if_neg c2] at H
    exact absurd H (by simp)

end Go.Proofs.Ytoedcnhgobbnfaa.All

namespace Go.Proofs.Ytoedcnhgobbnfaa.All
open Go.RowKit Go.Proofs.YtoedcnhgobbnfaaW.PrintWords Go.Proofs.YtoedcnhgobbnfaaW.PrintLast Go.Proofs.YtoedcnhgobbnfaaW.PrintMore
attribute [local go_sem] max2_int min2_int max_two min_two max_three min_three max_four min_four   -- for this text's walks alone
set_option linter.unusedVariables false
set_option linter.unusedSimpArgs false

/-! ### laws_toFunc: function 14 -/
def laws_toFunc.f (k : Nat) (a0_0 : ByteArray) (a0_1 : Int) (l0_2 : List Int) (a0_3 : Int) (l0_4 : List (S96)) : Option (ByteArray × Int × List Int × Int × (List (S62))) := (laws_toInt64S.f k l0_2).bind fun t235 => ((laws_toBlockS.f k l0_4).bind fun t238 => (some (a0_0, a0_1, t235, a0_3, t238)))
set_option maxHeartbeats 8000000 in
set_option maxRecDepth 100000 in
theorem laws_toFunc.calls (k : Nat) (a0_0 : ByteArray) (a0_1 : Int) (A0_2 : Option Addr) (c0_2 : Nat) (l0_2 : List Int) (a0_3 : Int) (A0_4 : Option Addr) (c0_4 : Nat) (l0_4 : List (S96)) (r1 : ByteArray) (r2 : Int) (r3 : List Int) (r4 : Int) (r5 : List (S62)) (w : World) (hr0_2 : Kd.C (Kd.int .i64) w A0_2 l0_2.length l0_2) (hc0_2 : l0_2.length ≤ c0_2) (hr0_4 : Kd.C k96 w A0_4 l0_4.length l0_4) (hc0_4 : l0_4.length ≤ c0_4) (h : laws_toFunc.f k a0_0 a0_1 l0_2 a0_3 l0_4 = some (r1, r2, r3, r4, r5)) :
    Calls Try.prog 14 #[.agg #[.string a0_0, .int .i64 a0_1, .slice A0_2 l0_2.length c0_2, .int .i64 a0_3, .slice A0_4 l0_4.length c0_4]] w fun e w' => ∃ v2_ v4_ : Value, e = .returned (.agg #[.string r1, .int .i64 r2, v2_, .int .i64 r4, v4_]) ∧ Kd.R (Kd.int .i64) 2 w' w.heap.size (fun _ => True) v2_ r3 ∧ Kd.R k62 62 w' w.heap.size (fun k_ => some k_ ≠ (v2_ : Value).ownBlock) v4_ r5 ∧ Below w.heap.size w w' := by
  have hu25 := Try.underlying25
  have hu30 := Try.underlying30
  have HR0_2 := Aside0.mk hr0_2
  have HC0_2 := Aside0.mk hc0_2
  clear hr0_2 hc0_2
  have HR0_4 := Aside0.mk hr0_4
  have HC0_4 := Aside0.mk hc0_4
  clear hr0_4 hc0_4
  have HB := Aside0.mk (Below.refl w.heap.size w)
  have H : ((laws_toInt64S.f k l0_2).bind fun t235 => ((laws_toBlockS.f k l0_4).bind fun t238 => (some (a0_0, a0_1, t235, a0_3, t238)))) = some (r1, r2, r3, r4, r5) := h
  clear h
  replace H := Option.bind_eq_some_iff.mp H
  obtain ⟨t235, A20, H⟩ := H
  replace H : ((laws_toBlockS.f k l0_4).bind fun t238 => (some (a0_0, a0_1, t235, a0_3, t238))) = some (r1, r2, r3, r4, r5) := H
  have A2 := Aside0.mk A20
  clear A20
  replace H := Option.bind_eq_some_iff.mp H
  obtain ⟨t238, A30, H⟩ := H
  replace H : (some (a0_0, a0_1, t235, a0_3, t238)) = some (r1, r2, r3, r4, r5) := H
  have A3 := Aside0.mk A30
  clear A30
  simp only [Option.some.injEq, Prod.mk.injEq] at H
  obtain ⟨rfl, rfl, rfl, rfl, rfl⟩ := H
  go_enter Try.func14, Try.ntmps14
  go_wp2_with (first | ((with_reducible refine gate_dst (N := 1) rfl ?_); refine box_event ?hg (N := 1) ?hd (cs := #[.string a0_0, .int .i64 a0_1, .slice A0_2 l0_2.length c0_2, .int .i64 a0_3, .slice A0_4 l0_4.length c0_4]) (t := 25) ?hr ?_; (case hd => rfl); (case hg => rfl); (case hr => first | (go_simp; done) | (go_simp; rfl)); intro gb232 hg w4 hbox hb; have n0_ := Aside0.mk (below_step (by repeat (first | (with_reducible first | exact HB.out | apply below_alloc | apply pw_below_drewN | apply below_drew1) | exact HB.out)) hb); have n1_ := Aside0.mk (hbox); have n2_ := Aside0.mk ((by rw [hg]; exact (below_size (by repeat (first | (with_reducible first | exact HB.out | apply below_alloc | apply pw_below_drewN | apply below_drew1) | exact HB.out))) : w.heap.size ≤ gb232)); have n3_ := Aside0.mk ((by rw [hg]; exact (below_size (by repeat (first | (with_reducible first | exact HB.out | apply below_alloc | apply pw_below_drewN | apply below_drew1) | exact HB.out))) : w.heap.size ≤ gb232)); clear HB; have HB := n0_; have BK232 := n1_; have GW232 := n2_; have GE232 := n3_; clear n0_ n1_ n2_ n3_; clear hb hbox hg) | ((with_reducible refine gate_dst (N := 2) rfl ?_); refine box_event ?hg (N := 2) ?hd (cs := #[.string (⟨#[]⟩ : ByteArray), .int .i64 0, .slice none 0 0, .int .i64 0, .slice none 0 0]) (t := 30) ?hr ?_; (case hd => rfl); (case hg => rfl); (case hr => first | (go_simp; done) | (go_simp; rfl)); intro gb233 hg w5 hbox hb; have n0_ := Aside0.mk (blk_below (g := gb232) (o := .cells #[.string a0_0, .int .i64 a0_1, .slice A0_2 l0_2.length c0_2, .int .i64 a0_3, .slice A0_4 l0_4.length c0_4] 25 (0, 0)) (by (with_reducible repeat (first | refine blk_drewN ?_ _ | refine blk_drew ?_ | refine blk_alloc ?_ _)); exact BK232.out) hb); have n1_ := Aside0.mk (below_step (by repeat (first | (with_reducible first | exact HB.out | apply below_alloc | apply pw_below_drewN | apply below_drew1 | refine below_set ?_ GE232.out) | exact HB.out)) hb); have n2_ := Aside0.mk (hbox); have n3_ := Aside0.mk ((by rw [hg]; exact (below_size (by repeat (first | (with_reducible first | exact HB.out | apply below_alloc | apply pw_below_drewN | apply below_drew1 | refine below_set ?_ GE232.out) | exact HB.out))) : w.heap.size ≤ gb233)); have n4_ := Aside0.mk ((by rw [hg]; exact (below_size (by repeat (first | (with_reducible first | exact HB.out | apply below_alloc | apply pw_below_drewN | apply below_drew1 | refine below_set ?_ GE232.out) | exact HB.out))) : w.heap.size ≤ gb233)); have n5_ := Aside0.mk ((by rw [hg]; exact Nat.ne_of_lt (blk_lt (g := gb232) (o := .cells #[.string a0_0, .int .i64 a0_1, .slice A0_2 l0_2.length c0_2, .int .i64 a0_3, .slice A0_4 l0_4.length c0_4] 25 (0, 0)) (by (with_reducible repeat (first | refine blk_drewN ?_ _ | refine blk_drew ?_ | refine blk_alloc ?_ _)); exact BK232.out)) : gb232 ≠ gb233)); have n6_ := Aside0.mk ((by rw [hg]; exact Nat.ne_of_gt (blk_lt (g := gb232) (o := .cells #[.string a0_0, .int .i64 a0_1, .slice A0_2 l0_2.length c0_2, .int .i64 a0_3, .slice A0_4 l0_4.length c0_4] 25 (0, 0)) (by (with_reducible repeat (first | refine blk_drewN ?_ _ | refine blk_drew ?_ | refine blk_alloc ?_ _)); exact BK232.out)) : gb233 ≠ gb232)); clear BK232; clear HB; have BK232 := n0_; have HB := n1_; have BK233 := n2_; have GW233 := n3_; have GE233 := n4_; have NB232_233 := n5_; have NB233_232 := n6_; clear n0_ n1_ n2_ n3_ n4_ n5_ n6_; clear hb hbox hg) | ((with_reducible refine gate_dst (N := 3) rfl ?_); refine box_event ?hg (N := 3) ?hd (cs := #[.string (⟨#[]⟩ : ByteArray), .int .i64 0, .slice none 0 0, .int .i64 0, .slice none 0 0]) (t := 30) ?hr ?_; (case hd => rfl); (case hg => rfl); (case hr => first | (go_simp; done) | (go_simp; rfl)); intro gb234 hg w6 hbox hb; have n0_ := Aside0.mk (blk_below (g := gb232) (o := .cells #[.string a0_0, .int .i64 a0_1, .slice A0_2 l0_2.length c0_2, .int .i64 a0_3, .slice A0_4 l0_4.length c0_4] 25 (0, 0)) (by (with_reducible repeat (first | refine blk_drewN ?_ _ | refine blk_drew ?_ | refine blk_alloc ?_ _)); exact BK232.out) hb); have n1_ := Aside0.mk (blk_below (g := gb233) (o := .cells #[.string (⟨#[]⟩ : ByteArray), .int .i64 0, .slice none 0 0, .int .i64 0, .slice none 0 0] 30 (0, 0)) (by (with_reducible repeat (first | refine blk_drewN ?_ _ | refine blk_drew ?_ | refine blk_alloc ?_ _)); exact BK233.out) hb); have n2_ := Aside0.mk (below_step (by repeat (first | (with_reducible first | exact HB.out | apply below_alloc | apply pw_below_drewN | apply below_drew1 | refine below_set ?_ GE232.out | refine below_set ?_ GE233.out) | exact HB.out)) hb); have n3_ := Aside0.mk (hbox); have n4_ := Aside0.mk ((by rw [hg]; exact (below_size (by repeat (first | (with_reducible first | exact HB.out | apply below_alloc | apply pw_below_drewN | apply below_drew1 | refine below_set ?_ GE232.out | refine below_set ?_ GE233.out) | exact HB.out))) : w.heap.size ≤ gb234)); have n5_ := Aside0.mk ((by rw [hg]; exact (below_size (by repeat (first | (with_reducible first | exact HB.out | apply below_alloc | apply pw_below_drewN | apply below_drew1 | refine below_set ?_ GE232.out | refine below_set ?_ GE233.out) | exact HB.out))) : w.heap.size ≤ gb234)); have n6_ := Aside0.mk ((by rw [hg]; exact Nat.ne_of_lt (blk_lt (g := gb232) (o := .cells #[.string a0_0, .int .i64 a0_1, .slice A0_2 l0_2.length c0_2, .int .i64 a0_3, .slice A0_4 l0_4.length c0_4] 25 (0, 0)) (by (with_reducible repeat (first | refine blk_drewN ?_ _ | refine blk_drew ?_ | refine blk_alloc ?_ _)); exact BK232.out)) : gb232 ≠ gb234)); have n7_ := Aside0.mk ((by rw [hg]; exact Nat.ne_of_gt (blk_lt (g := gb232) (o := .cells #[.string a0_0, .int .i64 a0_1, .slice A0_2 l0_2.length c0_2, .int .i64 a0_3, .slice A0_4 l0_4.length c0_4] 25 (0, 0)) (by (with_reducible repeat (first | refine blk_drewN ?_ _ | refine blk_drew ?_ | refine blk_alloc ?_ _)); exact BK232.out)) : gb234 ≠ gb232)); have n8_ := Aside0.mk ((by rw [hg]; exact Nat.ne_of_lt (blk_lt (g := gb233) (o := .cells #[.string (⟨#[]⟩ : ByteArray), .int .i64 0, .slice none 0 0, .int .i64 0, .slice none 0 0] 30 (0, 0)) (by (with_reducible repeat (first | refine blk_drewN ?_ _ | refine blk_drew ?_ | refine blk_alloc ?_ _)); exact BK233.out)) : gb233 ≠ gb234)); have n9_ := Aside0.mk ((by rw [hg]; exact Nat.ne_of_gt (blk_lt (g := gb233) (o := .cells #[.string (⟨#[]⟩ : ByteArray), .int .i64 0, .slice none 0 0, .int .i64 0, .slice none 0 0] 30 (0, 0)) (by (with_reducible repeat (first | refine blk_drewN ?_ _ | refine blk_drew ?_ | refine blk_alloc ?_ _)); exact BK233.out)) : gb234 ≠ gb233)); clear BK232; clear BK233; clear HB; have BK232 := n0_; have BK233 := n1_; have HB := n2_; have BK234 := n3_; have GW234 := n4_; have GE234 := n5_; have NB232_234 := n6_; have NB234_232 := n7_; have NB233_234 := n8_; have NB234_233 := n9_; clear n0_ n1_ n2_ n3_ n4_ n5_ n6_ n7_ n8_ n9_; clear hb hbox hg; have hnb7 := NB232_233.out; have hnc7 := NB233_232.out; have hnb8 := NB232_234.out; have hnc8 := NB234_232.out; have hcz9_0 : w6.cell? ⟨gb232, 0, none⟩ = some (.string a0_0) := (blk_cell BK232.out 0).trans rfl; have hcz9_1 : w6.cell? ⟨gb232, 1, none⟩ = some (.int .i64 a0_1) := (blk_cell BK232.out 1).trans rfl; have hcz9_2 : w6.cell? ⟨gb232, 2, none⟩ = some (.slice A0_2 l0_2.length c0_2) := (blk_cell BK232.out 2).trans rfl; have hcz9_3 : w6.cell? ⟨gb232, 3, none⟩ = some (.int .i64 a0_3) := (blk_cell BK232.out 3).trans rfl; have hcz9_4 : w6.cell? ⟨gb232, 4, none⟩ = some (.slice A0_4 l0_4.length c0_4) := (blk_cell BK232.out 4).trans rfl; have hfz9_0 := blk_frozen BK232.out 0; have hfz9_1 := blk_frozen BK232.out 1; have hfz9_2 := blk_frozen BK232.out 2; have hfz9_3 := blk_frozen BK232.out 3; have hfz9_4 := blk_frozen BK232.out 4; have hnb10 := NB234_233.out; have hnc10 := NB233_234.out; have hcz11_0 : w6.cell? ⟨gb234, 0, none⟩ = some (.string (⟨#[]⟩ : ByteArray)) := (blk_cell BK234.out 0).trans rfl; have hcz11_1 : w6.cell? ⟨gb234, 1, none⟩ = some (.int .i64 0) := (blk_cell BK234.out 1).trans rfl; have hcz11_2 : w6.cell? ⟨gb234, 2, none⟩ = some (.slice none 0 0) := (blk_cell BK234.out 2).trans rfl; have hcz11_3 : w6.cell? ⟨gb234, 3, none⟩ = some (.int .i64 0) := (blk_cell BK234.out 3).trans rfl; have hcz11_4 : w6.cell? ⟨gb234, 4, none⟩ = some (.slice none 0 0) := (blk_cell BK234.out 4).trans rfl; have hfz11_0 := blk_frozen BK234.out 0; have hfz11_1 := blk_frozen BK234.out 1; have hfz11_2 := blk_frozen BK234.out 2; have hfz11_3 := blk_frozen BK234.out 3; have hfz11_4 := blk_frozen BK234.out 4) | ((with_reducible refine gate_callee (f := 47) rfl ?_); refine goesL_ (some 12) rfl rfl Try.func47 (by kernel_rfl) rfl #[.slice A0_2 l0_2.length c0_2] rfl (by (try simp only [List.map_toArray, List.map_cons, List.map_nil]); first | done | rfl | (simp only [List.length_drop, List.length_take]; rfl)) ?_; (with_reducible refine (laws_toInt64S.calls k _ _ l0_2 t235 _ ?side1 ?side2 A2.out).mono ?_); (case side1 => exact Kd.C_below HR0_2.out (by repeat (first | (with_reducible first | exact HB.out | apply below_alloc | apply pw_below_drewN | apply below_drew1 | refine below_set ?_ GE232.out | refine below_set ?_ GE233.out | refine below_set ?_ GE234.out) | exact HB.out))); (case side2 => exact HC0_2.out); rintro e w12 ⟨v236, rfl, ho0, hb⟩; refine ⟨_, rfl, ?_⟩; have n0_ := Aside0.mk (Kd.R_lower ho0 (below_size (by repeat (first | (with_reducible first | exact HB.out | apply below_alloc | apply pw_below_drewN | apply below_drew1 | refine below_set ?_ GE232.out | refine below_set ?_ GE233.out | refine below_set ?_ GE234.out) | exact HB.out)))); have n1_ := Aside0.mk (blk_below (g := gb232) (o := .cells #[.string a0_0, .int .i64 a0_1, .slice A0_2 l0_2.length c0_2, .int .i64 a0_3, .slice A0_4 l0_4.length c0_4] 25 (0, 0)) (by (with_reducible repeat (first | refine blk_drewN ?_ _ | refine blk_drew ?_ | refine blk_alloc ?_ _)); refine blk_far ?_ NB232_234.out _; (with_reducible repeat (first | refine blk_drewN ?_ _ | refine blk_drew ?_ | refine blk_alloc ?_ _)); refine blk_far ?_ NB232_234.out _; (with_reducible repeat (first | refine blk_drewN ?_ _ | refine blk_drew ?_ | refine blk_alloc ?_ _)); exact BK232.out) hb); have n2_ := Aside0.mk (blk_below (g := gb233) (o := .cells #[.string (⟨#[]⟩ : ByteArray), .int .i64 0, .slice none 0 0, .int .i64 0, .slice none 0 0] 30 (0, 0)) (by (with_reducible repeat (first | refine blk_drewN ?_ _ | refine blk_drew ?_ | refine blk_alloc ?_ _)); refine blk_far ?_ NB233_234.out _; (with_reducible repeat (first | refine blk_drewN ?_ _ | refine blk_drew ?_ | refine blk_alloc ?_ _)); refine blk_far ?_ NB233_234.out _; (with_reducible repeat (first | refine blk_drewN ?_ _ | refine blk_drew ?_ | refine blk_alloc ?_ _)); exact BK233.out) hb); have n3_ := Aside0.mk (blk_below (g := gb234) (o := .cells #[.string a0_0, .int .i64 a0_1, .slice none 0 0, .int .i64 0, .slice none 0 0] 30 (0, 0)) (by (with_reducible repeat (first | refine blk_drewN ?_ _ | refine blk_drew ?_ | refine blk_alloc ?_ _)); refine blk_put (cs := #[.string a0_0, .int .i64 0, .slice none 0 0, .int .i64 0, .slice none 0 0]) ?_ 1 _ rfl; (with_reducible repeat (first | refine blk_drewN ?_ _ | refine blk_drew ?_ | refine blk_alloc ?_ _)); refine blk_put (cs := #[.string (⟨#[]⟩ : ByteArray), .int .i64 0, .slice none 0 0, .int .i64 0, .slice none 0 0]) ?_ 0 _ rfl; (with_reducible repeat (first | refine blk_drewN ?_ _ | refine blk_drew ?_ | refine blk_alloc ?_ _)); exact BK234.out) hb); have n4_ := Aside0.mk (below_step (by repeat (first | (with_reducible first | exact HB.out | apply below_alloc | apply pw_below_drewN | apply below_drew1 | refine below_set ?_ GE232.out | refine below_set ?_ GE233.out | refine below_set ?_ GE234.out) | exact HB.out)) hb); clear BK232; clear BK233; clear BK234; clear HB; have HO237 := n0_; have BK232 := n1_; have BK233 := n2_; have BK234 := n3_; have HB := n4_; clear n0_ n1_ n2_ n3_ n4_; (try clear hb); (try clear hb2); (try clear hk); (try clear hi); (try clear ho0); obtain ⟨Ao13, co13, eo13⟩ := Kd.R_slice HO237.out; subst eo13; have hcz14_0 : w12.cell? ⟨gb234, 0, none⟩ = some (.string a0_0) := (blk_cell BK234.out 0).trans rfl; have hcz14_1 : w12.cell? ⟨gb234, 1, none⟩ = some (.int .i64 a0_1) := (blk_cell BK234.out 1).trans rfl; have hcz14_2 : w12.cell? ⟨gb234, 2, none⟩ = some (.slice none 0 0) := (blk_cell BK234.out 2).trans rfl; have hcz14_3 : w12.cell? ⟨gb234, 3, none⟩ = some (.int .i64 0) := (blk_cell BK234.out 3).trans rfl; have hcz14_4 : w12.cell? ⟨gb234, 4, none⟩ = some (.slice none 0 0) := (blk_cell BK234.out 4).trans rfl; have hfz14_0 := blk_frozen BK234.out 0; have hfz14_1 := blk_frozen BK234.out 1; have hfz14_2 := blk_frozen BK234.out 2; have hfz14_3 := blk_frozen BK234.out 3; have hfz14_4 := blk_frozen BK234.out 4; have hcz15_0 : w12.cell? ⟨gb232, 0, none⟩ = some (.string a0_0) := (blk_cell BK232.out 0).trans rfl; have hcz15_1 : w12.cell? ⟨gb232, 1, none⟩ = some (.int .i64 a0_1) := (blk_cell BK232.out 1).trans rfl; have hcz15_2 : w12.cell? ⟨gb232, 2, none⟩ = some (.slice A0_2 l0_2.length c0_2) := (blk_cell BK232.out 2).trans rfl; have hcz15_3 : w12.cell? ⟨gb232, 3, none⟩ = some (.int .i64 a0_3) := (blk_cell BK232.out 3).trans rfl; have hcz15_4 : w12.cell? ⟨gb232, 4, none⟩ = some (.slice A0_4 l0_4.length c0_4) := (blk_cell BK232.out 4).trans rfl; have hfz15_0 := blk_frozen BK232.out 0; have hfz15_1 := blk_frozen BK232.out 1; have hfz15_2 := blk_frozen BK232.out 2; have hfz15_3 := blk_frozen BK232.out 3; have hfz15_4 := blk_frozen BK232.out 4) | ((with_reducible refine gate_callee (f := 48) rfl ?_); refine goesL_ (some 19) rfl rfl Try.func48 (by kernel_rfl) rfl #[.slice A0_4 l0_4.length c0_4] rfl (by (try simp only [List.map_toArray, List.map_cons, List.map_nil]); first | done | rfl | (simp only [List.length_drop, List.length_take]; rfl)) ?_; (with_reducible refine (laws_toBlockS.calls k _ _ l0_4 t238 _ ?side1 ?side2 A3.out).mono ?_); (case side1 => exact Kd.C_below HR0_4.out (by repeat (first | (with_reducible first | exact HB.out | apply below_alloc | apply pw_below_drewN | apply below_drew1 | refine below_set ?_ GE232.out | refine below_set ?_ GE233.out | refine below_set ?_ GE234.out) | exact HB.out))); (case side2 => exact HC0_4.out); rintro e w16 ⟨v239, rfl, ho0, hb⟩; refine ⟨_, rfl, ?_⟩; have n0_ := Aside0.mk (Kd.R_below (by (with_reducible repeat (first | apply Kd.R_alloc | apply Kd.R_drewN | apply Kd.R_drew)); exact (Kd.R_mono (Kd.R_far (p := ⟨gb234, 3, none⟩) (Kd.R_far (p := ⟨gb234, 2, none⟩) (Kd.R_types HO237.out BK234.out (by decide)) (fun _ hk => hk.2) (.slice Ao13 t235.length co13)) (fun _ hk => hk.2) (.int .i64 a0_3)) (fun _ h_ => h_.1))) hb); have n1_ := Aside0.mk (Kd.R_lower (Kd.R_new' ho0 (Kd.R_lt (by (with_reducible repeat (first | apply Kd.R_alloc | apply Kd.R_drewN | apply Kd.R_drew)); exact (Kd.R_mono (Kd.R_far (p := ⟨gb234, 3, none⟩) (Kd.R_far (p := ⟨gb234, 2, none⟩) (Kd.R_types HO237.out BK234.out (by decide)) (fun _ hk => hk.2) (.slice Ao13 t235.length co13)) (fun _ hk => hk.2) (.int .i64 a0_3)) (fun _ h_ => h_.1))))) (below_size (by repeat (first | (with_reducible first | exact HB.out | apply below_alloc | apply pw_below_drewN | apply below_drew1 | refine below_set ?_ GE232.out | refine below_set ?_ GE233.out | refine below_set ?_ GE234.out) | exact HB.out)))); have n2_ := Aside0.mk (blk_below (g := gb232) (o := .cells #[.string a0_0, .int .i64 a0_1, .slice A0_2 l0_2.length c0_2, .int .i64 a0_3, .slice A0_4 l0_4.length c0_4] 25 (0, 0)) (by (with_reducible repeat (first | refine blk_drewN ?_ _ | refine blk_drew ?_ | refine blk_alloc ?_ _)); refine blk_far ?_ NB232_234.out _; (with_reducible repeat (first | refine blk_drewN ?_ _ | refine blk_drew ?_ | refine blk_alloc ?_ _)); refine blk_far ?_ NB232_234.out _; (with_reducible repeat (first | refine blk_drewN ?_ _ | refine blk_drew ?_ | refine blk_alloc ?_ _)); exact BK232.out) hb); have n3_ := Aside0.mk (blk_below (g := gb233) (o := .cells #[.string (⟨#[]⟩ : ByteArray), .int .i64 0, .slice none 0 0, .int .i64 0, .slice none 0 0] 30 (0, 0)) (by (with_reducible repeat (first | refine blk_drewN ?_ _ | refine blk_drew ?_ | refine blk_alloc ?_ _)); refine blk_far ?_ NB233_234.out _; (with_reducible repeat (first | refine blk_drewN ?_ _ | refine blk_drew ?_ | refine blk_alloc ?_ _)); refine blk_far ?_ NB233_234.out _; (with_reducible repeat (first | refine blk_drewN ?_ _ | refine blk_drew ?_ | refine blk_alloc ?_ _)); exact BK233.out) hb); have n4_ := Aside0.mk (blk_below (g := gb234) (o := .cells #[.string a0_0, .int .i64 a0_1, .slice Ao13 t235.length co13, .int .i64 a0_3, .slice none 0 0] 30 (0, 0)) (by (with_reducible repeat (first | refine blk_drewN ?_ _ | refine blk_drew ?_ | refine blk_alloc ?_ _)); refine blk_put (cs := #[.string a0_0, .int .i64 a0_1, .slice Ao13 t235.length co13, .int .i64 0, .slice none 0 0]) ?_ 3 _ rfl; (with_reducible repeat (first | refine blk_drewN ?_ _ | refine blk_drew ?_ | refine blk_alloc ?_ _)); refine blk_put (cs := #[.string a0_0, .int .i64 a0_1, .slice none 0 0, .int .i64 0, .slice none 0 0]) ?_ 2 _ rfl; (with_reducible repeat (first | refine blk_drewN ?_ _ | refine blk_drew ?_ | refine blk_alloc ?_ _)); exact BK234.out) hb); have n5_ := Aside0.mk (below_step (by repeat (first | (with_reducible first | exact HB.out | apply below_alloc | apply pw_below_drewN | apply below_drew1 | refine below_set ?_ GE232.out | refine below_set ?_ GE233.out | refine below_set ?_ GE234.out) | exact HB.out)) hb); clear HO237; clear BK232; clear BK233; clear BK234; clear HB; have HO237 := n0_; have HO240 := n1_; have BK232 := n2_; have BK233 := n3_; have BK234 := n4_; have HB := n5_; clear n0_ n1_ n2_ n3_ n4_ n5_; (try clear hb); (try clear hb2); (try clear hk); (try clear hi); (try clear ho0); obtain ⟨Ao17, co17, eo17⟩ := Kd.R_slice HO240.out; subst eo17; have hcz18_0 : w16.cell? ⟨gb234, 0, none⟩ = some (.string a0_0) := (blk_cell BK234.out 0).trans rfl; have hcz18_1 : w16.cell? ⟨gb234, 1, none⟩ = some (.int .i64 a0_1) := (blk_cell BK234.out 1).trans rfl; have hcz18_2 : w16.cell? ⟨gb234, 2, none⟩ = some (.slice Ao13 t235.length co13) := (blk_cell BK234.out 2).trans rfl; have hcz18_3 : w16.cell? ⟨gb234, 3, none⟩ = some (.int .i64 a0_3) := (blk_cell BK234.out 3).trans rfl; have hcz18_4 : w16.cell? ⟨gb234, 4, none⟩ = some (.slice none 0 0) := (blk_cell BK234.out 4).trans rfl; have hfz18_0 := blk_frozen BK234.out 0; have hfz18_1 := blk_frozen BK234.out 1; have hfz18_2 := blk_frozen BK234.out 2; have hfz18_3 := blk_frozen BK234.out 3; have hfz18_4 := blk_frozen BK234.out 4; have hcz19_0 : w16.cell? ⟨gb233, 0, none⟩ = some (.string (⟨#[]⟩ : ByteArray)) := (blk_cell BK233.out 0).trans rfl; have hcz19_1 : w16.cell? ⟨gb233, 1, none⟩ = some (.int .i64 0) := (blk_cell BK233.out 1).trans rfl; have hcz19_2 : w16.cell? ⟨gb233, 2, none⟩ = some (.slice none 0 0) := (blk_cell BK233.out 2).trans rfl; have hcz19_3 : w16.cell? ⟨gb233, 3, none⟩ = some (.int .i64 0) := (blk_cell BK233.out 3).trans rfl; have hcz19_4 : w16.cell? ⟨gb233, 4, none⟩ = some (.slice none 0 0) := (blk_cell BK233.out 4).trans rfl; have hfz19_0 := blk_frozen BK233.out 0; have hfz19_1 := blk_frozen BK233.out 1; have hfz19_2 := blk_frozen BK233.out 2; have hfz19_3 := blk_frozen BK233.out 3; have hfz19_4 := blk_frozen BK233.out 4))
  refine bodyPost_ret (results_cell_row rfl _ _ gb233 30 #[.string a0_0, .int .i64 a0_1, .slice Ao13 t235.length co13, .int .i64 a0_3, .slice Ao17 t238.length co17] (0, 0) _ rfl (by (with_reducible repeat (first | refine blk_drewN ?_ _ | refine blk_drew ?_ | refine blk_alloc ?_ _)); refine blk_put (cs := #[.string a0_0, .int .i64 a0_1, .slice Ao13 t235.length co13, .int .i64 a0_3, .slice none 0 0]) ?_ 4 _ rfl; (with_reducible repeat (first | refine blk_drewN ?_ _ | refine blk_drew ?_ | refine blk_alloc ?_ _)); refine blk_put (cs := #[.string a0_0, .int .i64 a0_1, .slice Ao13 t235.length co13, .int .i64 0, .slice none 0 0]) ?_ 3 _ rfl; (with_reducible repeat (first | refine blk_drewN ?_ _ | refine blk_drew ?_ | refine blk_alloc ?_ _)); refine blk_put (cs := #[.string a0_0, .int .i64 a0_1, .slice none 0 0, .int .i64 0, .slice none 0 0]) ?_ 2 _ rfl; (with_reducible repeat (first | refine blk_drewN ?_ _ | refine blk_drew ?_ | refine blk_alloc ?_ _)); refine blk_put (cs := #[.string a0_0, .int .i64 0, .slice none 0 0, .int .i64 0, .slice none 0 0]) ?_ 1 _ rfl; (with_reducible repeat (first | refine blk_drewN ?_ _ | refine blk_drew ?_ | refine blk_alloc ?_ _)); refine blk_put (cs := #[.string (⟨#[]⟩ : ByteArray), .int .i64 0, .slice none 0 0, .int .i64 0, .slice none 0 0]) ?_ 0 _ rfl; (with_reducible repeat (first | refine blk_drewN ?_ _ | refine blk_drew ?_ | refine blk_alloc ?_ _)); refine blk_far ?_ NB233_234.out _; (with_reducible repeat (first | refine blk_drewN ?_ _ | refine blk_drew ?_ | refine blk_alloc ?_ _)); exact BK233.out) Try.underlying30 rfl (by kernel_rfl)) rfl ?_
  exact ⟨_, _, by first | rfl | (simp [errW_none, errW_some] <;> rfl) | (simp [*, errW_none, errW_some] <;> rfl), by (with_reducible repeat (first | apply Kd.R_alloc | apply Kd.R_drewN | apply Kd.R_drew)); exact Kd.R_mono (Kd.R_far (p := ⟨gb233, 4, none⟩) (Kd.R_far (p := ⟨gb233, 3, none⟩) (Kd.R_far (p := ⟨gb233, 2, none⟩) (Kd.R_far (p := ⟨gb233, 1, none⟩) (Kd.R_far (p := ⟨gb233, 0, none⟩) (Kd.R_far (p := ⟨gb234, 4, none⟩) (Kd.R_types (Kd.R_types HO237.out BK234.out (by decide)) BK233.out (by decide)) (fun _ hk => hk.1.2) (.slice Ao17 t238.length co17)) (fun _ hk => hk.2) (.string a0_0)) (fun _ hk => hk.2) (.int .i64 a0_1)) (fun _ hk => hk.2) (.slice Ao13 t235.length co13)) (fun _ hk => hk.2) (.int .i64 a0_3)) (fun _ hk => hk.2) (.slice Ao17 t238.length co17)) (fun _ hk => trivial), by (with_reducible repeat (first | apply Kd.R_alloc | apply Kd.R_drewN | apply Kd.R_drew)); exact Kd.R_mono (Kd.R_far (p := ⟨gb233, 4, none⟩) (Kd.R_far (p := ⟨gb233, 3, none⟩) (Kd.R_far (p := ⟨gb233, 2, none⟩) (Kd.R_far (p := ⟨gb233, 1, none⟩) (Kd.R_far (p := ⟨gb233, 0, none⟩) (Kd.R_far (p := ⟨gb234, 4, none⟩) (Kd.R_types (Kd.R_types HO240.out BK234.out (by decide)) BK233.out (by decide)) (fun _ hk => hk.1.2) (.slice Ao17 t238.length co17)) (fun _ hk => hk.2) (.string a0_0)) (fun _ hk => hk.2) (.int .i64 a0_1)) (fun _ hk => hk.2) (.slice Ao13 t235.length co13)) (fun _ hk => hk.2) (.int .i64 a0_3)) (fun _ hk => hk.2) (.slice Ao17 t238.length co17)) (fun _ hk => hk.1.1.2), by repeat (first | (with_reducible first | exact HB.out | apply below_alloc | apply pw_below_drewN | apply below_drew1 | refine below_set ?_ GE232.out | refine below_set ?_ GE233.out | refine below_set ?_ GE234.out) | exact HB.out)⟩

end Go.Proofs.Ytoedcnhgobbnfaa.All

/- Maps of bools that a call makes: as sets of numbers. -/
namespace Go.Proofs.Ytoedcnhgobbnfaa.All
open Go.RowKit Go.Proofs.YtoedcnhgobbnfaaW.PrintWords Go.Proofs.YtoedcnhgobbnfaaW.PrintLast Go.Proofs.YtoedcnhgobbnfaaW.PrintMore
set_option linter.unusedVariables false
set_option linter.unusedSimpArgs false
open Go.Maps (Keyed)
theorem plainElem_bool_inv {H : Type} {P : Program} {e : TypeId} (he : P.underlying e = some .bool) {v : Value} {z : DataW H × List MemPlace} (h : plainElem P e v = some z) : ∃ x, v = .bool x ∧ z = (.lit (.bool x), []) := by
  unfold plainElem at h
  rw [he] at h
  cases v <;> simp at h
  exact ⟨_, rfl, h.symm⟩
/-- Block b is a map of at most n entries from int64 (type k) to bool (type e); S is what is told of a number. -/
def IsSet (P : Program) (k e : TypeId) (w : World) (b n : Nat) (S : Int → Bool) : Prop :=
  ∃ D : DataW Unit, w.ownsMap P k (plainElem P e) b n D ∧ ∀ x, (Lit.int .i64 x).wf = true → D.atKey (.int .i64 x) (.lit (.bool false)) = .lit (.bool (S x))
section
variable {P : Program} {k e : TypeId} {w w1 : World} {b n : Nat} {S : Int → Bool}
theorem IsSet.made (w : World) (P : Program) (k e : TypeId) : IsSet P k e (w.alloc (.map #[] 0)) w.heap.size 0 (fun _ => false) :=
  ⟨.map [], World.ownsMap_made w P k _, fun x _ => by simp [DataW.atKey]⟩
theorem IsSet.kept {row : Option Nat} (h : IsSet P k e w b n S) (hg : w.grownBy w1 row) (hne : some b ≠ row) : IsSet P k e w1 b n S := by
  obtain ⟨D, h1, h2⟩ := h
  exact ⟨D, h1.kept hg hne, h2⟩
theorem IsSet.below (h : IsSet P k e w b n S) (hb : Below w.heap.size w w1) : IsSet P k e w1 b n S := h.kept (grown_of_below hb none) (by simp)
theorem IsSet.alloc (h : IsSet P k e w b n S) (o : Obj) : IsSet P k e (w.alloc o) b n S := h.below (below_alloc (Below.refl _ _) o)
theorem IsSet.drewN (h : IsSet P k e w b n S) (m : Nat) : IsSet P k e (w.drewN m) b n S := h
theorem IsSet.drew (h : IsSet P k e w b n S) : IsSet P k e w.drew b n S := h
theorem IsSet.lt (h : IsSet P k e w b n S) : b < w.heap.size := by obtain ⟨D, h1, _⟩ := h; exact h1.lt
theorem IsSet.mono (h : IsSet P k e w b n S) {n' : Nat} (hn : n ≤ n') : IsSet P k e w b n' S := by obtain ⟨D, h1, h2⟩ := h; exact ⟨D, h1.mono hn, h2⟩
theorem IsSet.congr {S' : Int → Bool} (h : IsSet P k e w b n S) (he : ∀ x, S' x = S x) : IsSet P k e w b n S' := by obtain ⟨D, h1, h2⟩ := h; exact ⟨D, h1, fun x hx => by rw [he]; exact h2 x hx⟩
theorem IsSet.look {t : TypeId} (h : IsSet P k e w b n S) (hk : P.underlying k = some (.int .i64)) (ht : P.underlying t = some (.map k e)) (he : P.underlying e = some .bool) (hz : (zeroValue e).run P w = .ok (.bool false) w) {x : Int} (hx : (Lit.int .i64 x).wf = true) :
    (Instr.lookup t (.map (some b)) (.int .i64 x) false).run P w = .ok (.bool (S x)) w := by
  obtain ⟨D, h1, h2⟩ := h
  obtain ⟨v, ps, hrun, hv⟩ := h1.lookup (Maps.int_keyed hk) ht hz (plainElem_bool he false) (Maps.keyOf_int_mk hk hx)
  obtain ⟨c, rfl, hc⟩ := plainElem_bool_inv he hv
  simp only [Prod.mk.injEq] at hc
  have := h2 x hx
  rw [hc.1] at this
  injection this with this
  injection this with this
  rw [this] at hrun
  exact hrun
theorem IsSet.put {t : TypeId} (h : IsSet P k e w b n S) (hk : P.underlying k = some (.int .i64)) (ht : P.underlying t = some (.map k e)) (he : P.underlying e = some .bool) (hn : n < maxLen) {x : Int} (hx : (Lit.int .i64 x).wf = true) (v : Bool) :
    ∃ w', (Instr.mapUpdate t (.map (some b)) (.int .i64 x) (.bool v)).run P w = .ok () w' ∧ IsSet P k e w' b (n + 1) (fun y => if y = x then v else S y) ∧ w.grownBy w' (some b) := by
  obtain ⟨D, h1, h2⟩ := h
  have hm := h1.isMap
  obtain ⟨w', hrun, h3, hg⟩ := h1.update (Maps.int_keyed hk) ht hn (Maps.keyOf_int_mk hk hx) (plainElem_bool he v)
  refine ⟨w', hrun, ⟨_, h3, fun y hy => ?_⟩, hg⟩
  by_cases hxy : y = x
  · subst hxy
    rw [Maps.atKey_put_same hm (by simp [WideAt.IsKeyLit])]
    simp
  · rw [Maps.atKey_put_other (by simpa using hxy), h2 y hy]
    simp [hxy]
end
section
variable {P : Program} {ops : Array Oper} {rest : List Oper} {o : Oper} {a : Act} {Q : Exit → Act → World → Prop} {w : World}
theorem wpList_look_set (hg : o.guard = none) (m x : Operand) (t : TypeId) (hop : o.op = Op.lookup t m x false) (k e : TypeId) (hk : P.underlying k = some (.int .i64)) (ht : P.underlying t = some (.map k e)) (he : P.underlying e = some .bool)
    (hz : (zeroValue e).run P w = .ok (.bool false) w) (b n : Nat) (S : Int → Bool) (hm : a.eval m = .map (some b)) (hs : IsSet P k e w b n S) (i : Int) (hx : a.eval x = .int .i64 i) (hw : (Lit.int .i64 i).wf = true)
    (hK : wpList P ops Q rest (a.put o.dst (.bool (S i))) w) : wpList P ops Q (o :: rest) a w := by
  refine wpList_plain hg fun K' hK' => ?_
  have hrun := hs.look hk ht he hz hw
  unfold Oper.wp
  simp [execOp, hop, hm, hx, hrun, Result.andThen]
  exact hK' _ _ hK
theorem wpList_put_set (hg : o.guard = none) (m x v : Operand) (t : TypeId) (hop : o.op = Op.mapUpdate t m x v) (k e : TypeId) (hk : P.underlying k = some (.int .i64)) (ht : P.underlying t = some (.map k e)) (he : P.underlying e = some .bool)
    (b n : Nat) (S : Int → Bool) (hm : a.eval m = .map (some b)) (hs : IsSet P k e w b n S) (hn : n < maxLen) (i : Int) (hx : a.eval x = .int .i64 i) (hw : (Lit.int .i64 i).wf = true) (c : Bool) (hv : a.eval v = .bool c)
    (hK : ∀ w', IsSet P k e w' b (n + 1) (fun y => if y = i then c else S y) → w.grownBy w' (some b) → wpList P ops Q rest (a.put o.dst undef) w') : wpList P ops Q (o :: rest) a w := by
  refine wpList_plain hg fun K' hK' => ?_
  obtain ⟨w', hrun, r1, r2⟩ := hs.put hk ht he hn hw c
  unfold Oper.wp
  simp [execOp, hop, hm, hx, hv, hrun, Result.andThen]
  exact hK' _ _ (hK w' r1 r2)
end
/-- A row of one's own is no map. -/
theorem Kd.R_notset {α : Type} {d : Kd α} {P : Program} {e : Nat} {k t : TypeId} {w : World} {base b n : Nat} {ok : Nat → Prop} {v : Value} {xs : List α} {S : Int → Bool} (h : d.R e w base ok v xs) (hs : IsSet P k t w b n S) : d.R e w base (fun j => ok j ∧ j ≠ b) v xs := by
  obtain ⟨D, ⟨es, clock, hb, _⟩, _⟩ := hs
  refine Kd.R_mono (Kd.R_bound h) (fun j hj => ⟨hj.1, ?_⟩)
  rintro rfl
  obtain ⟨_, _, _, q, _, cells, hc⟩ := hj
  rw [hc] at hb
  injection hb with hb
  cases hb
theorem Kd.R_notset_own {α : Type} {d : Kd α} {P : Program} {e : Nat} {k t : TypeId} {w : World} {base b n : Nat} {ok : Nat → Prop} {v : Value} {xs : List α} {S : Int → Bool} (h : d.R e w base ok v xs) (hs : IsSet P k t w b n S) : some b ≠ v.ownBlock := fun he => ((Kd.R_notset h hs).1 b he.symm).2 rfl
end Go.Proofs.Ytoedcnhgobbnfaa.All

/- The blocks that a block goes to, each once, in order: a plain list function. -/
namespace Go.Proofs.Ytoedcnhgobbnfaa.All
open Go.RowKit Go.Proofs.YtoedcnhgobbnfaaW.PrintWords Go.Proofs.YtoedcnhgobbnfaaW.PrintLast Go.Proofs.YtoedcnhgobbnfaaW.PrintMore
set_option linter.unusedVariables false
set_option linter.unusedSimpArgs false
def stepN (n : Nat) (acc : List Int) (b : Int) : List Int := if 0 ≤ b ∧ b < (n : Int) ∧ acc.contains b = false then acc ++ [b] else acc
def nextL (n : Nat) (bs : List Int) : List Int := bs.foldl (stepN n) []
theorem nextL_take (n : Nat) (bs : List Int) (m : Nat) (h : m < bs.length) : nextL n (bs.take (m + 1)) = stepN n (nextL n (bs.take m)) bs[m] := by
  unfold nextL
  rw [List.take_succ_eq_append_getElem h, List.foldl_append]
  rfl
theorem foldl_stepN_len (n : Nat) : ∀ (bs acc : List Int), (bs.foldl (stepN n) acc).length ≤ acc.length + bs.length
  | [], acc => by simp
  | b :: bs, acc => by
    have h1 := foldl_stepN_len n bs (stepN n acc b)
    have h2 : (stepN n acc b).length ≤ acc.length + 1 := by unfold stepN; split <;> simp
    rw [List.foldl_cons, List.length_cons]
    omega
theorem nextL_len (n : Nat) (bs : List Int) : (nextL n bs).length ≤ bs.length := by
  have := foldl_stepN_len n bs []
  simpa [nextL] using this
theorem foldl_stepN_range (n : Nat) : ∀ (bs acc : List Int), (∀ x ∈ acc, 0 ≤ x ∧ x < (n : Int)) → ∀ x ∈ bs.foldl (stepN n) acc, 0 ≤ x ∧ x < (n : Int)
  | [], acc, h => h
  | b :: bs, acc, h => by
    rw [List.foldl_cons]
    refine foldl_stepN_range n bs _ ?_
    unfold stepN
    split
    · rename_i hc
      intro x hx
      rcases List.mem_append.1 hx with hx | hx
      · exact h x hx
      · rw [List.mem_singleton.1 hx]; exact ⟨hc.1, hc.2.1⟩
    · exact h
theorem nextL_range (n : Nat) (bs : List Int) : ∀ x ∈ nextL n bs, 0 ≤ x ∧ x < (n : Int) := foldl_stepN_range n bs [] (by simp)
theorem foldl_stepN_nodup (n : Nat) : ∀ (bs acc : List Int), acc.Nodup → (bs.foldl (stepN n) acc).Nodup
  | [], acc, h => h
  | b :: bs, acc, h => by
    rw [List.foldl_cons]
    refine foldl_stepN_nodup n bs _ ?_
    unfold stepN
    split
    · rename_i hc
      have hb : b ∉ acc := by have := hc.2.2; simpa using this
      rw [List.nodup_append]
      exact ⟨h, by simp, fun x hx y hy e => hb (by rw [List.mem_singleton.1 hy] at e; exact e ▸ hx)⟩
    · exact h
theorem nextL_nodup (n : Nat) (bs : List Int) : (nextL n bs).Nodup := foldl_stepN_nodup n bs [] List.nodup_nil
end Go.Proofs.Ytoedcnhgobbnfaa.All

/- What a mark leaves: the same blocks, cell by cell of the same make; only numbers, strings and bools of the blocks of S have changed. Shapes are kept by it, whatever is shared. -/
namespace Go.Proofs.Ytoedcnhgobbnfaa.All
open Go.RowKit Go.Proofs.YtoedcnhgobbnfaaW.PrintWords Go.Proofs.YtoedcnhgobbnfaaW.PrintLast Go.Proofs.YtoedcnhgobbnfaaW.PrintMore
set_option linter.unusedVariables false
set_option linter.unusedSimpArgs false
def simV (u v : Value) : Prop := v = u ∨ (∃ k a b, u = .int k a ∧ v = .int k b) ∨ (∃ a b, u = .string a ∧ v = .string b) ∨ (∃ a b, u = .bool a ∧ v = .bool b)
theorem simV.refl (u : Value) : simV u u := .inl rfl
theorem simV.int (k : IntKind) (a b : Int) : simV (.int k a) (.int k b) := .inr (.inl ⟨k, a, b, rfl, rfl⟩)
theorem simV.string (a b : ByteArray) : simV (.string a) (.string b) := .inr (.inr (.inl ⟨a, b, rfl, rfl⟩))
theorem simV.bool (a b : Bool) : simV (.bool a) (.bool b) := .inr (.inr (.inr ⟨a, b, rfl, rfl⟩))
theorem simV.trans {u v x : Value} (h : simV u v) (h' : simV v x) : simV u x := by
  rcases h with rfl | ⟨k, a, b, rfl, rfl⟩ | ⟨a, b, rfl, rfl⟩ | ⟨a, b, rfl, rfl⟩
  · exact h'
  · rcases h' with rfl | ⟨k', a', b', e, rfl⟩ | ⟨a', b', e, rfl⟩ | ⟨a', b', e, rfl⟩
    · exact simV.int _ _ _
    · injection e with e1 e2; subst e1; exact simV.int _ _ _
    · cases e
    · cases e
  · rcases h' with rfl | ⟨k', a', b', e, rfl⟩ | ⟨a', b', e, rfl⟩ | ⟨a', b', e, rfl⟩
    · exact simV.string _ _
    · cases e
    · exact simV.string _ _
    · cases e
  · rcases h' with rfl | ⟨k', a', b', e, rfl⟩ | ⟨a', b', e, rfl⟩ | ⟨a', b', e, rfl⟩
    · exact simV.bool _ _
    · cases e
    · cases e
    · exact simV.bool _ _
structure Sim (w W : World) (S : Nat → Prop) : Prop where
  os : W.os = w.os
  tape : W.tape = w.tape
  output : W.output = w.output
  size : w.heap.size ≤ W.heap.size
  out : ∀ b, b < w.heap.size → ¬ S b → W.heap[b]? = w.heap[b]?
  cells : ∀ (b : Nat) (cs : Array Value) (t : TypeId) (fr : Nat × Nat), w.heap[b]? = some (.cells cs t fr) → ∃ cs' : Array Value, W.heap[b]? = some (.cells cs' t fr) ∧ cs'.size = cs.size ∧ ∀ (j : Nat) (u : Value), cs[j]? = some u → ∃ v, cs'[j]? = some v ∧ simV u v
theorem Sim.refl (w : World) (S : Nat → Prop) : Sim w w S := ⟨rfl, rfl, rfl, Nat.le_refl _, fun _ _ _ => rfl, fun _ cs _ _ h => ⟨cs, h, rfl, fun _ u hu => ⟨u, hu, simV.refl u⟩⟩⟩
theorem Sim.trans {w W X : World} {S : Nat → Prop} (h : Sim w W S) (h' : Sim W X S) : Sim w X S := by
  refine ⟨h'.os.trans h.os, h'.tape.trans h.tape, h'.output.trans h.output, Nat.le_trans h.size h'.size, fun b hb hS => (h'.out b (Nat.lt_of_lt_of_le hb h.size) hS).trans (h.out b hb hS), fun b cs t fr hc => ?_⟩
  obtain ⟨c1, h1, s1, e1⟩ := h.cells b cs t fr hc
  obtain ⟨c2, h2, s2, e2⟩ := h'.cells b c1 t fr h1
  refine ⟨c2, h2, s2.trans s1, fun j u hu => ?_⟩
  obtain ⟨v, hv, x1⟩ := e1 j u hu
  obtain ⟨x, hx, x2⟩ := e2 j v hv
  exact ⟨x, hx, x1.trans x2⟩
theorem Sim.mono {w W : World} {S S' : Nat → Prop} (h : Sim w W S) (hs : ∀ k, S k → S' k) : Sim w W S' := ⟨h.os, h.tape, h.output, h.size, fun b hb hn => h.out b hb (fun k => hn (hs b k)), h.cells⟩
theorem Sim.of_below {w W : World} (h : Below w.heap.size w W) (S : Nat → Prop) : Sim w W S :=
  ⟨h.os, h.tape, h.output, h.size, fun b hb _ => h.block b hb, fun b cs _ _ hc => ⟨cs, (h.block b (blk_lt hc)).trans hc, rfl, fun _ u hu => ⟨u, hu, simV.refl u⟩⟩⟩
theorem Sim.drewN {w W : World} {S : Nat → Prop} (h : Sim w W S) (n : Nat) : Sim w (W.drewN n) S := ⟨h.os, h.tape, h.output, h.size, h.out, h.cells⟩
theorem Sim.drew {w W : World} {S : Nat → Prop} (h : Sim w W S) : Sim w W.drew S := ⟨h.os, h.tape, h.output, h.size, h.out, h.cells⟩
theorem Sim.set {W : World} {S : Nat → Prop} {g j : Nat} {cs : Array Value} {t : TypeId} (hb : W.heap[g]? = some (.cells cs t (0, 0))) {u v : Value} (hu : cs[j]? = some u) (hs : simV u v) (hS : S g) : Sim W (W.setCell ⟨g, j, none⟩ v) S := by
  refine ⟨rfl, rfl, rfl, by simp, fun b _ hn => Below.heap_setCell W ⟨g, j, none⟩ v b (fun e => hn (e ▸ hS)), fun b c t' fr hc => ?_⟩
  by_cases e : b = g
  · subst e
    rw [hb] at hc
    injection hc with hc
    injection hc with h1 h2 h3
    subst h1 h2 h3
    refine ⟨_, blk_set hb j v, by simp, fun i x hx => ?_⟩
    by_cases hi : i = j
    · subst hi
      rw [hu] at hx
      injection hx with hx
      subst hx
      have hl : i < cs.size := (Array.getElem?_eq_some_iff.1 hu).1
      exact ⟨v, by simp [Array.getElem?_setIfInBounds, hl], hs⟩
    · exact ⟨x, by rw [Array.getElem?_setIfInBounds_ne (Ne.symm hi)]; exact hx, simV.refl x⟩
  · exact ⟨c, (Below.heap_setCell W ⟨g, j, none⟩ v b e).trans hc, rfl, fun _ x hx => ⟨x, hx, simV.refl x⟩⟩
theorem Sim.setc {w W : World} {S : Nat → Prop} (h : Sim w W S) {g j : Nat} {t : TypeId} (hb : ∃ cs : Array Value, W.heap[g]? = some (.cells cs t (0, 0))) {u v : Value} (hu : W.cell? ⟨g, j, none⟩ = some u) (hs : simV u v) (hS : S g) : Sim w (W.setCell ⟨g, j, none⟩ v) S := by
  obtain ⟨cs, hb⟩ := hb
  rw [blk_cell hb j] at hu
  exact h.trans (Sim.set hb hu hs hS)
/-- A row's block under a change of this kind. -/
theorem Sim.blk {w W : World} {S : Nat → Prop} (h : Sim w W S) {g : Nat} {t : TypeId} (hb : ∃ cs : Array Value, w.heap[g]? = some (.cells cs t (0, 0))) : ∃ cs : Array Value, W.heap[g]? = some (.cells cs t (0, 0)) := by
  obtain ⟨cs, hb⟩ := hb
  obtain ⟨cs', h1, _⟩ := h.cells g cs t _ hb
  exact ⟨cs', h1⟩
theorem Sim.cell {w W : World} {S : Nat → Prop} (h : Sim w W S) {g j : Nat} {t : TypeId} (hb : ∃ cs : Array Value, w.heap[g]? = some (.cells cs t (0, 0))) {u : Value} (hu : w.cell? ⟨g, j, none⟩ = some u) : ∃ v, W.cell? ⟨g, j, none⟩ = some v ∧ simV u v := by
  obtain ⟨cs, hb⟩ := hb
  obtain ⟨cs', h1, _, h3⟩ := h.cells g cs t _ hb
  rw [blk_cell hb] at hu
  obtain ⟨v, hv, hs⟩ := h3 j u hu
  exact ⟨v, by rw [blk_cell h1]; exact hv, hs⟩
theorem Sim.frozen {w W : World} {S : Nat → Prop} (h : Sim w W S) {g j : Nat} {t : TypeId} (hb : ∃ cs : Array Value, w.heap[g]? = some (.cells cs t (0, 0))) : W.frozen? ⟨g, j, none⟩ = false := by
  obtain ⟨cs, h1⟩ := h.blk hb
  exact blk_frozen h1 j
theorem Sim.kept {w W : World} {S : Nat → Prop} (h : Sim w W S) : Kept w W S := ⟨h.size, h.out⟩
theorem Sim.below0 {w0 w W : World} {S : Nat → Prop} (h : Sim w W S) (hB : Below w0.heap.size w0 w) (hS : ∀ k, S k → w0.heap.size ≤ k) : Below w0.heap.size w0 W :=
  ⟨h.os.trans hB.os, h.tape.trans hB.tape, h.output.trans hB.output, Nat.le_trans hB.size h.size, fun k hk => (h.out k (Nat.lt_of_lt_of_le hk hB.size) (fun hs => by have := hS k hs; omega)).trans (hB.block k hk)⟩
theorem Below.of_sim {w W : World} {S : Nat → Prop} {B : Nat} (h : Sim w W S) (hB : B ≤ w.heap.size) (hS : ∀ k, S k → B ≤ k) : Below B w W :=
  ⟨h.os, h.tape, h.output, h.size, fun k hk => h.out k (by omega) (fun hs => by have := hS k hs; omega)⟩

/-! A kind whose values stay of one shape. -/
structure Shp {α : Type} (d : Kd α) where
  same : α → α → Prop
  refl : ∀ x, same x x
  sim : ∀ {w W : World} {S : Nat → Prop} {base : Nat} {ok : Nat → Prop} {x : α} {cs cs' : List Value}, Sim w W S → d.M w base ok x cs → cs'.length = cs.length → (∀ (j : Nat) (u : Value), cs[j]? = some u → ∃ v, cs'[j]? = some v ∧ simV u v) → ∃ x', d.M W base ok x' cs' ∧ same x x'
theorem list_of_all {α : Type} {P : Nat → α → Prop} : ∀ n : Nat, (∀ j, j < n → ∃ x, P j x) → ∃ l : List α, l.length = n ∧ ∀ (j : Nat) (x : α), l[j]? = some x → P j x
  | 0, _ => ⟨[], rfl, fun j x h => by simp at h⟩
  | n + 1, h => by
    obtain ⟨l, hl, hp⟩ := list_of_all n (fun j hj => h j (by omega))
    obtain ⟨x, hx⟩ := h n (by omega)
    refine ⟨l ++ [x], by simp [hl], fun j y hy => ?_⟩
    by_cases hj : j < n
    · rw [List.getElem?_append_left (by omega)] at hy
      exact hp j y hy
    · have hlt := (List.getElem?_eq_some_iff.1 hy).1
      simp [hl] at hlt
      have : j = n := by omega
      subst this
      rw [List.getElem?_append_right (by omega)] at hy
      simp [hl] at hy
      subst hy
      exact hx
def sameL {α : Type} (s : α → α → Prop) (xs ys : List α) : Prop := ys.length = xs.length ∧ ∀ (j : Nat) (x y : α), xs[j]? = some x → ys[j]? = some y → s x y
theorem sameL.refl {α : Type} {s : α → α → Prop} (h : ∀ x, s x x) (xs : List α) : sameL s xs xs := ⟨rfl, fun j x y hx hy => by rw [hx] at hy; injection hy with hy; subst hy; exact h x⟩
theorem Shp.R {α : Type} {d : Kd α} (sd : Shp d) {e : Nat} {w W : World} {S : Nat → Prop} {base : Nat} {ok : Nat → Prop} {v : Value} {xs : List α} (hs : Sim w W S) (h : d.R e w base ok v xs) : ∃ xs', d.R e W base ok v xs' ∧ sameL sd.same xs xs' := by
  obtain ⟨h0, inner, ⟨hil, ho⟩, hr⟩ := h
  rcases ho with ⟨rfl, hn⟩ | ⟨g, cap, cur, rfl, hb, hg, hnc, hcm, hcs, hin⟩
  · obtain rfl : xs = [] := List.eq_nil_of_length_eq_zero hn
    exact ⟨[], Kd.R_mono (Kd.R_nil d e W base _) (fun k hk => hk), ⟨rfl, fun j x y hx => by simp at hx⟩⟩
  · obtain ⟨cur', hg', hsz', hc'⟩ := hs.cells g cur e _ hg
    have hlen : cur.toList.length = cap * d.sz := by rw [Array.length_toList]; exact hcs
    have hmul : xs.length * d.sz ≤ cap * d.sz := Nat.mul_le_mul_right _ hnc
    have hel : ∀ j, j < xs.length → ∃ x', d.M W base (fun k => ok k ∧ some k ≠ (Value.slice (some ⟨g, 0, none⟩) xs.length cap).ownBlock) x' (((cur'.toList.take (xs.length * d.sz)).drop (j * d.sz)).take d.sz) ∧ ∀ x, xs[j]? = some x → sd.same x x' := by
      intro j hj
      have hx : xs[j]? = some xs[j] := List.getElem?_eq_getElem hj
      have hM := hr.2 j _ hx
      have hseg : j * d.sz + d.sz ≤ xs.length * d.sz := by rw [← Nat.succ_mul]; exact Nat.mul_le_mul_right _ hj
      obtain ⟨x', hM', hs'⟩ := sd.sim hs hM (cs' := ((cur'.toList.take (xs.length * d.sz)).drop (j * d.sz)).take d.sz) (by
        simp only [List.length_take, List.length_drop, Array.length_toList, ← hin, hsz']) (by
        intro i u hu
        rw [← hin] at hu
        rw [List.getElem?_take] at hu ⊢
        split at hu
        · rename_i hi
          rw [if_pos hi]
          rw [List.getElem?_drop, List.getElem?_take] at hu ⊢
          split at hu
          · rename_i h2
            rw [if_pos h2]
            rw [Array.getElem?_toList] at hu
            obtain ⟨v, hv, hsv⟩ := hc' _ u hu
            exact ⟨v, by rw [Array.getElem?_toList]; exact hv, hsv⟩
          · cases hu
        · cases hu)
      exact ⟨x', hM', fun x he => by rw [hx] at he; injection he with he; subst he; exact hs'⟩
    obtain ⟨xs', hl', hp'⟩ := list_of_all xs.length hel
    refine ⟨xs', ⟨h0, cur'.toList.take (xs.length * d.sz), ⟨?_, .inr ⟨g, cap, cur', by rw [hl'], hb, hg', by rw [hl']; exact hnc, hcm, hsz'.trans hcs, by rw [hl']⟩⟩, ?_, fun j p hj => (hp' j p hj).1⟩, hl', fun j x y hx hy => (hp' j y hy).2 x hx⟩
    · have e1 : cur'.toList.length = cap * d.sz := by rw [Array.length_toList, hsz', hcs]
      rw [List.length_take, e1, hl']; omega
    · have e1 : cur'.toList.length = cap * d.sz := by rw [Array.length_toList, hsz', hcs]
      rw [List.length_take, e1, hl']; omega
def Shp.int (k : IntKind) : Shp (Kd.int k) where
  same := fun _ _ => True
  refl := fun _ => trivial
  sim := by
    rintro w W S base ok x cs cs' _ rfl hl hc
    obtain ⟨v, hv, hs⟩ := hc 0 _ rfl
    obtain ⟨y, rfl⟩ : ∃ y, v = .int k y := by
      rcases hs with rfl | ⟨k', a, b, e, rfl⟩ | ⟨a, b, e, rfl⟩ | ⟨a, b, e, rfl⟩
      · exact ⟨x, rfl⟩
      · injection e with e1 _; subst e1; exact ⟨b, rfl⟩
      · cases e
      · cases e
    refine ⟨y, ?_, trivial⟩
    match cs', hl, hv with
    | [c], _, hv => simp at hv; subst hv; rfl
def Shp.string : Shp Kd.string where
  same := fun _ _ => True
  refl := fun _ => trivial
  sim := by
    rintro w W S base ok x cs cs' _ rfl hl hc
    obtain ⟨v, hv, hs⟩ := hc 0 _ rfl
    obtain ⟨y, rfl⟩ : ∃ y, v = .string y := by
      rcases hs with rfl | ⟨k', a, b, e, rfl⟩ | ⟨a, b, e, rfl⟩ | ⟨a, b, e, rfl⟩
      · exact ⟨x, rfl⟩
      · cases e
      · exact ⟨b, rfl⟩
      · cases e
    refine ⟨y, ?_, trivial⟩
    match cs', hl, hv with
    | [c], _, hv => simp at hv; subst hv; rfl
def Shp.bool : Shp Kd.bool where
  same := fun _ _ => True
  refl := fun _ => trivial
  sim := by
    rintro w W S base ok x cs cs' _ rfl hl hc
    obtain ⟨v, hv, hs⟩ := hc 0 _ rfl
    obtain ⟨y, rfl⟩ : ∃ y, v = .bool y := by
      rcases hs with rfl | ⟨k', a, b, e, rfl⟩ | ⟨a, b, e, rfl⟩ | ⟨a, b, e, rfl⟩
      · exact ⟨x, rfl⟩
      · cases e
      · cases e
      · exact ⟨b, rfl⟩
    refine ⟨y, ?_, trivial⟩
    match cs', hl, hv with
    | [c], _, hv => simp at hv; subst hv; rfl
def Shp.slice {α : Type} {d : Kd α} (e : Nat) (sd : Shp d) : Shp (Kd.slice e d) where
  same := sameL sd.same
  refl := sameL.refl sd.refl
  sim := by
    rintro w W S base ok x cs cs' hs ⟨v, rfl, hR⟩ hl hc
    obtain ⟨v', hv, hsv⟩ := hc 0 _ rfl
    obtain ⟨A, c, rfl⟩ := Kd.R_slice hR
    obtain rfl : v' = .slice A x.length c := by
      rcases hsv with h | ⟨k', a, b, e, _⟩ | ⟨a, b, e, _⟩ | ⟨a, b, e, _⟩
      · exact h
      · cases e
      · cases e
      · cases e
    obtain ⟨xs', h1, h2⟩ := sd.R hs hR
    refine ⟨xs', ⟨_, ?_, h1⟩, h2⟩
    match cs', hl, hv with
    | [c], _, hv => simp at hv; subst hv; rfl
def Shp.pair {α β : Type} {a : Kd α} {b : Kd β} (sa : Shp a) (sb : Shp b) : Shp (Kd.pair a b) where
  same := fun x y => sa.same x.1 y.1 ∧ sb.same x.2 y.2
  refl := fun x => ⟨sa.refl _, sb.refl _⟩
  sim := by
    rintro w W S base ok x cs cs' hs ⟨c0, c1, rfl, h0, h1⟩ hl hc
    have l0 := a.K_len (a.K_of_M h0)
    have l1 := b.K_len (b.K_of_M h1)
    rw [List.length_append] at hl
    obtain ⟨y0, m0, s0⟩ := sa.sim (cs' := cs'.take c0.length) hs h0 (by rw [List.length_take]; omega) (by
      intro j u hu
      have hj := (List.getElem?_eq_some_iff.1 hu).1
      obtain ⟨v, hv, hsv⟩ := hc j u (by rw [List.getElem?_append_left hj]; exact hu)
      exact ⟨v, by rw [List.getElem?_take, if_pos hj]; exact hv, hsv⟩)
    obtain ⟨y1, m1, s1⟩ := sb.sim (cs' := cs'.drop c0.length) hs h1 (by rw [List.length_drop]; omega) (by
      intro j u hu
      obtain ⟨v, hv, hsv⟩ := hc (c0.length + j) u (by rw [List.getElem?_append_right (by omega), Nat.add_sub_cancel_left]; exact hu)
      exact ⟨v, by rw [List.getElem?_drop]; exact hv, hsv⟩)
    exact ⟨(y0, y1), ⟨cs'.take c0.length, cs'.drop c0.length, (List.take_append_drop _ _).symm, m0, m1⟩, s0, s1⟩
def Shp.iso {α β : Type} {d : Kd α} (sd : Shp d) (f : β → α) (g : α → β) (h : ∀ y, f (g y) = y) : Shp (Kd.iso d f) where
  same := fun x y => sd.same (f x) (f y)
  refl := fun x => sd.refl _
  sim := by
    intro w W S base ok x cs cs' hs hM hl hc
    obtain ⟨y, m, s⟩ := sd.sim hs (show d.M w base ok (f x) cs from hM) hl hc
    refine ⟨g y, ?_, by rw [h]; exact s⟩
    show d.M W base ok (f (g y)) cs'
    rw [h]
    exact m
/-- What is made is bounded below by its base. -/
theorem Kd.R_based {α : Type} {d : Kd α} {e base : Nat} {w : World} {ok : Nat → Prop} {v : Value} {xs : List α} (h : d.R e w base ok v xs) : d.R e w base (fun k => ok k ∧ base ≤ k) v xs := Kd.R_mono (Kd.R_bound h) (fun _ hk => ⟨hk.1, hk.2.1⟩)
theorem sameL_sum {α : Type} {s : α → α → Prop} {c : α → Nat} : ∀ {xs ys : List α}, sameL s xs ys → (∀ x y, s x y → c y = c x) → (ys.map c).sum = (xs.map c).sum
  | [], [], _, _ => rfl
  | [], _ :: _, h, _ => by have := h.1; simp at this
  | _ :: _, [], h, _ => by have := h.1; simp at this
  | x :: xs, y :: ys, h, hc => by
    have h1 := hc x y (h.2 0 x y rfl rfl)
    have h2 := sameL_sum (xs := xs) (ys := ys) ⟨by have := h.1; simpa using this, fun j a b ha hb => h.2 (j + 1) a b (by simpa using ha) (by simpa using hb)⟩ hc
    simp [h1, h2]
theorem sum_take_succ {α : Type} (c : α → Nat) (z : α) : ∀ (xs : List α) (m : Nat), m < xs.length → ((xs.take (m + 1)).map c).sum = ((xs.take m).map c).sum + c (xs.getD m z)
  | x :: xs, 0, _ => by simp
  | x :: xs, m + 1, h => by
    have := sum_take_succ c z xs m (by simpa using h)
    simp only [List.take_succ_cons, List.map_cons, List.sum_cons, List.getD_cons_succ] at this ⊢
    omega
theorem sum_take_le {α : Type} (c : α → Nat) : ∀ (xs : List α) (m : Nat), ((xs.take m).map c).sum ≤ (xs.map c).sum
  | [], m => by simp
  | x :: xs, 0 => by simp
  | x :: xs, m + 1 => by
    have := sum_take_le c xs m
    simp only [List.take_succ_cons, List.map_cons, List.sum_cons]
    omega
theorem Sim.scal_int {w W : World} {S : Nat → Prop} (h : Sim w W S) {g j : Nat} {t : TypeId} (hb : ∃ cs : Array Value, w.heap[g]? = some (.cells cs t (0, 0))) {k : IntKind} {a : Int} (hu : w.cell? ⟨g, j, none⟩ = some (.int k a)) : ∃ b, W.cell? ⟨g, j, none⟩ = some (.int k b) := by
  obtain ⟨v, hv, hs⟩ := h.cell hb hu
  rcases hs with rfl | ⟨k', a', b', e, rfl⟩ | ⟨a', b', e, rfl⟩ | ⟨a', b', e, rfl⟩
  · exact ⟨_, hv⟩
  · injection e with e1 _; subst e1; exact ⟨_, hv⟩
  · cases e
  · cases e
theorem Sim.scal_string {w W : World} {S : Nat → Prop} (h : Sim w W S) {g j : Nat} {t : TypeId} (hb : ∃ cs : Array Value, w.heap[g]? = some (.cells cs t (0, 0))) {a : ByteArray} (hu : w.cell? ⟨g, j, none⟩ = some (.string a)) : ∃ b, W.cell? ⟨g, j, none⟩ = some (.string b) := by
  obtain ⟨v, hv, hs⟩ := h.cell hb hu
  rcases hs with rfl | ⟨k', a', b', e, rfl⟩ | ⟨a', b', e, rfl⟩ | ⟨a', b', e, rfl⟩
  · exact ⟨_, hv⟩
  · cases e
  · exact ⟨_, hv⟩
  · cases e
theorem Sim.scal_bool {w W : World} {S : Nat → Prop} (h : Sim w W S) {g j : Nat} {t : TypeId} (hb : ∃ cs : Array Value, w.heap[g]? = some (.cells cs t (0, 0))) {a : Bool} (hu : w.cell? ⟨g, j, none⟩ = some (.bool a)) : ∃ b, W.cell? ⟨g, j, none⟩ = some (.bool b) := by
  obtain ⟨v, hv, hs⟩ := h.cell hb hu
  rcases hs with rfl | ⟨k', a', b', e, rfl⟩ | ⟨a', b', e, rfl⟩ | ⟨a', b', e, rfl⟩
  · exact ⟨_, hv⟩
  · cases e
  · cases e
  · exact ⟨_, hv⟩
theorem Sim.slc {w W : World} {S : Nat → Prop} (h : Sim w W S) {g j : Nat} {t : TypeId} (hb : ∃ cs : Array Value, w.heap[g]? = some (.cells cs t (0, 0))) {A : Option Addr} {n c : Nat} (hu : w.cell? ⟨g, j, none⟩ = some (.slice A n c)) : W.cell? ⟨g, j, none⟩ = some (.slice A n c) := by
  obtain ⟨v, hv, hs⟩ := h.cell hb hu
  rcases hs with rfl | ⟨k', a', b', e, rfl⟩ | ⟨a', b', e, rfl⟩ | ⟨a', b', e, rfl⟩
  · exact hv
  · cases e
  · cases e
  · cases e
theorem Sim.putw {w W : World} {S : Nat → Prop} {g j : Nat} {t : TypeId} {k : IntKind} {a b : Int} (h : Sim w W S) (hb : ∃ cs : Array Value, w.heap[g]? = some (.cells cs t (0, 0))) (hu : w.cell? ⟨g, j, none⟩ = some (.int k a)) (hS : S g) : Sim w (W.setCell ⟨g, j, none⟩ (.int k b)) S := by
  obtain ⟨b', hv⟩ := h.scal_int hb hu
  exact h.setc (h.blk hb) hv (simV.int _ _ _) hS
theorem Sim.puts {w W : World} {S : Nat → Prop} {g j : Nat} {t : TypeId} {a b : ByteArray} (h : Sim w W S) (hb : ∃ cs : Array Value, w.heap[g]? = some (.cells cs t (0, 0))) (hu : w.cell? ⟨g, j, none⟩ = some (.string a)) (hS : S g) : Sim w (W.setCell ⟨g, j, none⟩ (.string b)) S := by
  obtain ⟨b', hv⟩ := h.scal_string hb hu
  exact h.setc (h.blk hb) hv (simV.string _ _) hS
theorem Sim.putb {w W : World} {S : Nat → Prop} {g j : Nat} {t : TypeId} {a b : Bool} (h : Sim w W S) (hb : ∃ cs : Array Value, w.heap[g]? = some (.cells cs t (0, 0))) (hu : w.cell? ⟨g, j, none⟩ = some (.bool a)) (hS : S g) : Sim w (W.setCell ⟨g, j, none⟩ (.bool b)) S := by
  obtain ⟨b', hv⟩ := h.scal_bool hb hu
  exact h.setc (h.blk hb) hv (simV.bool _ _) hS
theorem Kd.R_slice' {α : Type} {d : Kd α} {e base : Nat} {w : World} {ok : Nat → Prop} {v : Value} {xs : List α} (h : d.R e w base ok v xs) : ∃ (A : Option Addr) (n c : Nat), v = .slice A n c := by
  obtain ⟨A, c, e⟩ := Kd.R_slice h
  exact ⟨A, _, c, e⟩
/-- A call's world, under a name. -/
theorem calls_at {P : Program} {f : FuncId} {args : Array Value} {w : World} {Q : Ending → World → Prop} (I : World → Prop) (hw : I w) (h : ∀ W, I W → Calls P f args W Q) : Calls P f args w Q := h w hw
theorem len_le_sum {α : Type} {c : α → Nat} : ∀ (xs : List α), (∀ x, 1 ≤ c x) → xs.length ≤ (xs.map c).sum
  | [], _ => Nat.le_refl _
  | x :: xs, h => by
    have h1 := h x
    have h2 := len_le_sum xs h
    simp only [List.length_cons, List.map_cons, List.sum_cons]
    omega
theorem Kd.R_old2 {α : Type} {d : Kd α} {e base : Nat} {w : World} {ok : Nat → Prop} {v : Value} {xs : List α} (h : d.R e w base ok v xs) : d.R e w base (fun k => ok k ∧ k < w.heap.size) v xs := Kd.R_mono (Kd.R_bound h) (fun _ hk => ⟨hk.1, hk.2.2.1⟩)
theorem alloc2_0 (w : World) (o o' : Obj) : ((w.alloc o).alloc o').heap[w.heap.size]? = some o := ((below_alloc (Below.refl (w.alloc o).heap.size (w.alloc o)) o').block w.heap.size (by simp)).trans (heap_alloc_new w o)
theorem alloc2_1 (w : World) (o o' : Obj) : ((w.alloc o).alloc o').heap[w.heap.size + 1]? = some o' := by
  have h := heap_alloc_new (w.alloc o) o'
  rw [World.size_alloc] at h
  exact h
end Go.Proofs.Ytoedcnhgobbnfaa.All

namespace Go.Proofs.Ytoedcnhgobbnfaa.All
open Go.RowKit Go.Proofs.YtoedcnhgobbnfaaW.PrintWords Go.Proofs.YtoedcnhgobbnfaaW.PrintLast Go.Proofs.YtoedcnhgobbnfaaW.PrintMore
attribute [local go_sem] max2_int min2_int max_two min_two max_three min_three max_four min_four   -- for this text's walks alone
set_option linter.unusedVariables false
set_option linter.unusedSimpArgs false

/-! ### impl_NextBlocks: function 18 -/
def impl_NextBlocks.f (a0_0 : ByteArray) (a0_1 : Int) (l0_2 : List Int) (a0_3 : Int) (l0_4 : List (S62)) (a1 : Int) : Option (List Int) :=
  if a1 < 0 then some [] else if (l0_4.length : Int) ≤ a1 then some [] else if (rd_T62 l0_4 a1).f0.length = 0 then some [] else
  if l0_4.length ≤ 1000000000 ∧ (rd_T62 l0_4 a1).f0.length ≤ 1000000000 ∧ (rd_T66 (rd_T62 l0_4 a1).f0 (((rd_T62 l0_4 a1).f0.length : Int) - 1)).f7.length ≤ 1000000000 then some (nextL l0_4.length (rd_T66 (rd_T62 l0_4 a1).f0 (((rd_T62 l0_4 a1).f0.length : Int) - 1)).f7) else none
set_option maxHeartbeats 4000000 in
set_option maxRecDepth 100000 in
theorem impl_NextBlocks.none_ (a0_0 : ByteArray) (a0_1 : Int) (A0_2 : Option Addr) (c0_2 : Nat) (l0_2 : List Int) (a0_3 : Int) (A0_4 : Option Addr) (c0_4 : Nat) (l0_4 : List (S62)) (a1 : Int) (w : World) (hr0_4 : Kd.C k62 w A0_4 l0_4.length l0_4) (hn : a1 < 0 ∨ (l0_4.length : Int) ≤ a1 ∨ (rd_T62 l0_4 a1).f0.length = 0) :
    Calls Try.prog 18 #[.agg #[.string a0_0, .int .i64 a0_1, .slice A0_2 l0_2.length c0_2, .int .i64 a0_3, .slice A0_4 l0_4.length c0_4], .int .i64 a1] w fun e w' => e = .returned (.slice none 0 0) ∧ Below w.heap.size w w' := by
  have HR := Aside0.mk hr0_4
  clear hr0_4
  have hu := Try.underlying30
  by_cases h1 : a1 < 0
  · have c1 : decide (a1 < 0) = true := decide_eq_true h1
    clear h1 hn
    go_enter Try.func18, Try.ntmps18
    go_wp2
    go_ret
    exact ⟨rfl, below_alloc (Below.refl _ _) _⟩
  · have c1 : decide (a1 < 0) = false := decide_eq_false h1
    by_cases h2 : (l0_4.length : Int) ≤ a1
    · have c2 : decide ((l0_4.length : Int) ≤ a1) = true := decide_eq_true h2
      clear h1 h2 hn
      go_enter Try.func18, Try.ntmps18
      go_wp2
      go_ret
      exact ⟨rfl, below_alloc (Below.refl _ _) _⟩
    · have c2 : decide ((l0_4.length : Int) ≤ a1) = false := decide_eq_false h2
      have h3 : (rd_T62 l0_4 a1).f0.length = 0 := by rcases hn with h | h | h <;> first | omega | exact h
      obtain ⟨ad, A1, c1_, e1, hx, hl, hi⟩ := at_T62 HR.out a1 (by omega) (by omega)
      subst e1
      have hx1 : (w.alloc (.cells #[.string a0_0, .int .i64 a0_1, .slice A0_2 l0_2.length c0_2, .int .i64 a0_3, .slice (some ad) l0_4.length c0_4] 30)).cell? (ad.add a1.toNat) = some (.slice A1 (rd_T62 l0_4 a1).f0.length c1_) := ((below_alloc (Below.refl w.heap.size w) _).cell (World.block_lt_of_cell? w _ hx)).trans hx
      rw [h3] at hx1
      have h4 : 0 ≤ a1 := by omega
      have h5 : a1 < (l0_4.length : Int) := by omega
      clear h1 h2 hn hi hx hl h3
      go_enter Try.func18, Try.ntmps18
      go_wp2
      go_ret
      exact ⟨rfl, below_alloc (Below.refl _ _) _⟩
set_option maxHeartbeats 4000000 in
set_option maxRecDepth 100000 in
theorem impl_NextBlocks.some_ (a0_0 : ByteArray) (a0_1 : Int) (A0_2 : Option Addr) (c0_2 : Nat) (l0_2 : List Int) (a0_3 : Int) (A0_4 : Option Addr) (c0_4 : Nat) (l0_4 : List (S62)) (a1 : Int) (w : World) (hr0_4 : Kd.C k62 w A0_4 l0_4.length l0_4) (h1 : 0 ≤ a1) (h2 : a1 < (l0_4.length : Int)) (L : List (S66)) (hL : L = (rd_T62 l0_4 a1).f0) (h3 : 0 < L.length) (bs : List Int) (hbs : bs = (rd_T66 L ((L.length : Int) - 1)).f7) (b1 : l0_4.length ≤ 1000000000) (b2 : L.length ≤ 1000000000) (b3 : bs.length ≤ 1000000000) :
    Calls Try.prog 18 #[.agg #[.string a0_0, .int .i64 a0_1, .slice A0_2 l0_2.length c0_2, .int .i64 a0_3, .slice A0_4 l0_4.length c0_4], .int .i64 a1] w fun e w' => ∃ v0_ : Value, e = .returned v0_ ∧ Kd.R (Kd.int .i64) 2 w' w.heap.size (fun _ => True) v0_ (nextL l0_4.length bs) ∧ Below w.heap.size w w' := by
  have hu := Try.underlying30
  have c1 : decide (a1 < 0) = false := decide_eq_false (by omega)
  have c2 : decide ((l0_4.length : Int) ≤ a1) = false := decide_eq_false (by omega)
  have c3 : ((L.length : Int) == 0) = false := by rw [beq_eq_false_iff_ne]; omega
  obtain ⟨ad, A1, k1, e1, hx, hl, hi⟩ := at_T62 hr0_4 a1 h1 h2
  subst e1
  rw [← hL] at hx hl hi
  obtain ⟨ad2, A26, k26, A27, k27, A28, k28, e2, y0, y1, y2, y3, y4, y5, y6, y7, y8, l6, i6, l7, i7, l8, i8⟩ := at_T66 hi ((L.length : Int) - 1) (by omega) (by omega)
  subst e2
  rw [← hbs] at y7 l7 i7
  rw [show ((L.length : Int) - 1).toNat = L.length - 1 from by omega] at y7
  clear y0 y1 y2 y3 y4 y5 y6 y8 l6 i6 l8 i8 hL hbs hi hr0_4
  have B0 : Below w.heap.size w (w.alloc (.cells #[.string a0_0, .int .i64 a0_1, .slice A0_2 l0_2.length c0_2, .int .i64 a0_3, .slice (some ad) l0_4.length c0_4] 30)) := below_alloc (Below.refl w.heap.size w) _
  have hx1 := (B0.cell (World.block_lt_of_cell? w _ hx)).trans hx
  have B1 : Below w.heap.size w ((w.alloc (.cells #[.string a0_0, .int .i64 a0_1, .slice A0_2 l0_2.length c0_2, .int .i64 a0_3, .slice (some ad) l0_4.length c0_4] 30)).alloc (.map #[] 0)) := below_alloc B0 _
  have hy1 := (B1.cell (World.block_lt_of_cell? w _ y7)).trans y7
  have HBm := Aside0.mk B1
  have HK0 := Aside0.mk (alloc2_0 w (.cells #[.string a0_0, .int .i64 a0_1, .slice A0_2 l0_2.length c0_2, .int .i64 a0_3, .slice (some ad) l0_4.length c0_4] 30) (.map #[] 0))
  have HS0 := Aside0.mk (IsSet.made (w.alloc (.cells #[.string a0_0, .int .i64 a0_1, .slice A0_2 l0_2.length c0_2, .int .i64 a0_3, .slice (some ad) l0_4.length c0_4] 30)) Try.prog 2 4)
  have HI := Aside0.mk i7
  clear hx y7 i7 B0 B1
  have hmm := @run_makeMap Try.prog
  go_enter Try.func18, Try.ntmps18
  go_wp2
  go_loopw [6, 44] (fun v6 v44 w' => ∃ m : Nat, m ≤ bs.length ∧ v44 = .int .i64 (m : Int) ∧ Aside0 (Kd.R (Kd.int .i64) 2 w' w.heap.size (fun _ => True) v6 (nextL l0_4.length (bs.take m))) ∧ Aside0 (IsSet Try.prog 2 4 w' (w.heap.size + 1) m (fun y => (nextL l0_4.length (bs.take m)).contains y)) ∧ Aside0 (Below w.heap.size w w') ∧ Aside0 (w'.heap[w.heap.size]? = some (.cells #[.string a0_0, .int .i64 a0_1, .slice A0_2 l0_2.length c0_2, .int .i64 a0_3, .slice (some ad) l0_4.length c0_4] 30 (0, 0)))) (fun _ v44 _ => bs.length - (intOf v44).toNat)
  case atStart => exact ⟨0, Nat.zero_le _, rfl, ⟨Kd.R_nil _ _ _ _ _⟩, ⟨by have h := HS0.out; rw [World.size_alloc] at h; exact h.congr (fun _ => rfl)⟩, HBm, HK0⟩
  case round =>
    clear HBm HK0 HS0 hx1 hy1 hmm
    obtain ⟨m, hm, rfl, HO, HS, HB, HK⟩ := hrel
    by_cases hlt : m < bs.length
    · have hrd := Kd.reads_of_C (d := (0 : Int)) (Kd.C_below HI.out HB.out)
      obtain ⟨ad3, e3, hb⟩ := ReadsInt.at_ (k := .i64) hrd (m : Int) (by omega) (by omega)
      subst e3
      clear hrd
      have htk := nextL_take l0_4.length bs m hlt
      obtain ⟨b, hbm⟩ : ∃ b, b = bs[m] := ⟨_, rfl⟩
      have hrb : rd bs (m : Int) = b := by rw [hbm]; simp [rd, List.getElem?_eq_getElem hlt]
      rw [hrb, Int.toNat_natCast] at hb
      rw [← hbm] at htk
      have HT := Aside0.mk htk
      have hlen := nextL_len l0_4.length (bs.take m)
      rw [List.length_take] at hlen
      have HL := Aside0.mk hlen
      have d4 : wr.cell? ⟨w.heap.size, 4, none⟩ = some (.slice (some ad) l0_4.length c0_4) := (blk_cell HK.out 4).trans rfl
      clear htk hbm hrb hlen
      have hz : ∀ W : World, (zeroValue 4).run Try.prog W = .ok (.bool false) W := fun W => by kernel_rfl
      by_cases q0 : 0 ≤ b
      · by_cases q1 : b < (l0_4.length : Int)
        · have hw : (Lit.int .i64 b).wf = true := WalkArith.wf_i64 ⟨by omega, by omega⟩
          have HW := Aside0.mk hw
          have HZ := Aside0.mk hz
          clear hw hz
          have t0 : decide (0 ≤ b) = true := decide_eq_true q0
          have t1 : decide (b < (l0_4.length : Int)) = true := decide_eq_true q1
          by_cases q2 : (nextL l0_4.length (bs.take m)).contains b = true
          · have hst : stepN l0_4.length (nextL l0_4.length (bs.take m)) b = nextL l0_4.length (bs.take m) := by unfold stepN; rw [if_neg (by rw [q2]; simp)]
            have HST := Aside0.mk hst
            have HQ := Aside0.mk q2
            clear hst q2
            go_wp2_with (first | ((with_reducible refine gate_dst (N := 60) rfl ?_); (try (refine gate_guard (by rfl) ?_; dsimp only)); refine wpList_look_set rfl _ _ 68 rfl 2 4 Try.underlying2 Try.underlying68 Try.underlying4 (HZ.out _) (w.heap.size + 1) m _ rfl HS.out b rfl HW.out ?_; dsimp only; rw [HQ.out]))
            go_roundw
            case measure => simp [intOf]; omega
            case rel => exact ⟨m + 1, by omega, by go_num, ⟨by rw [HT.out, HST.out]; exact HO.out⟩, ⟨by rw [HT.out, HST.out]; exact HS.out.mono (by omega)⟩, HB, HK⟩
          · have q3 : (nextL l0_4.length (bs.take m)).contains b = false := by simpa using q2
            have hst : stepN l0_4.length (nextL l0_4.length (bs.take m)) b = nextL l0_4.length (bs.take m) ++ [b] := by unfold stepN; rw [if_pos ⟨q0, q1, q3⟩]
            have HST := Aside0.mk hst
            have HQ := Aside0.mk q3
            clear hst q2 q3
            go_wp2_with (first | ((with_reducible refine gate_dst (N := 60) rfl ?_); (try (refine gate_guard (by rfl) ?_; dsimp only)); refine wpList_look_set rfl _ _ 68 rfl 2 4 Try.underlying2 Try.underlying68 Try.underlying4 (HZ.out _) (w.heap.size + 1) m _ rfl HS.out b rfl HW.out ?_; dsimp only; rw [HQ.out]) | (at_mapUpdate; refine wpList_put_set rfl _ _ _ 68 rfl 2 4 Try.underlying2 Try.underlying68 Try.underlying4 (w.heap.size + 1) m _ rfl HS.out ?ml b rfl HW.out true rfl ?_; (case ml => simp only [maxLen]; omega); intro w1 hs1 hg1; have n0 := Aside0.mk (Kd.R_grown (Kd.R_notset HO.out HS.out) hg1 (fun k hk => by simpa using hk.2)); have n1 := Aside0.mk hs1; have n2 := Aside0.mk (pw_below_grown HB.out (some (w.heap.size + 1)) HB.out.size hg1 (fun k hk => by injection hk with hk; omega)); have n3 := Aside0.mk (blk_grown HK.out hg1 (by simp)); clear HO HS HB HK hs1 hg1; have HO := n0; have HS := n1; have HB := n2; have HK := n3; clear n0 n1 n2 n3) | (at_builtin; refine Kd.R_append (Kd.int .i64) (w0 := w) w.heap.size rfl (.tmp 65) (.tmp 67) 22 2 (.int .i64 0) 8 rfl Try.underlying22 info2 rfl (by decide) (by omega) u6 (nextL l0_4.length (bs.take m)) b [.int .i64 b] (fun _ => True) (fun _ => False) rfl rfl ?aP (fun _ hk => hk.elim) ?aF ?aO ?aB ?aS ?aL ?_; (case aP => exact rfl); (case aF => exact (fun _ _ => trivial)); (case aO => exact Kd.R_mono HO.out (fun _ _ => trivial)); (case aB => exact HB.out); (case aS => exact HB.out.size); (case aL => have := HL.out; omega); intro v2 w2 ho2 hb2 hg2 hat2; have n0 := Aside0.mk ho2; have n1 := Aside0.mk (HS.out.kept hg2 (Kd.R_notset_own HO.out HS.out)); have n2 := Aside0.mk hb2; have n3 := Aside0.mk (blk_grown HK.out hg2 (Kd.R_ne HO.out HK.out (by decide))); clear HO HS HB HK ho2 hb2 hg2 hat2; have HO := n0; have HS := n1; have HB := n2; have HK := n3; clear n0 n1 n2 n3))
            go_roundw
            case measure => simp [intOf]; omega
            case rel => exact ⟨m + 1, by omega, by go_num, ⟨by rw [HT.out, HST.out]; exact HO.out⟩, ⟨by rw [HT.out, HST.out]; exact HS.out.congr (fun y => by by_cases e : y = b <;> simp [e])⟩, HB, HK⟩
        · have t0 : decide (0 ≤ b) = true := decide_eq_true q0
          have t1 : decide (b < (l0_4.length : Int)) = false := decide_eq_false q1
          have hst : stepN l0_4.length (nextL l0_4.length (bs.take m)) b = nextL l0_4.length (bs.take m) := by unfold stepN; rw [if_neg (fun h => q1 h.2.1)]
          have HST := Aside0.mk hst
          clear hst hz
          go_wp2
          go_roundw
          case measure => simp [intOf]; omega
          case rel => exact ⟨m + 1, by omega, by go_num, ⟨by rw [HT.out, HST.out]; exact HO.out⟩, ⟨by rw [HT.out, HST.out]; exact HS.out.mono (by omega)⟩, HB, HK⟩
      · have t0 : decide (0 ≤ b) = false := decide_eq_false q0
        have hst : stepN l0_4.length (nextL l0_4.length (bs.take m)) b = nextL l0_4.length (bs.take m) := by unfold stepN; rw [if_neg (fun h => q0 h.1)]
        have HST := Aside0.mk hst
        clear hst hz
        go_wp2
        go_roundw
        case measure => simp [intOf]; omega
        case rel => exact ⟨m + 1, by omega, by go_num, ⟨by rw [HT.out, HST.out]; exact HO.out⟩, ⟨by rw [HT.out, HST.out]; exact HS.out.mono (by omega)⟩, HB, HK⟩
    · go_wp2
      go_ret
      have e : bs.take m = bs := List.take_of_length_le (by omega)
      rw [e] at HO
      exact ⟨_, rfl, HO.out, HB.out⟩
theorem impl_NextBlocks.calls (a0_0 : ByteArray) (a0_1 : Int) (A0_2 : Option Addr) (c0_2 : Nat) (l0_2 : List Int) (a0_3 : Int) (A0_4 : Option Addr) (c0_4 : Nat) (l0_4 : List (S62)) (a1 : Int) (r : List Int) (w : World) (hr0_2 : Kd.C (Kd.int .i64) w A0_2 l0_2.length l0_2) (hc0_2 : l0_2.length ≤ c0_2) (hr0_4 : Kd.C k62 w A0_4 l0_4.length l0_4) (hc0_4 : l0_4.length ≤ c0_4) (h : impl_NextBlocks.f a0_0 a0_1 l0_2 a0_3 l0_4 a1 = some r) :
    Calls Try.prog 18 #[.agg #[.string a0_0, .int .i64 a0_1, .slice A0_2 l0_2.length c0_2, .int .i64 a0_3, .slice A0_4 l0_4.length c0_4], .int .i64 a1] w fun e w' => ∃ v0_ : Value, e = .returned (v0_) ∧ Kd.R (Kd.int .i64) 2 w' w.heap.size (fun _ => True) v0_ r ∧ Below w.heap.size w w' := by
  unfold impl_NextBlocks.f at h
  have hnil : ∀ (hn : a1 < 0 ∨ (l0_4.length : Int) ≤ a1 ∨ (rd_T62 l0_4 a1).f0.length = 0), r = [] → Calls Try.prog 18 #[.agg #[.string a0_0, .int .i64 a0_1, .slice A0_2 l0_2.length c0_2, .int .i64 a0_3, .slice A0_4 l0_4.length c0_4], .int .i64 a1] w fun e w' => ∃ v0_ : Value, e = .returned (v0_) ∧ Kd.R (Kd.int .i64) 2 w' w.heap.size (fun _ => True) v0_ r ∧ Below w.heap.size w w' := by
    rintro hn rfl
    exact (impl_NextBlocks.none_ a0_0 a0_1 A0_2 c0_2 l0_2 a0_3 A0_4 c0_4 l0_4 a1 w hr0_4 hn).mono fun e w' ⟨he, hb⟩ => ⟨_, he, Kd.R_nil _ _ _ _ _, hb⟩
  by_cases h1 : a1 < 0
  · rw [if_pos h1] at h
    exact hnil (.inl h1) (Option.some.inj h).symm
  rw [if_neg h1] at h
  by_cases h2 : (l0_4.length : Int) ≤ a1
  · rw [if_pos h2] at h
    exact hnil (.inr (.inl h2)) (Option.some.inj h).symm
  rw [if_neg h2] at h
  by_cases h3 : (rd_T62 l0_4 a1).f0.length = 0
  · rw [if_pos h3] at h
    exact hnil (.inr (.inr h3)) (Option.some.inj h).symm
  rw [if_neg h3] at h
  split at h
  · rename_i hb
    obtain rfl := Option.some.inj h
    exact impl_NextBlocks.some_ a0_0 a0_1 A0_2 c0_2 l0_2 a0_3 A0_4 c0_4 l0_4 a1 w hr0_4 (by omega) (by omega) _ rfl (by omega) _ rfl hb.1 hb.2.1 hb.2.2
  · cases h

end Go.Proofs.Ytoedcnhgobbnfaa.All

namespace Go.Proofs.Ytoedcnhgobbnfaa.All
open Go.RowKit Go.Proofs.YtoedcnhgobbnfaaW.PrintWords Go.Proofs.YtoedcnhgobbnfaaW.PrintLast Go.Proofs.YtoedcnhgobbnfaaW.PrintMore
attribute [local go_sem] max2_int min2_int max_two min_two max_three min_three max_four min_four   -- for this text's walks alone
set_option linter.unusedVariables false
set_option linter.unusedSimpArgs false

/-! ### laws_eqInt64S: function 19 -/
def laws_eqInt64S.l0 : Nat → List Int → List Int → Int → Option (Bool)
  | 0, _, _, _ => none
  | k + 1, x0, x1, x5 => if x5 < (x0.length : Int) then (if 0 ≤ x5 then (if x5 < (x1.length : Int) then (if (rd x0 x5) = (rd x1 x5) then (laws_eqInt64S.l0 k x0 x1 (wrap64 (x5 + 1))) else (some false)) else (none)) else (none)) else (some true)
def laws_eqInt64S.f (k : Nat) (l0 : List Int) (l1 : List Int) : Option (Bool) := if (l0.length : Int) = (l1.length : Int) then (laws_eqInt64S.l0 k l0 l1 0) else (some false)
set_option maxHeartbeats 8000000 in
set_option maxRecDepth 100000 in
theorem laws_eqInt64S.calls (k : Nat) (A0 : Option Addr) (c0 : Nat) (l0 : List Int) (A1 : Option Addr) (c1 : Nat) (l1 : List Int) (r : Bool) (w : World) (hr0 : Kd.C (Kd.int .i64) w A0 l0.length l0) (hc0 : l0.length ≤ c0) (hr1 : Kd.C (Kd.int .i64) w A1 l1.length l1) (hc1 : l1.length ≤ c1) (h : laws_eqInt64S.f k l0 l1 = some r) :
    Calls Try.prog 19 #[.slice A0 l0.length c0, .slice A1 l1.length c1] w fun e w' => e = .returned (.bool r) ∧ Drawn0 w w' := by
  have HR0 := Aside0.mk hr0
  have HC0 := Aside0.mk hc0
  clear hr0 hc0
  have HR1 := Aside0.mk hr1
  have HC1 := Aside0.mk hc1
  clear hr1 hc1
  have H : (if (l0.length : Int) = (l1.length : Int) then (laws_eqInt64S.l0 k l0 l1 0) else (some false)) = some r := h
  clear h
  by_cases c3 : (l0.length : Int) = (l1.length : Int)
  · rw [if_pos c3] at H
    have c3b0 : ((l0.length : Int) == (l1.length : Int)) = true := beq_iff_eq.mpr c3
    have c3b1 : ((l0.length : Int) != (l1.length : Int)) = false := bne_eq_false_iff_eq.mpr c3
    have c3b2 : (l0.length == l1.length) = true := by first | simpa using c3 | (simp at c3 ⊢; omega)
    clear c3
    have H' := Aside0.mk H
    clear H
    go_enter Try.func19, Try.ntmps19
    go_wp2
    repeat (go_quiet (fail); try go_wp2)
    go_loopg [5] k (fun kq v5 w' => ∃ (x5_1 : Int), v5 = .int .i64 x5_1 ∧ Aside0 (laws_eqInt64S.l0 kq l0 l1 x5_1 = some r) ∧ Aside0 (kq ≤ k) ∧ Drawn0 w w')
    case atStart => exact ⟨(0), (by first | rfl | (simp; done) | (simp [*]; done)), H', ⟨Nat.le_refl _⟩, by repeat (first | exact Drawn0.refl _ | apply Drawn0.step)⟩
    case round =>
      clear H'
      try clear c1
      try clear p2
      try clear c3
      try clear c3b0
      try clear c3b1
      try clear c3b2
      obtain ⟨x5_1, rfl, HA, HK1, ⟨m1, rfl⟩⟩ := hrel
      cases gk with
      | zero => exact absurd HA.out (by simp [laws_eqInt64S.l0])
      | succ k1 =>
        have H := HA.out
        clear HA
        simp only [laws_eqInt64S.l0] at H
        by_cases c4 : x5_1 < (l0.length : Int)
        · rw [if_pos c4] at H
          have c4b0 : decide (x5_1 < (l0.length : Int)) = true := decide_eq_true c4
          clear c4
          by_cases c5 : 0 ≤ x5_1
          · rw [if_pos c5] at H
            have c5b0 : decide (0 ≤ x5_1) = true := decide_eq_true c5
            clear c5
            by_cases c6 : x5_1 < (l1.length : Int)
            · rw [if_pos c6] at H
              have c6b0 : decide (x5_1 < (l1.length : Int)) = true := decide_eq_true c6
              clear c6
              by_cases c7 : (rd l0 x5_1) = (rd l1 x5_1)
              · rw [if_pos c7] at H
                have c7b0 : ((rd l0 x5_1) == (rd l1 x5_1)) = true := beq_iff_eq.mpr c7
                have c7b1 : ((rd l0 x5_1) != (rd l1 x5_1)) = false := bne_eq_false_iff_eq.mpr c7
                clear c7
                have H' := Aside0.mk H
                clear H
                have p271 : 0 ≤ (x5_1 : Int) := of_decide_eq_true (by first | (with_reducible assumption) | assumption)
                have q271 : x5_1 < (l0.length : Int) := of_decide_eq_true (by first | (with_reducible assumption) | assumption)
                obtain ⟨ad271, e271, hx271_0⟩ := Kd.at_int HR0.out x5_1 p271 q271
                cases e271
                replace p271 := eq_true p271
                replace q271 := eq_true q271
                have p272 : 0 ≤ (x5_1 : Int) := of_decide_eq_true (by first | (with_reducible assumption) | assumption)
                have q272 : x5_1 < (l1.length : Int) := of_decide_eq_true (by first | (with_reducible assumption) | assumption)
                obtain ⟨ad272, e272, hx272_0⟩ := Kd.at_int HR1.out x5_1 p272 q272
                cases e272
                replace p272 := eq_true p272
                replace q272 := eq_true q272
                go_wp2
                repeat (go_quiet (fail); try go_wp2)
                go_roundg k1
                case measure => have := HK1.out; omega
                case rel => exact ⟨(wrap64 (x5_1 + 1)), (by first | rfl | (simp; done) | (simp [*]; done)), H', ⟨by have := HK1.out; omega⟩, by repeat (first | exact Drawn0.refl _ | apply Drawn0.step)⟩
              · rw [if_neg c7] at H
                have c7b0 : ((rd l0 x5_1) == (rd l1 x5_1)) = false := beq_eq_false_iff_ne.mpr c7
                have c7b1 : ((rd l0 x5_1) != (rd l1 x5_1)) = true := bne_iff_ne.mpr c7
                obtain rfl := Option.some.inj H
                have p271 : 0 ≤ (x5_1 : Int) := of_decide_eq_true (by first | (with_reducible assumption) | assumption)
                have q271 : x5_1 < (l0.length : Int) := of_decide_eq_true (by first | (with_reducible assumption) | assumption)
                obtain ⟨ad271, e271, hx271_0⟩ := Kd.at_int HR0.out x5_1 p271 q271
                cases e271
                replace p271 := eq_true p271
                replace q271 := eq_true q271
                have p272 : 0 ≤ (x5_1 : Int) := of_decide_eq_true (by first | (with_reducible assumption) | assumption)
                have q272 : x5_1 < (l1.length : Int) := of_decide_eq_true (by first | (with_reducible assumption) | assumption)
                obtain ⟨ad272, e272, hx272_0⟩ := Kd.at_int HR1.out x5_1 p272 q272
                cases e272
                replace p272 := eq_true p272
                replace q272 := eq_true q272
                go_wp2
                repeat (go_quiet (fail); try go_wp2)
                go_ret
                exact ⟨by first | rfl | (simp; done) | (simp [*]; done), by repeat (first | exact Drawn0.refl _ | apply Drawn0.step)⟩
            · rw [if_neg c6] at H
              exact absurd H (by simp)
          · rw [if_neg c5] at H
            exact absurd H (by simp)
        · rw [if_neg c4] at H
          have c4b0 : decide (x5_1 < (l0.length : Int)) = false := decide_eq_false c4
          clear c4
          obtain rfl := Option.some.inj H
          go_wp2
          repeat (go_quiet (fail); try go_wp2)
          go_ret
          exact ⟨by first | rfl | (simp; done) | (simp [*]; done), by repeat (first | exact Drawn0.refl _ | apply Drawn0.step)⟩
  · rw [if_neg c3] at H
    have c3b0 : ((l0.length : Int) == (l1.length : Int)) = false := beq_eq_false_iff_ne.mpr c3
    have c3b1 : ((l0.length : Int) != (l1.length : Int)) = true := bne_iff_ne.mpr c3
    have c3b2 : (l0.length == l1.length) = false := by first | simpa using c3 | (simp at c3 ⊢; omega)
    obtain rfl := Option.some.inj H
    go_enter Try.func19, Try.ntmps19
    go_wp2
    repeat (go_quiet (fail); try go_wp2)
    go_ret
    exact ⟨by first | rfl | (simp; done) | (simp [*]; done), by repeat (first | exact Drawn0.refl _ | apply Drawn0.step)⟩

end Go.Proofs.Ytoedcnhgobbnfaa.All

namespace Go.Proofs.Ytoedcnhgobbnfaa.All
open Go.RowKit Go.Proofs.YtoedcnhgobbnfaaW.PrintWords Go.Proofs.YtoedcnhgobbnfaaW.PrintLast Go.Proofs.YtoedcnhgobbnfaaW.PrintMore
attribute [local go_sem] max2_int min2_int max_two min_two max_three min_three max_four min_four   -- for this text's walks alone
set_option linter.unusedVariables false
set_option linter.unusedSimpArgs false

/-! ### laws_eqOperand: function 124 -/
def laws_eqOperand.f (a0_0 : Int) (a0_1 : Int) (a0_2 : Int) (a0_3 : Int) (a1_0 : Int) (a1_1 : Int) (a1_2 : Int) (a1_3 : Int) : Option Bool := if a0_0 = a1_0 then (if a0_1 = a1_1 then (if a0_2 = a1_2 then (if a0_3 = a1_3 then (some true) else none) else none) else none) else none
set_option maxHeartbeats 4000000 in
set_option maxRecDepth 100000 in
theorem laws_eqOperand.calls (a0_0 : Int) (a0_1 : Int) (a0_2 : Int) (a0_3 : Int) (a1_0 : Int) (a1_1 : Int) (a1_2 : Int) (a1_3 : Int) (r : Bool) (w : World)  (h : laws_eqOperand.f a0_0 a0_1 a0_2 a0_3 a1_0 a1_1 a1_2 a1_3 = some r) :
    Calls Try.prog 124 #[.agg #[.int .i64 a0_0, .int .i64 a0_1, .int .i64 a0_2, .int .u64 a0_3], .agg #[.int .i64 a1_0, .int .i64 a1_1, .int .i64 a1_2, .int .u64 a1_3]] w fun e w' => e = .returned (.bool r) ∧ Below w.heap.size w w' := by
  unfold laws_eqOperand.f at h
  by_cases e0 : a0_0 = a1_0
  rotate_left
  · rw [if_neg e0] at h; cases h
  rw [if_pos e0] at h
  subst e0
  by_cases e1 : a0_1 = a1_1
  rotate_left
  · rw [if_neg e1] at h; cases h
  rw [if_pos e1] at h
  subst e1
  by_cases e2 : a0_2 = a1_2
  rotate_left
  · rw [if_neg e2] at h; cases h
  rw [if_pos e2] at h
  subst e2
  by_cases e3 : a0_3 = a1_3
  rotate_left
  · rw [if_neg e3] at h; cases h
  rw [if_pos e3] at h
  subst e3
  obtain rfl := Option.some.inj h
  clear h
  have hu := Try.underlying75
  go_enter Try.func124, Try.ntmps124
  go_wp2
  go_ret
  exact ⟨rfl, below_alloc (below_alloc (Below.refl _ _) _) _⟩

end Go.Proofs.Ytoedcnhgobbnfaa.All

namespace Go.Proofs.Ytoedcnhgobbnfaa.All
open Go.RowKit Go.Proofs.YtoedcnhgobbnfaaW.PrintWords Go.Proofs.YtoedcnhgobbnfaaW.PrintLast Go.Proofs.YtoedcnhgobbnfaaW.PrintMore
attribute [local go_sem] max2_int min2_int max_two min_two max_three min_three max_four min_four   -- for this text's walks alone
set_option linter.unusedVariables false
set_option linter.unusedSimpArgs false

/-! ### laws_eqOperandS: function 120 -/
def laws_eqOperandS.l0 : Nat → List (S75) → List (S75) → Int → Option (Bool)
  | 0, _, _, _ => none
  | k + 1, x0, x1, x5 => if x5 < (x0.length : Int) then (if 0 ≤ x5 then (if x5 < (x1.length : Int) then ((laws_eqOperand.f ((rd_T75 x0 x5).f0) ((rd_T75 x0 x5).f1) ((rd_T75 x0 x5).f2) ((rd_T75 x0 x5).f3) ((rd_T75 x1 x5).f0) ((rd_T75 x1 x5).f1) ((rd_T75 x1 x5).f2) ((rd_T75 x1 x5).f3)).bind fun t275 => (if t275 = true then (laws_eqOperandS.l0 k x0 x1 (wrap64 (x5 + 1))) else (some false))) else (none)) else (none)) else (some true)
def laws_eqOperandS.f (k : Nat) (l0 : List (S75)) (l1 : List (S75)) : Option (Bool) := if (l0.length : Int) = (l1.length : Int) then (laws_eqOperandS.l0 k l0 l1 0) else (some false)
def laws_eqOperandS.T6 : Bool × List (List Nat × List Nat) := (true, [([], []), ([], []), ([0, 1], [0, 1]), ([2], [2]), ([], []), ([], []), ([4, 5], [4, 5]), ([6], [6]), ([3, 7], [3, 7]), ([8], [8])])
def laws_eqOperandS.B6 : List Nat := [0, 0, 3, 7, 0, 0, 48, 112, 255, 511]
theorem laws_eqOperandS.tab6 : rtab .any (opsOf Try.f120 6) = laws_eqOperandS.T6 := by kernel_rfl
theorem laws_eqOperandS.bits6 : waitsOk laws_eqOperandS.T6.2 laws_eqOperandS.B6 = true := by kernel_rfl
set_option maxHeartbeats 8000000 in
set_option maxRecDepth 100000 in
theorem laws_eqOperandS.calls (k : Nat) (A0 : Option Addr) (c0 : Nat) (l0 : List (S75)) (A1 : Option Addr) (c1 : Nat) (l1 : List (S75)) (r : Bool) (w : World) (hr0 : Kd.C k75 w A0 l0.length l0) (hc0 : l0.length ≤ c0) (hr1 : Kd.C k75 w A1 l1.length l1) (hc1 : l1.length ≤ c1) (h : laws_eqOperandS.f k l0 l1 = some r) :
    Calls Try.prog 120 #[.slice A0 l0.length c0, .slice A1 l1.length c1] w fun e w' => e = .returned (.bool r) ∧ Below w.heap.size w w' := by
  have hu75 := Try.underlying75
  have HR0 := Aside0.mk hr0
  have HC0 := Aside0.mk hc0
  clear hr0 hc0
  have HR1 := Aside0.mk hr1
  have HC1 := Aside0.mk hc1
  clear hr1 hc1
  have HB := Aside0.mk (Below.refl w.heap.size w)
  have H : (if (l0.length : Int) = (l1.length : Int) then (laws_eqOperandS.l0 k l0 l1 0) else (some false)) = some r := h
  clear h
  by_cases c3 : (l0.length : Int) = (l1.length : Int)
  · rw [if_pos c3] at H
    have c3b0 : ((l0.length : Int) == (l1.length : Int)) = true := beq_iff_eq.mpr c3
    have c3b1 : ((l0.length : Int) != (l1.length : Int)) = false := bne_eq_false_iff_eq.mpr c3
    have c3b2 : (l0.length == l1.length) = true := by first | simpa using c3 | (simp at c3 ⊢; omega)
    clear c3
    have H' := Aside0.mk H
    clear H
    go_enter Try.func120, Try.ntmps120
    go_wp2
    go_loopg [5] k (fun kq v5 w' => ∃ (x5_1 : Int), v5 = .int .i64 x5_1 ∧ Aside0 (laws_eqOperandS.l0 kq l0 l1 x5_1 = some r) ∧ Aside0 (kq ≤ k) ∧ Aside0 (Below w.heap.size w w'))
    case atStart => exact ⟨(0), (by first | rfl | (simp; done) | (simp [*]; done)), H', ⟨Nat.le_refl _⟩, ⟨by repeat (first | (with_reducible first | exact HB.out | apply below_alloc | apply pw_below_drewN | apply below_drew1) | exact HB.out)⟩⟩
    case round =>
      clear H'
      try clear c1
      try clear p2
      try clear c3
      try clear c3b0
      try clear c3b1
      try clear c3b2
      obtain ⟨x5_1, rfl, HA, HK1, HB⟩ := hrel
      cases gk with
      | zero => exact absurd HA.out (by simp [laws_eqOperandS.l0])
      | succ k1 =>
        have H := HA.out
        clear HA
        simp only [laws_eqOperandS.l0] at H
        by_cases c4 : x5_1 < (l0.length : Int)
        · rw [if_pos c4] at H
          have c4b0 : decide (x5_1 < (l0.length : Int)) = true := decide_eq_true c4
          clear c4
          by_cases c5 : 0 ≤ x5_1
          · rw [if_pos c5] at H
            have c5b0 : decide (0 ≤ x5_1) = true := decide_eq_true c5
            clear c5
            by_cases c6 : x5_1 < (l1.length : Int)
            · rw [if_pos c6] at H
              have c6b0 : decide (x5_1 < (l1.length : Int)) = true := decide_eq_true c6
              clear c6
              replace H := Option.bind_eq_some_iff.mp H
              obtain ⟨t275, A70, H⟩ := H
              replace H : (if t275 = true then (laws_eqOperandS.l0 k1 l0 l1 (wrap64 (x5_1 + 1))) else (some false)) = some r := H
              have A7 := Aside0.mk A70
              clear A70
              by_cases c8 : t275 = true
              · subst c8
                have H1 : (laws_eqOperandS.l0 k1 l0 l1 (wrap64 (x5_1 + 1))) = some r := by rw [if_pos rfl] at H; exact H
                clear H
                have H := H1
                clear H1
                have H' := Aside0.mk H
                clear H
                try go_wp2
                have n0_ := Aside0.mk (below_drew1 HB.out)
                clear HB
                have HB := n0_
                clear n0_
                have p273 : 0 ≤ (x5_1 : Int) := of_decide_eq_true (by first | (with_reducible assumption) | assumption)
                have q273 : x5_1 < (l0.length : Int) := of_decide_eq_true (by first | (with_reducible assumption) | assumption)
                obtain ⟨ad273, e273, hx273_0, hx273_1, hx273_2, hx273_3⟩ := at_T75 HR0.out x5_1 p273 q273
                have hw273_3 := hx273_3
                have hw273_2 := hx273_2
                have hw273_1 := hx273_1
                have hw273_0 := hx273_0
                cases e273
                replace hx273_0 := (HB.out.cell (World.block_lt_of_cell? w _ hx273_0)).trans hx273_0
                replace hx273_1 := (HB.out.cell (World.block_lt_of_cell? w _ hx273_1)).trans hx273_1
                replace hx273_2 := (HB.out.cell (World.block_lt_of_cell? w _ hx273_2)).trans hx273_2
                replace hx273_3 := (HB.out.cell (World.block_lt_of_cell? w _ hx273_3)).trans hx273_3
                replace p273 := eq_true p273
                replace q273 := eq_true q273
                have p274 : 0 ≤ (x5_1 : Int) := of_decide_eq_true (by first | (with_reducible assumption) | assumption)
                have q274 : x5_1 < (l1.length : Int) := of_decide_eq_true (by first | (with_reducible assumption) | assumption)
                obtain ⟨ad274, e274, hx274_0, hx274_1, hx274_2, hx274_3⟩ := at_T75 HR1.out x5_1 p274 q274
                have hw274_3 := hx274_3
                have hw274_2 := hx274_2
                have hw274_1 := hx274_1
                have hw274_0 := hx274_0
                cases e274
                replace hx274_0 := (HB.out.cell (World.block_lt_of_cell? w _ hx274_0)).trans hx274_0
                replace hx274_1 := (HB.out.cell (World.block_lt_of_cell? w _ hx274_1)).trans hx274_1
                replace hx274_2 := (HB.out.cell (World.block_lt_of_cell? w _ hx274_2)).trans hx274_2
                replace hx274_3 := (HB.out.cell (World.block_lt_of_cell? w _ hx274_3)).trans hx274_3
                replace p274 := eq_true p274
                replace q274 := eq_true q274
                refine start_ (n := 10) (S := fun w' => w'.cell? (ad273.add ((x5_1).toNat * 4)) = some (.int .i64 ((rd_T75 l0 x5_1).f0)) ∧ w'.cell? ⟨(ad273.add ((x5_1).toNat * 4)).block, (ad273.add ((x5_1).toNat * 4)).off + 1, none⟩ = some (.int .i64 ((rd_T75 l0 x5_1).f1)) ∧ w'.cell? ⟨(ad273.add ((x5_1).toNat * 4)).block, (ad273.add ((x5_1).toNat * 4)).off + 2, none⟩ = some (.int .i64 ((rd_T75 l0 x5_1).f2)) ∧ w'.cell? ⟨(ad273.add ((x5_1).toNat * 4)).block, (ad273.add ((x5_1).toNat * 4)).off + 3, none⟩ = some (.int .u64 ((rd_T75 l0 x5_1).f3)) ∧ w'.cell? (ad274.add ((x5_1).toNat * 4)) = some (.int .i64 ((rd_T75 l1 x5_1).f0)) ∧ w'.cell? ⟨(ad274.add ((x5_1).toNat * 4)).block, (ad274.add ((x5_1).toNat * 4)).off + 1, none⟩ = some (.int .i64 ((rd_T75 l1 x5_1).f1)) ∧ w'.cell? ⟨(ad274.add ((x5_1).toNat * 4)).block, (ad274.add ((x5_1).toNat * 4)).off + 2, none⟩ = some (.int .i64 ((rd_T75 l1 x5_1).f2)) ∧ w'.cell? ⟨(ad274.add ((x5_1).toNat * 4)).block, (ad274.add ((x5_1).toNat * 4)).off + 3, none⟩ = some (.int .u64 ((rd_T75 l1 x5_1).f3))) (ds := []) #[false, false, false, false, false, false, false, false, false, false] (by kernel_rfl) rfl rfl ⟨((HB.out.cell (World.block_lt_of_cell? w _ hw273_0)).trans hw273_0), ((HB.out.cell (World.block_lt_of_cell? w _ hw273_1)).trans hw273_1), ((HB.out.cell (World.block_lt_of_cell? w _ hw273_2)).trans hw273_2), ((HB.out.cell (World.block_lt_of_cell? w _ hw273_3)).trans hw273_3), ((HB.out.cell (World.block_lt_of_cell? w _ hw274_0)).trans hw274_0), ((HB.out.cell (World.block_lt_of_cell? w _ hw274_1)).trans hw274_1), ((HB.out.cell (World.block_lt_of_cell? w _ hw274_2)).trans hw274_2), ((HB.out.cell (World.block_lt_of_cell? w _ hw274_3)).trans hw274_3)⟩ (fun hHeld => ?_); refine with_tabW laws_eqOperandS.tab6 laws_eqOperandS.bits6 (fun HT_ HW_ => ?_)
                generalize wr.drew = w9 at HB hx273_0 hx273_1 hx273_2 hx273_3 hx274_0 hx274_1 hx274_2 hx274_3 hHeld ⊢
                refine pure_ (i := 0) (N := some 17) (v := ?_) (a' := ?_) #[true, false, false, false, false, false, false, false, false, false] rfl rfl (any_of HT_.out (by kernel_rfl)) (fun _ _ _ h => h) (Or.inl ⟨by rfl, ?_⟩) ?_ ?_
                rotate_left
                · intro w'
                  go_simp
                  with_reducible rfl
                rotate_left
                · simp only [Act.put, List.setIfInBounds_toArray, List.set_cons_zero, List.set_cons_succ, i64_w, i32_w]
                  rfl
                refine pure_ (i := 1) (N := some 18) (v := ?_) (a' := ?_) #[true, true, false, false, false, false, false, false, false, false] rfl rfl (any_of HT_.out (by kernel_rfl)) (fun _ _ _ h => h) (Or.inl ⟨by rfl, ?_⟩) ?_ ?_
                rotate_left
                · intro w'
                  go_simp
                  with_reducible rfl
                rotate_left
                · simp only [Act.put, List.setIfInBounds_toArray, List.set_cons_zero, List.set_cons_succ, i64_w, i32_w]
                  rfl
                refine pure_ (i := 2) (N := some 19) (v := ?_) (a' := ?_) #[true, true, true, false, false, false, false, false, false, false] rfl rfl (any_of HT_.out (by kernel_rfl)) (fun _ _ _ h => h) (Or.inl ⟨by rfl, ?_⟩) ?_ ?_
                rotate_left
                · intro w'
                  go_simp
                  with_reducible rfl
                rotate_left
                · simp only [Act.put, List.setIfInBounds_toArray, List.set_cons_zero, List.set_cons_succ, i64_w, i32_w]
                  rfl
                refine pure_ (i := 4) (N := some 21) (v := ?_) (a' := ?_) #[true, true, true, false, true, false, false, false, false, false] rfl rfl (any_of HT_.out (by kernel_rfl)) (fun _ _ _ h => h) (Or.inl ⟨by rfl, ?_⟩) ?_ ?_
                rotate_left
                · intro w'
                  go_simp
                  with_reducible rfl
                rotate_left
                · simp only [Act.put, List.setIfInBounds_toArray, List.set_cons_zero, List.set_cons_succ, i64_w, i32_w]
                  rfl
                refine pure_ (i := 5) (N := some 22) (v := ?_) (a' := ?_) #[true, true, true, false, true, true, false, false, false, false] rfl rfl (any_of HT_.out (by kernel_rfl)) (fun _ _ _ h => h) (Or.inl ⟨by rfl, ?_⟩) ?_ ?_
                rotate_left
                · intro w'
                  go_simp
                  with_reducible rfl
                rotate_left
                · simp only [Act.put, List.setIfInBounds_toArray, List.set_cons_zero, List.set_cons_succ, i64_w, i32_w]
                  rfl
                refine pure_ (i := 6) (N := some 23) (v := ?_) (a' := ?_) #[true, true, true, false, true, true, true, false, false, false] rfl rfl (any_of HT_.out (by kernel_rfl)) (fun _ _ _ h => h) (Or.inl ⟨by rfl, ?_⟩) ?_ ?_
                rotate_left
                · intro w'
                  go_simp
                  with_reducible rfl
                rotate_left
                · simp only [Act.put, List.setIfInBounds_toArray, List.set_cons_zero, List.set_cons_succ, i64_w, i32_w]
                  rfl
                refine take_ (i := 3) (N := some 20) (v := ?_) (a' := ?_) #[true, true, true, true, true, true, true, false, false, false] rfl rfl (take_ofW HT_.out HW_.out (by kernel_rfl)) (fun _ _ _ h => h) (Or.inl ⟨by rfl, ?_⟩) hHeld ?_ ?_
                rotate_left
                · rintro w' ⟨s0, s1, s2, s3, s4, s5, s6, s7⟩
                  go_simp
                  with_reducible rfl
                rotate_left
                · simp only [Act.put, List.setIfInBounds_toArray, List.set_cons_zero, List.set_cons_succ, i64_w, i32_w]
                  rfl
                refine take_ (i := 7) (N := some 24) (v := ?_) (a' := ?_) #[true, true, true, true, true, true, true, true, false, false] rfl rfl (take_ofW HT_.out HW_.out (by kernel_rfl)) (fun _ _ _ h => h) (Or.inl ⟨by rfl, ?_⟩) hHeld ?_ ?_
                rotate_left
                · rintro w' ⟨s0, s1, s2, s3, s4, s5, s6, s7⟩
                  go_simp
                  with_reducible rfl
                rotate_left
                · simp only [Act.put, List.setIfInBounds_toArray, List.set_cons_zero, List.set_cons_succ, i64_w, i32_w]
                  rfl
                refine one_ (i := 8) (N := some 25) #[true, true, true, true, true, true, true, true, true, false] rfl rfl (one_of HT_.out (by kernel_rfl)) (by decide) (fun K hK => ?_)
                refine goes_ Try.func124 (by kernel_rfl) rfl #[.agg #[.int .i64 ((rd_T75 l0 x5_1).f0), .int .i64 ((rd_T75 l0 x5_1).f1), .int .i64 ((rd_T75 l0 x5_1).f2), .int .u64 ((rd_T75 l0 x5_1).f3)], .agg #[.int .i64 ((rd_T75 l1 x5_1).f0), .int .i64 ((rd_T75 l1 x5_1).f1), .int .i64 ((rd_T75 l1 x5_1).f2), .int .u64 ((rd_T75 l1 x5_1).f3)]] (by rfl) rfl rfl (by (try simp only [List.map_toArray, List.map_cons, List.map_nil]); first | done | rfl | (simp only [List.length_drop, List.length_take]; rfl)) ?_
                with_reducible refine (laws_eqOperand.calls ((rd_T75 l0 x5_1).f0) ((rd_T75 l0 x5_1).f1) ((rd_T75 l0 x5_1).f2) ((rd_T75 l0 x5_1).f3) ((rd_T75 l1 x5_1).f0) ((rd_T75 l1 x5_1).f1) ((rd_T75 l1 x5_1).f2) ((rd_T75 l1 x5_1).f3) true _ A7.out).mono ?_
                rintro e w10 ⟨rfl, hb⟩
                refine ⟨_, rfl, ?_⟩
                have n0_ := Aside0.mk (below_step (by repeat (first | (with_reducible first | exact HB.out | apply below_alloc | apply pw_below_drewN | apply below_drew1) | exact HB.out)) hb)
                clear HB
                have HB := n0_
                clear n0_
                (try clear hb)
                (try clear hb2)
                (try clear hk)
                (try clear hi)
                refine hK.out _ _ ⟨((HB.out.cell (World.block_lt_of_cell? w _ hw273_0)).trans hw273_0), ((HB.out.cell (World.block_lt_of_cell? w _ hw273_1)).trans hw273_1), ((HB.out.cell (World.block_lt_of_cell? w _ hw273_2)).trans hw273_2), ((HB.out.cell (World.block_lt_of_cell? w _ hw273_3)).trans hw273_3), ((HB.out.cell (World.block_lt_of_cell? w _ hw274_0)).trans hw274_0), ((HB.out.cell (World.block_lt_of_cell? w _ hw274_1)).trans hw274_1), ((HB.out.cell (World.block_lt_of_cell? w _ hw274_2)).trans hw274_2), ((HB.out.cell (World.block_lt_of_cell? w _ hw274_3)).trans hw274_3)⟩ (fun hHeld => ?_)
                clear hK K
                refine norm_ (a' := ?_) ?_ ?_
                rotate_left
                · show Act.put _ (some 25) _ = _
                  simp only [Act.put, List.setIfInBounds_toArray, List.set_cons_zero, List.set_cons_succ, i64_w, i32_w]
                  rfl
                refine pure_ (i := 9) (N := some 26) (v := ?_) (a' := ?_) #[true, true, true, true, true, true, true, true, true, true] rfl rfl (any_of HT_.out (by kernel_rfl)) (fun _ _ _ h => h) (Or.inl ⟨by rfl, ?_⟩) ?_ ?_
                rotate_left
                · intro w'
                  go_simp
                  with_reducible rfl
                rotate_left
                · simp only [Act.put, List.setIfInBounds_toArray, List.set_cons_zero, List.set_cons_succ, i64_w, i32_w]
                  rfl
                refine done_ (done_of HT_.out (by kernel_rfl)) ?_
                try go_wp2
                go_roundg k1
                case measure => have := HK1.out; omega
                case rel => exact ⟨(wrap64 (x5_1 + 1)), (by first | rfl | (simp; done) | (simp [*]; done)), H', ⟨by have := HK1.out; omega⟩, ⟨by repeat (first | (with_reducible first | exact HB.out | apply below_alloc | apply pw_below_drewN | apply below_drew1) | exact HB.out)⟩⟩
              · replace c8 := Bool.eq_false_iff.mpr c8
                subst c8
                have H1 : (some false) = some r := by rw [if_neg (show ¬ (false = true) by decide)] at H; exact H
                clear H
                have H := H1
                clear H1
                obtain rfl := Option.some.inj H
                try go_wp2
                have n0_ := Aside0.mk (below_drew1 HB.out)
                clear HB
                have HB := n0_
                clear n0_
                have p273 : 0 ≤ (x5_1 : Int) := of_decide_eq_true (by first | (with_reducible assumption) | assumption)
                have q273 : x5_1 < (l0.length : Int) := of_decide_eq_true (by first | (with_reducible assumption) | assumption)
                obtain ⟨ad273, e273, hx273_0, hx273_1, hx273_2, hx273_3⟩ := at_T75 HR0.out x5_1 p273 q273
                have hw273_3 := hx273_3
                have hw273_2 := hx273_2
                have hw273_1 := hx273_1
                have hw273_0 := hx273_0
                cases e273
                replace hx273_0 := (HB.out.cell (World.block_lt_of_cell? w _ hx273_0)).trans hx273_0
                replace hx273_1 := (HB.out.cell (World.block_lt_of_cell? w _ hx273_1)).trans hx273_1
                replace hx273_2 := (HB.out.cell (World.block_lt_of_cell? w _ hx273_2)).trans hx273_2
                replace hx273_3 := (HB.out.cell (World.block_lt_of_cell? w _ hx273_3)).trans hx273_3
                replace p273 := eq_true p273
                replace q273 := eq_true q273
                have p274 : 0 ≤ (x5_1 : Int) := of_decide_eq_true (by first | (with_reducible assumption) | assumption)
                have q274 : x5_1 < (l1.length : Int) := of_decide_eq_true (by first | (with_reducible assumption) | assumption)
                obtain ⟨ad274, e274, hx274_0, hx274_1, hx274_2, hx274_3⟩ := at_T75 HR1.out x5_1 p274 q274
                have hw274_3 := hx274_3
                have hw274_2 := hx274_2
                have hw274_1 := hx274_1
                have hw274_0 := hx274_0
                cases e274
                replace hx274_0 := (HB.out.cell (World.block_lt_of_cell? w _ hx274_0)).trans hx274_0
                replace hx274_1 := (HB.out.cell (World.block_lt_of_cell? w _ hx274_1)).trans hx274_1
                replace hx274_2 := (HB.out.cell (World.block_lt_of_cell? w _ hx274_2)).trans hx274_2
                replace hx274_3 := (HB.out.cell (World.block_lt_of_cell? w _ hx274_3)).trans hx274_3
                replace p274 := eq_true p274
                replace q274 := eq_true q274
                refine start_ (n := 10) (S := fun w' => w'.cell? (ad273.add ((x5_1).toNat * 4)) = some (.int .i64 ((rd_T75 l0 x5_1).f0)) ∧ w'.cell? ⟨(ad273.add ((x5_1).toNat * 4)).block, (ad273.add ((x5_1).toNat * 4)).off + 1, none⟩ = some (.int .i64 ((rd_T75 l0 x5_1).f1)) ∧ w'.cell? ⟨(ad273.add ((x5_1).toNat * 4)).block, (ad273.add ((x5_1).toNat * 4)).off + 2, none⟩ = some (.int .i64 ((rd_T75 l0 x5_1).f2)) ∧ w'.cell? ⟨(ad273.add ((x5_1).toNat * 4)).block, (ad273.add ((x5_1).toNat * 4)).off + 3, none⟩ = some (.int .u64 ((rd_T75 l0 x5_1).f3)) ∧ w'.cell? (ad274.add ((x5_1).toNat * 4)) = some (.int .i64 ((rd_T75 l1 x5_1).f0)) ∧ w'.cell? ⟨(ad274.add ((x5_1).toNat * 4)).block, (ad274.add ((x5_1).toNat * 4)).off + 1, none⟩ = some (.int .i64 ((rd_T75 l1 x5_1).f1)) ∧ w'.cell? ⟨(ad274.add ((x5_1).toNat * 4)).block, (ad274.add ((x5_1).toNat * 4)).off + 2, none⟩ = some (.int .i64 ((rd_T75 l1 x5_1).f2)) ∧ w'.cell? ⟨(ad274.add ((x5_1).toNat * 4)).block, (ad274.add ((x5_1).toNat * 4)).off + 3, none⟩ = some (.int .u64 ((rd_T75 l1 x5_1).f3))) (ds := []) #[false, false, false, false, false, false, false, false, false, false] (by kernel_rfl) rfl rfl ⟨((HB.out.cell (World.block_lt_of_cell? w _ hw273_0)).trans hw273_0), ((HB.out.cell (World.block_lt_of_cell? w _ hw273_1)).trans hw273_1), ((HB.out.cell (World.block_lt_of_cell? w _ hw273_2)).trans hw273_2), ((HB.out.cell (World.block_lt_of_cell? w _ hw273_3)).trans hw273_3), ((HB.out.cell (World.block_lt_of_cell? w _ hw274_0)).trans hw274_0), ((HB.out.cell (World.block_lt_of_cell? w _ hw274_1)).trans hw274_1), ((HB.out.cell (World.block_lt_of_cell? w _ hw274_2)).trans hw274_2), ((HB.out.cell (World.block_lt_of_cell? w _ hw274_3)).trans hw274_3)⟩ (fun hHeld => ?_); refine with_tabW laws_eqOperandS.tab6 laws_eqOperandS.bits6 (fun HT_ HW_ => ?_)
                generalize wr.drew = w11 at HB hx273_0 hx273_1 hx273_2 hx273_3 hx274_0 hx274_1 hx274_2 hx274_3 hHeld ⊢
                refine pure_ (i := 0) (N := some 17) (v := ?_) (a' := ?_) #[true, false, false, false, false, false, false, false, false, false] rfl rfl (any_of HT_.out (by kernel_rfl)) (fun _ _ _ h => h) (Or.inl ⟨by rfl, ?_⟩) ?_ ?_
                rotate_left
                · intro w'
                  go_simp
                  with_reducible rfl
                rotate_left
                · simp only [Act.put, List.setIfInBounds_toArray, List.set_cons_zero, List.set_cons_succ, i64_w, i32_w]
                  rfl
                refine pure_ (i := 1) (N := some 18) (v := ?_) (a' := ?_) #[true, true, false, false, false, false, false, false, false, false] rfl rfl (any_of HT_.out (by kernel_rfl)) (fun _ _ _ h => h) (Or.inl ⟨by rfl, ?_⟩) ?_ ?_
                rotate_left
                · intro w'
                  go_simp
                  with_reducible rfl
                rotate_left
                · simp only [Act.put, List.setIfInBounds_toArray, List.set_cons_zero, List.set_cons_succ, i64_w, i32_w]
                  rfl
                refine pure_ (i := 2) (N := some 19) (v := ?_) (a' := ?_) #[true, true, true, false, false, false, false, false, false, false] rfl rfl (any_of HT_.out (by kernel_rfl)) (fun _ _ _ h => h) (Or.inl ⟨by rfl, ?_⟩) ?_ ?_
                rotate_left
                · intro w'
                  go_simp
                  with_reducible rfl
                rotate_left
                · simp only [Act.put, List.setIfInBounds_toArray, List.set_cons_zero, List.set_cons_succ, i64_w, i32_w]
                  rfl
                refine pure_ (i := 4) (N := some 21) (v := ?_) (a' := ?_) #[true, true, true, false, true, false, false, false, false, false] rfl rfl (any_of HT_.out (by kernel_rfl)) (fun _ _ _ h => h) (Or.inl ⟨by rfl, ?_⟩) ?_ ?_
                rotate_left
                · intro w'
                  go_simp
                  with_reducible rfl
                rotate_left
                · simp only [Act.put, List.setIfInBounds_toArray, List.set_cons_zero, List.set_cons_succ, i64_w, i32_w]
                  rfl
                refine pure_ (i := 5) (N := some 22) (v := ?_) (a' := ?_) #[true, true, true, false, true, true, false, false, false, false] rfl rfl (any_of HT_.out (by kernel_rfl)) (fun _ _ _ h => h) (Or.inl ⟨by rfl, ?_⟩) ?_ ?_
                rotate_left
                · intro w'
                  go_simp
                  with_reducible rfl
                rotate_left
                · simp only [Act.put, List.setIfInBounds_toArray, List.set_cons_zero, List.set_cons_succ, i64_w, i32_w]
                  rfl
                refine pure_ (i := 6) (N := some 23) (v := ?_) (a' := ?_) #[true, true, true, false, true, true, true, false, false, false] rfl rfl (any_of HT_.out (by kernel_rfl)) (fun _ _ _ h => h) (Or.inl ⟨by rfl, ?_⟩) ?_ ?_
                rotate_left
                · intro w'
                  go_simp
                  with_reducible rfl
                rotate_left
                · simp only [Act.put, List.setIfInBounds_toArray, List.set_cons_zero, List.set_cons_succ, i64_w, i32_w]
                  rfl
                refine take_ (i := 3) (N := some 20) (v := ?_) (a' := ?_) #[true, true, true, true, true, true, true, false, false, false] rfl rfl (take_ofW HT_.out HW_.out (by kernel_rfl)) (fun _ _ _ h => h) (Or.inl ⟨by rfl, ?_⟩) hHeld ?_ ?_
                rotate_left
                · rintro w' ⟨s0, s1, s2, s3, s4, s5, s6, s7⟩
                  go_simp
                  with_reducible rfl
                rotate_left
                · simp only [Act.put, List.setIfInBounds_toArray, List.set_cons_zero, List.set_cons_succ, i64_w, i32_w]
                  rfl
                refine take_ (i := 7) (N := some 24) (v := ?_) (a' := ?_) #[true, true, true, true, true, true, true, true, false, false] rfl rfl (take_ofW HT_.out HW_.out (by kernel_rfl)) (fun _ _ _ h => h) (Or.inl ⟨by rfl, ?_⟩) hHeld ?_ ?_
                rotate_left
                · rintro w' ⟨s0, s1, s2, s3, s4, s5, s6, s7⟩
                  go_simp
                  with_reducible rfl
                rotate_left
                · simp only [Act.put, List.setIfInBounds_toArray, List.set_cons_zero, List.set_cons_succ, i64_w, i32_w]
                  rfl
                refine one_ (i := 8) (N := some 25) #[true, true, true, true, true, true, true, true, true, false] rfl rfl (one_of HT_.out (by kernel_rfl)) (by decide) (fun K hK => ?_)
                refine goes_ Try.func124 (by kernel_rfl) rfl #[.agg #[.int .i64 ((rd_T75 l0 x5_1).f0), .int .i64 ((rd_T75 l0 x5_1).f1), .int .i64 ((rd_T75 l0 x5_1).f2), .int .u64 ((rd_T75 l0 x5_1).f3)], .agg #[.int .i64 ((rd_T75 l1 x5_1).f0), .int .i64 ((rd_T75 l1 x5_1).f1), .int .i64 ((rd_T75 l1 x5_1).f2), .int .u64 ((rd_T75 l1 x5_1).f3)]] (by rfl) rfl rfl (by (try simp only [List.map_toArray, List.map_cons, List.map_nil]); first | done | rfl | (simp only [List.length_drop, List.length_take]; rfl)) ?_
                with_reducible refine (laws_eqOperand.calls ((rd_T75 l0 x5_1).f0) ((rd_T75 l0 x5_1).f1) ((rd_T75 l0 x5_1).f2) ((rd_T75 l0 x5_1).f3) ((rd_T75 l1 x5_1).f0) ((rd_T75 l1 x5_1).f1) ((rd_T75 l1 x5_1).f2) ((rd_T75 l1 x5_1).f3) false _ A7.out).mono ?_
                rintro e w12 ⟨rfl, hb⟩
                refine ⟨_, rfl, ?_⟩
                have n0_ := Aside0.mk (below_step (by repeat (first | (with_reducible first | exact HB.out | apply below_alloc | apply pw_below_drewN | apply below_drew1) | exact HB.out)) hb)
                clear HB
                have HB := n0_
                clear n0_
                (try clear hb)
                (try clear hb2)
                (try clear hk)
                (try clear hi)
                refine hK.out _ _ ⟨((HB.out.cell (World.block_lt_of_cell? w _ hw273_0)).trans hw273_0), ((HB.out.cell (World.block_lt_of_cell? w _ hw273_1)).trans hw273_1), ((HB.out.cell (World.block_lt_of_cell? w _ hw273_2)).trans hw273_2), ((HB.out.cell (World.block_lt_of_cell? w _ hw273_3)).trans hw273_3), ((HB.out.cell (World.block_lt_of_cell? w _ hw274_0)).trans hw274_0), ((HB.out.cell (World.block_lt_of_cell? w _ hw274_1)).trans hw274_1), ((HB.out.cell (World.block_lt_of_cell? w _ hw274_2)).trans hw274_2), ((HB.out.cell (World.block_lt_of_cell? w _ hw274_3)).trans hw274_3)⟩ (fun hHeld => ?_)
                clear hK K
                refine norm_ (a' := ?_) ?_ ?_
                rotate_left
                · show Act.put _ (some 25) _ = _
                  simp only [Act.put, List.setIfInBounds_toArray, List.set_cons_zero, List.set_cons_succ, i64_w, i32_w]
                  rfl
                refine pure_ (i := 9) (N := some 26) (v := ?_) (a' := ?_) #[true, true, true, true, true, true, true, true, true, true] rfl rfl (any_of HT_.out (by kernel_rfl)) (fun _ _ _ h => h) (Or.inl ⟨by rfl, ?_⟩) ?_ ?_
                rotate_left
                · intro w'
                  go_simp
                  with_reducible rfl
                rotate_left
                · simp only [Act.put, List.setIfInBounds_toArray, List.set_cons_zero, List.set_cons_succ, i64_w, i32_w]
                  rfl
                refine done_ (done_of HT_.out (by kernel_rfl)) ?_
                try go_wp2
                go_ret
                exact ⟨by first | rfl | (simp [errW_none, errW_some] <;> rfl) | (simp [*, errW_none, errW_some] <;> rfl), by repeat (first | (with_reducible first | exact HB.out | apply below_alloc | apply pw_below_drewN | apply below_drew1) | exact HB.out)⟩
            · rw [if_neg c6] at H
              exact absurd H (by simp)
          · rw [if_neg c5] at H
            exact absurd H (by simp)
        · rw [if_neg c4] at H
          have c4b0 : decide (x5_1 < (l0.length : Int)) = false := decide_eq_false c4
          clear c4
          obtain rfl := Option.some.inj H
          go_wp2
          go_ret
          exact ⟨by first | rfl | (simp [errW_none, errW_some] <;> rfl) | (simp [*, errW_none, errW_some] <;> rfl), by repeat (first | (with_reducible first | exact HB.out | apply below_alloc | apply pw_below_drewN | apply below_drew1) | exact HB.out)⟩
  · rw [if_neg c3] at H
    have c3b0 : ((l0.length : Int) == (l1.length : Int)) = false := beq_eq_false_iff_ne.mpr c3
    have c3b1 : ((l0.length : Int) != (l1.length : Int)) = true := bne_iff_ne.mpr c3
    have c3b2 : (l0.length == l1.length) = false := by first | simpa using c3 | (simp at c3 ⊢; omega)
    obtain rfl := Option.some.inj H
    go_enter Try.func120, Try.ntmps120
    go_wp2
    go_ret
    exact ⟨by first | rfl | (simp [errW_none, errW_some] <;> rfl) | (simp [*, errW_none, errW_some] <;> rfl), by repeat (first | (with_reducible first | exact HB.out | apply below_alloc | apply pw_below_drewN | apply below_drew1) | exact HB.out)⟩

end Go.Proofs.Ytoedcnhgobbnfaa.All

namespace Go.Proofs.Ytoedcnhgobbnfaa.All
open Go.RowKit Go.Proofs.YtoedcnhgobbnfaaW.PrintWords Go.Proofs.YtoedcnhgobbnfaaW.PrintLast Go.Proofs.YtoedcnhgobbnfaaW.PrintMore
attribute [local go_sem] max2_int min2_int max_two min_two max_three min_three max_four min_four   -- for this text's walks alone
set_option linter.unusedVariables false
set_option linter.unusedSimpArgs false

/-! ### laws_eqUint64S: function 121 -/
def laws_eqUint64S.l0 : Nat → List Int → List Int → Int → Option (Bool)
  | 0, _, _, _ => none
  | k + 1, x0, x1, x5 => if x5 < (x0.length : Int) then (if 0 ≤ x5 then (if x5 < (x1.length : Int) then (if (rd x0 x5) = (rd x1 x5) then (laws_eqUint64S.l0 k x0 x1 (wrap64 (x5 + 1))) else (some false)) else (none)) else (none)) else (some true)
def laws_eqUint64S.f (k : Nat) (l0 : List Int) (l1 : List Int) : Option (Bool) := if (l0.length : Int) = (l1.length : Int) then (laws_eqUint64S.l0 k l0 l1 0) else (some false)
set_option maxHeartbeats 8000000 in
set_option maxRecDepth 100000 in
theorem laws_eqUint64S.calls (k : Nat) (A0 : Option Addr) (c0 : Nat) (l0 : List Int) (A1 : Option Addr) (c1 : Nat) (l1 : List Int) (r : Bool) (w : World) (hr0 : Kd.C (Kd.int .u64) w A0 l0.length l0) (hc0 : l0.length ≤ c0) (hr1 : Kd.C (Kd.int .u64) w A1 l1.length l1) (hc1 : l1.length ≤ c1) (h : laws_eqUint64S.f k l0 l1 = some r) :
    Calls Try.prog 121 #[.slice A0 l0.length c0, .slice A1 l1.length c1] w fun e w' => e = .returned (.bool r) ∧ Drawn0 w w' := by
  have HR0 := Aside0.mk hr0
  have HC0 := Aside0.mk hc0
  clear hr0 hc0
  have HR1 := Aside0.mk hr1
  have HC1 := Aside0.mk hc1
  clear hr1 hc1
  have H : (if (l0.length : Int) = (l1.length : Int) then (laws_eqUint64S.l0 k l0 l1 0) else (some false)) = some r := h
  clear h
  by_cases c3 : (l0.length : Int) = (l1.length : Int)
  · rw [if_pos c3] at H
    have c3b0 : ((l0.length : Int) == (l1.length : Int)) = true := beq_iff_eq.mpr c3
    have c3b1 : ((l0.length : Int) != (l1.length : Int)) = false := bne_eq_false_iff_eq.mpr c3
    have c3b2 : (l0.length == l1.length) = true := by first | simpa using c3 | (simp at c3 ⊢; omega)
    clear c3
    have H' := Aside0.mk H
    clear H
    go_enter Try.func121, Try.ntmps121
    go_wp2
    repeat (go_quiet (fail); try go_wp2)
    go_loopg [5] k (fun kq v5 w' => ∃ (x5_1 : Int), v5 = .int .i64 x5_1 ∧ Aside0 (laws_eqUint64S.l0 kq l0 l1 x5_1 = some r) ∧ Aside0 (kq ≤ k) ∧ Drawn0 w w')
    case atStart => exact ⟨(0), (by first | rfl | (simp; done) | (simp [*]; done)), H', ⟨Nat.le_refl _⟩, by repeat (first | exact Drawn0.refl _ | apply Drawn0.step)⟩
    case round =>
      clear H'
      try clear c1
      try clear p2
      try clear c3
      try clear c3b0
      try clear c3b1
      try clear c3b2
      obtain ⟨x5_1, rfl, HA, HK1, ⟨m1, rfl⟩⟩ := hrel
      cases gk with
      | zero => exact absurd HA.out (by simp [laws_eqUint64S.l0])
      | succ k1 =>
        have H := HA.out
        clear HA
        simp only [laws_eqUint64S.l0] at H
        by_cases c4 : x5_1 < (l0.length : Int)
        · rw [if_pos c4] at H
          have c4b0 : decide (x5_1 < (l0.length : Int)) = true := decide_eq_true c4
          clear c4
          by_cases c5 : 0 ≤ x5_1
          · rw [if_pos c5] at H
            have c5b0 : decide (0 ≤ x5_1) = true := decide_eq_true c5
            clear c5
            by_cases c6 : x5_1 < (l1.length : Int)
            · rw [if_pos c6] at H
              have c6b0 : decide (x5_1 < (l1.length : Int)) = true := decide_eq_true c6
              clear c6
              by_cases c7 : (rd l0 x5_1) = (rd l1 x5_1)
              · rw [if_pos c7] at H
                have c7b0 : ((rd l0 x5_1) == (rd l1 x5_1)) = true := beq_iff_eq.mpr c7
                have c7b1 : ((rd l0 x5_1) != (rd l1 x5_1)) = false := bne_eq_false_iff_eq.mpr c7
                clear c7
                have H' := Aside0.mk H
                clear H
                have p276 : 0 ≤ (x5_1 : Int) := of_decide_eq_true (by first | (with_reducible assumption) | assumption)
                have q276 : x5_1 < (l0.length : Int) := of_decide_eq_true (by first | (with_reducible assumption) | assumption)
                obtain ⟨ad276, e276, hx276_0⟩ := Kd.at_int HR0.out x5_1 p276 q276
                cases e276
                replace p276 := eq_true p276
                replace q276 := eq_true q276
                have p277 : 0 ≤ (x5_1 : Int) := of_decide_eq_true (by first | (with_reducible assumption) | assumption)
                have q277 : x5_1 < (l1.length : Int) := of_decide_eq_true (by first | (with_reducible assumption) | assumption)
                obtain ⟨ad277, e277, hx277_0⟩ := Kd.at_int HR1.out x5_1 p277 q277
                cases e277
                replace p277 := eq_true p277
                replace q277 := eq_true q277
                go_wp2
                repeat (go_quiet (fail); try go_wp2)
                go_roundg k1
                case measure => have := HK1.out; omega
                case rel => exact ⟨(wrap64 (x5_1 + 1)), (by first | rfl | (simp; done) | (simp [*]; done)), H', ⟨by have := HK1.out; omega⟩, by repeat (first | exact Drawn0.refl _ | apply Drawn0.step)⟩
              · rw [if_neg c7] at H
                have c7b0 : ((rd l0 x5_1) == (rd l1 x5_1)) = false := beq_eq_false_iff_ne.mpr c7
                have c7b1 : ((rd l0 x5_1) != (rd l1 x5_1)) = true := bne_iff_ne.mpr c7
                obtain rfl := Option.some.inj H
                have p276 : 0 ≤ (x5_1 : Int) := of_decide_eq_true (by first | (with_reducible assumption) | assumption)
                have q276 : x5_1 < (l0.length : Int) := of_decide_eq_true (by first | (with_reducible assumption) | assumption)
                obtain ⟨ad276, e276, hx276_0⟩ := Kd.at_int HR0.out x5_1 p276 q276
                cases e276
                replace p276 := eq_true p276
                replace q276 := eq_true q276
                have p277 : 0 ≤ (x5_1 : Int) := of_decide_eq_true (by first | (with_reducible assumption) | assumption)
                have q277 : x5_1 < (l1.length : Int) := of_decide_eq_true (by first | (with_reducible assumption) | assumption)
                obtain ⟨ad277, e277, hx277_0⟩ := Kd.at_int HR1.out x5_1 p277 q277
                cases e277
                replace p277 := eq_true p277
                replace q277 := eq_true q277
                go_wp2
                repeat (go_quiet (fail); try go_wp2)
                go_ret
                exact ⟨by first | rfl | (simp; done) | (simp [*]; done), by repeat (first | exact Drawn0.refl _ | apply Drawn0.step)⟩
            · rw [if_neg c6] at H
              exact absurd H (by simp)
          · rw [if_neg c5] at H
            exact absurd H (by simp)
        · rw [if_neg c4] at H
          have c4b0 : decide (x5_1 < (l0.length : Int)) = false := decide_eq_false c4
          clear c4
          obtain rfl := Option.some.inj H
          go_wp2
          repeat (go_quiet (fail); try go_wp2)
          go_ret
          exact ⟨by first | rfl | (simp; done) | (simp [*]; done), by repeat (first | exact Drawn0.refl _ | apply Drawn0.step)⟩
  · rw [if_neg c3] at H
    have c3b0 : ((l0.length : Int) == (l1.length : Int)) = false := beq_eq_false_iff_ne.mpr c3
    have c3b1 : ((l0.length : Int) != (l1.length : Int)) = true := bne_iff_ne.mpr c3
    have c3b2 : (l0.length == l1.length) = false := by first | simpa using c3 | (simp at c3 ⊢; omega)
    obtain rfl := Option.some.inj H
    go_enter Try.func121, Try.ntmps121
    go_wp2
    repeat (go_quiet (fail); try go_wp2)
    go_ret
    exact ⟨by first | rfl | (simp; done) | (simp [*]; done), by repeat (first | exact Drawn0.refl _ | apply Drawn0.step)⟩

end Go.Proofs.Ytoedcnhgobbnfaa.All

namespace Go.Proofs.Ytoedcnhgobbnfaa.All
open Go.RowKit Go.Proofs.YtoedcnhgobbnfaaW.PrintWords Go.Proofs.YtoedcnhgobbnfaaW.PrintLast Go.Proofs.YtoedcnhgobbnfaaW.PrintMore
attribute [local go_sem] max2_int min2_int max_two min_two max_three min_three max_four min_four   -- for this text's walks alone
set_option linter.unusedVariables false
set_option linter.unusedSimpArgs false

/-! ### laws_eqInstr: function 109 -/
def laws_eqInstr.f (k : Nat) (a0_0 : Int) (a0_1 : Int) (a0_2 : Int) (a0_3 : Int) (a0_4 : Int) (a0_5 : Int) (l0_6 : List (S75)) (l0_7 : List Int) (l0_8 : List Int) (a1_0 : Int) (a1_1 : Int) (a1_2 : Int) (a1_3 : Int) (a1_4 : Int) (a1_5 : Int) (l1_6 : List (S75)) (l1_7 : List Int) (l1_8 : List Int) : Option Bool := if a0_0 = a1_0 then (if a0_1 = a1_1 then (if a0_2 = a1_2 then (if a0_3 = a1_3 then (if a0_4 = a1_4 then (if a0_5 = a1_5 then (((laws_eqOperandS.f k l0_6 l1_6).bind fun t6 => (if t6 = true then (((laws_eqInt64S.f k l0_7 l1_7).bind fun t7 => (if t7 = true then (((laws_eqUint64S.f k l0_8 l1_8).bind fun t8 => (if t8 = true then (some true) else none))) else none))) else none))) else none) else none) else none) else none) else none) else none
set_option maxHeartbeats 4000000 in
set_option maxRecDepth 100000 in
theorem laws_eqInstr.calls (k : Nat) (a0_0 : Int) (a0_1 : Int) (a0_2 : Int) (a0_3 : Int) (a0_4 : Int) (a0_5 : Int) (A0_6 : Option Addr) (c0_6 : Nat) (l0_6 : List (S75)) (A0_7 : Option Addr) (c0_7 : Nat) (l0_7 : List Int) (A0_8 : Option Addr) (c0_8 : Nat) (l0_8 : List Int) (a1_0 : Int) (a1_1 : Int) (a1_2 : Int) (a1_3 : Int) (a1_4 : Int) (a1_5 : Int) (A1_6 : Option Addr) (c1_6 : Nat) (l1_6 : List (S75)) (A1_7 : Option Addr) (c1_7 : Nat) (l1_7 : List Int) (A1_8 : Option Addr) (c1_8 : Nat) (l1_8 : List Int) (r : Bool) (w : World) (hr0_6 : Kd.C k75 w A0_6 l0_6.length l0_6) (hc0_6 : l0_6.length ≤ c0_6) (hr0_7 : Kd.C (Kd.int .i64) w A0_7 l0_7.length l0_7) (hc0_7 : l0_7.length ≤ c0_7) (hr0_8 : Kd.C (Kd.int .u64) w A0_8 l0_8.length l0_8) (hc0_8 : l0_8.length ≤ c0_8) (hr1_6 : Kd.C k75 w A1_6 l1_6.length l1_6) (hc1_6 : l1_6.length ≤ c1_6) (hr1_7 : Kd.C (Kd.int .i64) w A1_7 l1_7.length l1_7) (hc1_7 : l1_7.length ≤ c1_7) (hr1_8 : Kd.C (Kd.int .u64) w A1_8 l1_8.length l1_8) (hc1_8 : l1_8.length ≤ c1_8) (h : laws_eqInstr.f k a0_0 a0_1 a0_2 a0_3 a0_4 a0_5 l0_6 l0_7 l0_8 a1_0 a1_1 a1_2 a1_3 a1_4 a1_5 l1_6 l1_7 l1_8 = some r) :
    Calls Try.prog 109 #[.agg #[.int .i64 a0_0, .int .i64 a0_1, .int .i64 a0_2, .int .i64 a0_3, .int .i64 a0_4, .int .i64 a0_5, .slice A0_6 l0_6.length c0_6, .slice A0_7 l0_7.length c0_7, .slice A0_8 l0_8.length c0_8], .agg #[.int .i64 a1_0, .int .i64 a1_1, .int .i64 a1_2, .int .i64 a1_3, .int .i64 a1_4, .int .i64 a1_5, .slice A1_6 l1_6.length c1_6, .slice A1_7 l1_7.length c1_7, .slice A1_8 l1_8.length c1_8]] w fun e w' => e = .returned (.bool r) ∧ Below w.heap.size w w' := by
  unfold laws_eqInstr.f at h
  by_cases e0 : a0_0 = a1_0
  rotate_left
  · rw [if_neg e0] at h; cases h
  rw [if_pos e0] at h
  subst e0
  by_cases e1 : a0_1 = a1_1
  rotate_left
  · rw [if_neg e1] at h; cases h
  rw [if_pos e1] at h
  subst e1
  by_cases e2 : a0_2 = a1_2
  rotate_left
  · rw [if_neg e2] at h; cases h
  rw [if_pos e2] at h
  subst e2
  by_cases e3 : a0_3 = a1_3
  rotate_left
  · rw [if_neg e3] at h; cases h
  rw [if_pos e3] at h
  subst e3
  by_cases e4 : a0_4 = a1_4
  rotate_left
  · rw [if_neg e4] at h; cases h
  rw [if_pos e4] at h
  subst e4
  by_cases e5 : a0_5 = a1_5
  rotate_left
  · rw [if_neg e5] at h; cases h
  rw [if_pos e5] at h
  subst e5
  obtain ⟨t6, b6, h6⟩ := Option.bind_eq_some_iff.mp h
  clear h
  by_cases e6 : t6 = true
  rotate_left
  · rw [if_neg e6] at h6; cases h6
  rw [if_pos e6] at h6
  subst e6
  have B6 := Aside0.mk b6
  clear b6
  obtain ⟨t7, b7, h7⟩ := Option.bind_eq_some_iff.mp h6
  clear h6
  by_cases e7 : t7 = true
  rotate_left
  · rw [if_neg e7] at h7; cases h7
  rw [if_pos e7] at h7
  subst e7
  have B7 := Aside0.mk b7
  clear b7
  obtain ⟨t8, b8, h8⟩ := Option.bind_eq_some_iff.mp h7
  clear h7
  by_cases e8 : t8 = true
  rotate_left
  · rw [if_neg e8] at h8; cases h8
  rw [if_pos e8] at h8
  subst e8
  have B8 := Aside0.mk b8
  clear b8
  obtain rfl := Option.some.inj h8
  clear h8
  have R0_6 := Aside0.mk hr0_6; have C0_6 := Aside0.mk hc0_6; clear hr0_6 hc0_6
  have R0_7 := Aside0.mk hr0_7; have C0_7 := Aside0.mk hc0_7; clear hr0_7 hc0_7
  have R0_8 := Aside0.mk hr0_8; have C0_8 := Aside0.mk hc0_8; clear hr0_8 hc0_8
  have R1_6 := Aside0.mk hr1_6; have C1_6 := Aside0.mk hc1_6; clear hr1_6 hc1_6
  have R1_7 := Aside0.mk hr1_7; have C1_7 := Aside0.mk hc1_7; clear hr1_7 hc1_7
  have R1_8 := Aside0.mk hr1_8; have C1_8 := Aside0.mk hc1_8; clear hr1_8 hc1_8
  have hu := Try.underlying66
  go_enter Try.func109, Try.ntmps109
  go_wp2_with (first | (go_at_call 120; refine calls_at (fun W => Below w.heap.size w W ∧ W.heap[w.heap.size]? = some (.cells #[.int .i64 a0_0, .int .i64 a0_1, .int .i64 a0_2, .int .i64 a0_3, .int .i64 a0_4, .int .i64 a0_5, .slice A0_6 l0_6.length c0_6, .slice A0_7 l0_7.length c0_7, .slice A0_8 l0_8.length c0_8] 66 (0, 0)) ∧ W.heap[w.heap.size + 1]? = some (.cells #[.int .i64 a0_0, .int .i64 a0_1, .int .i64 a0_2, .int .i64 a0_3, .int .i64 a0_4, .int .i64 a0_5, .slice A1_6 l1_6.length c1_6, .slice A1_7 l1_7.length c1_7, .slice A1_8 l1_8.length c1_8] 66 (0, 0))) ?h_6 ?_; (case h_6 => exact ⟨below_alloc (below_alloc (Below.refl _ _) _) _, alloc2_0 _ _ _, alloc2_1 _ _ _⟩); rintro W6 ⟨b6, p6, q6⟩; refine (laws_eqOperandS.calls k A0_6 c0_6 l0_6 A1_6 c1_6 l1_6 true W6 (Kd.C_below R0_6.out b6) C0_6.out (Kd.C_below R1_6.out b6) C1_6.out B6.out).mono ?_; rintro e w6 ⟨rfl, d6⟩; have BW6 := Aside0.mk (below_step b6 d6); have P6 := Aside0.mk ((d6.block _ (blk_lt p6)).trans p6); have Q6 := Aside0.mk ((d6.block _ (blk_lt q6)).trans q6); clear b6 p6 q6 d6; have x6_7 : w6.cell? ⟨w.heap.size, 7, none⟩ = some (.slice A0_7 l0_7.length c0_7) := (blk_cell P6.out 7).trans rfl; have y6_7 : w6.cell? ⟨w.heap.size + 1, 7, none⟩ = some (.slice A1_7 l1_7.length c1_7) := (blk_cell Q6.out 7).trans rfl; have x6_8 : w6.cell? ⟨w.heap.size, 8, none⟩ = some (.slice A0_8 l0_8.length c0_8) := (blk_cell P6.out 8).trans rfl; have y6_8 : w6.cell? ⟨w.heap.size + 1, 8, none⟩ = some (.slice A1_8 l1_8.length c1_8) := (blk_cell Q6.out 8).trans rfl) | (go_at_call 19; refine calls_at (fun W => Below w.heap.size w W ∧ W.heap[w.heap.size]? = some (.cells #[.int .i64 a0_0, .int .i64 a0_1, .int .i64 a0_2, .int .i64 a0_3, .int .i64 a0_4, .int .i64 a0_5, .slice A0_6 l0_6.length c0_6, .slice A0_7 l0_7.length c0_7, .slice A0_8 l0_8.length c0_8] 66 (0, 0)) ∧ W.heap[w.heap.size + 1]? = some (.cells #[.int .i64 a0_0, .int .i64 a0_1, .int .i64 a0_2, .int .i64 a0_3, .int .i64 a0_4, .int .i64 a0_5, .slice A1_6 l1_6.length c1_6, .slice A1_7 l1_7.length c1_7, .slice A1_8 l1_8.length c1_8] 66 (0, 0))) ?h_7 ?_; (case h_7 => exact ⟨BW6.out, P6.out, Q6.out⟩); rintro W7 ⟨b7, p7, q7⟩; refine (laws_eqInt64S.calls k A0_7 c0_7 l0_7 A1_7 c1_7 l1_7 true W7 (Kd.C_below R0_7.out b7) C0_7.out (Kd.C_below R1_7.out b7) C1_7.out B7.out).mono ?_; rintro e w7 ⟨rfl, d7⟩; have d7 := d7.below; have BW7 := Aside0.mk (below_step b7 d7); have P7 := Aside0.mk ((d7.block _ (blk_lt p7)).trans p7); have Q7 := Aside0.mk ((d7.block _ (blk_lt q7)).trans q7); clear b7 p7 q7 d7; have x7_8 : w7.cell? ⟨w.heap.size, 8, none⟩ = some (.slice A0_8 l0_8.length c0_8) := (blk_cell P7.out 8).trans rfl; have y7_8 : w7.cell? ⟨w.heap.size + 1, 8, none⟩ = some (.slice A1_8 l1_8.length c1_8) := (blk_cell Q7.out 8).trans rfl) | (go_at_call 121; refine calls_at (fun W => Below w.heap.size w W ∧ W.heap[w.heap.size]? = some (.cells #[.int .i64 a0_0, .int .i64 a0_1, .int .i64 a0_2, .int .i64 a0_3, .int .i64 a0_4, .int .i64 a0_5, .slice A0_6 l0_6.length c0_6, .slice A0_7 l0_7.length c0_7, .slice A0_8 l0_8.length c0_8] 66 (0, 0)) ∧ W.heap[w.heap.size + 1]? = some (.cells #[.int .i64 a0_0, .int .i64 a0_1, .int .i64 a0_2, .int .i64 a0_3, .int .i64 a0_4, .int .i64 a0_5, .slice A1_6 l1_6.length c1_6, .slice A1_7 l1_7.length c1_7, .slice A1_8 l1_8.length c1_8] 66 (0, 0))) ?h_8 ?_; (case h_8 => exact ⟨BW7.out, P7.out, Q7.out⟩); rintro W8 ⟨b8, p8, q8⟩; refine (laws_eqUint64S.calls k A0_8 c0_8 l0_8 A1_8 c1_8 l1_8 true W8 (Kd.C_below R0_8.out b8) C0_8.out (Kd.C_below R1_8.out b8) C1_8.out B8.out).mono ?_; rintro e w8 ⟨rfl, d8⟩; have d8 := d8.below; have BW8 := Aside0.mk (below_step b8 d8); have P8 := Aside0.mk ((d8.block _ (blk_lt p8)).trans p8); have Q8 := Aside0.mk ((d8.block _ (blk_lt q8)).trans q8); clear b8 p8 q8 d8))
  go_ret
  exact ⟨rfl, BW8.out⟩

end Go.Proofs.Ytoedcnhgobbnfaa.All

namespace Go.Proofs.Ytoedcnhgobbnfaa.All
open Go.RowKit Go.Proofs.YtoedcnhgobbnfaaW.PrintWords Go.Proofs.YtoedcnhgobbnfaaW.PrintLast Go.Proofs.YtoedcnhgobbnfaaW.PrintMore
attribute [local go_sem] max2_int min2_int max_two min_two max_three min_three max_four min_four   -- for this text's walks alone
set_option linter.unusedVariables false
set_option linter.unusedSimpArgs false

/-! ### laws_eqInstrS: function 83 -/
def laws_eqInstrS.l0 : Nat → List (S66) → List (S66) → Int → Option (Bool)
  | 0, _, _, _ => none
  | k + 1, x0, x1, x5 => if x5 < (x0.length : Int) then (if 0 ≤ x5 then (if x5 < (x1.length : Int) then ((laws_eqInstr.f k ((rd_T66 x0 x5).f0) ((rd_T66 x0 x5).f1) ((rd_T66 x0 x5).f2) ((rd_T66 x0 x5).f3) ((rd_T66 x0 x5).f4) ((rd_T66 x0 x5).f5) ((rd_T66 x0 x5).f6) ((rd_T66 x0 x5).f7) ((rd_T66 x0 x5).f8) ((rd_T66 x1 x5).f0) ((rd_T66 x1 x5).f1) ((rd_T66 x1 x5).f2) ((rd_T66 x1 x5).f3) ((rd_T66 x1 x5).f4) ((rd_T66 x1 x5).f5) ((rd_T66 x1 x5).f6) ((rd_T66 x1 x5).f7) ((rd_T66 x1 x5).f8)).bind fun t280 => (if t280 = true then (laws_eqInstrS.l0 k x0 x1 (wrap64 (x5 + 1))) else (some false))) else (none)) else (none)) else (some true)
def laws_eqInstrS.f (k : Nat) (l0 : List (S66)) (l1 : List (S66)) : Option (Bool) := if (l0.length : Int) = (l1.length : Int) then (laws_eqInstrS.l0 k l0 l1 0) else (some false)
def laws_eqInstrS.T6 : Bool × List (List Nat × List Nat) := (true, [([], []), ([], []), ([0, 1], [0, 1]), ([2], [2]), ([], []), ([], []), ([4, 5], [4, 5]), ([6], [6]), ([3, 7], [3, 7]), ([8], [8])])
def laws_eqInstrS.B6 : List Nat := [0, 0, 3, 7, 0, 0, 48, 112, 255, 511]
theorem laws_eqInstrS.tab6 : rtab .any (opsOf Try.f83 6) = laws_eqInstrS.T6 := by kernel_rfl
theorem laws_eqInstrS.bits6 : waitsOk laws_eqInstrS.T6.2 laws_eqInstrS.B6 = true := by kernel_rfl
set_option maxHeartbeats 8000000 in
set_option maxRecDepth 100000 in
theorem laws_eqInstrS.calls (k : Nat) (A0 : Option Addr) (c0 : Nat) (l0 : List (S66)) (A1 : Option Addr) (c1 : Nat) (l1 : List (S66)) (r : Bool) (w : World) (hr0 : Kd.C k66 w A0 l0.length l0) (hc0 : l0.length ≤ c0) (hr1 : Kd.C k66 w A1 l1.length l1) (hc1 : l1.length ≤ c1) (h : laws_eqInstrS.f k l0 l1 = some r) :
    Calls Try.prog 83 #[.slice A0 l0.length c0, .slice A1 l1.length c1] w fun e w' => e = .returned (.bool r) ∧ Below w.heap.size w w' := by
  have hu66 := Try.underlying66
  have HR0 := Aside0.mk hr0
  have HC0 := Aside0.mk hc0
  clear hr0 hc0
  have HR1 := Aside0.mk hr1
  have HC1 := Aside0.mk hc1
  clear hr1 hc1
  have HB := Aside0.mk (Below.refl w.heap.size w)
  have H : (if (l0.length : Int) = (l1.length : Int) then (laws_eqInstrS.l0 k l0 l1 0) else (some false)) = some r := h
  clear h
  by_cases c3 : (l0.length : Int) = (l1.length : Int)
  · rw [if_pos c3] at H
    have c3b0 : ((l0.length : Int) == (l1.length : Int)) = true := beq_iff_eq.mpr c3
    have c3b1 : ((l0.length : Int) != (l1.length : Int)) = false := bne_eq_false_iff_eq.mpr c3
    have c3b2 : (l0.length == l1.length) = true := by first | simpa using c3 | (simp at c3 ⊢; omega)
    clear c3
    have H' := Aside0.mk H
    clear H
    go_enter Try.func83, Try.ntmps83
    go_wp2
    go_loopg [5] k (fun kq v5 w' => ∃ (x5_1 : Int), v5 = .int .i64 x5_1 ∧ Aside0 (laws_eqInstrS.l0 kq l0 l1 x5_1 = some r) ∧ Aside0 (kq ≤ k) ∧ Aside0 (Below w.heap.size w w'))
    case atStart => exact ⟨(0), (by first | rfl | (simp; done) | (simp [*]; done)), H', ⟨Nat.le_refl _⟩, ⟨by repeat (first | (with_reducible first | exact HB.out | apply below_alloc | apply pw_below_drewN | apply below_drew1) | exact HB.out)⟩⟩
    case round =>
      clear H'
      try clear c1
      try clear p2
      try clear c3
      try clear c3b0
      try clear c3b1
      try clear c3b2
      obtain ⟨x5_1, rfl, HA, HK1, HB⟩ := hrel
      cases gk with
      | zero => exact absurd HA.out (by simp [laws_eqInstrS.l0])
      | succ k1 =>
        have H := HA.out
        clear HA
        simp only [laws_eqInstrS.l0] at H
        by_cases c4 : x5_1 < (l0.length : Int)
        · rw [if_pos c4] at H
          have c4b0 : decide (x5_1 < (l0.length : Int)) = true := decide_eq_true c4
          clear c4
          by_cases c5 : 0 ≤ x5_1
          · rw [if_pos c5] at H
            have c5b0 : decide (0 ≤ x5_1) = true := decide_eq_true c5
            clear c5
            by_cases c6 : x5_1 < (l1.length : Int)
            · rw [if_pos c6] at H
              have c6b0 : decide (x5_1 < (l1.length : Int)) = true := decide_eq_true c6
              clear c6
              replace H := Option.bind_eq_some_iff.mp H
              obtain ⟨t280, A70, H⟩ := H
              replace H : (if t280 = true then (laws_eqInstrS.l0 k1 l0 l1 (wrap64 (x5_1 + 1))) else (some false)) = some r := H
              have A7 := Aside0.mk A70
              clear A70
              by_cases c8 : t280 = true
              · subst c8
                have H1 : (laws_eqInstrS.l0 k1 l0 l1 (wrap64 (x5_1 + 1))) = some r := by rw [if_pos rfl] at H; exact H
                clear H
                have H := H1
                clear H1
                have H' := Aside0.mk H
                clear H
                try go_wp2
                have n0_ := Aside0.mk (below_drew1 HB.out)
                clear HB
                have HB := n0_
                clear n0_
                have p278 : 0 ≤ (x5_1 : Int) := of_decide_eq_true (by first | (with_reducible assumption) | assumption)
                have q278 : x5_1 < (l0.length : Int) := of_decide_eq_true (by first | (with_reducible assumption) | assumption)
                obtain ⟨ad278, A278_6, c278_6, A278_7, c278_7, A278_8, c278_8, e278, hx278_0, hx278_1, hx278_2, hx278_3, hx278_4, hx278_5, hx278_6, hx278_7, hx278_8, hl278_6, hi278_6, hl278_7, hi278_7, hl278_8, hi278_8⟩ := at_T66 HR0.out x5_1 p278 q278
                have hw278_8 := hx278_8
                have hw278_7 := hx278_7
                have hw278_6 := hx278_6
                have hw278_5 := hx278_5
                have hw278_4 := hx278_4
                have hw278_3 := hx278_3
                have hw278_2 := hx278_2
                have hw278_1 := hx278_1
                have hw278_0 := hx278_0
                cases e278
                replace hx278_0 := (HB.out.cell (World.block_lt_of_cell? w _ hx278_0)).trans hx278_0
                replace hx278_1 := (HB.out.cell (World.block_lt_of_cell? w _ hx278_1)).trans hx278_1
                replace hx278_2 := (HB.out.cell (World.block_lt_of_cell? w _ hx278_2)).trans hx278_2
                replace hx278_3 := (HB.out.cell (World.block_lt_of_cell? w _ hx278_3)).trans hx278_3
                replace hx278_4 := (HB.out.cell (World.block_lt_of_cell? w _ hx278_4)).trans hx278_4
                replace hx278_5 := (HB.out.cell (World.block_lt_of_cell? w _ hx278_5)).trans hx278_5
                replace hx278_6 := (HB.out.cell (World.block_lt_of_cell? w _ hx278_6)).trans hx278_6
                replace hx278_7 := (HB.out.cell (World.block_lt_of_cell? w _ hx278_7)).trans hx278_7
                replace hx278_8 := (HB.out.cell (World.block_lt_of_cell? w _ hx278_8)).trans hx278_8
                have HR278_6 := Aside0.mk hi278_6
                have HC278_6 := Aside0.mk hl278_6
                clear hi278_6 hl278_6
                have HR278_7 := Aside0.mk hi278_7
                have HC278_7 := Aside0.mk hl278_7
                clear hi278_7 hl278_7
                have HR278_8 := Aside0.mk hi278_8
                have HC278_8 := Aside0.mk hl278_8
                clear hi278_8 hl278_8
                replace p278 := eq_true p278
                replace q278 := eq_true q278
                have p279 : 0 ≤ (x5_1 : Int) := of_decide_eq_true (by first | (with_reducible assumption) | assumption)
                have q279 : x5_1 < (l1.length : Int) := of_decide_eq_true (by first | (with_reducible assumption) | assumption)
                obtain ⟨ad279, A279_6, c279_6, A279_7, c279_7, A279_8, c279_8, e279, hx279_0, hx279_1, hx279_2, hx279_3, hx279_4, hx279_5, hx279_6, hx279_7, hx279_8, hl279_6, hi279_6, hl279_7, hi279_7, hl279_8, hi279_8⟩ := at_T66 HR1.out x5_1 p279 q279
                have hw279_8 := hx279_8
                have hw279_7 := hx279_7
                have hw279_6 := hx279_6
                have hw279_5 := hx279_5
                have hw279_4 := hx279_4
                have hw279_3 := hx279_3
                have hw279_2 := hx279_2
                have hw279_1 := hx279_1
                have hw279_0 := hx279_0
                cases e279
                replace hx279_0 := (HB.out.cell (World.block_lt_of_cell? w _ hx279_0)).trans hx279_0
                replace hx279_1 := (HB.out.cell (World.block_lt_of_cell? w _ hx279_1)).trans hx279_1
                replace hx279_2 := (HB.out.cell (World.block_lt_of_cell? w _ hx279_2)).trans hx279_2
                replace hx279_3 := (HB.out.cell (World.block_lt_of_cell? w _ hx279_3)).trans hx279_3
                replace hx279_4 := (HB.out.cell (World.block_lt_of_cell? w _ hx279_4)).trans hx279_4
                replace hx279_5 := (HB.out.cell (World.block_lt_of_cell? w _ hx279_5)).trans hx279_5
                replace hx279_6 := (HB.out.cell (World.block_lt_of_cell? w _ hx279_6)).trans hx279_6
                replace hx279_7 := (HB.out.cell (World.block_lt_of_cell? w _ hx279_7)).trans hx279_7
                replace hx279_8 := (HB.out.cell (World.block_lt_of_cell? w _ hx279_8)).trans hx279_8
                have HR279_6 := Aside0.mk hi279_6
                have HC279_6 := Aside0.mk hl279_6
                clear hi279_6 hl279_6
                have HR279_7 := Aside0.mk hi279_7
                have HC279_7 := Aside0.mk hl279_7
                clear hi279_7 hl279_7
                have HR279_8 := Aside0.mk hi279_8
                have HC279_8 := Aside0.mk hl279_8
                clear hi279_8 hl279_8
                replace p279 := eq_true p279
                replace q279 := eq_true q279
                refine start_ (n := 10) (S := fun w' => w'.cell? (ad278.add ((x5_1).toNat * 9)) = some (.int .i64 ((rd_T66 l0 x5_1).f0)) ∧ w'.cell? ⟨(ad278.add ((x5_1).toNat * 9)).block, (ad278.add ((x5_1).toNat * 9)).off + 1, none⟩ = some (.int .i64 ((rd_T66 l0 x5_1).f1)) ∧ w'.cell? ⟨(ad278.add ((x5_1).toNat * 9)).block, (ad278.add ((x5_1).toNat * 9)).off + 2, none⟩ = some (.int .i64 ((rd_T66 l0 x5_1).f2)) ∧ w'.cell? ⟨(ad278.add ((x5_1).toNat * 9)).block, (ad278.add ((x5_1).toNat * 9)).off + 3, none⟩ = some (.int .i64 ((rd_T66 l0 x5_1).f3)) ∧ w'.cell? ⟨(ad278.add ((x5_1).toNat * 9)).block, (ad278.add ((x5_1).toNat * 9)).off + 4, none⟩ = some (.int .i64 ((rd_T66 l0 x5_1).f4)) ∧ w'.cell? ⟨(ad278.add ((x5_1).toNat * 9)).block, (ad278.add ((x5_1).toNat * 9)).off + 5, none⟩ = some (.int .i64 ((rd_T66 l0 x5_1).f5)) ∧ w'.cell? ⟨(ad278.add ((x5_1).toNat * 9)).block, (ad278.add ((x5_1).toNat * 9)).off + 6, none⟩ = some (.slice A278_6 ((rd_T66 l0 x5_1).f6).length c278_6) ∧ w'.cell? ⟨(ad278.add ((x5_1).toNat * 9)).block, (ad278.add ((x5_1).toNat * 9)).off + 7, none⟩ = some (.slice A278_7 ((rd_T66 l0 x5_1).f7).length c278_7) ∧ w'.cell? ⟨(ad278.add ((x5_1).toNat * 9)).block, (ad278.add ((x5_1).toNat * 9)).off + 8, none⟩ = some (.slice A278_8 ((rd_T66 l0 x5_1).f8).length c278_8) ∧ w'.cell? (ad279.add ((x5_1).toNat * 9)) = some (.int .i64 ((rd_T66 l1 x5_1).f0)) ∧ w'.cell? ⟨(ad279.add ((x5_1).toNat * 9)).block, (ad279.add ((x5_1).toNat * 9)).off + 1, none⟩ = some (.int .i64 ((rd_T66 l1 x5_1).f1)) ∧ w'.cell? ⟨(ad279.add ((x5_1).toNat * 9)).block, (ad279.add ((x5_1).toNat * 9)).off + 2, none⟩ = some (.int .i64 ((rd_T66 l1 x5_1).f2)) ∧ w'.cell? ⟨(ad279.add ((x5_1).toNat * 9)).block, (ad279.add ((x5_1).toNat * 9)).off + 3, none⟩ = some (.int .i64 ((rd_T66 l1 x5_1).f3)) ∧ w'.cell? ⟨(ad279.add ((x5_1).toNat * 9)).block, (ad279.add ((x5_1).toNat * 9)).off + 4, none⟩ = some (.int .i64 ((rd_T66 l1 x5_1).f4)) ∧ w'.cell? ⟨(ad279.add ((x5_1).toNat * 9)).block, (ad279.add ((x5_1).toNat * 9)).off + 5, none⟩ = some (.int .i64 ((rd_T66 l1 x5_1).f5)) ∧ w'.cell? ⟨(ad279.add ((x5_1).toNat * 9)).block, (ad279.add ((x5_1).toNat * 9)).off + 6, none⟩ = some (.slice A279_6 ((rd_T66 l1 x5_1).f6).length c279_6) ∧ w'.cell? ⟨(ad279.add ((x5_1).toNat * 9)).block, (ad279.add ((x5_1).toNat * 9)).off + 7, none⟩ = some (.slice A279_7 ((rd_T66 l1 x5_1).f7).length c279_7) ∧ w'.cell? ⟨(ad279.add ((x5_1).toNat * 9)).block, (ad279.add ((x5_1).toNat * 9)).off + 8, none⟩ = some (.slice A279_8 ((rd_T66 l1 x5_1).f8).length c279_8)) (ds := []) #[false, false, false, false, false, false, false, false, false, false] (by kernel_rfl) rfl rfl ⟨((HB.out.cell (World.block_lt_of_cell? w _ hw278_0)).trans hw278_0), ((HB.out.cell (World.block_lt_of_cell? w _ hw278_1)).trans hw278_1), ((HB.out.cell (World.block_lt_of_cell? w _ hw278_2)).trans hw278_2), ((HB.out.cell (World.block_lt_of_cell? w _ hw278_3)).trans hw278_3), ((HB.out.cell (World.block_lt_of_cell? w _ hw278_4)).trans hw278_4), ((HB.out.cell (World.block_lt_of_cell? w _ hw278_5)).trans hw278_5), ((HB.out.cell (World.block_lt_of_cell? w _ hw278_6)).trans hw278_6), ((HB.out.cell (World.block_lt_of_cell? w _ hw278_7)).trans hw278_7), ((HB.out.cell (World.block_lt_of_cell? w _ hw278_8)).trans hw278_8), ((HB.out.cell (World.block_lt_of_cell? w _ hw279_0)).trans hw279_0), ((HB.out.cell (World.block_lt_of_cell? w _ hw279_1)).trans hw279_1), ((HB.out.cell (World.block_lt_of_cell? w _ hw279_2)).trans hw279_2), ((HB.out.cell (World.block_lt_of_cell? w _ hw279_3)).trans hw279_3), ((HB.out.cell (World.block_lt_of_cell? w _ hw279_4)).trans hw279_4), ((HB.out.cell (World.block_lt_of_cell? w _ hw279_5)).trans hw279_5), ((HB.out.cell (World.block_lt_of_cell? w _ hw279_6)).trans hw279_6), ((HB.out.cell (World.block_lt_of_cell? w _ hw279_7)).trans hw279_7), ((HB.out.cell (World.block_lt_of_cell? w _ hw279_8)).trans hw279_8)⟩ (fun hHeld => ?_); refine with_tabW laws_eqInstrS.tab6 laws_eqInstrS.bits6 (fun HT_ HW_ => ?_)
                generalize wr.drew = w9 at HB HR278_6 HR278_7 HR278_8 HR279_6 HR279_7 HR279_8 hx278_0 hx278_1 hx278_2 hx278_3 hx278_4 hx278_5 hx278_6 hx278_7 hx278_8 hx279_0 hx279_1 hx279_2 hx279_3 hx279_4 hx279_5 hx279_6 hx279_7 hx279_8 hHeld ⊢
                refine pure_ (i := 0) (N := some 17) (v := ?_) (a' := ?_) #[true, false, false, false, false, false, false, false, false, false] rfl rfl (any_of HT_.out (by kernel_rfl)) (fun _ _ _ h => h) (Or.inl ⟨by rfl, ?_⟩) ?_ ?_
                rotate_left
                · intro w'
                  go_simp
                  with_reducible rfl
                rotate_left
                · simp only [Act.put, List.setIfInBounds_toArray, List.set_cons_zero, List.set_cons_succ, i64_w, i32_w]
                  rfl
                refine pure_ (i := 1) (N := some 18) (v := ?_) (a' := ?_) #[true, true, false, false, false, false, false, false, false, false] rfl rfl (any_of HT_.out (by kernel_rfl)) (fun _ _ _ h => h) (Or.inl ⟨by rfl, ?_⟩) ?_ ?_
                rotate_left
                · intro w'
                  go_simp
                  with_reducible rfl
                rotate_left
                · simp only [Act.put, List.setIfInBounds_toArray, List.set_cons_zero, List.set_cons_succ, i64_w, i32_w]
                  rfl
                refine pure_ (i := 2) (N := some 19) (v := ?_) (a' := ?_) #[true, true, true, false, false, false, false, false, false, false] rfl rfl (any_of HT_.out (by kernel_rfl)) (fun _ _ _ h => h) (Or.inl ⟨by rfl, ?_⟩) ?_ ?_
                rotate_left
                · intro w'
                  go_simp
                  with_reducible rfl
                rotate_left
                · simp only [Act.put, List.setIfInBounds_toArray, List.set_cons_zero, List.set_cons_succ, i64_w, i32_w]
                  rfl
                refine pure_ (i := 4) (N := some 21) (v := ?_) (a' := ?_) #[true, true, true, false, true, false, false, false, false, false] rfl rfl (any_of HT_.out (by kernel_rfl)) (fun _ _ _ h => h) (Or.inl ⟨by rfl, ?_⟩) ?_ ?_
                rotate_left
                · intro w'
                  go_simp
                  with_reducible rfl
                rotate_left
                · simp only [Act.put, List.setIfInBounds_toArray, List.set_cons_zero, List.set_cons_succ, i64_w, i32_w]
                  rfl
                refine pure_ (i := 5) (N := some 22) (v := ?_) (a' := ?_) #[true, true, true, false, true, true, false, false, false, false] rfl rfl (any_of HT_.out (by kernel_rfl)) (fun _ _ _ h => h) (Or.inl ⟨by rfl, ?_⟩) ?_ ?_
                rotate_left
                · intro w'
                  go_simp
                  with_reducible rfl
                rotate_left
                · simp only [Act.put, List.setIfInBounds_toArray, List.set_cons_zero, List.set_cons_succ, i64_w, i32_w]
                  rfl
                refine pure_ (i := 6) (N := some 23) (v := ?_) (a' := ?_) #[true, true, true, false, true, true, true, false, false, false] rfl rfl (any_of HT_.out (by kernel_rfl)) (fun _ _ _ h => h) (Or.inl ⟨by rfl, ?_⟩) ?_ ?_
                rotate_left
                · intro w'
                  go_simp
                  with_reducible rfl
                rotate_left
                · simp only [Act.put, List.setIfInBounds_toArray, List.set_cons_zero, List.set_cons_succ, i64_w, i32_w]
                  rfl
                refine take_ (i := 3) (N := some 20) (v := ?_) (a' := ?_) #[true, true, true, true, true, true, true, false, false, false] rfl rfl (take_ofW HT_.out HW_.out (by kernel_rfl)) (fun _ _ _ h => h) (Or.inl ⟨by rfl, ?_⟩) hHeld ?_ ?_
                rotate_left
                · rintro w' ⟨s0, s1, s2, s3, s4, s5, s6, s7, s8, s9, s10, s11, s12, s13, s14, s15, s16, s17⟩
                  go_simp
                  with_reducible rfl
                rotate_left
                · simp only [Act.put, List.setIfInBounds_toArray, List.set_cons_zero, List.set_cons_succ, i64_w, i32_w]
                  rfl
                refine take_ (i := 7) (N := some 24) (v := ?_) (a' := ?_) #[true, true, true, true, true, true, true, true, false, false] rfl rfl (take_ofW HT_.out HW_.out (by kernel_rfl)) (fun _ _ _ h => h) (Or.inl ⟨by rfl, ?_⟩) hHeld ?_ ?_
                rotate_left
                · rintro w' ⟨s0, s1, s2, s3, s4, s5, s6, s7, s8, s9, s10, s11, s12, s13, s14, s15, s16, s17⟩
                  go_simp
                  with_reducible rfl
                rotate_left
                · simp only [Act.put, List.setIfInBounds_toArray, List.set_cons_zero, List.set_cons_succ, i64_w, i32_w]
                  rfl
                refine one_ (i := 8) (N := some 25) #[true, true, true, true, true, true, true, true, true, false] rfl rfl (one_of HT_.out (by kernel_rfl)) (by decide) (fun K hK => ?_)
                refine goes_ Try.func109 (by kernel_rfl) rfl #[.agg #[.int .i64 ((rd_T66 l0 x5_1).f0), .int .i64 ((rd_T66 l0 x5_1).f1), .int .i64 ((rd_T66 l0 x5_1).f2), .int .i64 ((rd_T66 l0 x5_1).f3), .int .i64 ((rd_T66 l0 x5_1).f4), .int .i64 ((rd_T66 l0 x5_1).f5), .slice A278_6 ((rd_T66 l0 x5_1).f6).length c278_6, .slice A278_7 ((rd_T66 l0 x5_1).f7).length c278_7, .slice A278_8 ((rd_T66 l0 x5_1).f8).length c278_8], .agg #[.int .i64 ((rd_T66 l1 x5_1).f0), .int .i64 ((rd_T66 l1 x5_1).f1), .int .i64 ((rd_T66 l1 x5_1).f2), .int .i64 ((rd_T66 l1 x5_1).f3), .int .i64 ((rd_T66 l1 x5_1).f4), .int .i64 ((rd_T66 l1 x5_1).f5), .slice A279_6 ((rd_T66 l1 x5_1).f6).length c279_6, .slice A279_7 ((rd_T66 l1 x5_1).f7).length c279_7, .slice A279_8 ((rd_T66 l1 x5_1).f8).length c279_8]] (by rfl) rfl rfl (by (try simp only [List.map_toArray, List.map_cons, List.map_nil]); first | done | rfl | (simp only [List.length_drop, List.length_take]; rfl)) ?_
                with_reducible refine (laws_eqInstr.calls k1 ((rd_T66 l0 x5_1).f0) ((rd_T66 l0 x5_1).f1) ((rd_T66 l0 x5_1).f2) ((rd_T66 l0 x5_1).f3) ((rd_T66 l0 x5_1).f4) ((rd_T66 l0 x5_1).f5) _ _ ((rd_T66 l0 x5_1).f6) _ _ ((rd_T66 l0 x5_1).f7) _ _ ((rd_T66 l0 x5_1).f8) ((rd_T66 l1 x5_1).f0) ((rd_T66 l1 x5_1).f1) ((rd_T66 l1 x5_1).f2) ((rd_T66 l1 x5_1).f3) ((rd_T66 l1 x5_1).f4) ((rd_T66 l1 x5_1).f5) _ _ ((rd_T66 l1 x5_1).f6) _ _ ((rd_T66 l1 x5_1).f7) _ _ ((rd_T66 l1 x5_1).f8) true _ ?side1 ?side2 ?side3 ?side4 ?side5 ?side6 ?side7 ?side8 ?side9 ?side10 ?side11 ?side12 A7.out).mono ?_
                (case side1 => repeat (first | exact (Kd.C_below HR278_6.out HB.out) | (with_reducible refine Kd.C_alloc ?_ _) | (with_reducible refine Kd.C_drewN ?_ _) | (with_reducible refine Kd.C_drew ?_)))
                (case side2 => exact HC278_6.out)
                (case side3 => repeat (first | exact (Kd.C_below HR278_7.out HB.out) | (with_reducible refine Kd.C_alloc ?_ _) | (with_reducible refine Kd.C_drewN ?_ _) | (with_reducible refine Kd.C_drew ?_)))
                (case side4 => exact HC278_7.out)
                (case side5 => repeat (first | exact (Kd.C_below HR278_8.out HB.out) | (with_reducible refine Kd.C_alloc ?_ _) | (with_reducible refine Kd.C_drewN ?_ _) | (with_reducible refine Kd.C_drew ?_)))
                (case side6 => exact HC278_8.out)
                (case side7 => repeat (first | exact (Kd.C_below HR279_6.out HB.out) | (with_reducible refine Kd.C_alloc ?_ _) | (with_reducible refine Kd.C_drewN ?_ _) | (with_reducible refine Kd.C_drew ?_)))
                (case side8 => exact HC279_6.out)
                (case side9 => repeat (first | exact (Kd.C_below HR279_7.out HB.out) | (with_reducible refine Kd.C_alloc ?_ _) | (with_reducible refine Kd.C_drewN ?_ _) | (with_reducible refine Kd.C_drew ?_)))
                (case side10 => exact HC279_7.out)
                (case side11 => repeat (first | exact (Kd.C_below HR279_8.out HB.out) | (with_reducible refine Kd.C_alloc ?_ _) | (with_reducible refine Kd.C_drewN ?_ _) | (with_reducible refine Kd.C_drew ?_)))
                (case side12 => exact HC279_8.out)
                rintro e w10 ⟨rfl, hb⟩
                refine ⟨_, rfl, ?_⟩
                have n0_ := Aside0.mk (below_step (by repeat (first | (with_reducible first | exact HB.out | apply below_alloc | apply pw_below_drewN | apply below_drew1) | exact HB.out)) hb)
                clear HB
                have HB := n0_
                clear n0_
                (try clear hb)
                (try clear hb2)
                (try clear hk)
                (try clear hi)
                refine hK.out _ _ ⟨((HB.out.cell (World.block_lt_of_cell? w _ hw278_0)).trans hw278_0), ((HB.out.cell (World.block_lt_of_cell? w _ hw278_1)).trans hw278_1), ((HB.out.cell (World.block_lt_of_cell? w _ hw278_2)).trans hw278_2), ((HB.out.cell (World.block_lt_of_cell? w _ hw278_3)).trans hw278_3), ((HB.out.cell (World.block_lt_of_cell? w _ hw278_4)).trans hw278_4), ((HB.out.cell (World.block_lt_of_cell? w _ hw278_5)).trans hw278_5), ((HB.out.cell (World.block_lt_of_cell? w _ hw278_6)).trans hw278_6), ((HB.out.cell (World.block_lt_of_cell? w _ hw278_7)).trans hw278_7), ((HB.out.cell (World.block_lt_of_cell? w _ hw278_8)).trans hw278_8), ((HB.out.cell (World.block_lt_of_cell? w _ hw279_0)).trans hw279_0), ((HB.out.cell (World.block_lt_of_cell? w _ hw279_1)).trans hw279_1), ((HB.out.cell (World.block_lt_of_cell? w _ hw279_2)).trans hw279_2), ((HB.out.cell (World.block_lt_of_cell? w _ hw279_3)).trans hw279_3), ((HB.out.cell (World.block_lt_of_cell? w _ hw279_4)).trans hw279_4), ((HB.out.cell (World.block_lt_of_cell? w _ hw279_5)).trans hw279_5), ((HB.out.cell (World.block_lt_of_cell? w _ hw279_6)).trans hw279_6), ((HB.out.cell (World.block_lt_of_cell? w _ hw279_7)).trans hw279_7), ((HB.out.cell (World.block_lt_of_cell? w _ hw279_8)).trans hw279_8)⟩ (fun hHeld => ?_)
                clear hK K
                refine norm_ (a' := ?_) ?_ ?_
                rotate_left
                · show Act.put _ (some 25) _ = _
                  simp only [Act.put, List.setIfInBounds_toArray, List.set_cons_zero, List.set_cons_succ, i64_w, i32_w]
                  rfl
                refine pure_ (i := 9) (N := some 26) (v := ?_) (a' := ?_) #[true, true, true, true, true, true, true, true, true, true] rfl rfl (any_of HT_.out (by kernel_rfl)) (fun _ _ _ h => h) (Or.inl ⟨by rfl, ?_⟩) ?_ ?_
                rotate_left
                · intro w'
                  go_simp
                  with_reducible rfl
                rotate_left
                · simp only [Act.put, List.setIfInBounds_toArray, List.set_cons_zero, List.set_cons_succ, i64_w, i32_w]
                  rfl
                refine done_ (done_of HT_.out (by kernel_rfl)) ?_
                try go_wp2
                go_roundg k1
                case measure => have := HK1.out; omega
                case rel => exact ⟨(wrap64 (x5_1 + 1)), (by first | rfl | (simp; done) | (simp [*]; done)), H', ⟨by have := HK1.out; omega⟩, ⟨by repeat (first | (with_reducible first | exact HB.out | apply below_alloc | apply pw_below_drewN | apply below_drew1) | exact HB.out)⟩⟩
              · replace c8 := Bool.eq_false_iff.mpr c8
                subst c8
                have H1 : (some false) = some r := by rw [if_neg (show ¬ (false = true) by decide)] at H; exact H
                clear H
                have H := H1
                clear H1
                obtain rfl := Option.some.inj H
                try go_wp2
                have n0_ := Aside0.mk (below_drew1 HB.out)
                clear HB
                have HB := n0_
                clear n0_
                have p278 : 0 ≤ (x5_1 : Int) := of_decide_eq_true (by first | (with_reducible assumption) | assumption)
                have q278 : x5_1 < (l0.length : Int) := of_decide_eq_true (by first | (with_reducible assumption) | assumption)
                obtain ⟨ad278, A278_6, c278_6, A278_7, c278_7, A278_8, c278_8, e278, hx278_0, hx278_1, hx278_2, hx278_3, hx278_4, hx278_5, hx278_6, hx278_7, hx278_8, hl278_6, hi278_6, hl278_7, hi278_7, hl278_8, hi278_8⟩ := at_T66 HR0.out x5_1 p278 q278
                have hw278_8 := hx278_8
                have hw278_7 := hx278_7
                have hw278_6 := hx278_6
                have hw278_5 := hx278_5
                have hw278_4 := hx278_4
                have hw278_3 := hx278_3
                have hw278_2 := hx278_2
                have hw278_1 := hx278_1
                have hw278_0 := hx278_0
                cases e278
                replace hx278_0 := (HB.out.cell (World.block_lt_of_cell? w _ hx278_0)).trans hx278_0
                replace hx278_1 := (HB.out.cell (World.block_lt_of_cell? w _ hx278_1)).trans hx278_1
                replace hx278_2 := (HB.out.cell (World.block_lt_of_cell? w _ hx278_2)).trans hx278_2
                replace hx278_3 := (HB.out.cell (World.block_lt_of_cell? w _ hx278_3)).trans hx278_3
                replace hx278_4 := (HB.out.cell (World.block_lt_of_cell? w _ hx278_4)).trans hx278_4
                replace hx278_5 := (HB.out.cell (World.block_lt_of_cell? w _ hx278_5)).trans hx278_5
                replace hx278_6 := (HB.out.cell (World.block_lt_of_cell? w _ hx278_6)).trans hx278_6
                replace hx278_7 := (HB.out.cell (World.block_lt_of_cell? w _ hx278_7)).trans hx278_7
                replace hx278_8 := (HB.out.cell (World.block_lt_of_cell? w _ hx278_8)).trans hx278_8
                have HR278_6 := Aside0.mk hi278_6
                have HC278_6 := Aside0.mk hl278_6
                clear hi278_6 hl278_6
                have HR278_7 := Aside0.mk hi278_7
                have HC278_7 := Aside0.mk hl278_7
                clear hi278_7 hl278_7
                have HR278_8 := Aside0.mk hi278_8
                have HC278_8 := Aside0.mk hl278_8
                clear hi278_8 hl278_8
                replace p278 := eq_true p278
                replace q278 := eq_true q278
                have p279 : 0 ≤ (x5_1 : Int) := of_decide_eq_true (by first | (with_reducible assumption) | assumption)
                have q279 : x5_1 < (l1.length : Int) := of_decide_eq_true (by first | (with_reducible assumption) | assumption)
                obtain ⟨ad279, A279_6, c279_6, A279_7, c279_7, A279_8, c279_8, e279, hx279_0, hx279_1, hx279_2, hx279_3, hx279_4, hx279_5, hx279_6, hx279_7, hx279_8, hl279_6, hi279_6, hl279_7, hi279_7, hl279_8, hi279_8⟩ := at_T66 HR1.out x5_1 p279 q279
                have hw279_8 := hx279_8
                have hw279_7 := hx279_7
                have hw279_6 := hx279_6
                have hw279_5 := hx279_5
                have hw279_4 := hx279_4
                have hw279_3 := hx279_3
                have hw279_2 := hx279_2
                have hw279_1 := hx279_1
                have hw279_0 := hx279_0
                cases e279
                replace hx279_0 := (HB.out.cell (World.block_lt_of_cell? w _ hx279_0)).trans hx279_0
                replace hx279_1 := (HB.out.cell (World.block_lt_of_cell? w _ hx279_1)).trans hx279_1
                replace hx279_2 := (HB.out.cell (World.block_lt_of_cell? w _ hx279_2)).trans hx279_2
                replace hx279_3 := (HB.out.cell (World.block_lt_of_cell? w _ hx279_3)).trans hx279_3
                replace hx279_4 := (HB.out.cell (World.block_lt_of_cell? w _ hx279_4)).trans hx279_4
                replace hx279_5 := (HB.out.cell (World.block_lt_of_cell? w _ hx279_5)).trans hx279_5
                replace hx279_6 := (HB.out.cell (World.block_lt_of_cell? w _ hx279_6)).trans hx279_6
                replace hx279_7 := (HB.out.cell (World.block_lt_of_cell? w _ hx279_7)).trans hx279_7
                replace hx279_8 := (HB.out.cell (World.block_lt_of_cell? w _ hx279_8)).trans hx279_8
                have HR279_6 := Aside0.mk hi279_6
                have HC279_6 := Aside0.mk hl279_6
                clear hi279_6 hl279_6
                have HR279_7 := Aside0.mk hi279_7
                have HC279_7 := Aside0.mk hl279_7
                clear hi279_7 hl279_7
                have HR279_8 := Aside0.mk hi279_8
                have HC279_8 := Aside0.mk hl279_8
                clear hi279_8 hl279_8
                replace p279 := eq_true p279
                replace q279 := eq_true q279
                refine start_ (n := 10) (S := fun w' => w'.cell? (ad278.add ((x5_1).toNat * 9)) = some (.int .i64 ((rd_T66 l0 x5_1).f0)) ∧ w'.cell? ⟨(ad278.add ((x5_1).toNat * 9)).block, (ad278.add ((x5_1).toNat * 9)).off + 1, none⟩ = some (.int .i64 ((rd_T66 l0 x5_1).f1)) ∧ w'.cell? ⟨(ad278.add ((x5_1).toNat * 9)).block, (ad278.add ((x5_1).toNat * 9)).off + 2, none⟩ = some (.int .i64 ((rd_T66 l0 x5_1).f2)) ∧ w'.cell? ⟨(ad278.add ((x5_1).toNat * 9)).block, (ad278.add ((x5_1).toNat * 9)).off + 3, none⟩ = some (.int .i64 ((rd_T66 l0 x5_1).f3)) ∧ w'.cell? ⟨(ad278.add ((x5_1).toNat * 9)).block, (ad278.add ((x5_1).toNat * 9)).off + 4, none⟩ = some (.int .i64 ((rd_T66 l0 x5_1).f4)) ∧ w'.cell? ⟨(ad278.add ((x5_1).toNat * 9)).block, (ad278.add ((x5_1).toNat * 9)).off + 5, none⟩ = some (.int .i64 ((rd_T66 l0 x5_1).f5)) ∧ w'.cell? ⟨(ad278.add ((x5_1).toNat * 9)).block, (ad278.add ((x5_1).toNat * 9)).off + 6, none⟩ = some (.slice A278_6 ((rd_T66 l0 x5_1).f6).length c278_6) ∧ w'.cell? ⟨(ad278.add ((x5_1).toNat * 9)).block, (ad278.add ((x5_1).toNat * 9)).off + 7, none⟩ = some (.slice A278_7 ((rd_T66 l0 x5_1).f7).length c278_7) ∧ w'.cell? ⟨(ad278.add ((x5_1).toNat * 9)).block, (ad278.add ((x5_1).toNat * 9)).off + 8, none⟩ = some (.slice A278_8 ((rd_T66 l0 x5_1).f8).length c278_8) ∧ w'.cell? (ad279.add ((x5_1).toNat * 9)) = some (.int .i64 ((rd_T66 l1 x5_1).f0)) ∧ w'.cell? ⟨(ad279.add ((x5_1).toNat * 9)).block, (ad279.add ((x5_1).toNat * 9)).off + 1, none⟩ = some (.int .i64 ((rd_T66 l1 x5_1).f1)) ∧ w'.cell? ⟨(ad279.add ((x5_1).toNat * 9)).block, (ad279.add ((x5_1).toNat * 9)).off + 2, none⟩ = some (.int .i64 ((rd_T66 l1 x5_1).f2)) ∧ w'.cell? ⟨(ad279.add ((x5_1).toNat * 9)).block, (ad279.add ((x5_1).toNat * 9)).off + 3, none⟩ = some (.int .i64 ((rd_T66 l1 x5_1).f3)) ∧ w'.cell? ⟨(ad279.add ((x5_1).toNat * 9)).block, (ad279.add ((x5_1).toNat * 9)).off + 4, none⟩ = some (.int .i64 ((rd_T66 l1 x5_1).f4)) ∧ w'.cell? ⟨(ad279.add ((x5_1).toNat * 9)).block, (ad279.add ((x5_1).toNat * 9)).off + 5, none⟩ = some (.int .i64 ((rd_T66 l1 x5_1).f5)) ∧ w'.cell? ⟨(ad279.add ((x5_1).toNat * 9)).block, (ad279.add ((x5_1).toNat * 9)).off + 6, none⟩ = some (.slice A279_6 ((rd_T66 l1 x5_1).f6).length c279_6) ∧ w'.cell? ⟨(ad279.add ((x5_1).toNat * 9)).block, (ad279.add ((x5_1).toNat * 9)).off + 7, none⟩ = some (.slice A279_7 ((rd_T66 l1 x5_1).f7).length c279_7) ∧ w'.cell? ⟨(ad279.add ((x5_1).toNat * 9)).block, (ad279.add ((x5_1).toNat * 9)).off + 8, none⟩ = some (.slice A279_8 ((rd_T66 l1 x5_1).f8).length c279_8)) (ds := []) #[false, false, false, false, false, false, false, false, false, false] (by kernel_rfl) rfl rfl ⟨((HB.out.cell (World.block_lt_of_cell? w _ hw278_0)).trans hw278_0), ((HB.out.cell (World.block_lt_of_cell? w _ hw278_1)).trans hw278_1), ((HB.out.cell (World.block_lt_of_cell? w _ hw278_2)).trans hw278_2), ((HB.out.cell (World.block_lt_of_cell? w _ hw278_3)).trans hw278_3), ((HB.out.cell (World.block_lt_of_cell? w _ hw278_4)).trans hw278_4), ((HB.out.cell (World.block_lt_of_cell? w _ hw278_5)).trans hw278_5), ((HB.out.cell (World.block_lt_of_cell? w _ hw278_6)).trans hw278_6), ((HB.out.cell (World.block_lt_of_cell? w _ hw278_7)).trans hw278_7), ((HB.out.cell (World.block_lt_of_cell? w _ hw278_8)).trans hw278_8), ((HB.out.cell (World.block_lt_of_cell? w _ hw279_0)).trans hw279_0), ((HB.out.cell (World.block_lt_of_cell? w _ hw279_1)).trans hw279_1), ((HB.out.cell (World.block_lt_of_cell? w _ hw279_2)).trans hw279_2), ((HB.out.cell (World.block_lt_of_cell? w _ hw279_3)).trans hw279_3), ((HB.out.cell (World.block_lt_of_cell? w _ hw279_4)).trans hw279_4), ((HB.out.cell (World.block_lt_of_cell? w _ hw279_5)).trans hw279_5), ((HB.out.cell (World.block_lt_of_cell? w _ hw279_6)).trans hw279_6), ((HB.out.cell (World.block_lt_of_cell? w _ hw279_7)).trans hw279_7), ((HB.out.cell (World.block_lt_of_cell? w _ hw279_8)).trans hw279_8)⟩ (fun hHeld => ?_); refine with_tabW laws_eqInstrS.tab6 laws_eqInstrS.bits6 (fun HT_ HW_ => ?_)
                generalize wr.drew = w11 at HB HR278_6 HR278_7 HR278_8 HR279_6 HR279_7 HR279_8 hx278_0 hx278_1 hx278_2 hx278_3 hx278_4 hx278_5 hx278_6 hx278_7 hx278_8 hx279_0 hx279_1 hx279_2 hx279_3 hx279_4 hx279_5 hx279_6 hx279_7 hx279_8 hHeld ⊢
                refine pure_ (i := 0) (N := some 17) (v := ?_) (a' := ?_) #[true, false, false, false, false, false, false, false, false, false] rfl rfl (any_of HT_.out (by kernel_rfl)) (fun _ _ _ h => h) (Or.inl ⟨by rfl, ?_⟩) ?_ ?_
                rotate_left
                · intro w'
                  go_simp
                  with_reducible rfl
                rotate_left
                · simp only [Act.put, List.setIfInBounds_toArray, List.set_cons_zero, List.set_cons_succ, i64_w, i32_w]
                  rfl
                refine pure_ (i := 1) (N := some 18) (v := ?_) (a' := ?_) #[true, true, false, false, false, false, false, false, false, false] rfl rfl (any_of HT_.out (by kernel_rfl)) (fun _ _ _ h => h) (Or.inl ⟨by rfl, ?_⟩) ?_ ?_
                rotate_left
                · intro w'
                  go_simp
                  with_reducible rfl
                rotate_left
                · simp only [Act.put, List.setIfInBounds_toArray, List.set_cons_zero, List.set_cons_succ, i64_w, i32_w]
                  rfl
                refine pure_ (i := 2) (N := some 19) (v := ?_) (a' := ?_) #[true, true, true, false, false, false, false, false, false, false] rfl rfl (any_of HT_.out (by kernel_rfl)) (fun _ _ _ h => h) (Or.inl ⟨by rfl, ?_⟩) ?_ ?_
                rotate_left
                · intro w'
                  go_simp
                  with_reducible rfl
                rotate_left
                · simp only [Act.put, List.setIfInBounds_toArray, List.set_cons_zero, List.set_cons_succ, i64_w, i32_w]
                  rfl
                refine pure_ (i := 4) (N := some 21) (v := ?_) (a' := ?_) #[true, true, true, false, true, false, false, false, false, false] rfl rfl (any_of HT_.out (by kernel_rfl)) (fun _ _ _ h => h) (Or.inl ⟨by rfl, ?_⟩) ?_ ?_
                rotate_left
                · intro w'
                  go_simp
                  with_reducible rfl
                rotate_left
                · simp only [Act.put, List.setIfInBounds_toArray, List.set_cons_zero, List.set_cons_succ, i64_w, i32_w]
                  rfl
                refine pure_ (i := 5) (N := some 22) (v := ?_) (a' := ?_) #[true, true, true, false, true, true, false, false, false, false] rfl rfl (any_of HT_.out (by kernel_rfl)) (fun _ _ _ h => h) (Or.inl ⟨by rfl, ?_⟩) ?_ ?_
                rotate_left
                · intro w'
                  go_simp
                  with_reducible rfl
                rotate_left
                · simp only [Act.put, List.setIfInBounds_toArray, List.set_cons_zero, List.set_cons_succ, i64_w, i32_w]
                  rfl
                refine pure_ (i := 6) (N := some 23) (v := ?_) (a' := ?_) #[true, true, true, false, true, true, true, false, false, false] rfl rfl (any_of HT_.out (by kernel_rfl)) (fun _ _ _ h => h) (Or.inl ⟨by rfl, ?_⟩) ?_ ?_
                rotate_left
                · intro w'
                  go_simp
                  with_reducible rfl
                rotate_left
                · simp only [Act.put, List.setIfInBounds_toArray, List.set_cons_zero, List.set_cons_succ, i64_w, i32_w]
                  rfl
                refine take_ (i := 3) (N := some 20) (v := ?_) (a' := ?_) #[true, true, true, true, true, true, true, false, false, false] rfl rfl (take_ofW HT_.out HW_.out (by kernel_rfl)) (fun _ _ _ h => h) (Or.inl ⟨by rfl, ?_⟩) hHeld ?_ ?_
                rotate_left
                · rintro w' ⟨s0, s1, s2, s3, s4, s5, s6, s7, s8, s9, s10, s11, s12, s13, s14, s15, s16, s17⟩
                  go_simp
                  with_reducible rfl
                rotate_left
                · simp only [Act.put, List.setIfInBounds_toArray, List.set_cons_zero, List.set_cons_succ, i64_w, i32_w]
                  rfl
                refine take_ (i := 7) (N := some 24) (v := ?_) (a' := ?_) #[true, true, true, true, true, true, true, true, false, false] rfl rfl (take_ofW HT_.out HW_.out (by kernel_rfl)) (fun _ _ _ h => h) (Or.inl ⟨by rfl, ?_⟩) hHeld ?_ ?_
                rotate_left
                · rintro w' ⟨s0, s1, s2, s3, s4, s5, s6, s7, s8, s9, s10, s11, s12, s13, s14, s15, s16, s17⟩
                  go_simp
                  with_reducible rfl
                rotate_left
                · simp only [Act.put, List.setIfInBounds_toArray, List.set_cons_zero, List.set_cons_succ, i64_w, i32_w]
                  rfl
                refine one_ (i := 8) (N := some 25) #[true, true, true, true, true, true, true, true, true, false] rfl rfl (one_of HT_.out (by kernel_rfl)) (by decide) (fun K hK => ?_)
                refine goes_ Try.func109 (by kernel_rfl) rfl #[.agg #[.int .i64 ((rd_T66 l0 x5_1).f0), .int .i64 ((rd_T66 l0 x5_1).f1), .int .i64 ((rd_T66 l0 x5_1).f2), .int .i64 ((rd_T66 l0 x5_1).f3), .int .i64 ((rd_T66 l0 x5_1).f4), .int .i64 ((rd_T66 l0 x5_1).f5), .slice A278_6 ((rd_T66 l0 x5_1).f6).length c278_6, .slice A278_7 ((rd_T66 l0 x5_1).f7).length c278_7, .slice A278_8 ((rd_T66 l0 x5_1).f8).length c278_8], .agg #[.int .i64 ((rd_T66 l1 x5_1).f0), .int .i64 ((rd_T66 l1 x5_1).f1), .int .i64 ((rd_T66 l1 x5_1).f2), .int .i64 ((rd_T66 l1 x5_1).f3), .int .i64 ((rd_T66 l1 x5_1).f4), .int .i64 ((rd_T66 l1 x5_1).f5), .slice A279_6 ((rd_T66 l1 x5_1).f6).length c279_6, .slice A279_7 ((rd_T66 l1 x5_1).f7).length c279_7, .slice A279_8 ((rd_T66 l1 x5_1).f8).length c279_8]] (by rfl) rfl rfl (by (try simp only [List.map_toArray, List.map_cons, List.map_nil]); first | done | rfl | (simp only [List.length_drop, List.length_take]; rfl)) ?_
                with_reducible refine (laws_eqInstr.calls k1 ((rd_T66 l0 x5_1).f0) ((rd_T66 l0 x5_1).f1) ((rd_T66 l0 x5_1).f2) ((rd_T66 l0 x5_1).f3) ((rd_T66 l0 x5_1).f4) ((rd_T66 l0 x5_1).f5) _ _ ((rd_T66 l0 x5_1).f6) _ _ ((rd_T66 l0 x5_1).f7) _ _ ((rd_T66 l0 x5_1).f8) ((rd_T66 l1 x5_1).f0) ((rd_T66 l1 x5_1).f1) ((rd_T66 l1 x5_1).f2) ((rd_T66 l1 x5_1).f3) ((rd_T66 l1 x5_1).f4) ((rd_T66 l1 x5_1).f5) _ _ ((rd_T66 l1 x5_1).f6) _ _ ((rd_T66 l1 x5_1).f7) _ _ ((rd_T66 l1 x5_1).f8) false _ ?side1 ?side2 ?side3 ?side4 ?side5 ?side6 ?side7 ?side8 ?side9 ?side10 ?side11 ?side12 A7.out).mono ?_
                (case side1 => repeat (first | exact (Kd.C_below HR278_6.out HB.out) | (with_reducible refine Kd.C_alloc ?_ _) | (with_reducible refine Kd.C_drewN ?_ _) | (with_reducible refine Kd.C_drew ?_)))
                (case side2 => exact HC278_6.out)
                (case side3 => repeat (first | exact (Kd.C_below HR278_7.out HB.out) | (with_reducible refine Kd.C_alloc ?_ _) | (with_reducible refine Kd.C_drewN ?_ _) | (with_reducible refine Kd.C_drew ?_)))
                (case side4 => exact HC278_7.out)
                (case side5 => repeat (first | exact (Kd.C_below HR278_8.out HB.out) | (with_reducible refine Kd.C_alloc ?_ _) | (with_reducible refine Kd.C_drewN ?_ _) | (with_reducible refine Kd.C_drew ?_)))
                (case side6 => exact HC278_8.out)
                (case side7 => repeat (first | exact (Kd.C_below HR279_6.out HB.out) | (with_reducible refine Kd.C_alloc ?_ _) | (with_reducible refine Kd.C_drewN ?_ _) | (with_reducible refine Kd.C_drew ?_)))
                (case side8 => exact HC279_6.out)
                (case side9 => repeat (first | exact (Kd.C_below HR279_7.out HB.out) | (with_reducible refine Kd.C_alloc ?_ _) | (with_reducible refine Kd.C_drewN ?_ _) | (with_reducible refine Kd.C_drew ?_)))
                (case side10 => exact HC279_7.out)
                (case side11 => repeat (first | exact (Kd.C_below HR279_8.out HB.out) | (with_reducible refine Kd.C_alloc ?_ _) | (with_reducible refine Kd.C_drewN ?_ _) | (with_reducible refine Kd.C_drew ?_)))
                (case side12 => exact HC279_8.out)
                rintro e w12 ⟨rfl, hb⟩
                refine ⟨_, rfl, ?_⟩
                have n0_ := Aside0.mk (below_step (by repeat (first | (with_reducible first | exact HB.out | apply below_alloc | apply pw_below_drewN | apply below_drew1) | exact HB.out)) hb)
                clear HB
                have HB := n0_
                clear n0_
                (try clear hb)
                (try clear hb2)
                (try clear hk)
                (try clear hi)
                refine hK.out _ _ ⟨((HB.out.cell (World.block_lt_of_cell? w _ hw278_0)).trans hw278_0), ((HB.out.cell (World.block_lt_of_cell? w _ hw278_1)).trans hw278_1), ((HB.out.cell (World.block_lt_of_cell? w _ hw278_2)).trans hw278_2), ((HB.out.cell (World.block_lt_of_cell? w _ hw278_3)).trans hw278_3), ((HB.out.cell (World.block_lt_of_cell? w _ hw278_4)).trans hw278_4), ((HB.out.cell (World.block_lt_of_cell? w _ hw278_5)).trans hw278_5), ((HB.out.cell (World.block_lt_of_cell? w _ hw278_6)).trans hw278_6), ((HB.out.cell (World.block_lt_of_cell? w _ hw278_7)).trans hw278_7), ((HB.out.cell (World.block_lt_of_cell? w _ hw278_8)).trans hw278_8), ((HB.out.cell (World.block_lt_of_cell? w _ hw279_0)).trans hw279_0), ((HB.out.cell (World.block_lt_of_cell? w _ hw279_1)).trans hw279_1), ((HB.out.cell (World.block_lt_of_cell? w _ hw279_2)).trans hw279_2), ((HB.out.cell (World.block_lt_of_cell? w _ hw279_3)).trans hw279_3), ((HB.out.cell (World.block_lt_of_cell? w _ hw279_4)).trans hw279_4), ((HB.out.cell (World.block_lt_of_cell? w _ hw279_5)).trans hw279_5), ((HB.out.cell (World.block_lt_of_cell? w _ hw279_6)).trans hw279_6), ((HB.out.cell (World.block_lt_of_cell? w _ hw279_7)).trans hw279_7), ((HB.out.cell (World.block_lt_of_cell? w _ hw279_8)).trans hw279_8)⟩ (fun hHeld => ?_)
                clear hK K
                refine norm_ (a' := ?_) ?_ ?_
                rotate_left
                · show Act.put _ (some 25) _ = _
                  simp only [Act.put, List.setIfInBounds_toArray, List.set_cons_zero, List.set_cons_succ, i64_w, i32_w]
                  rfl
                refine pure_ (i := 9) (N := some 26) (v := ?_) (a' := ?_) #[true, true, true, true, true, true, true, true, true, true] rfl rfl (any_of HT_.out (by kernel_rfl)) (fun _ _ _ h => h) (Or.inl ⟨by rfl, ?_⟩) ?_ ?_
                rotate_left
                · intro w'
                  go_simp
                  with_reducible rfl
                rotate_left
                · simp only [Act.put, List.setIfInBounds_toArray, List.set_cons_zero, List.set_cons_succ, i64_w, i32_w]
                  rfl
                refine done_ (done_of HT_.out (by kernel_rfl)) ?_
                try go_wp2
                go_ret
                exact ⟨by first | rfl | (simp [errW_none, errW_some] <;> rfl) | (simp [*, errW_none, errW_some] <;> rfl), by repeat (first | (with_reducible first | exact HB.out | apply below_alloc | apply pw_below_drewN | apply below_drew1) | exact HB.out)⟩
            · rw [if_neg c6] at H
              exact absurd H (by simp)
          · rw [if_neg c5] at H
            exact absurd H (by simp)
        · rw [if_neg c4] at H
          have c4b0 : decide (x5_1 < (l0.length : Int)) = false := decide_eq_false c4
          clear c4
          obtain rfl := Option.some.inj H
          go_wp2
          go_ret
          exact ⟨by first | rfl | (simp [errW_none, errW_some] <;> rfl) | (simp [*, errW_none, errW_some] <;> rfl), by repeat (first | (with_reducible first | exact HB.out | apply below_alloc | apply pw_below_drewN | apply below_drew1) | exact HB.out)⟩
  · rw [if_neg c3] at H
    have c3b0 : ((l0.length : Int) == (l1.length : Int)) = false := beq_eq_false_iff_ne.mpr c3
    have c3b1 : ((l0.length : Int) != (l1.length : Int)) = true := bne_iff_ne.mpr c3
    have c3b2 : (l0.length == l1.length) = false := by first | simpa using c3 | (simp at c3 ⊢; omega)
    obtain rfl := Option.some.inj H
    go_enter Try.func83, Try.ntmps83
    go_wp2
    go_ret
    exact ⟨by first | rfl | (simp [errW_none, errW_some] <;> rfl) | (simp [*, errW_none, errW_some] <;> rfl), by repeat (first | (with_reducible first | exact HB.out | apply below_alloc | apply pw_below_drewN | apply below_drew1) | exact HB.out)⟩

end Go.Proofs.Ytoedcnhgobbnfaa.All

namespace Go.Proofs.Ytoedcnhgobbnfaa.All
open Go.RowKit Go.Proofs.YtoedcnhgobbnfaaW.PrintWords Go.Proofs.YtoedcnhgobbnfaaW.PrintLast Go.Proofs.YtoedcnhgobbnfaaW.PrintMore
attribute [local go_sem] max2_int min2_int max_two min_two max_three min_three max_four min_four   -- for this text's walks alone
set_option linter.unusedVariables false
set_option linter.unusedSimpArgs false

/-! ### laws_eqBlock: function 71 -/
def laws_eqBlock.f (k : Nat) (l0_0 : List (S66)) (l1_0 : List (S66)) : Option (Bool) := (laws_eqInstrS.f k l0_0 l1_0).bind fun t283 => (if t283 = true then (some true) else (some false))
set_option maxHeartbeats 8000000 in
set_option maxRecDepth 100000 in
theorem laws_eqBlock.calls (k : Nat) (A0_0 : Option Addr) (c0_0 : Nat) (l0_0 : List (S66)) (A1_0 : Option Addr) (c1_0 : Nat) (l1_0 : List (S66)) (r : Bool) (w : World) (hr0_0 : Kd.C k66 w A0_0 l0_0.length l0_0) (hc0_0 : l0_0.length ≤ c0_0) (hr1_0 : Kd.C k66 w A1_0 l1_0.length l1_0) (hc1_0 : l1_0.length ≤ c1_0) (h : laws_eqBlock.f k l0_0 l1_0 = some r) :
    Calls Try.prog 71 #[.agg #[.slice A0_0 l0_0.length c0_0], .agg #[.slice A1_0 l1_0.length c1_0]] w fun e w' => e = .returned (.bool r) ∧ Below w.heap.size w w' := by
  have hu62 := Try.underlying62
  have HR0_0 := Aside0.mk hr0_0
  have HC0_0 := Aside0.mk hc0_0
  clear hr0_0 hc0_0
  have HR1_0 := Aside0.mk hr1_0
  have HC1_0 := Aside0.mk hc1_0
  clear hr1_0 hc1_0
  have HB := Aside0.mk (Below.refl w.heap.size w)
  have H : ((laws_eqInstrS.f k l0_0 l1_0).bind fun t283 => (if t283 = true then (some true) else (some false))) = some r := h
  clear h
  replace H := Option.bind_eq_some_iff.mp H
  obtain ⟨t283, A30, H⟩ := H
  replace H : (if t283 = true then (some true) else (some false)) = some r := H
  have A3 := Aside0.mk A30
  clear A30
  by_cases c4 : t283 = true
  · subst c4
    have H1 : (some true) = some r := by rw [if_pos rfl] at H; exact H
    clear H
    have H := H1
    clear H1
    obtain rfl := Option.some.inj H
    go_enter Try.func71, Try.ntmps71
    go_wp2_with (first | ((with_reducible refine gate_dst (N := 2) rfl ?_); refine box_event ?hg (N := 2) ?hd (cs := #[.slice A0_0 l0_0.length c0_0]) (t := 62) ?hr ?_; (case hd => rfl); (case hg => rfl); (case hr => first | (go_simp; done) | (go_simp; rfl)); intro gb281 hg w5 hbox hb; have n0_ := Aside0.mk (below_step (by repeat (first | (with_reducible first | exact HB.out | apply below_alloc | apply pw_below_drewN | apply below_drew1) | exact HB.out)) hb); have n1_ := Aside0.mk (hbox); have n2_ := Aside0.mk ((by rw [hg]; exact (below_size (by repeat (first | (with_reducible first | exact HB.out | apply below_alloc | apply pw_below_drewN | apply below_drew1) | exact HB.out))) : w.heap.size ≤ gb281)); have n3_ := Aside0.mk ((by rw [hg]; exact (below_size (by repeat (first | (with_reducible first | exact HB.out | apply below_alloc | apply pw_below_drewN | apply below_drew1) | exact HB.out))) : w.heap.size ≤ gb281)); clear HB; have HB := n0_; have BK281 := n1_; have GW281 := n2_; have GE281 := n3_; clear n0_ n1_ n2_ n3_; clear hb hbox hg) | ((with_reducible refine gate_dst (N := 3) rfl ?_); refine box_event ?hg (N := 3) ?hd (cs := #[.slice A1_0 l1_0.length c1_0]) (t := 62) ?hr ?_; (case hd => rfl); (case hg => rfl); (case hr => first | (go_simp; done) | (go_simp; rfl)); intro gb282 hg w6 hbox hb; have n0_ := Aside0.mk (blk_below (g := gb281) (o := .cells #[.slice A0_0 l0_0.length c0_0] 62 (0, 0)) (by (with_reducible repeat (first | refine blk_drewN ?_ _ | refine blk_drew ?_ | refine blk_alloc ?_ _)); exact BK281.out) hb); have n1_ := Aside0.mk (below_step (by repeat (first | (with_reducible first | exact HB.out | apply below_alloc | apply pw_below_drewN | apply below_drew1 | refine below_set ?_ GE281.out) | exact HB.out)) hb); have n2_ := Aside0.mk (hbox); have n3_ := Aside0.mk ((by rw [hg]; exact (below_size (by repeat (first | (with_reducible first | exact HB.out | apply below_alloc | apply pw_below_drewN | apply below_drew1 | refine below_set ?_ GE281.out) | exact HB.out))) : w.heap.size ≤ gb282)); have n4_ := Aside0.mk ((by rw [hg]; exact (below_size (by repeat (first | (with_reducible first | exact HB.out | apply below_alloc | apply pw_below_drewN | apply below_drew1 | refine below_set ?_ GE281.out) | exact HB.out))) : w.heap.size ≤ gb282)); have n5_ := Aside0.mk ((by rw [hg]; exact Nat.ne_of_lt (blk_lt (g := gb281) (o := .cells #[.slice A0_0 l0_0.length c0_0] 62 (0, 0)) (by (with_reducible repeat (first | refine blk_drewN ?_ _ | refine blk_drew ?_ | refine blk_alloc ?_ _)); exact BK281.out)) : gb281 ≠ gb282)); have n6_ := Aside0.mk ((by rw [hg]; exact Nat.ne_of_gt (blk_lt (g := gb281) (o := .cells #[.slice A0_0 l0_0.length c0_0] 62 (0, 0)) (by (with_reducible repeat (first | refine blk_drewN ?_ _ | refine blk_drew ?_ | refine blk_alloc ?_ _)); exact BK281.out)) : gb282 ≠ gb281)); clear BK281; clear HB; have BK281 := n0_; have HB := n1_; have BK282 := n2_; have GW282 := n3_; have GE282 := n4_; have NB281_282 := n5_; have NB282_281 := n6_; clear n0_ n1_ n2_ n3_ n4_ n5_ n6_; clear hb hbox hg; have hnb7 := NB281_282.out; have hnc7 := NB282_281.out; have hcz8_0 : w6.cell? ⟨gb281, 0, none⟩ = some (.slice A0_0 l0_0.length c0_0) := (blk_cell BK281.out 0).trans rfl; have hfz8_0 := blk_frozen BK281.out 0; have hcz9_0 : w6.cell? ⟨gb282, 0, none⟩ = some (.slice A1_0 l1_0.length c1_0) := (blk_cell BK282.out 0).trans rfl; have hfz9_0 := blk_frozen BK282.out 0) | ((with_reducible refine gate_callee (f := 83) rfl ?_); refine goesL_ (some 9) rfl rfl Try.func83 (by kernel_rfl) rfl #[.slice A0_0 l0_0.length c0_0, .slice A1_0 l1_0.length c1_0] rfl (by (try simp only [List.map_toArray, List.map_cons, List.map_nil]); first | done | rfl | (simp only [List.length_drop, List.length_take]; rfl)) ?_; (with_reducible refine (laws_eqInstrS.calls k _ _ l0_0 _ _ l1_0 true _ ?side1 ?side2 ?side3 ?side4 A3.out).mono ?_); (case side1 => repeat (first | exact (Kd.C_below HR0_0.out HB.out) | (with_reducible refine Kd.C_alloc ?_ _) | (with_reducible refine Kd.C_drewN ?_ _) | (with_reducible refine Kd.C_drew ?_))); (case side2 => exact HC0_0.out); (case side3 => repeat (first | exact (Kd.C_below HR1_0.out HB.out) | (with_reducible refine Kd.C_alloc ?_ _) | (with_reducible refine Kd.C_drewN ?_ _) | (with_reducible refine Kd.C_drew ?_))); (case side4 => exact HC1_0.out); rintro e w10 ⟨rfl, hb⟩; refine ⟨_, rfl, ?_⟩; have n0_ := Aside0.mk (blk_below (g := gb281) (o := .cells #[.slice A0_0 l0_0.length c0_0] 62 (0, 0)) (by (with_reducible repeat (first | refine blk_drewN ?_ _ | refine blk_drew ?_ | refine blk_alloc ?_ _)); exact BK281.out) hb); have n1_ := Aside0.mk (blk_below (g := gb282) (o := .cells #[.slice A1_0 l1_0.length c1_0] 62 (0, 0)) (by (with_reducible repeat (first | refine blk_drewN ?_ _ | refine blk_drew ?_ | refine blk_alloc ?_ _)); exact BK282.out) hb); have n2_ := Aside0.mk (below_step (by repeat (first | (with_reducible first | exact HB.out | apply below_alloc | apply pw_below_drewN | apply below_drew1 | refine below_set ?_ GE281.out | refine below_set ?_ GE282.out) | exact HB.out)) hb); clear BK281; clear BK282; clear HB; have BK281 := n0_; have BK282 := n1_; have HB := n2_; clear n0_ n1_ n2_; (try clear hb); (try clear hb2); (try clear hk); (try clear hi)))
    go_ret
    exact ⟨by first | rfl | (simp [errW_none, errW_some] <;> rfl) | (simp [*, errW_none, errW_some] <;> rfl), by repeat (first | (with_reducible first | exact HB.out | apply below_alloc | apply pw_below_drewN | apply below_drew1 | refine below_set ?_ GE281.out | refine below_set ?_ GE282.out) | exact HB.out)⟩
  · replace c4 := Bool.eq_false_iff.mpr c4
    subst c4
    have H1 : (some false) = some r := by rw [if_neg (show ¬ (false = true) by decide)] at H; exact H
    clear H
    have H := H1
    clear H1
    obtain rfl := Option.some.inj H
    go_enter Try.func71, Try.ntmps71
    go_wp2_with (first | ((with_reducible refine gate_dst (N := 2) rfl ?_); refine box_event ?hg (N := 2) ?hd (cs := #[.slice A0_0 l0_0.length c0_0]) (t := 62) ?hr ?_; (case hd => rfl); (case hg => rfl); (case hr => first | (go_simp; done) | (go_simp; rfl)); intro gb281 hg w11 hbox hb; have n0_ := Aside0.mk (below_step (by repeat (first | (with_reducible first | exact HB.out | apply below_alloc | apply pw_below_drewN | apply below_drew1) | exact HB.out)) hb); have n1_ := Aside0.mk (hbox); have n2_ := Aside0.mk ((by rw [hg]; exact (below_size (by repeat (first | (with_reducible first | exact HB.out | apply below_alloc | apply pw_below_drewN | apply below_drew1) | exact HB.out))) : w.heap.size ≤ gb281)); have n3_ := Aside0.mk ((by rw [hg]; exact (below_size (by repeat (first | (with_reducible first | exact HB.out | apply below_alloc | apply pw_below_drewN | apply below_drew1) | exact HB.out))) : w.heap.size ≤ gb281)); clear HB; have HB := n0_; have BK281 := n1_; have GW281 := n2_; have GE281 := n3_; clear n0_ n1_ n2_ n3_; clear hb hbox hg) | ((with_reducible refine gate_dst (N := 3) rfl ?_); refine box_event ?hg (N := 3) ?hd (cs := #[.slice A1_0 l1_0.length c1_0]) (t := 62) ?hr ?_; (case hd => rfl); (case hg => rfl); (case hr => first | (go_simp; done) | (go_simp; rfl)); intro gb282 hg w12 hbox hb; have n0_ := Aside0.mk (blk_below (g := gb281) (o := .cells #[.slice A0_0 l0_0.length c0_0] 62 (0, 0)) (by (with_reducible repeat (first | refine blk_drewN ?_ _ | refine blk_drew ?_ | refine blk_alloc ?_ _)); exact BK281.out) hb); have n1_ := Aside0.mk (below_step (by repeat (first | (with_reducible first | exact HB.out | apply below_alloc | apply pw_below_drewN | apply below_drew1 | refine below_set ?_ GE281.out) | exact HB.out)) hb); have n2_ := Aside0.mk (hbox); have n3_ := Aside0.mk ((by rw [hg]; exact (below_size (by repeat (first | (with_reducible first | exact HB.out | apply below_alloc | apply pw_below_drewN | apply below_drew1 | refine below_set ?_ GE281.out) | exact HB.out))) : w.heap.size ≤ gb282)); have n4_ := Aside0.mk ((by rw [hg]; exact (below_size (by repeat (first | (with_reducible first | exact HB.out | apply below_alloc | apply pw_below_drewN | apply below_drew1 | refine below_set ?_ GE281.out) | exact HB.out))) : w.heap.size ≤ gb282)); have n5_ := Aside0.mk ((by rw [hg]; exact Nat.ne_of_lt (blk_lt (g := gb281) (o := .cells #[.slice A0_0 l0_0.length c0_0] 62 (0, 0)) (by (with_reducible repeat (first | refine blk_drewN ?_ _ | refine blk_drew ?_ | refine blk_alloc ?_ _)); exact BK281.out)) : gb281 ≠ gb282)); have n6_ := Aside0.mk ((by rw [hg]; exact Nat.ne_of_gt (blk_lt (g := gb281) (o := .cells #[.slice A0_0 l0_0.length c0_0] 62 (0, 0)) (by (with_reducible repeat (first | refine blk_drewN ?_ _ | refine blk_drew ?_ | refine blk_alloc ?_ _)); exact BK281.out)) : gb282 ≠ gb281)); clear BK281; clear HB; have BK281 := n0_; have HB := n1_; have BK282 := n2_; have GW282 := n3_; have GE282 := n4_; have NB281_282 := n5_; have NB282_281 := n6_; clear n0_ n1_ n2_ n3_ n4_ n5_ n6_; clear hb hbox hg; have hnb13 := NB281_282.out; have hnc13 := NB282_281.out; have hcz14_0 : w12.cell? ⟨gb281, 0, none⟩ = some (.slice A0_0 l0_0.length c0_0) := (blk_cell BK281.out 0).trans rfl; have hfz14_0 := blk_frozen BK281.out 0; have hcz15_0 : w12.cell? ⟨gb282, 0, none⟩ = some (.slice A1_0 l1_0.length c1_0) := (blk_cell BK282.out 0).trans rfl; have hfz15_0 := blk_frozen BK282.out 0) | ((with_reducible refine gate_callee (f := 83) rfl ?_); refine goesL_ (some 9) rfl rfl Try.func83 (by kernel_rfl) rfl #[.slice A0_0 l0_0.length c0_0, .slice A1_0 l1_0.length c1_0] rfl (by (try simp only [List.map_toArray, List.map_cons, List.map_nil]); first | done | rfl | (simp only [List.length_drop, List.length_take]; rfl)) ?_; (with_reducible refine (laws_eqInstrS.calls k _ _ l0_0 _ _ l1_0 false _ ?side1 ?side2 ?side3 ?side4 A3.out).mono ?_); (case side1 => repeat (first | exact (Kd.C_below HR0_0.out HB.out) | (with_reducible refine Kd.C_alloc ?_ _) | (with_reducible refine Kd.C_drewN ?_ _) | (with_reducible refine Kd.C_drew ?_))); (case side2 => exact HC0_0.out); (case side3 => repeat (first | exact (Kd.C_below HR1_0.out HB.out) | (with_reducible refine Kd.C_alloc ?_ _) | (with_reducible refine Kd.C_drewN ?_ _) | (with_reducible refine Kd.C_drew ?_))); (case side4 => exact HC1_0.out); rintro e w16 ⟨rfl, hb⟩; refine ⟨_, rfl, ?_⟩; have n0_ := Aside0.mk (blk_below (g := gb281) (o := .cells #[.slice A0_0 l0_0.length c0_0] 62 (0, 0)) (by (with_reducible repeat (first | refine blk_drewN ?_ _ | refine blk_drew ?_ | refine blk_alloc ?_ _)); exact BK281.out) hb); have n1_ := Aside0.mk (blk_below (g := gb282) (o := .cells #[.slice A1_0 l1_0.length c1_0] 62 (0, 0)) (by (with_reducible repeat (first | refine blk_drewN ?_ _ | refine blk_drew ?_ | refine blk_alloc ?_ _)); exact BK282.out) hb); have n2_ := Aside0.mk (below_step (by repeat (first | (with_reducible first | exact HB.out | apply below_alloc | apply pw_below_drewN | apply below_drew1 | refine below_set ?_ GE281.out | refine below_set ?_ GE282.out) | exact HB.out)) hb); clear BK281; clear BK282; clear HB; have BK281 := n0_; have BK282 := n1_; have HB := n2_; clear n0_ n1_ n2_; (try clear hb); (try clear hb2); (try clear hk); (try clear hi)))
    go_ret
    exact ⟨by first | rfl | (simp [errW_none, errW_some] <;> rfl) | (simp [*, errW_none, errW_some] <;> rfl), by repeat (first | (with_reducible first | exact HB.out | apply below_alloc | apply pw_below_drewN | apply below_drew1 | refine below_set ?_ GE281.out | refine below_set ?_ GE282.out) | exact HB.out)⟩

end Go.Proofs.Ytoedcnhgobbnfaa.All
