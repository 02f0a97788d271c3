/- Part 2 of the proof of FnExactDisassemble: functions of the translation with what they return, and plain laws of these. Written by programs of this session over the kit's print, and by hand. -/
import Derived.Test.YtkohjiajbdkcbaaDoorProg
import Derived.Test.YtkohjiajbdkcbaaDoorCFnExactDisassembleWApart
import Derived.Test.YtkohjiajbdkcbaaDoorCFnExactDisassembleWArr
import Derived.Test.YtkohjiajbdkcbaaDoorCFnExactDisassembleWFoot
import Derived.Test.YtkohjiajbdkcbaaDoorCFnExactDisassembleWGuard
import Derived.Test.YtkohjiajbdkcbaaDoorCFnExactDisassembleWKept
import Derived.Test.YtkohjiajbdkcbaaDoorCFnExactDisassembleWLast
import Derived.Test.YtkohjiajbdkcbaaDoorCFnExactDisassembleWMore
import Derived.Test.YtkohjiajbdkcbaaDoorCFnExactDisassembleWN
import Derived.Test.YtkohjiajbdkcbaaDoorCFnExactDisassembleWNEv
import Derived.Test.YtkohjiajbdkcbaaDoorCFnExactDisassembleWQPut
import Derived.Test.YtkohjiajbdkcbaaDoorCFnExactDisassembleWRepsOne
import Derived.Test.YtkohjiajbdkcbaaDoorCFnExactDisassembleWShare
import Derived.Test.YtkohjiajbdkcbaaDoorCFnExactDisassembleWTab
import Derived.Test.YtkohjiajbdkcbaaDoorCFnExactDisassembleWWords
import Derived.Test.YtkohjiajbdkcbaaDoorCFnExactDisassembleWZeros
import Derived.Below
import Derived.Deep.Draws
import Derived.Deep.AppendLies
import Derived.Maps.AppendAt
import Derived.OwnWalk
import Derived.Laws.BytesArg
import Derived.Laws.MakeOwn
import Derived.Laws.OwnMore
import Derived.Deep.OwnRows
import Derived.Tactics
import Derived.Lib.ConvBytes
import Derived.Laws.Slices
import Derived.WalkKit
import Derived.KernelRfl
import Derived.RowKit3
import Derived.Deep.LoopGhost
import Derived.Deep.QuietTactic
import Derived.BigQuiet
import Derived.WideLaws
import Derived.Deep.DeepCutAuto
import Derived.Deep.CutBlock
import Derived.Deep.RegionHeld3
import Derived.Laws.Rows
import Derived.Lib.AppendStr
import Derived.ArgAppend
import Derived.Laws.IdiomCopy
import Derived.OrdersHeld
import Derived.Laws.BitsLemmas
import Derived.RowKit
import Derived.Lib.LaidTab
import Derived.Lib.ItoaNum
import Derived.Sort.Grow
import Derived.Lib.ItoaLen
import Derived.Shelf.Strings.Builder1
import Derived.Lib.Builder
import Derived.Shelf.LaysM
import Derived.Shelf.LaysC
import Derived.Shelf.Strconv.Itoa4
import Derived.Shelf.Strconv.Itoa3
import Derived.Shelf.Strconv.Itoa1
import Derived.Laws.BitsAllLaws
import Derived.Lib.ParseIntBCases
import Derived.Deep.Slices
import Derived.ChangeArms
import Derived.OpenShut
import Derived.Stop.LaidErr
import Derived.LaidMore
import Derived.ProofKit
import Derived.ShutString
import Derived.ChangeOld
import Derived.SizedLaws
import Derived.Deep.DeepHandedRow
import Derived.Deep.DeepWitnessRowRef
import Derived.SevenTiedAt
import Derived.Test.YtkohjiajbdkcbaaDoorCFnExactDisassemble1
namespace Go.Proofs.YtkohjiajbdkcbaaDoor.All
open Go.RowKit Go.Proofs.YtkohjiajbdkcbaaDoorW.PrintWords Go.Proofs.YtkohjiajbdkcbaaDoorW.PrintLast Go.Proofs.YtkohjiajbdkcbaaDoorW.PrintMore
attribute [local go_sem] max2_int min2_int max_two min_two max_three min_three max_four min_four   -- for this text's walks alone
set_option linter.unusedVariables false
set_option linter.unusedSimpArgs false

/-! ### spec_Disassemble: function 25 -/
mutual
def spec_Disassemble.l0 : Nat → List Int → Int → List Int → List Int → Int → List Int → Int → List (S109) → Option (ByteArray)
 | 0, _, _, _, _, _, _, _, _ => none
 | k + 1, x3, x4, x264000, x264001, x264002, x264003, x264004, x264005 => if x4 < (wrap64 ((x264000.length : Int) / 8)) then (spec_Disassemble.l1 k x3 x4 0 x264000 x264001 x264002 x264003 x264004 x264005) else (some (strOfNums x3))
def spec_Disassemble.l1 : Nat → List Int → Int → Int → List Int → List Int → Int → List Int → Int → List (S109) → Option (ByteArray)
 | 0, _, _, _, _, _, _, _, _, _ => none
 | k + 1, x3, x4, x5, x264000, x264001, x264002, x264003, x264004, x264005 => if x5 < (x264005.length : Int) then (if 0 ≤ x5 then (if (rd_T109 x264005 x5).f1 = true then (if ((rd_T109 x264005 x5).f2) = x4 then (if ((rd_T109 x264005 x5).f0).size + 2 ≤ 9223372036854775807 then (if x3.length + (((rd_T109 x264005 x5).f0) ++ (⟨#[58, 10]⟩ : ByteArray)).size < 140737488355328 then (spec_Disassemble.l1 k (x3 ++ bytesOf (((rd_T109 x264005 x5).f0) ++ (⟨#[58, 10]⟩ : ByteArray))) x4 (wrap64 (x5 + 1)) x264000 x264001 x264002 x264003 x264004 x264005) else (none)) else (none)) else (spec_Disassemble.l1 k x3 x4 (wrap64 (x5 + 1)) x264000 x264001 x264002 x264003 x264004 x264005)) else (spec_Disassemble.l1 k x3 x4 (wrap64 (x5 + 1)) x264000 x264001 x264002 x264003 x264004 x264005)) else (none)) else (if 0 ≤ (wrap64 (8 * x4)) then (if (wrap64 (8 * x4)) ≤ (wrap64 ((wrap64 (8 * x4)) + 8)) then (if (wrap64 ((wrap64 (8 * x4)) + 8)) ≤ (x264000.length : Int) then ((spec_l16Decode.f k ((x264000.take ((wrap64 ((wrap64 (8 * x4)) + 8)) : Int).toNat).drop ((wrap64 (8 * x4)) : Int).toNat)).bind fun bt275 => ((spec_l3Int.f k x4).bind fun t281 => (if t281.size + 1 ≤ 9223372036854775807 then ((spec_l3Int.f k bt275.1).bind fun t282 => (if (t281 ++ (⟨#[32]⟩ : ByteArray)).size + t282.size ≤ 9223372036854775807 then (if ((t281 ++ (⟨#[32]⟩ : ByteArray)) ++ t282).size + 1 ≤ 9223372036854775807 then ((spec_l3Int.f k bt275.2.1).bind fun t283 => (if (((t281 ++ (⟨#[32]⟩ : ByteArray)) ++ t282) ++ (⟨#[32]⟩ : ByteArray)).size + t283.size ≤ 9223372036854775807 then (if ((((t281 ++ (⟨#[32]⟩ : ByteArray)) ++ t282) ++ (⟨#[32]⟩ : ByteArray)) ++ t283).size + 1 ≤ 9223372036854775807 then ((spec_l3Int.f k bt275.2.2.1).bind fun t284 => (if (((((t281 ++ (⟨#[32]⟩ : ByteArray)) ++ t282) ++ (⟨#[32]⟩ : ByteArray)) ++ t283) ++ (⟨#[32]⟩ : ByteArray)).size + t284.size ≤ 9223372036854775807 then (if ((((((t281 ++ (⟨#[32]⟩ : ByteArray)) ++ t282) ++ (⟨#[32]⟩ : ByteArray)) ++ t283) ++ (⟨#[32]⟩ : ByteArray)) ++ t284).size + 1 ≤ 9223372036854775807 then ((spec_l3Int.f k bt275.2.2.2.1).bind fun t285 => (if (((((((t281 ++ (⟨#[32]⟩ : ByteArray)) ++ t282) ++ (⟨#[32]⟩ : ByteArray)) ++ t283) ++ (⟨#[32]⟩ : ByteArray)) ++ t284) ++ (⟨#[32]⟩ : ByteArray)).size + t285.size ≤ 9223372036854775807 then (if ((((((((t281 ++ (⟨#[32]⟩ : ByteArray)) ++ t282) ++ (⟨#[32]⟩ : ByteArray)) ++ t283) ++ (⟨#[32]⟩ : ByteArray)) ++ t284) ++ (⟨#[32]⟩ : ByteArray)) ++ t285).size + 1 ≤ 9223372036854775807 then ((spec_l3Int.f k bt275.2.2.2.2).bind fun t286 => (if (((((((((t281 ++ (⟨#[32]⟩ : ByteArray)) ++ t282) ++ (⟨#[32]⟩ : ByteArray)) ++ t283) ++ (⟨#[32]⟩ : ByteArray)) ++ t284) ++ (⟨#[32]⟩ : ByteArray)) ++ t285) ++ (⟨#[32]⟩ : ByteArray)).size + t286.size ≤ 9223372036854775807 then (if ((((((((((t281 ++ (⟨#[32]⟩ : ByteArray)) ++ t282) ++ (⟨#[32]⟩ : ByteArray)) ++ t283) ++ (⟨#[32]⟩ : ByteArray)) ++ t284) ++ (⟨#[32]⟩ : ByteArray)) ++ t285) ++ (⟨#[32]⟩ : ByteArray)) ++ t286).size + 1 ≤ 9223372036854775807 then (if x3.length + (((((((((((t281 ++ (⟨#[32]⟩ : ByteArray)) ++ t282) ++ (⟨#[32]⟩ : ByteArray)) ++ t283) ++ (⟨#[32]⟩ : ByteArray)) ++ t284) ++ (⟨#[32]⟩ : ByteArray)) ++ t285) ++ (⟨#[32]⟩ : ByteArray)) ++ t286) ++ (⟨#[10]⟩ : ByteArray)).size < 140737488355328 then (spec_Disassemble.l0 k (x3 ++ bytesOf (((((((((((t281 ++ (⟨#[32]⟩ : ByteArray)) ++ t282) ++ (⟨#[32]⟩ : ByteArray)) ++ t283) ++ (⟨#[32]⟩ : ByteArray)) ++ t284) ++ (⟨#[32]⟩ : ByteArray)) ++ t285) ++ (⟨#[32]⟩ : ByteArray)) ++ t286) ++ (⟨#[10]⟩ : ByteArray))) (wrap64 (x4 + 1)) x264000 x264001 x264002 x264003 x264004 x264005) else (none)) else (none)) else (none))) else (none)) else (none))) else (none)) else (none))) else (none)) else (none))) else (none)) else (none))) else (none)))) else (none)) else (none)) else (none))
end
def spec_Disassemble.f (k : Nat) (l0_0 : List Int) (l0_1 : List Int) (a0_2 : Int) (l0_3 : List Int) (a0_4 : Int) (l0_5 : List (S109)) : Option (ByteArray) := (spec_ImageFault.f k l0_0 l0_1 a0_2 l0_3 a0_4 l0_5).bind fun t264 => (if t264 = 0 then (spec_Disassemble.l0 k (([] : List Int)) 0 l0_0 l0_1 a0_2 l0_3 a0_4 l0_5) else (some (⟨#[]⟩ : ByteArray)))
def spec_Disassemble.T13 : Bool × List (List Nat × List Nat) := (true, [([], []), ([], []), ([1], [1]), ([2], [2]), ([], []), ([4], [4]), ([5, 2], [5]), ([3, 6], [3, 6]), ([7], [7]), ([], []), ([9], [9]), ([10, 6], [10]), ([8, 11], [8, 11]), ([12], [12]), ([], []), ([14], [14]), ([15, 11], [15]), ([13, 16], [13, 16]), ([17], [17]), ([], []), ([19], [19]), ([20, 16], [20]), ([18, 21], [18, 21]), ([22], [22]), ([], []), ([24], [24]), ([25, 21], [25]), ([23, 26], [23, 26]), ([27], [27]), ([0, 28, 26], [0, 28]), ([29, 29, 0, 1, 2, 3, 4, 5, 6, 7, 8, 9, 10, 11, 12, 13, 14, 15, 16, 17, 18, 19, 20, 21, 22, 23, 24, 25, 26, 27, 28, 29], [0, 29])])
def spec_Disassemble.B13 : List Nat := [0, 0, 2, 6, 0, 16, 54, 126, 254, 0, 512, 1654, 4094, 8190, 0, 16384, 52854, 131070, 262142, 0, 524288, 1691254, 4194302, 8388606, 0, 16777216, 54120054, 134217726, 268435454, 536870911, 1073741823]
theorem spec_Disassemble.tab13 : rtab .any (opsOf Tryd.f25 13) = spec_Disassemble.T13 := by kernel_rfl
theorem spec_Disassemble.bits13 : waitsOk spec_Disassemble.T13.2 spec_Disassemble.B13 = true := by kernel_rfl
set_option maxHeartbeats 8000000 in
set_option maxRecDepth 100000 in
theorem spec_Disassemble.calls (k : Nat) (A0_0 : Option Addr) (c0_0 : Nat) (l0_0 : List Int) (A0_1 : Option Addr) (c0_1 : Nat) (l0_1 : List Int) (a0_2 : Int) (A0_3 : Option Addr) (c0_3 : Nat) (l0_3 : List Int) (a0_4 : Int) (A0_5 : Option Addr) (c0_5 : Nat) (l0_5 : List (S109)) (r : ByteArray) (w : World) (hr0_0 : Kd.C (Kd.int .u8) w A0_0 l0_0.length l0_0) (hc0_0 : l0_0.length ≤ c0_0) (hr0_1 : Kd.C (Kd.int .u8) w A0_1 l0_1.length l0_1) (hc0_1 : l0_1.length ≤ c0_1) (hr0_3 : Kd.C (Kd.int .i64) w A0_3 l0_3.length l0_3) (hc0_3 : l0_3.length ≤ c0_3) (hr0_5 : Kd.C k109 w A0_5 l0_5.length l0_5) (hc0_5 : l0_5.length ≤ c0_5) (h : spec_Disassemble.f k l0_0 l0_1 a0_2 l0_3 a0_4 l0_5 = some r) :
 Calls Tryd.prog 25 #[.agg #[.slice A0_0 l0_0.length c0_0, .slice A0_1 l0_1.length c0_1, .int .i64 a0_2, .slice A0_3 l0_3.length c0_3, .int .i64 a0_4, .slice A0_5 l0_5.length c0_5]] w fun e w' => e = .returned (.string r) ∧ Below w.heap.size w w' := by
 have hu60 := Tryd.underlying60
 have hu111 := Tryd.underlying111
 have HR0_0 := Aside0.mk hr0_0
 have HC0_0 := Aside0.mk hc0_0
 clear hr0_0 hc0_0
 have HR0_1 := Aside0.mk hr0_1
 have HC0_1 := Aside0.mk hc0_1
 clear hr0_1 hc0_1
 have HR0_3 := Aside0.mk hr0_3
 have HC0_3 := Aside0.mk hc0_3
 clear hr0_3 hc0_3
 have HR0_5 := Aside0.mk hr0_5
 have HC0_5 := Aside0.mk hc0_5
 clear hr0_5 hc0_5
 have HB := Aside0.mk (Below.refl w.heap.size w)
 have H : ((spec_ImageFault.f k l0_0 l0_1 a0_2 l0_3 a0_4 l0_5).bind fun t264 => (if t264 = 0 then (spec_Disassemble.l0 k (([] : List Int)) 0 l0_0 l0_1 a0_2 l0_3 a0_4 l0_5) else (some (⟨#[]⟩ : ByteArray)))) = some r := h
 clear h
 replace H := Option.bind_eq_some_iff.mp H
 obtain ⟨t264, A20, H⟩ := H
 replace H : (if t264 = 0 then (spec_Disassemble.l0 k (([] : List Int)) 0 l0_0 l0_1 a0_2 l0_3 a0_4 l0_5) else (some (⟨#[]⟩ : ByteArray))) = some r := H
 have A2 := Aside0.mk A20
 clear A20
 by_cases c3 : t264 = 0
 · rw [if_pos c3] at H
   have c3b0 : (t264 == 0) = true := beq_iff_eq.mpr c3
   have c3b1 : (t264 != 0) = false := bne_eq_false_iff_eq.mpr c3
   clear c3
   obtain ⟨y265, hy265⟩ : ∃ y_ : List Int, y_ = (([] : List Int)) := ⟨_, rfl⟩
   replace H : (spec_Disassemble.l0 k y265 0 l0_0 l0_1 a0_2 l0_3 a0_4 l0_5) = some r := by first | (rw [hy265]; with_reducible exact H) | (have H2_ := (Option.bind_some _ _).symm.trans H; rw [hy265]; with_reducible exact H2_) | (have H2_ := (Option.bind_some _ _).symm.trans H; with_reducible exact H2_) | with_reducible exact H | (rw [hy265]; exact H) | exact H
   have Ny265 := Aside0.mk hy265
   clear hy265
   have H' := Aside0.mk H
   clear H
   go_enter Tryd.func25, Tryd.ntmps25
   go_wp2_with (first | ((with_reducible refine gate_dst (N := 1) rfl ?_); refine box_event ?hg (N := 1) ?hd (cs := #[.slice A0_0 l0_0.length c0_0, .slice A0_1 l0_1.length c0_1, .int .i64 a0_2, .slice A0_3 l0_3.length c0_3, .int .i64 a0_4, .slice A0_5 l0_5.length c0_5]) (t := 60) ?hr ?_; (case hd => rfl); (case hg => rfl); (case hr => first | (go_simp; done) | (go_simp; rfl)); intro gb263 hg w4 hbox hb; have n0_ := Aside0.mk (below_step (by repeat (first | (with_reducible first | exact HB.out | apply below_alloc | apply pw_below_drewN | apply below_drew1) | exact HB.out)) hb); have n1_ := Aside0.mk (hbox); have n2_ := Aside0.mk ((by rw [hg]; exact (below_size (by repeat (first | (with_reducible first | exact HB.out | apply below_alloc | apply pw_below_drewN | apply below_drew1) | exact HB.out))) : w.heap.size ≤ gb263)); have n3_ := Aside0.mk ((by rw [hg]; exact (below_size (by repeat (first | (with_reducible first | exact HB.out | apply below_alloc | apply pw_below_drewN | apply below_drew1) | exact HB.out))) : w.heap.size ≤ gb263)); clear HB; have HB := n0_; have BK263 := n1_; have GW263 := n2_; have GE263 := n3_; clear n0_ n1_ n2_ n3_; clear hb hbox hg; have hcz5_0 : w4.cell? ⟨gb263, 0, none⟩ = some (.slice A0_0 l0_0.length c0_0) := (blk_cell BK263.out 0).trans rfl; have hcz5_1 : w4.cell? ⟨gb263, 1, none⟩ = some (.slice A0_1 l0_1.length c0_1) := (blk_cell BK263.out 1).trans rfl; have hcz5_2 : w4.cell? ⟨gb263, 2, none⟩ = some (.int .i64 a0_2) := (blk_cell BK263.out 2).trans rfl; have hcz5_3 : w4.cell? ⟨gb263, 3, none⟩ = some (.slice A0_3 l0_3.length c0_3) := (blk_cell BK263.out 3).trans rfl; have hcz5_4 : w4.cell? ⟨gb263, 4, none⟩ = some (.int .i64 a0_4) := (blk_cell BK263.out 4).trans rfl; have hcz5_5 : w4.cell? ⟨gb263, 5, none⟩ = some (.slice A0_5 l0_5.length c0_5) := (blk_cell BK263.out 5).trans rfl; have hfz5_0 := blk_frozen BK263.out 0; have hfz5_1 := blk_frozen BK263.out 1; have hfz5_2 := blk_frozen BK263.out 2; have hfz5_3 := blk_frozen BK263.out 3; have hfz5_4 := blk_frozen BK263.out 4; have hfz5_5 := blk_frozen BK263.out 5) | ((with_reducible refine gate_callee (f := 58) rfl ?_); refine goesL_ (some 8) rfl rfl Tryd.func58 (by kernel_rfl) rfl #[.agg #[.slice A0_0 l0_0.length c0_0, .slice A0_1 l0_1.length c0_1, .int .i64 a0_2, .slice A0_3 l0_3.length c0_3, .int .i64 a0_4, .slice A0_5 l0_5.length c0_5]] rfl (by (try simp only [List.map_toArray, List.map_cons, List.map_nil]); first | done | rfl | (simp only [List.length_drop, List.length_take]; rfl)) ?_; (with_reducible refine (spec_ImageFault.calls k _ _ l0_0 _ _ l0_1 a0_2 _ _ l0_3 a0_4 _ _ l0_5 t264 _ ?side1 ?side2 ?side3 ?side4 ?side5 ?side6 ?side7 ?side8 A2.out).mono ?_); (case side1 => repeat (first | exact (Kd.C_below HR0_0.out HB.out) | (with_reducible refine Kd.C_alloc ?_ _) | (with_reducible refine Kd.C_drewN ?_ _) | (with_reducible refine Kd.C_drew ?_))); (case side2 => exact HC0_0.out); (case side3 => repeat (first | exact (Kd.C_below HR0_1.out HB.out) | (with_reducible refine Kd.C_alloc ?_ _) | (with_reducible refine Kd.C_drewN ?_ _) | (with_reducible refine Kd.C_drew ?_))); (case side4 => exact HC0_1.out); (case side5 => repeat (first | exact (Kd.C_below HR0_3.out HB.out) | (with_reducible refine Kd.C_alloc ?_ _) | (with_reducible refine Kd.C_drewN ?_ _) | (with_reducible refine Kd.C_drew ?_))); (case side6 => exact HC0_3.out); (case side7 => repeat (first | exact (Kd.C_below HR0_5.out HB.out) | (with_reducible refine Kd.C_alloc ?_ _) | (with_reducible refine Kd.C_drewN ?_ _) | (with_reducible refine Kd.C_drew ?_))); (case side8 => exact HC0_5.out); rintro e w6 ⟨rfl, hb⟩; refine ⟨_, rfl, ?_⟩; have n0_ := Aside0.mk (blk_below (g := gb263) (o := .cells #[.slice A0_0 l0_0.length c0_0, .slice A0_1 l0_1.length c0_1, .int .i64 a0_2, .slice A0_3 l0_3.length c0_3, .int .i64 a0_4, .slice A0_5 l0_5.length c0_5] 60 (0, 0)) (by (with_reducible repeat (first | refine blk_drewN ?_ _ | refine blk_drew ?_ | refine blk_alloc ?_ _)); exact BK263.out) hb); have n1_ := Aside0.mk (below_step (by repeat (first | (with_reducible first | exact HB.out | apply below_alloc | apply pw_below_drewN | apply below_drew1 | refine below_set ?_ GE263.out) | exact HB.out)) hb); clear BK263; clear HB; have BK263 := n0_; have HB := n1_; clear n0_ n1_; (try clear hb); (try clear hb2); (try clear hk); (try clear hi)) | ((with_reducible refine gate_dst (N := 10) rfl ?_); refine Kd.R_lit (Kd.int .u8) _ 5 ?hg (N := 10) ?hd (xs := ([] : List Int)) (inner := []) (ok := fun _ => True) (okp := fun _ => True) ?hr ?hp (fun _ hk => hk) trivial (Below.refl _ _) (Nat.le_refl _) (by simp) ?_; (case hd => rfl); (case hg => rfl); (case hr => first | (go_simp; done) | (go_simp; rfl)); (case hp => exact (Reps.none _ _)); intro v266 w7 ho8 hb hg_ hnew_; clear hg_ hnew_; (first | rw [← Ny265.out] at ho8 | (simp only [Int.reduceToNat] at ho8; rw [← Ny265.out] at ho8)); have n0_ := Aside0.mk (Kd.R_lower ho8 (below_size (by repeat (first | (with_reducible first | exact HB.out | apply below_alloc | apply pw_below_drewN | apply below_drew1 | refine below_set ?_ GE263.out) | exact HB.out)))); have n1_ := Aside0.mk (blk_below (g := gb263) (o := .cells #[.slice A0_0 l0_0.length c0_0, .slice A0_1 l0_1.length c0_1, .int .i64 a0_2, .slice A0_3 l0_3.length c0_3, .int .i64 a0_4, .slice A0_5 l0_5.length c0_5] 60 (0, 0)) (by (with_reducible repeat (first | refine blk_drewN ?_ _ | refine blk_drew ?_ | refine blk_alloc ?_ _)); exact BK263.out) hb); have n2_ := Aside0.mk (below_step (by repeat (first | (with_reducible first | exact HB.out | apply below_alloc | apply pw_below_drewN | apply below_drew1 | refine below_set ?_ GE263.out) | exact HB.out)) hb); clear BK263; clear HB; have HO267 := n0_; have BK263 := n1_; have HB := n2_; clear n0_ n1_ n2_; clear hb ho8))
   go_loopg [3, 4] k (fun kq v3 v4 w' => ∃ (x3_1 : List Int) (x4_1 : Int), v4 = .int .i64 x4_1 ∧ Aside0 (spec_Disassemble.l0 kq x3_1 x4_1 l0_0 l0_1 a0_2 l0_3 a0_4 l0_5 = some r) ∧ Aside0 (kq ≤ k) ∧ Aside0 (Kd.R (Kd.int .u8) 5 w' w.heap.size (fun _ => True) v3 x3_1) ∧ Aside0 (w'.heap[gb263]? = some (.cells #[(.slice A0_0 l0_0.length c0_0), (.slice A0_1 l0_1.length c0_1), .int .i64 a0_2, (.slice A0_3 l0_3.length c0_3), .int .i64 a0_4, (.slice A0_5 l0_5.length c0_5)] 60 (0, 0))) ∧ Aside0 (Below w.heap.size w w'))
   case atStart => exact ⟨(y265), (0), (by first | rfl | (simp; done) | (simp [*]; done)), H', ⟨Nat.le_refl _⟩, ⟨by (with_reducible repeat (first | apply Kd.R_alloc | apply Kd.R_drewN | apply Kd.R_drew)); exact HO267.out⟩, ⟨by (with_reducible repeat (first | refine blk_drewN ?_ _ | refine blk_drew ?_ | refine blk_alloc ?_ _)); exact BK263.out⟩, ⟨by repeat (first | (with_reducible first | exact HB.out | apply below_alloc | apply pw_below_drewN | apply below_drew1 | refine below_set ?_ GE263.out) | exact HB.out)⟩⟩
   case round =>
    clear H'
    try clear c2
    try clear p2
    try clear c3
    try clear c3b0
    try clear c3b1
    try clear c5
    try clear hcz5_0
    try clear hcz5_1
    try clear hcz5_2
    try clear hcz5_3
    try clear hcz5_4
    try clear hcz5_5
    try clear hfz5_0
    try clear hfz5_1
    try clear hfz5_2
    try clear hfz5_3
    try clear hfz5_4
    try clear hfz5_5
    obtain ⟨x3_1, x4_1, rfl, HA, HK1, HO_3, BK263, HB⟩ := hrel
    cases gk with
    | zero => exact absurd HA.out (by simp [spec_Disassemble.l0])
    | succ k1 =>
     have H := HA.out
     clear HA
     simp only [spec_Disassemble.l0] at H
     by_cases c9 : x4_1 < (wrap64 ((l0_0.length : Int) / 8))
     · rw [if_pos c9] at H
       have c9b0 : decide (x4_1 < (wrap64 ((l0_0.length : Int) / 8))) = true := decide_eq_true c9
       clear c9
       have H' := Aside0.mk H
       clear H
       have hcz10_0 : wr.cell? ⟨gb263, 0, none⟩ = some (.slice A0_0 l0_0.length c0_0) := (blk_cell BK263.out 0).trans rfl
       have hcz10_1 : wr.cell? ⟨gb263, 1, none⟩ = some (.slice A0_1 l0_1.length c0_1) := (blk_cell BK263.out 1).trans rfl
       have hcz10_2 : wr.cell? ⟨gb263, 2, none⟩ = some (.int .i64 a0_2) := (blk_cell BK263.out 2).trans rfl
       have hcz10_3 : wr.cell? ⟨gb263, 3, none⟩ = some (.slice A0_3 l0_3.length c0_3) := (blk_cell BK263.out 3).trans rfl
       have hcz10_4 : wr.cell? ⟨gb263, 4, none⟩ = some (.int .i64 a0_4) := (blk_cell BK263.out 4).trans rfl
       have hcz10_5 : wr.cell? ⟨gb263, 5, none⟩ = some (.slice A0_5 l0_5.length c0_5) := (blk_cell BK263.out 5).trans rfl
       have hfz10_0 := blk_frozen BK263.out 0
       have hfz10_1 := blk_frozen BK263.out 1
       have hfz10_2 := blk_frozen BK263.out 2
       have hfz10_3 := blk_frozen BK263.out 3
       have hfz10_4 := blk_frozen BK263.out 4
       have hfz10_5 := blk_frozen BK263.out 5
       go_wp2
       go_loopg [3, 5] k1 (fun kq v3 v5 w' => ∃ (x3_2 : List Int) (x5_2 : Int), v5 = .int .i64 x5_2 ∧ Aside0 (spec_Disassemble.l1 kq x3_2 x4_1 x5_2 l0_0 l0_1 a0_2 l0_3 a0_4 l0_5 = some r) ∧ Aside0 (kq ≤ k1) ∧ Aside0 (Kd.R (Kd.int .u8) 5 w' w.heap.size (fun _ => True) v3 x3_2) ∧ Aside0 (w'.heap[gb263]? = some (.cells #[(.slice A0_0 l0_0.length c0_0), (.slice A0_1 l0_1.length c0_1), .int .i64 a0_2, (.slice A0_3 l0_3.length c0_3), .int .i64 a0_4, (.slice A0_5 l0_5.length c0_5)] 60 (0, 0))) ∧ Aside0 (Below w.heap.size w w'))
       case atStart => exact ⟨(x3_1), (0), (by first | rfl | (simp; done) | (simp [*]; done)), H', ⟨Nat.le_refl _⟩, ⟨by (with_reducible repeat (first | apply Kd.R_alloc | apply Kd.R_drewN | apply Kd.R_drew)); exact HO_3.out⟩, ⟨by (with_reducible repeat (first | refine blk_drewN ?_ _ | refine blk_drew ?_ | refine blk_alloc ?_ _)); exact BK263.out⟩, ⟨by repeat (first | (with_reducible first | exact HB.out | apply below_alloc | apply pw_below_drewN | apply below_drew1 | refine below_set ?_ GE263.out) | exact HB.out)⟩⟩
       case round =>
        clear H'
        try clear c2
        try clear p2
        try clear c3
        try clear c3b0
        try clear c3b1
        try clear c5
        try clear p6
        try clear c9
        try clear c9b0
        try clear hcz10_0
        try clear hcz10_1
        try clear hcz10_2
        try clear hcz10_3
        try clear hcz10_4
        try clear hcz10_5
        try clear hcz5_0
        try clear hcz5_1
        try clear hcz5_2
        try clear hcz5_3
        try clear hcz5_4
        try clear hcz5_5
        try clear hfz10_0
        try clear hfz10_1
        try clear hfz10_2
        try clear hfz10_3
        try clear hfz10_4
        try clear hfz10_5
        try clear hfz5_0
        try clear hfz5_1
        try clear hfz5_2
        try clear hfz5_3
        try clear hfz5_4
        try clear hfz5_5
        try clear p2
        obtain ⟨x3_2, x5_2, rfl, HA, HK2, HO_3, BK263, HB⟩ := hrel
        cases gk with
        | zero => exact absurd HA.out (by simp [spec_Disassemble.l1])
        | succ k2 =>
         have H := HA.out
         clear HA
         simp only [spec_Disassemble.l1] at H
         by_cases c11 : x5_2 < (l0_5.length : Int)
         · rw [if_pos c11] at H
           have c11b0 : decide (x5_2 < (l0_5.length : Int)) = true := decide_eq_true c11
           clear c11
           by_cases c12 : 0 ≤ x5_2
           · rw [if_pos c12] at H
             have c12b0 : decide (0 ≤ x5_2) = true := decide_eq_true c12
             clear c12
             obtain ⟨bq13, hbq13⟩ : ∃ b_ : Bool, b_ = ((rd_T109 l0_5 x5_2).f1) := ⟨_, rfl⟩
             replace H : (if bq13 = true then (if ((rd_T109 l0_5 x5_2).f2) = x4_1 then (if ((rd_T109 l0_5 x5_2).f0).size + 2 ≤ 9223372036854775807 then (if x3_2.length + (((rd_T109 l0_5 x5_2).f0) ++ (⟨#[58, 10]⟩ : ByteArray)).size < 140737488355328 then (spec_Disassemble.l1 k2 (x3_2 ++ bytesOf (((rd_T109 l0_5 x5_2).f0) ++ (⟨#[58, 10]⟩ : ByteArray))) x4_1 (wrap64 (x5_2 + 1)) l0_0 l0_1 a0_2 l0_3 a0_4 l0_5) else (none)) else (none)) else (spec_Disassemble.l1 k2 x3_2 x4_1 (wrap64 (x5_2 + 1)) l0_0 l0_1 a0_2 l0_3 a0_4 l0_5)) else (spec_Disassemble.l1 k2 x3_2 x4_1 (wrap64 (x5_2 + 1)) l0_0 l0_1 a0_2 l0_3 a0_4 l0_5)) = some r := by rw [← hbq13] at H; exact H
             have Nbq13 := Aside0.mk hbq13
             clear hbq13
             by_cases c14 : bq13 = true
             · subst c14
               have H1 : (if ((rd_T109 l0_5 x5_2).f2) = x4_1 then (if ((rd_T109 l0_5 x5_2).f0).size + 2 ≤ 9223372036854775807 then (if x3_2.length + (((rd_T109 l0_5 x5_2).f0) ++ (⟨#[58, 10]⟩ : ByteArray)).size < 140737488355328 then (spec_Disassemble.l1 k2 (x3_2 ++ bytesOf (((rd_T109 l0_5 x5_2).f0) ++ (⟨#[58, 10]⟩ : ByteArray))) x4_1 (wrap64 (x5_2 + 1)) l0_0 l0_1 a0_2 l0_3 a0_4 l0_5) else (none)) else (none)) else (spec_Disassemble.l1 k2 x3_2 x4_1 (wrap64 (x5_2 + 1)) l0_0 l0_1 a0_2 l0_3 a0_4 l0_5)) = some r := by rw [if_pos rfl] at H; exact H
               clear H
               have H := H1
               clear H1
               by_cases c15 : ((rd_T109 l0_5 x5_2).f2) = x4_1
               · rw [if_pos c15] at H
                 have c15b0 : (((rd_T109 l0_5 x5_2).f2) == x4_1) = true := beq_iff_eq.mpr c15
                 have c15b1 : (((rd_T109 l0_5 x5_2).f2) != x4_1) = false := bne_eq_false_iff_eq.mpr c15
                 clear c15
                 by_cases c16 : ((rd_T109 l0_5 x5_2).f0).size + 2 ≤ 9223372036854775807
                 · rw [if_pos c16] at H
                   have c16b0 := eq_true c16
                   have c16b1 : decide (((rd_T109 l0_5 x5_2).f0).size + 2 ≤ 9223372036854775807) = true := decide_eq_true c16
                   try have c16b2 : (9223372036854775807 < ((rd_T109 l0_5 x5_2).f0).size + 2) = False := eq_false (Nat.not_lt.2 c16)
                   by_cases c17 : x3_2.length + (((rd_T109 l0_5 x5_2).f0) ++ (⟨#[58, 10]⟩ : ByteArray)).size < 140737488355328
                   · rw [if_pos c17] at H
                     have LMc17 := Aside0.mk c17
                     clear c17
                     obtain ⟨y271, hy271⟩ : ∃ y_ : List Int, y_ = (x3_2 ++ bytesOf (((rd_T109 l0_5 x5_2).f0) ++ (⟨#[58, 10]⟩ : ByteArray))) := ⟨_, rfl⟩
                     replace H : (spec_Disassemble.l1 k2 y271 x4_1 (wrap64 (x5_2 + 1)) l0_0 l0_1 a0_2 l0_3 a0_4 l0_5) = some r := by first | (rw [hy271]; with_reducible exact H) | (have H2_ := (Option.bind_some _ _).symm.trans H; rw [hy271]; with_reducible exact H2_) | (have H2_ := (Option.bind_some _ _).symm.trans H; with_reducible exact H2_) | with_reducible exact H | (rw [hy271]; exact H) | exact H
                     have Ny271 := Aside0.mk hy271
                     clear hy271
                     have H' := Aside0.mk H
                     clear H
                     have hcz18_0 : wr.cell? ⟨gb263, 0, none⟩ = some (.slice A0_0 l0_0.length c0_0) := (blk_cell BK263.out 0).trans rfl
                     have hcz18_1 : wr.cell? ⟨gb263, 1, none⟩ = some (.slice A0_1 l0_1.length c0_1) := (blk_cell BK263.out 1).trans rfl
                     have hcz18_2 : wr.cell? ⟨gb263, 2, none⟩ = some (.int .i64 a0_2) := (blk_cell BK263.out 2).trans rfl
                     have hcz18_3 : wr.cell? ⟨gb263, 3, none⟩ = some (.slice A0_3 l0_3.length c0_3) := (blk_cell BK263.out 3).trans rfl
                     have hcz18_4 : wr.cell? ⟨gb263, 4, none⟩ = some (.int .i64 a0_4) := (blk_cell BK263.out 4).trans rfl
                     have hcz18_5 : wr.cell? ⟨gb263, 5, none⟩ = some (.slice A0_5 l0_5.length c0_5) := (blk_cell BK263.out 5).trans rfl
                     have hfz18_0 := blk_frozen BK263.out 0
                     have hfz18_1 := blk_frozen BK263.out 1
                     have hfz18_2 := blk_frozen BK263.out 2
                     have hfz18_3 := blk_frozen BK263.out 3
                     have hfz18_4 := blk_frozen BK263.out 4
                     have hfz18_5 := blk_frozen BK263.out 5
                     have p268 : 0 ≤ (x5_2 : Int) := of_decide_eq_true (by first | (with_reducible assumption) | assumption)
                     have q268 : x5_2 < (l0_5.length : Int) := of_decide_eq_true (by first | (with_reducible assumption) | assumption)
                     obtain ⟨ad268, e268, hx268_0, hx268_1, hx268_2⟩ := at_T109 HR0_5.out x5_2 p268 q268
                     (try rw [← Nbq13.out] at hx268_1)
                     cases e268
                     replace hx268_0 := (HB.out.cell (World.block_lt_of_cell? w _ hx268_0)).trans hx268_0
                     replace hx268_1 := (HB.out.cell (World.block_lt_of_cell? w _ hx268_1)).trans hx268_1
                     replace hx268_2 := (HB.out.cell (World.block_lt_of_cell? w _ hx268_2)).trans hx268_2
                     replace p268 := eq_true p268
                     replace q268 := eq_true q268
                     have p269 : 0 ≤ (x5_2 : Int) := of_decide_eq_true (by first | (with_reducible assumption) | assumption)
                     have q269 : x5_2 < (l0_5.length : Int) := of_decide_eq_true (by first | (with_reducible assumption) | assumption)
                     obtain ⟨ad269, e269, hx269_0, hx269_1, hx269_2⟩ := at_T109 HR0_5.out x5_2 p269 q269
                     (try rw [← Nbq13.out] at hx269_1)
                     obtain rfl : ad268 = ad269 := (by injection e269)
                     replace hx269_0 := (HB.out.cell (World.block_lt_of_cell? w _ hx269_0)).trans hx269_0
                     replace hx269_1 := (HB.out.cell (World.block_lt_of_cell? w _ hx269_1)).trans hx269_1
                     replace hx269_2 := (HB.out.cell (World.block_lt_of_cell? w _ hx269_2)).trans hx269_2
                     replace p269 := eq_true p269
                     replace q269 := eq_true q269
                     have p270 : 0 ≤ (x5_2 : Int) := of_decide_eq_true (by first | (with_reducible assumption) | assumption)
                     have q270 : x5_2 < (l0_5.length : Int) := of_decide_eq_true (by first | (with_reducible assumption) | assumption)
                     obtain ⟨ad270, e270, hx270_0, hx270_1, hx270_2⟩ := at_T109 HR0_5.out x5_2 p270 q270
                     (try rw [← Nbq13.out] at hx270_1)
                     obtain rfl : ad268 = ad270 := (by injection e270)
                     replace hx270_0 := (HB.out.cell (World.block_lt_of_cell? w _ hx270_0)).trans hx270_0
                     replace hx270_1 := (HB.out.cell (World.block_lt_of_cell? w _ hx270_1)).trans hx270_1
                     replace hx270_2 := (HB.out.cell (World.block_lt_of_cell? w _ hx270_2)).trans hx270_2
                     replace p270 := eq_true p270
                     replace q270 := eq_true q270
                     go_wp2_with (first | (at_builtin; refine print_append_str (w0 := w) w.heap.size rfl (.tmp 42) _ 41 9 5 rfl Tryd.underlying41 Tryd.underlying9 info5 u3 x3_2 (((rd_T109 l0_5 x5_2).f0) ++ (⟨#[58, 10]⟩ : ByteArray)) rfl rfl ?aO ?aB ?aS ?aL ?_; (case aB => exact (by repeat (first | (with_reducible first | exact HB.out | apply below_alloc | apply pw_below_drewN | apply below_drew1 | refine below_set ?_ GE263.out) | exact HB.out))); (case aO => exact (Kd.own_of_R (by (with_reducible repeat (first | apply Kd.R_alloc | apply Kd.R_drewN | apply Kd.R_drew)); exact HO_3.out))); (case aS => exact (below_size (by repeat (first | (with_reducible first | exact HB.out | apply below_alloc | apply pw_below_drewN | apply below_drew1 | refine below_set ?_ GE263.out) | exact HB.out)))); (case aL => have := LMc17.out; omega); intro v272 w19 ho0 hb hg; have ho := Kd.R_of_own (h1 := fun _ => rfl) (ok := fun _ => True) ho0 (fun _ _ => trivial); clear ho0; have hat := True.intro; rw [← Ny271.out] at ho; change Kd.R (Kd.int .u8) 5 w19 w.heap.size (fun _ => True) v272 y271 at ho; have n0_ := Aside0.mk (blk_grown (g := gb263) (o := .cells #[.slice A0_0 l0_0.length c0_0, .slice A0_1 l0_1.length c0_1, .int .i64 a0_2, .slice A0_3 l0_3.length c0_3, .int .i64 a0_4, .slice (some ad268) l0_5.length c0_5] 60 (0, 0)) (by (with_reducible repeat (first | refine blk_drewN ?_ _ | refine blk_drew ?_ | refine blk_alloc ?_ _)); exact BK263.out) hg (Kd.R_ne HO_3.out BK263.out (by decide))); have n1_ := Aside0.mk (hb); have n2_ := Aside0.mk (ho); clear BK263; clear HB; clear HO_3; have BK263 := n0_; have HB := n1_; have HO273 := n2_; clear n0_ n1_ n2_; clear ho hb hg hat))
                     go_roundg k2
                     case measure => have := HK1.out; have := HK2.out; omega
                     case rel => exact ⟨(y271), (wrap64 (x5_2 + 1)), (by first | rfl | (simp; done) | (simp [*]; done)), H', ⟨by have := HK1.out; have := HK2.out; omega⟩, ⟨by (with_reducible repeat (first | apply Kd.R_alloc | apply Kd.R_drewN | apply Kd.R_drew)); exact HO273.out⟩, ⟨by (with_reducible repeat (first | refine blk_drewN ?_ _ | refine blk_drew ?_ | refine blk_alloc ?_ _)); exact BK263.out⟩, ⟨by repeat (first | (with_reducible first | exact HB.out | apply below_alloc | apply pw_below_drewN | apply below_drew1 | refine below_set ?_ GE263.out) | exact HB.out)⟩⟩
                   · rw [if_neg c17] at H
                     exact absurd H (by simp)
                 · rw [if_neg c16] at H
                   exact absurd H (by simp)
               · rw [if_neg c15] at H
                 have c15b0 : (((rd_T109 l0_5 x5_2).f2) == x4_1) = false := beq_eq_false_iff_ne.mpr c15
                 have c15b1 : (((rd_T109 l0_5 x5_2).f2) != x4_1) = true := bne_iff_ne.mpr c15
                 have H' := Aside0.mk H
                 clear H
                 have hcz20_0 : wr.cell? ⟨gb263, 0, none⟩ = some (.slice A0_0 l0_0.length c0_0) := (blk_cell BK263.out 0).trans rfl
                 have hcz20_1 : wr.cell? ⟨gb263, 1, none⟩ = some (.slice A0_1 l0_1.length c0_1) := (blk_cell BK263.out 1).trans rfl
                 have hcz20_2 : wr.cell? ⟨gb263, 2, none⟩ = some (.int .i64 a0_2) := (blk_cell BK263.out 2).trans rfl
                 have hcz20_3 : wr.cell? ⟨gb263, 3, none⟩ = some (.slice A0_3 l0_3.length c0_3) := (blk_cell BK263.out 3).trans rfl
                 have hcz20_4 : wr.cell? ⟨gb263, 4, none⟩ = some (.int .i64 a0_4) := (blk_cell BK263.out 4).trans rfl
                 have hcz20_5 : wr.cell? ⟨gb263, 5, none⟩ = some (.slice A0_5 l0_5.length c0_5) := (blk_cell BK263.out 5).trans rfl
                 have hfz20_0 := blk_frozen BK263.out 0
                 have hfz20_1 := blk_frozen BK263.out 1
                 have hfz20_2 := blk_frozen BK263.out 2
                 have hfz20_3 := blk_frozen BK263.out 3
                 have hfz20_4 := blk_frozen BK263.out 4
                 have hfz20_5 := blk_frozen BK263.out 5
                 have p268 : 0 ≤ (x5_2 : Int) := of_decide_eq_true (by first | (with_reducible assumption) | assumption)
                 have q268 : x5_2 < (l0_5.length : Int) := of_decide_eq_true (by first | (with_reducible assumption) | assumption)
                 obtain ⟨ad268, e268, hx268_0, hx268_1, hx268_2⟩ := at_T109 HR0_5.out x5_2 p268 q268
                 (try rw [← Nbq13.out] at hx268_1)
                 cases e268
                 replace hx268_0 := (HB.out.cell (World.block_lt_of_cell? w _ hx268_0)).trans hx268_0
                 replace hx268_1 := (HB.out.cell (World.block_lt_of_cell? w _ hx268_1)).trans hx268_1
                 replace hx268_2 := (HB.out.cell (World.block_lt_of_cell? w _ hx268_2)).trans hx268_2
                 replace p268 := eq_true p268
                 replace q268 := eq_true q268
                 have p269 : 0 ≤ (x5_2 : Int) := of_decide_eq_true (by first | (with_reducible assumption) | assumption)
                 have q269 : x5_2 < (l0_5.length : Int) := of_decide_eq_true (by first | (with_reducible assumption) | assumption)
                 obtain ⟨ad269, e269, hx269_0, hx269_1, hx269_2⟩ := at_T109 HR0_5.out x5_2 p269 q269
                 (try rw [← Nbq13.out] at hx269_1)
                 obtain rfl : ad268 = ad269 := (by injection e269)
                 replace hx269_0 := (HB.out.cell (World.block_lt_of_cell? w _ hx269_0)).trans hx269_0
                 replace hx269_1 := (HB.out.cell (World.block_lt_of_cell? w _ hx269_1)).trans hx269_1
                 replace hx269_2 := (HB.out.cell (World.block_lt_of_cell? w _ hx269_2)).trans hx269_2
                 replace p269 := eq_true p269
                 replace q269 := eq_true q269
                 go_wp2
                 go_roundg k2
                 case measure => have := HK1.out; have := HK2.out; omega
                 case rel => exact ⟨(x3_2), (wrap64 (x5_2 + 1)), (by first | rfl | (simp; done) | (simp [*]; done)), H', ⟨by have := HK1.out; have := HK2.out; omega⟩, ⟨by (with_reducible repeat (first | apply Kd.R_alloc | apply Kd.R_drewN | apply Kd.R_drew)); exact HO_3.out⟩, ⟨by (with_reducible repeat (first | refine blk_drewN ?_ _ | refine blk_drew ?_ | refine blk_alloc ?_ _)); exact BK263.out⟩, ⟨by repeat (first | (with_reducible first | exact HB.out | apply below_alloc | apply pw_below_drewN | apply below_drew1 | refine below_set ?_ GE263.out) | exact HB.out)⟩⟩
             · replace c14 := Bool.eq_false_iff.mpr c14
               subst c14
               have H1 : (spec_Disassemble.l1 k2 x3_2 x4_1 (wrap64 (x5_2 + 1)) l0_0 l0_1 a0_2 l0_3 a0_4 l0_5) = some r := by rw [if_neg (show ¬ (false = true) by decide)] at H; exact H
               clear H
               have H := H1
               clear H1
               have H' := Aside0.mk H
               clear H
               have hcz21_0 : wr.cell? ⟨gb263, 0, none⟩ = some (.slice A0_0 l0_0.length c0_0) := (blk_cell BK263.out 0).trans rfl
               have hcz21_1 : wr.cell? ⟨gb263, 1, none⟩ = some (.slice A0_1 l0_1.length c0_1) := (blk_cell BK263.out 1).trans rfl
               have hcz21_2 : wr.cell? ⟨gb263, 2, none⟩ = some (.int .i64 a0_2) := (blk_cell BK263.out 2).trans rfl
               have hcz21_3 : wr.cell? ⟨gb263, 3, none⟩ = some (.slice A0_3 l0_3.length c0_3) := (blk_cell BK263.out 3).trans rfl
               have hcz21_4 : wr.cell? ⟨gb263, 4, none⟩ = some (.int .i64 a0_4) := (blk_cell BK263.out 4).trans rfl
               have hcz21_5 : wr.cell? ⟨gb263, 5, none⟩ = some (.slice A0_5 l0_5.length c0_5) := (blk_cell BK263.out 5).trans rfl
               have hfz21_0 := blk_frozen BK263.out 0
               have hfz21_1 := blk_frozen BK263.out 1
               have hfz21_2 := blk_frozen BK263.out 2
               have hfz21_3 := blk_frozen BK263.out 3
               have hfz21_4 := blk_frozen BK263.out 4
               have hfz21_5 := blk_frozen BK263.out 5
               have p268 : 0 ≤ (x5_2 : Int) := of_decide_eq_true (by first | (with_reducible assumption) | assumption)
               have q268 : x5_2 < (l0_5.length : Int) := of_decide_eq_true (by first | (with_reducible assumption) | assumption)
               obtain ⟨ad268, e268, hx268_0, hx268_1, hx268_2⟩ := at_T109 HR0_5.out x5_2 p268 q268
               (try rw [← Nbq13.out] at hx268_1)
               cases e268
               replace hx268_0 := (HB.out.cell (World.block_lt_of_cell? w _ hx268_0)).trans hx268_0
               replace hx268_1 := (HB.out.cell (World.block_lt_of_cell? w _ hx268_1)).trans hx268_1
               replace hx268_2 := (HB.out.cell (World.block_lt_of_cell? w _ hx268_2)).trans hx268_2
               replace p268 := eq_true p268
               replace q268 := eq_true q268
               go_wp2
               go_roundg k2
               case measure => have := HK1.out; have := HK2.out; omega
               case rel => exact ⟨(x3_2), (wrap64 (x5_2 + 1)), (by first | rfl | (simp; done) | (simp [*]; done)), H', ⟨by have := HK1.out; have := HK2.out; omega⟩, ⟨by (with_reducible repeat (first | apply Kd.R_alloc | apply Kd.R_drewN | apply Kd.R_drew)); exact HO_3.out⟩, ⟨by (with_reducible repeat (first | refine blk_drewN ?_ _ | refine blk_drew ?_ | refine blk_alloc ?_ _)); exact BK263.out⟩, ⟨by repeat (first | (with_reducible first | exact HB.out | apply below_alloc | apply pw_below_drewN | apply below_drew1 | refine below_set ?_ GE263.out) | exact HB.out)⟩⟩
           · rw [if_neg c12] at H
             exact absurd H (by simp)
         · rw [if_neg c11] at H
           have c11b0 : decide (x5_2 < (l0_5.length : Int)) = false := decide_eq_false c11
           clear c11
           obtain ⟨ji22, hji22⟩ : ∃ j_ : Int, (wrap64 (8 * x4_1)) = j_ := ⟨_, rfl⟩
           replace H : (if 0 ≤ (ji22) then (if (ji22) ≤ (wrap64 ((ji22) + 8)) then (if (wrap64 ((ji22) + 8)) ≤ (l0_0.length : Int) then ((spec_l16Decode.f k2 ((l0_0.take ((wrap64 ((ji22) + 8)) : Int).toNat).drop ((ji22) : Int).toNat)).bind fun bt275 => ((spec_l3Int.f k2 x4_1).bind fun t281 => (if t281.size + 1 ≤ 9223372036854775807 then ((spec_l3Int.f k2 bt275.1).bind fun t282 => (if (t281 ++ (⟨#[32]⟩ : ByteArray)).size + t282.size ≤ 9223372036854775807 then (if ((t281 ++ (⟨#[32]⟩ : ByteArray)) ++ t282).size + 1 ≤ 9223372036854775807 then ((spec_l3Int.f k2 bt275.2.1).bind fun t283 => (if (((t281 ++ (⟨#[32]⟩ : ByteArray)) ++ t282) ++ (⟨#[32]⟩ : ByteArray)).size + t283.size ≤ 9223372036854775807 then (if ((((t281 ++ (⟨#[32]⟩ : ByteArray)) ++ t282) ++ (⟨#[32]⟩ : ByteArray)) ++ t283).size + 1 ≤ 9223372036854775807 then ((spec_l3Int.f k2 bt275.2.2.1).bind fun t284 => (if (((((t281 ++ (⟨#[32]⟩ : ByteArray)) ++ t282) ++ (⟨#[32]⟩ : ByteArray)) ++ t283) ++ (⟨#[32]⟩ : ByteArray)).size + t284.size ≤ 9223372036854775807 then (if ((((((t281 ++ (⟨#[32]⟩ : ByteArray)) ++ t282) ++ (⟨#[32]⟩ : ByteArray)) ++ t283) ++ (⟨#[32]⟩ : ByteArray)) ++ t284).size + 1 ≤ 9223372036854775807 then ((spec_l3Int.f k2 bt275.2.2.2.1).bind fun t285 => (if (((((((t281 ++ (⟨#[32]⟩ : ByteArray)) ++ t282) ++ (⟨#[32]⟩ : ByteArray)) ++ t283) ++ (⟨#[32]⟩ : ByteArray)) ++ t284) ++ (⟨#[32]⟩ : ByteArray)).size + t285.size ≤ 9223372036854775807 then (if ((((((((t281 ++ (⟨#[32]⟩ : ByteArray)) ++ t282) ++ (⟨#[32]⟩ : ByteArray)) ++ t283) ++ (⟨#[32]⟩ : ByteArray)) ++ t284) ++ (⟨#[32]⟩ : ByteArray)) ++ t285).size + 1 ≤ 9223372036854775807 then ((spec_l3Int.f k2 bt275.2.2.2.2).bind fun t286 => (if (((((((((t281 ++ (⟨#[32]⟩ : ByteArray)) ++ t282) ++ (⟨#[32]⟩ : ByteArray)) ++ t283) ++ (⟨#[32]⟩ : ByteArray)) ++ t284) ++ (⟨#[32]⟩ : ByteArray)) ++ t285) ++ (⟨#[32]⟩ : ByteArray)).size + t286.size ≤ 9223372036854775807 then (if ((((((((((t281 ++ (⟨#[32]⟩ : ByteArray)) ++ t282) ++ (⟨#[32]⟩ : ByteArray)) ++ t283) ++ (⟨#[32]⟩ : ByteArray)) ++ t284) ++ (⟨#[32]⟩ : ByteArray)) ++ t285) ++ (⟨#[32]⟩ : ByteArray)) ++ t286).size + 1 ≤ 9223372036854775807 then (if x3_2.length + (((((((((((t281 ++ (⟨#[32]⟩ : ByteArray)) ++ t282) ++ (⟨#[32]⟩ : ByteArray)) ++ t283) ++ (⟨#[32]⟩ : ByteArray)) ++ t284) ++ (⟨#[32]⟩ : ByteArray)) ++ t285) ++ (⟨#[32]⟩ : ByteArray)) ++ t286) ++ (⟨#[10]⟩ : ByteArray)).size < 140737488355328 then (spec_Disassemble.l0 k2 (x3_2 ++ bytesOf (((((((((((t281 ++ (⟨#[32]⟩ : ByteArray)) ++ t282) ++ (⟨#[32]⟩ : ByteArray)) ++ t283) ++ (⟨#[32]⟩ : ByteArray)) ++ t284) ++ (⟨#[32]⟩ : ByteArray)) ++ t285) ++ (⟨#[32]⟩ : ByteArray)) ++ t286) ++ (⟨#[10]⟩ : ByteArray))) (wrap64 (x4_1 + 1)) l0_0 l0_1 a0_2 l0_3 a0_4 l0_5) else (none)) else (none)) else (none))) else (none)) else (none))) else (none)) else (none))) else (none)) else (none))) else (none)) else (none))) else (none)))) else (none)) else (none)) else (none)) = some r := by first | (rw [hji22] at H; exact H) | (simp only [hji22] at H ⊢; exact H)
           have hji22w : (IntKind.i64.wrap (8 * x4_1)) = ji22 := (i64_w _).trans hji22
           by_cases c23 : 0 ≤ (ji22)
           · rw [if_pos c23] at H
             have c23b0 := eq_true c23
             have c23b1 : decide (0 ≤ (ji22)) = true := decide_eq_true c23
             clear c23
             by_cases c24 : (ji22) ≤ (wrap64 ((ji22) + 8))
             · rw [if_pos c24] at H
               have c24b0 := eq_true c24
               have c24b1 : decide ((ji22) ≤ (wrap64 ((ji22) + 8))) = true := decide_eq_true c24
               by_cases c25 : (wrap64 ((ji22) + 8)) ≤ (l0_0.length : Int)
               · rw [if_pos c25] at H
                 have c25b0 := eq_true c25
                 have c25b1 : decide ((wrap64 ((ji22) + 8)) ≤ (l0_0.length : Int)) = true := decide_eq_true c25
                 replace H := Option.bind_eq_some_iff.mp H
                 obtain ⟨⟨t275, t276, t277, t278, t279⟩, A260, H⟩ := H
                 replace H : ((spec_l3Int.f k2 x4_1).bind fun t281 => (if t281.size + 1 ≤ 9223372036854775807 then ((spec_l3Int.f k2 t275).bind fun t282 => (if (t281 ++ (⟨#[32]⟩ : ByteArray)).size + t282.size ≤ 9223372036854775807 then (if ((t281 ++ (⟨#[32]⟩ : ByteArray)) ++ t282).size + 1 ≤ 9223372036854775807 then ((spec_l3Int.f k2 t276).bind fun t283 => (if (((t281 ++ (⟨#[32]⟩ : ByteArray)) ++ t282) ++ (⟨#[32]⟩ : ByteArray)).size + t283.size ≤ 9223372036854775807 then (if ((((t281 ++ (⟨#[32]⟩ : ByteArray)) ++ t282) ++ (⟨#[32]⟩ : ByteArray)) ++ t283).size + 1 ≤ 9223372036854775807 then ((spec_l3Int.f k2 t277).bind fun t284 => (if (((((t281 ++ (⟨#[32]⟩ : ByteArray)) ++ t282) ++ (⟨#[32]⟩ : ByteArray)) ++ t283) ++ (⟨#[32]⟩ : ByteArray)).size + t284.size ≤ 9223372036854775807 then (if ((((((t281 ++ (⟨#[32]⟩ : ByteArray)) ++ t282) ++ (⟨#[32]⟩ : ByteArray)) ++ t283) ++ (⟨#[32]⟩ : ByteArray)) ++ t284).size + 1 ≤ 9223372036854775807 then ((spec_l3Int.f k2 t278).bind fun t285 => (if (((((((t281 ++ (⟨#[32]⟩ : ByteArray)) ++ t282) ++ (⟨#[32]⟩ : ByteArray)) ++ t283) ++ (⟨#[32]⟩ : ByteArray)) ++ t284) ++ (⟨#[32]⟩ : ByteArray)).size + t285.size ≤ 9223372036854775807 then (if ((((((((t281 ++ (⟨#[32]⟩ : ByteArray)) ++ t282) ++ (⟨#[32]⟩ : ByteArray)) ++ t283) ++ (⟨#[32]⟩ : ByteArray)) ++ t284) ++ (⟨#[32]⟩ : ByteArray)) ++ t285).size + 1 ≤ 9223372036854775807 then ((spec_l3Int.f k2 t279).bind fun t286 => (if (((((((((t281 ++ (⟨#[32]⟩ : ByteArray)) ++ t282) ++ (⟨#[32]⟩ : ByteArray)) ++ t283) ++ (⟨#[32]⟩ : ByteArray)) ++ t284) ++ (⟨#[32]⟩ : ByteArray)) ++ t285) ++ (⟨#[32]⟩ : ByteArray)).size + t286.size ≤ 9223372036854775807 then (if ((((((((((t281 ++ (⟨#[32]⟩ : ByteArray)) ++ t282) ++ (⟨#[32]⟩ : ByteArray)) ++ t283) ++ (⟨#[32]⟩ : ByteArray)) ++ t284) ++ (⟨#[32]⟩ : ByteArray)) ++ t285) ++ (⟨#[32]⟩ : ByteArray)) ++ t286).size + 1 ≤ 9223372036854775807 then (if x3_2.length + (((((((((((t281 ++ (⟨#[32]⟩ : ByteArray)) ++ t282) ++ (⟨#[32]⟩ : ByteArray)) ++ t283) ++ (⟨#[32]⟩ : ByteArray)) ++ t284) ++ (⟨#[32]⟩ : ByteArray)) ++ t285) ++ (⟨#[32]⟩ : ByteArray)) ++ t286) ++ (⟨#[10]⟩ : ByteArray)).size < 140737488355328 then (spec_Disassemble.l0 k2 (x3_2 ++ bytesOf (((((((((((t281 ++ (⟨#[32]⟩ : ByteArray)) ++ t282) ++ (⟨#[32]⟩ : ByteArray)) ++ t283) ++ (⟨#[32]⟩ : ByteArray)) ++ t284) ++ (⟨#[32]⟩ : ByteArray)) ++ t285) ++ (⟨#[32]⟩ : ByteArray)) ++ t286) ++ (⟨#[10]⟩ : ByteArray))) (wrap64 (x4_1 + 1)) l0_0 l0_1 a0_2 l0_3 a0_4 l0_5) else (none)) else (none)) else (none))) else (none)) else (none))) else (none)) else (none))) else (none)) else (none))) else (none)) else (none))) else (none))) = some r := H
                 have A26 := Aside0.mk A260
                 clear A260
                 replace H := Option.bind_eq_some_iff.mp H
                 obtain ⟨t281, A270, H⟩ := H
                 replace H : (if t281.size + 1 ≤ 9223372036854775807 then ((spec_l3Int.f k2 t275).bind fun t282 => (if (t281 ++ (⟨#[32]⟩ : ByteArray)).size + t282.size ≤ 9223372036854775807 then (if ((t281 ++ (⟨#[32]⟩ : ByteArray)) ++ t282).size + 1 ≤ 9223372036854775807 then ((spec_l3Int.f k2 t276).bind fun t283 => (if (((t281 ++ (⟨#[32]⟩ : ByteArray)) ++ t282) ++ (⟨#[32]⟩ : ByteArray)).size + t283.size ≤ 9223372036854775807 then (if ((((t281 ++ (⟨#[32]⟩ : ByteArray)) ++ t282) ++ (⟨#[32]⟩ : ByteArray)) ++ t283).size + 1 ≤ 9223372036854775807 then ((spec_l3Int.f k2 t277).bind fun t284 => (if (((((t281 ++ (⟨#[32]⟩ : ByteArray)) ++ t282) ++ (⟨#[32]⟩ : ByteArray)) ++ t283) ++ (⟨#[32]⟩ : ByteArray)).size + t284.size ≤ 9223372036854775807 then (if ((((((t281 ++ (⟨#[32]⟩ : ByteArray)) ++ t282) ++ (⟨#[32]⟩ : ByteArray)) ++ t283) ++ (⟨#[32]⟩ : ByteArray)) ++ t284).size + 1 ≤ 9223372036854775807 then ((spec_l3Int.f k2 t278).bind fun t285 => (if (((((((t281 ++ (⟨#[32]⟩ : ByteArray)) ++ t282) ++ (⟨#[32]⟩ : ByteArray)) ++ t283) ++ (⟨#[32]⟩ : ByteArray)) ++ t284) ++ (⟨#[32]⟩ : ByteArray)).size + t285.size ≤ 9223372036854775807 then (if ((((((((t281 ++ (⟨#[32]⟩ : ByteArray)) ++ t282) ++ (⟨#[32]⟩ : ByteArray)) ++ t283) ++ (⟨#[32]⟩ : ByteArray)) ++ t284) ++ (⟨#[32]⟩ : ByteArray)) ++ t285).size + 1 ≤ 9223372036854775807 then ((spec_l3Int.f k2 t279).bind fun t286 => (if (((((((((t281 ++ (⟨#[32]⟩ : ByteArray)) ++ t282) ++ (⟨#[32]⟩ : ByteArray)) ++ t283) ++ (⟨#[32]⟩ : ByteArray)) ++ t284) ++ (⟨#[32]⟩ : ByteArray)) ++ t285) ++ (⟨#[32]⟩ : ByteArray)).size + t286.size ≤ 9223372036854775807 then (if ((((((((((t281 ++ (⟨#[32]⟩ : ByteArray)) ++ t282) ++ (⟨#[32]⟩ : ByteArray)) ++ t283) ++ (⟨#[32]⟩ : ByteArray)) ++ t284) ++ (⟨#[32]⟩ : ByteArray)) ++ t285) ++ (⟨#[32]⟩ : ByteArray)) ++ t286).size + 1 ≤ 9223372036854775807 then (if x3_2.length + (((((((((((t281 ++ (⟨#[32]⟩ : ByteArray)) ++ t282) ++ (⟨#[32]⟩ : ByteArray)) ++ t283) ++ (⟨#[32]⟩ : ByteArray)) ++ t284) ++ (⟨#[32]⟩ : ByteArray)) ++ t285) ++ (⟨#[32]⟩ : ByteArray)) ++ t286) ++ (⟨#[10]⟩ : ByteArray)).size < 140737488355328 then (spec_Disassemble.l0 k2 (x3_2 ++ bytesOf (((((((((((t281 ++ (⟨#[32]⟩ : ByteArray)) ++ t282) ++ (⟨#[32]⟩ : ByteArray)) ++ t283) ++ (⟨#[32]⟩ : ByteArray)) ++ t284) ++ (⟨#[32]⟩ : ByteArray)) ++ t285) ++ (⟨#[32]⟩ : ByteArray)) ++ t286) ++ (⟨#[10]⟩ : ByteArray))) (wrap64 (x4_1 + 1)) l0_0 l0_1 a0_2 l0_3 a0_4 l0_5) else (none)) else (none)) else (none))) else (none)) else (none))) else (none)) else (none))) else (none)) else (none))) else (none)) else (none))) else (none)) = some r := H
                 have A27 := Aside0.mk A270
                 clear A270
                 by_cases c28 : t281.size + 1 ≤ 9223372036854775807
                 · rw [if_pos c28] at H
                   have c28b0 := eq_true c28
                   have c28b1 : decide (t281.size + 1 ≤ 9223372036854775807) = true := decide_eq_true c28
                   try have c28b2 : (9223372036854775807 < t281.size + 1) = False := eq_false (Nat.not_lt.2 c28)
                   replace H := Option.bind_eq_some_iff.mp H
                   obtain ⟨t282, A290, H⟩ := H
                   replace H : (if (t281 ++ (⟨#[32]⟩ : ByteArray)).size + t282.size ≤ 9223372036854775807 then (if ((t281 ++ (⟨#[32]⟩ : ByteArray)) ++ t282).size + 1 ≤ 9223372036854775807 then ((spec_l3Int.f k2 t276).bind fun t283 => (if (((t281 ++ (⟨#[32]⟩ : ByteArray)) ++ t282) ++ (⟨#[32]⟩ : ByteArray)).size + t283.size ≤ 9223372036854775807 then (if ((((t281 ++ (⟨#[32]⟩ : ByteArray)) ++ t282) ++ (⟨#[32]⟩ : ByteArray)) ++ t283).size + 1 ≤ 9223372036854775807 then ((spec_l3Int.f k2 t277).bind fun t284 => (if (((((t281 ++ (⟨#[32]⟩ : ByteArray)) ++ t282) ++ (⟨#[32]⟩ : ByteArray)) ++ t283) ++ (⟨#[32]⟩ : ByteArray)).size + t284.size ≤ 9223372036854775807 then (if ((((((t281 ++ (⟨#[32]⟩ : ByteArray)) ++ t282) ++ (⟨#[32]⟩ : ByteArray)) ++ t283) ++ (⟨#[32]⟩ : ByteArray)) ++ t284).size + 1 ≤ 9223372036854775807 then ((spec_l3Int.f k2 t278).bind fun t285 => (if (((((((t281 ++ (⟨#[32]⟩ : ByteArray)) ++ t282) ++ (⟨#[32]⟩ : ByteArray)) ++ t283) ++ (⟨#[32]⟩ : ByteArray)) ++ t284) ++ (⟨#[32]⟩ : ByteArray)).size + t285.size ≤ 9223372036854775807 then (if ((((((((t281 ++ (⟨#[32]⟩ : ByteArray)) ++ t282) ++ (⟨#[32]⟩ : ByteArray)) ++ t283) ++ (⟨#[32]⟩ : ByteArray)) ++ t284) ++ (⟨#[32]⟩ : ByteArray)) ++ t285).size + 1 ≤ 9223372036854775807 then ((spec_l3Int.f k2 t279).bind fun t286 => (if (((((((((t281 ++ (⟨#[32]⟩ : ByteArray)) ++ t282) ++ (⟨#[32]⟩ : ByteArray)) ++ t283) ++ (⟨#[32]⟩ : ByteArray)) ++ t284) ++ (⟨#[32]⟩ : ByteArray)) ++ t285) ++ (⟨#[32]⟩ : ByteArray)).size + t286.size ≤ 9223372036854775807 then (if ((((((((((t281 ++ (⟨#[32]⟩ : ByteArray)) ++ t282) ++ (⟨#[32]⟩ : ByteArray)) ++ t283) ++ (⟨#[32]⟩ : ByteArray)) ++ t284) ++ (⟨#[32]⟩ : ByteArray)) ++ t285) ++ (⟨#[32]⟩ : ByteArray)) ++ t286).size + 1 ≤ 9223372036854775807 then (if x3_2.length + (((((((((((t281 ++ (⟨#[32]⟩ : ByteArray)) ++ t282) ++ (⟨#[32]⟩ : ByteArray)) ++ t283) ++ (⟨#[32]⟩ : ByteArray)) ++ t284) ++ (⟨#[32]⟩ : ByteArray)) ++ t285) ++ (⟨#[32]⟩ : ByteArray)) ++ t286) ++ (⟨#[10]⟩ : ByteArray)).size < 140737488355328 then (spec_Disassemble.l0 k2 (x3_2 ++ bytesOf (((((((((((t281 ++ (⟨#[32]⟩ : ByteArray)) ++ t282) ++ (⟨#[32]⟩ : ByteArray)) ++ t283) ++ (⟨#[32]⟩ : ByteArray)) ++ t284) ++ (⟨#[32]⟩ : ByteArray)) ++ t285) ++ (⟨#[32]⟩ : ByteArray)) ++ t286) ++ (⟨#[10]⟩ : ByteArray))) (wrap64 (x4_1 + 1)) l0_0 l0_1 a0_2 l0_3 a0_4 l0_5) else (none)) else (none)) else (none))) else (none)) else (none))) else (none)) else (none))) else (none)) else (none))) else (none)) else (none)) = some r := H
                   have A29 := Aside0.mk A290
                   clear A290
                   by_cases c30 : (t281 ++ (⟨#[32]⟩ : ByteArray)).size + t282.size ≤ 9223372036854775807
                   · rw [if_pos c30] at H
                     have c30b0 := eq_true c30
                     have c30b1 : decide ((t281 ++ (⟨#[32]⟩ : ByteArray)).size + t282.size ≤ 9223372036854775807) = true := decide_eq_true c30
                     have c30b7 : t281.size + 1 + t282.size ≤ 9223372036854775807 := by have q_ := c30; simp only [ByteArray.size_append] at q_; exact q_
                     have c30b8 := eq_true c30b7
                     try have c30b9 : (9223372036854775807 < t281.size + 1 + t282.size) = False := eq_false (Nat.not_lt.2 c30b7)
                     clear c30b7
                     try have c30b2 : (9223372036854775807 < (t281 ++ (⟨#[32]⟩ : ByteArray)).size + t282.size) = False := eq_false (Nat.not_lt.2 c30)
                     by_cases c31 : ((t281 ++ (⟨#[32]⟩ : ByteArray)) ++ t282).size + 1 ≤ 9223372036854775807
                     · rw [if_pos c31] at H
                       have c31b0 := eq_true c31
                       have c31b1 : decide (((t281 ++ (⟨#[32]⟩ : ByteArray)) ++ t282).size + 1 ≤ 9223372036854775807) = true := decide_eq_true c31
                       have c31b7 : t281.size + 1 + t282.size + 1 ≤ 9223372036854775807 := by have q_ := c31; simp only [ByteArray.size_append] at q_; exact q_
                       have c31b8 := eq_true c31b7
                       try have c31b9 : (9223372036854775807 < t281.size + 1 + t282.size + 1) = False := eq_false (Nat.not_lt.2 c31b7)
                       clear c31b7
                       try have c31b2 : (9223372036854775807 < ((t281 ++ (⟨#[32]⟩ : ByteArray)) ++ t282).size + 1) = False := eq_false (Nat.not_lt.2 c31)
                       replace H := Option.bind_eq_some_iff.mp H
                       obtain ⟨t283, A320, H⟩ := H
                       replace H : (if (((t281 ++ (⟨#[32]⟩ : ByteArray)) ++ t282) ++ (⟨#[32]⟩ : ByteArray)).size + t283.size ≤ 9223372036854775807 then (if ((((t281 ++ (⟨#[32]⟩ : ByteArray)) ++ t282) ++ (⟨#[32]⟩ : ByteArray)) ++ t283).size + 1 ≤ 9223372036854775807 then ((spec_l3Int.f k2 t277).bind fun t284 => (if (((((t281 ++ (⟨#[32]⟩ : ByteArray)) ++ t282) ++ (⟨#[32]⟩ : ByteArray)) ++ t283) ++ (⟨#[32]⟩ : ByteArray)).size + t284.size ≤ 9223372036854775807 then (if ((((((t281 ++ (⟨#[32]⟩ : ByteArray)) ++ t282) ++ (⟨#[32]⟩ : ByteArray)) ++ t283) ++ (⟨#[32]⟩ : ByteArray)) ++ t284).size + 1 ≤ 9223372036854775807 then ((spec_l3Int.f k2 t278).bind fun t285 => (if (((((((t281 ++ (⟨#[32]⟩ : ByteArray)) ++ t282) ++ (⟨#[32]⟩ : ByteArray)) ++ t283) ++ (⟨#[32]⟩ : ByteArray)) ++ t284) ++ (⟨#[32]⟩ : ByteArray)).size + t285.size ≤ 9223372036854775807 then (if ((((((((t281 ++ (⟨#[32]⟩ : ByteArray)) ++ t282) ++ (⟨#[32]⟩ : ByteArray)) ++ t283) ++ (⟨#[32]⟩ : ByteArray)) ++ t284) ++ (⟨#[32]⟩ : ByteArray)) ++ t285).size + 1 ≤ 9223372036854775807 then ((spec_l3Int.f k2 t279).bind fun t286 => (if (((((((((t281 ++ (⟨#[32]⟩ : ByteArray)) ++ t282) ++ (⟨#[32]⟩ : ByteArray)) ++ t283) ++ (⟨#[32]⟩ : ByteArray)) ++ t284) ++ (⟨#[32]⟩ : ByteArray)) ++ t285) ++ (⟨#[32]⟩ : ByteArray)).size + t286.size ≤ 9223372036854775807 then (if ((((((((((t281 ++ (⟨#[32]⟩ : ByteArray)) ++ t282) ++ (⟨#[32]⟩ : ByteArray)) ++ t283) ++ (⟨#[32]⟩ : ByteArray)) ++ t284) ++ (⟨#[32]⟩ : ByteArray)) ++ t285) ++ (⟨#[32]⟩ : ByteArray)) ++ t286).size + 1 ≤ 9223372036854775807 then (if x3_2.length + (((((((((((t281 ++ (⟨#[32]⟩ : ByteArray)) ++ t282) ++ (⟨#[32]⟩ : ByteArray)) ++ t283) ++ (⟨#[32]⟩ : ByteArray)) ++ t284) ++ (⟨#[32]⟩ : ByteArray)) ++ t285) ++ (⟨#[32]⟩ : ByteArray)) ++ t286) ++ (⟨#[10]⟩ : ByteArray)).size < 140737488355328 then (spec_Disassemble.l0 k2 (x3_2 ++ bytesOf (((((((((((t281 ++ (⟨#[32]⟩ : ByteArray)) ++ t282) ++ (⟨#[32]⟩ : ByteArray)) ++ t283) ++ (⟨#[32]⟩ : ByteArray)) ++ t284) ++ (⟨#[32]⟩ : ByteArray)) ++ t285) ++ (⟨#[32]⟩ : ByteArray)) ++ t286) ++ (⟨#[10]⟩ : ByteArray))) (wrap64 (x4_1 + 1)) l0_0 l0_1 a0_2 l0_3 a0_4 l0_5) else (none)) else (none)) else (none))) else (none)) else (none))) else (none)) else (none))) else (none)) else (none)) = some r := H
                       have A32 := Aside0.mk A320
                       clear A320
                       by_cases c33 : (((t281 ++ (⟨#[32]⟩ : ByteArray)) ++ t282) ++ (⟨#[32]⟩ : ByteArray)).size + t283.size ≤ 9223372036854775807
                       · rw [if_pos c33] at H
                         have c33b0 := eq_true c33
                         have c33b1 : decide ((((t281 ++ (⟨#[32]⟩ : ByteArray)) ++ t282) ++ (⟨#[32]⟩ : ByteArray)).size + t283.size ≤ 9223372036854775807) = true := decide_eq_true c33
                         have c33b7 : t281.size + 1 + t282.size + 1 + t283.size ≤ 9223372036854775807 := by have q_ := c33; simp only [ByteArray.size_append] at q_; exact q_
                         have c33b8 := eq_true c33b7
                         try have c33b9 : (9223372036854775807 < t281.size + 1 + t282.size + 1 + t283.size) = False := eq_false (Nat.not_lt.2 c33b7)
                         clear c33b7
                         try have c33b2 : (9223372036854775807 < (((t281 ++ (⟨#[32]⟩ : ByteArray)) ++ t282) ++ (⟨#[32]⟩ : ByteArray)).size + t283.size) = False := eq_false (Nat.not_lt.2 c33)
                         by_cases c34 : ((((t281 ++ (⟨#[32]⟩ : ByteArray)) ++ t282) ++ (⟨#[32]⟩ : ByteArray)) ++ t283).size + 1 ≤ 9223372036854775807
                         · rw [if_pos c34] at H
                           have c34b0 := eq_true c34
                           have c34b1 : decide (((((t281 ++ (⟨#[32]⟩ : ByteArray)) ++ t282) ++ (⟨#[32]⟩ : ByteArray)) ++ t283).size + 1 ≤ 9223372036854775807) = true := decide_eq_true c34
                           have c34b7 : t281.size + 1 + t282.size + 1 + t283.size + 1 ≤ 9223372036854775807 := by have q_ := c34; simp only [ByteArray.size_append] at q_; exact q_
                           have c34b8 := eq_true c34b7
                           try have c34b9 : (9223372036854775807 < t281.size + 1 + t282.size + 1 + t283.size + 1) = False := eq_false (Nat.not_lt.2 c34b7)
                           clear c34b7
                           try have c34b2 : (9223372036854775807 < ((((t281 ++ (⟨#[32]⟩ : ByteArray)) ++ t282) ++ (⟨#[32]⟩ : ByteArray)) ++ t283).size + 1) = False := eq_false (Nat.not_lt.2 c34)
                           replace H := Option.bind_eq_some_iff.mp H
                           obtain ⟨t284, A350, H⟩ := H
                           replace H : (if (((((t281 ++ (⟨#[32]⟩ : ByteArray)) ++ t282) ++ (⟨#[32]⟩ : ByteArray)) ++ t283) ++ (⟨#[32]⟩ : ByteArray)).size + t284.size ≤ 9223372036854775807 then (if ((((((t281 ++ (⟨#[32]⟩ : ByteArray)) ++ t282) ++ (⟨#[32]⟩ : ByteArray)) ++ t283) ++ (⟨#[32]⟩ : ByteArray)) ++ t284).size + 1 ≤ 9223372036854775807 then ((spec_l3Int.f k2 t278).bind fun t285 => (if (((((((t281 ++ (⟨#[32]⟩ : ByteArray)) ++ t282) ++ (⟨#[32]⟩ : ByteArray)) ++ t283) ++ (⟨#[32]⟩ : ByteArray)) ++ t284) ++ (⟨#[32]⟩ : ByteArray)).size + t285.size ≤ 9223372036854775807 then (if ((((((((t281 ++ (⟨#[32]⟩ : ByteArray)) ++ t282) ++ (⟨#[32]⟩ : ByteArray)) ++ t283) ++ (⟨#[32]⟩ : ByteArray)) ++ t284) ++ (⟨#[32]⟩ : ByteArray)) ++ t285).size + 1 ≤ 9223372036854775807 then ((spec_l3Int.f k2 t279).bind fun t286 => (if (((((((((t281 ++ (⟨#[32]⟩ : ByteArray)) ++ t282) ++ (⟨#[32]⟩ : ByteArray)) ++ t283) ++ (⟨#[32]⟩ : ByteArray)) ++ t284) ++ (⟨#[32]⟩ : ByteArray)) ++ t285) ++ (⟨#[32]⟩ : ByteArray)).size + t286.size ≤ 9223372036854775807 then (if ((((((((((t281 ++ (⟨#[32]⟩ : ByteArray)) ++ t282) ++ (⟨#[32]⟩ : ByteArray)) ++ t283) ++ (⟨#[32]⟩ : ByteArray)) ++ t284) ++ (⟨#[32]⟩ : ByteArray)) ++ t285) ++ (⟨#[32]⟩ : ByteArray)) ++ t286).size + 1 ≤ 9223372036854775807 then (if x3_2.length + (((((((((((t281 ++ (⟨#[32]⟩ : ByteArray)) ++ t282) ++ (⟨#[32]⟩ : ByteArray)) ++ t283) ++ (⟨#[32]⟩ : ByteArray)) ++ t284) ++ (⟨#[32]⟩ : ByteArray)) ++ t285) ++ (⟨#[32]⟩ : ByteArray)) ++ t286) ++ (⟨#[10]⟩ : ByteArray)).size < 140737488355328 then (spec_Disassemble.l0 k2 (x3_2 ++ bytesOf (((((((((((t281 ++ (⟨#[32]⟩ : ByteArray)) ++ t282) ++ (⟨#[32]⟩ : ByteArray)) ++ t283) ++ (⟨#[32]⟩ : ByteArray)) ++ t284) ++ (⟨#[32]⟩ : ByteArray)) ++ t285) ++ (⟨#[32]⟩ : ByteArray)) ++ t286) ++ (⟨#[10]⟩ : ByteArray))) (wrap64 (x4_1 + 1)) l0_0 l0_1 a0_2 l0_3 a0_4 l0_5) else (none)) else (none)) else (none))) else (none)) else (none))) else (none)) else (none)) = some r := H
                           have A35 := Aside0.mk A350
                           clear A350
                           by_cases c36 : (((((t281 ++ (⟨#[32]⟩ : ByteArray)) ++ t282) ++ (⟨#[32]⟩ : ByteArray)) ++ t283) ++ (⟨#[32]⟩ : ByteArray)).size + t284.size ≤ 9223372036854775807
                           · rw [if_pos c36] at H
                             have c36b0 := eq_true c36
                             have c36b1 : decide ((((((t281 ++ (⟨#[32]⟩ : ByteArray)) ++ t282) ++ (⟨#[32]⟩ : ByteArray)) ++ t283) ++ (⟨#[32]⟩ : ByteArray)).size + t284.size ≤ 9223372036854775807) = true := decide_eq_true c36
                             have c36b7 : t281.size + 1 + t282.size + 1 + t283.size + 1 + t284.size ≤ 9223372036854775807 := by have q_ := c36; simp only [ByteArray.size_append] at q_; exact q_
                             have c36b8 := eq_true c36b7
                             try have c36b9 : (9223372036854775807 < t281.size + 1 + t282.size + 1 + t283.size + 1 + t284.size) = False := eq_false (Nat.not_lt.2 c36b7)
                             clear c36b7
                             try have c36b2 : (9223372036854775807 < (((((t281 ++ (⟨#[32]⟩ : ByteArray)) ++ t282) ++ (⟨#[32]⟩ : ByteArray)) ++ t283) ++ (⟨#[32]⟩ : ByteArray)).size + t284.size) = False := eq_false (Nat.not_lt.2 c36)
                             by_cases c37 : ((((((t281 ++ (⟨#[32]⟩ : ByteArray)) ++ t282) ++ (⟨#[32]⟩ : ByteArray)) ++ t283) ++ (⟨#[32]⟩ : ByteArray)) ++ t284).size + 1 ≤ 9223372036854775807
                             · rw [if_pos c37] at H
                               have c37b0 := eq_true c37
                               have c37b1 : decide (((((((t281 ++ (⟨#[32]⟩ : ByteArray)) ++ t282) ++ (⟨#[32]⟩ : ByteArray)) ++ t283) ++ (⟨#[32]⟩ : ByteArray)) ++ t284).size + 1 ≤ 9223372036854775807) = true := decide_eq_true c37
                               have c37b7 : t281.size + 1 + t282.size + 1 + t283.size + 1 + t284.size + 1 ≤ 9223372036854775807 := by have q_ := c37; simp only [ByteArray.size_append] at q_; exact q_
                               have c37b8 := eq_true c37b7
                               try have c37b9 : (9223372036854775807 < t281.size + 1 + t282.size + 1 + t283.size + 1 + t284.size + 1) = False := eq_false (Nat.not_lt.2 c37b7)
                               clear c37b7
                               try have c37b2 : (9223372036854775807 < ((((((t281 ++ (⟨#[32]⟩ : ByteArray)) ++ t282) ++ (⟨#[32]⟩ : ByteArray)) ++ t283) ++ (⟨#[32]⟩ : ByteArray)) ++ t284).size + 1) = False := eq_false (Nat.not_lt.2 c37)
                               replace H := Option.bind_eq_some_iff.mp H
                               obtain ⟨t285, A380, H⟩ := H
                               replace H : (if (((((((t281 ++ (⟨#[32]⟩ : ByteArray)) ++ t282) ++ (⟨#[32]⟩ : ByteArray)) ++ t283) ++ (⟨#[32]⟩ : ByteArray)) ++ t284) ++ (⟨#[32]⟩ : ByteArray)).size + t285.size ≤ 9223372036854775807 then (if ((((((((t281 ++ (⟨#[32]⟩ : ByteArray)) ++ t282) ++ (⟨#[32]⟩ : ByteArray)) ++ t283) ++ (⟨#[32]⟩ : ByteArray)) ++ t284) ++ (⟨#[32]⟩ : ByteArray)) ++ t285).size + 1 ≤ 9223372036854775807 then ((spec_l3Int.f k2 t279).bind fun t286 => (if (((((((((t281 ++ (⟨#[32]⟩ : ByteArray)) ++ t282) ++ (⟨#[32]⟩ : ByteArray)) ++ t283) ++ (⟨#[32]⟩ : ByteArray)) ++ t284) ++ (⟨#[32]⟩ : ByteArray)) ++ t285) ++ (⟨#[32]⟩ : ByteArray)).size + t286.size ≤ 9223372036854775807 then (if ((((((((((t281 ++ (⟨#[32]⟩ : ByteArray)) ++ t282) ++ (⟨#[32]⟩ : ByteArray)) ++ t283) ++ (⟨#[32]⟩ : ByteArray)) ++ t284) ++ (⟨#[32]⟩ : ByteArray)) ++ t285) ++ (⟨#[32]⟩ : ByteArray)) ++ t286).size + 1 ≤ 9223372036854775807 then (if x3_2.length + (((((((((((t281 ++ (⟨#[32]⟩ : ByteArray)) ++ t282) ++ (⟨#[32]⟩ : ByteArray)) ++ t283) ++ (⟨#[32]⟩ : ByteArray)) ++ t284) ++ (⟨#[32]⟩ : ByteArray)) ++ t285) ++ (⟨#[32]⟩ : ByteArray)) ++ t286) ++ (⟨#[10]⟩ : ByteArray)).size < 140737488355328 then (spec_Disassemble.l0 k2 (x3_2 ++ bytesOf (((((((((((t281 ++ (⟨#[32]⟩ : ByteArray)) ++ t282) ++ (⟨#[32]⟩ : ByteArray)) ++ t283) ++ (⟨#[32]⟩ : ByteArray)) ++ t284) ++ (⟨#[32]⟩ : ByteArray)) ++ t285) ++ (⟨#[32]⟩ : ByteArray)) ++ t286) ++ (⟨#[10]⟩ : ByteArray))) (wrap64 (x4_1 + 1)) l0_0 l0_1 a0_2 l0_3 a0_4 l0_5) else (none)) else (none)) else (none))) else (none)) else (none)) = some r := H
                               have A38 := Aside0.mk A380
                               clear A380
                               by_cases c39 : (((((((t281 ++ (⟨#[32]⟩ : ByteArray)) ++ t282) ++ (⟨#[32]⟩ : ByteArray)) ++ t283) ++ (⟨#[32]⟩ : ByteArray)) ++ t284) ++ (⟨#[32]⟩ : ByteArray)).size + t285.size ≤ 9223372036854775807
                               · rw [if_pos c39] at H
                                 have c39b0 := eq_true c39
                                 have c39b1 : decide ((((((((t281 ++ (⟨#[32]⟩ : ByteArray)) ++ t282) ++ (⟨#[32]⟩ : ByteArray)) ++ t283) ++ (⟨#[32]⟩ : ByteArray)) ++ t284) ++ (⟨#[32]⟩ : ByteArray)).size + t285.size ≤ 9223372036854775807) = true := decide_eq_true c39
                                 have c39b7 : t281.size + 1 + t282.size + 1 + t283.size + 1 + t284.size + 1 + t285.size ≤ 9223372036854775807 := by have q_ := c39; simp only [ByteArray.size_append] at q_; exact q_
                                 have c39b8 := eq_true c39b7
                                 try have c39b9 : (9223372036854775807 < t281.size + 1 + t282.size + 1 + t283.size + 1 + t284.size + 1 + t285.size) = False := eq_false (Nat.not_lt.2 c39b7)
                                 clear c39b7
                                 try have c39b2 : (9223372036854775807 < (((((((t281 ++ (⟨#[32]⟩ : ByteArray)) ++ t282) ++ (⟨#[32]⟩ : ByteArray)) ++ t283) ++ (⟨#[32]⟩ : ByteArray)) ++ t284) ++ (⟨#[32]⟩ : ByteArray)).size + t285.size) = False := eq_false (Nat.not_lt.2 c39)
                                 by_cases c40 : ((((((((t281 ++ (⟨#[32]⟩ : ByteArray)) ++ t282) ++ (⟨#[32]⟩ : ByteArray)) ++ t283) ++ (⟨#[32]⟩ : ByteArray)) ++ t284) ++ (⟨#[32]⟩ : ByteArray)) ++ t285).size + 1 ≤ 9223372036854775807
                                 · rw [if_pos c40] at H
                                   have c40b0 := eq_true c40
                                   have c40b1 : decide (((((((((t281 ++ (⟨#[32]⟩ : ByteArray)) ++ t282) ++ (⟨#[32]⟩ : ByteArray)) ++ t283) ++ (⟨#[32]⟩ : ByteArray)) ++ t284) ++ (⟨#[32]⟩ : ByteArray)) ++ t285).size + 1 ≤ 9223372036854775807) = true := decide_eq_true c40
                                   have c40b7 : t281.size + 1 + t282.size + 1 + t283.size + 1 + t284.size + 1 + t285.size + 1 ≤ 9223372036854775807 := by have q_ := c40; simp only [ByteArray.size_append] at q_; exact q_
                                   have c40b8 := eq_true c40b7
                                   try have c40b9 : (9223372036854775807 < t281.size + 1 + t282.size + 1 + t283.size + 1 + t284.size + 1 + t285.size + 1) = False := eq_false (Nat.not_lt.2 c40b7)
                                   clear c40b7
                                   try have c40b2 : (9223372036854775807 < ((((((((t281 ++ (⟨#[32]⟩ : ByteArray)) ++ t282) ++ (⟨#[32]⟩ : ByteArray)) ++ t283) ++ (⟨#[32]⟩ : ByteArray)) ++ t284) ++ (⟨#[32]⟩ : ByteArray)) ++ t285).size + 1) = False := eq_false (Nat.not_lt.2 c40)
                                   replace H := Option.bind_eq_some_iff.mp H
                                   obtain ⟨t286, A410, H⟩ := H
                                   replace H : (if (((((((((t281 ++ (⟨#[32]⟩ : ByteArray)) ++ t282) ++ (⟨#[32]⟩ : ByteArray)) ++ t283) ++ (⟨#[32]⟩ : ByteArray)) ++ t284) ++ (⟨#[32]⟩ : ByteArray)) ++ t285) ++ (⟨#[32]⟩ : ByteArray)).size + t286.size ≤ 9223372036854775807 then (if ((((((((((t281 ++ (⟨#[32]⟩ : ByteArray)) ++ t282) ++ (⟨#[32]⟩ : ByteArray)) ++ t283) ++ (⟨#[32]⟩ : ByteArray)) ++ t284) ++ (⟨#[32]⟩ : ByteArray)) ++ t285) ++ (⟨#[32]⟩ : ByteArray)) ++ t286).size + 1 ≤ 9223372036854775807 then (if x3_2.length + (((((((((((t281 ++ (⟨#[32]⟩ : ByteArray)) ++ t282) ++ (⟨#[32]⟩ : ByteArray)) ++ t283) ++ (⟨#[32]⟩ : ByteArray)) ++ t284) ++ (⟨#[32]⟩ : ByteArray)) ++ t285) ++ (⟨#[32]⟩ : ByteArray)) ++ t286) ++ (⟨#[10]⟩ : ByteArray)).size < 140737488355328 then (spec_Disassemble.l0 k2 (x3_2 ++ bytesOf (((((((((((t281 ++ (⟨#[32]⟩ : ByteArray)) ++ t282) ++ (⟨#[32]⟩ : ByteArray)) ++ t283) ++ (⟨#[32]⟩ : ByteArray)) ++ t284) ++ (⟨#[32]⟩ : ByteArray)) ++ t285) ++ (⟨#[32]⟩ : ByteArray)) ++ t286) ++ (⟨#[10]⟩ : ByteArray))) (wrap64 (x4_1 + 1)) l0_0 l0_1 a0_2 l0_3 a0_4 l0_5) else (none)) else (none)) else (none)) = some r := H
                                   have A41 := Aside0.mk A410
                                   clear A410
                                   by_cases c42 : (((((((((t281 ++ (⟨#[32]⟩ : ByteArray)) ++ t282) ++ (⟨#[32]⟩ : ByteArray)) ++ t283) ++ (⟨#[32]⟩ : ByteArray)) ++ t284) ++ (⟨#[32]⟩ : ByteArray)) ++ t285) ++ (⟨#[32]⟩ : ByteArray)).size + t286.size ≤ 9223372036854775807
                                   · rw [if_pos c42] at H
                                     have c42b0 := eq_true c42
                                     have c42b1 : decide ((((((((((t281 ++ (⟨#[32]⟩ : ByteArray)) ++ t282) ++ (⟨#[32]⟩ : ByteArray)) ++ t283) ++ (⟨#[32]⟩ : ByteArray)) ++ t284) ++ (⟨#[32]⟩ : ByteArray)) ++ t285) ++ (⟨#[32]⟩ : ByteArray)).size + t286.size ≤ 9223372036854775807) = true := decide_eq_true c42
                                     have c42b7 : t281.size + 1 + t282.size + 1 + t283.size + 1 + t284.size + 1 + t285.size + 1 + t286.size ≤ 9223372036854775807 := by have q_ := c42; simp only [ByteArray.size_append] at q_; exact q_
                                     have c42b8 := eq_true c42b7
                                     try have c42b9 : (9223372036854775807 < t281.size + 1 + t282.size + 1 + t283.size + 1 + t284.size + 1 + t285.size + 1 + t286.size) = False := eq_false (Nat.not_lt.2 c42b7)
                                     clear c42b7
                                     try have c42b2 : (9223372036854775807 < (((((((((t281 ++ (⟨#[32]⟩ : ByteArray)) ++ t282) ++ (⟨#[32]⟩ : ByteArray)) ++ t283) ++ (⟨#[32]⟩ : ByteArray)) ++ t284) ++ (⟨#[32]⟩ : ByteArray)) ++ t285) ++ (⟨#[32]⟩ : ByteArray)).size + t286.size) = False := eq_false (Nat.not_lt.2 c42)
                                     by_cases c43 : ((((((((((t281 ++ (⟨#[32]⟩ : ByteArray)) ++ t282) ++ (⟨#[32]⟩ : ByteArray)) ++ t283) ++ (⟨#[32]⟩ : ByteArray)) ++ t284) ++ (⟨#[32]⟩ : ByteArray)) ++ t285) ++ (⟨#[32]⟩ : ByteArray)) ++ t286).size + 1 ≤ 9223372036854775807
                                     · rw [if_pos c43] at H
                                       have c43b0 := eq_true c43
                                       have c43b1 : decide (((((((((((t281 ++ (⟨#[32]⟩ : ByteArray)) ++ t282) ++ (⟨#[32]⟩ : ByteArray)) ++ t283) ++ (⟨#[32]⟩ : ByteArray)) ++ t284) ++ (⟨#[32]⟩ : ByteArray)) ++ t285) ++ (⟨#[32]⟩ : ByteArray)) ++ t286).size + 1 ≤ 9223372036854775807) = true := decide_eq_true c43
                                       have c43b7 : t281.size + 1 + t282.size + 1 + t283.size + 1 + t284.size + 1 + t285.size + 1 + t286.size + 1 ≤ 9223372036854775807 := by have q_ := c43; simp only [ByteArray.size_append] at q_; exact q_
                                       have c43b8 := eq_true c43b7
                                       try have c43b9 : (9223372036854775807 < t281.size + 1 + t282.size + 1 + t283.size + 1 + t284.size + 1 + t285.size + 1 + t286.size + 1) = False := eq_false (Nat.not_lt.2 c43b7)
                                       clear c43b7
                                       try have c43b2 : (9223372036854775807 < ((((((((((t281 ++ (⟨#[32]⟩ : ByteArray)) ++ t282) ++ (⟨#[32]⟩ : ByteArray)) ++ t283) ++ (⟨#[32]⟩ : ByteArray)) ++ t284) ++ (⟨#[32]⟩ : ByteArray)) ++ t285) ++ (⟨#[32]⟩ : ByteArray)) ++ t286).size + 1) = False := eq_false (Nat.not_lt.2 c43)
                                       by_cases c44 : x3_2.length + (((((((((((t281 ++ (⟨#[32]⟩ : ByteArray)) ++ t282) ++ (⟨#[32]⟩ : ByteArray)) ++ t283) ++ (⟨#[32]⟩ : ByteArray)) ++ t284) ++ (⟨#[32]⟩ : ByteArray)) ++ t285) ++ (⟨#[32]⟩ : ByteArray)) ++ t286) ++ (⟨#[10]⟩ : ByteArray)).size < 140737488355328
                                       · rw [if_pos c44] at H
                                         have LMc44 := Aside0.mk c44
                                         clear c44
                                         obtain ⟨y287, hy287⟩ : ∃ y_ : List Int, y_ = (x3_2 ++ bytesOf (((((((((((t281 ++ (⟨#[32]⟩ : ByteArray)) ++ t282) ++ (⟨#[32]⟩ : ByteArray)) ++ t283) ++ (⟨#[32]⟩ : ByteArray)) ++ t284) ++ (⟨#[32]⟩ : ByteArray)) ++ t285) ++ (⟨#[32]⟩ : ByteArray)) ++ t286) ++ (⟨#[10]⟩ : ByteArray))) := ⟨_, rfl⟩
                                         replace H : (spec_Disassemble.l0 k2 y287 (wrap64 (x4_1 + 1)) l0_0 l0_1 a0_2 l0_3 a0_4 l0_5) = some r := by first | (rw [hy287]; with_reducible exact H) | (have H2_ := (Option.bind_some _ _).symm.trans H; rw [hy287]; with_reducible exact H2_) | (have H2_ := (Option.bind_some _ _).symm.trans H; with_reducible exact H2_) | with_reducible exact H | (rw [hy287]; exact H) | exact H
                                         have Ny287 := Aside0.mk hy287
                                         clear hy287
                                         have H' := Aside0.mk H
                                         clear H
                                         have hcz45_0 : wr.cell? ⟨gb263, 0, none⟩ = some (.slice A0_0 l0_0.length c0_0) := (blk_cell BK263.out 0).trans rfl
                                         have hcz45_1 : wr.cell? ⟨gb263, 1, none⟩ = some (.slice A0_1 l0_1.length c0_1) := (blk_cell BK263.out 1).trans rfl
                                         have hcz45_2 : wr.cell? ⟨gb263, 2, none⟩ = some (.int .i64 a0_2) := (blk_cell BK263.out 2).trans rfl
                                         have hcz45_3 : wr.cell? ⟨gb263, 3, none⟩ = some (.slice A0_3 l0_3.length c0_3) := (blk_cell BK263.out 3).trans rfl
                                         have hcz45_4 : wr.cell? ⟨gb263, 4, none⟩ = some (.int .i64 a0_4) := (blk_cell BK263.out 4).trans rfl
                                         have hcz45_5 : wr.cell? ⟨gb263, 5, none⟩ = some (.slice A0_5 l0_5.length c0_5) := (blk_cell BK263.out 5).trans rfl
                                         have hfz45_0 := blk_frozen BK263.out 0
                                         have hfz45_1 := blk_frozen BK263.out 1
                                         have hfz45_2 := blk_frozen BK263.out 2
                                         have hfz45_3 := blk_frozen BK263.out 3
                                         have hfz45_4 := blk_frozen BK263.out 4
                                         have hfz45_5 := blk_frozen BK263.out 5
                                         obtain ⟨i046, hi046, _, hsz46, _⟩ := info_parts info5
                                         obtain ⟨A46, hcut46, hA46, hC46⟩ := print_mid_of (P := Tryd.prog) (Value.int .u8) 0 41 5 .i64 .i64 Tryd.underlying41 hi046 hsz46 A0_0 c0_0 l0_0 (ji22) (wrap64 ((ji22) + 8)) (of_decide_eq_true (by first | (with_reducible assumption) | assumption)) (by first | omega | exact of_decide_eq_true (by first | (with_reducible assumption) | assumption)) (of_decide_eq_true (by first | (with_reducible assumption) | assumption)) HC0_0.out
                                         have HR274 := Aside0.mk (Kd.C_of_reads (h1 := fun _ => rfl) (hA46 _ (Kd.reads_of_C HR0_0.out)))
                                         have HC274 := Aside0.mk hC46
                                         clear hA46 hC46 hi046 hsz46
                                         try go_wp2_with (first | ((with_reducible refine gate_callee (f := 59) rfl ?_); refine goesL_ (some 59) rfl rfl Tryd.func59 (by kernel_rfl) rfl #[.slice A46 ((l0_0.take ((wrap64 ((ji22) + 8)) : Int).toNat).drop ((ji22) : Int).toNat).length (c0_0 - (ji22).toNat)] rfl (by (try simp only [List.map_toArray, List.map_cons, List.map_nil]); first | done | (rw [show ((l0_0.take ((wrap64 ((ji22) + 8)) : Int).toNat).drop ((ji22) : Int).toNat).length = ((wrap64 ((ji22) + 8)).toNat - (ji22).toNat) from (by rw [List.length_drop, List.length_take]; have h_ : ((wrap64 ((ji22) + 8)) : Int) ≤ (l0_0.length : Int) := of_decide_eq_true (by first | (with_reducible assumption) | assumption); omega)] <;> rfl) | (simp only [hji22]; rfl) | rfl | (simp only [List.length_drop, List.length_take]; rfl)) ?_; (with_reducible refine (spec_l16Decode.calls k2 _ _ ((l0_0.take ((wrap64 ((ji22) + 8)) : Int).toNat).drop ((ji22) : Int).toNat) t275 t276 t277 t278 t279 _ ?side1 ?side2 A26.out).mono ?_); (case side1 => repeat (first | exact (Kd.C_below HR274.out HB.out) | (with_reducible refine Kd.C_alloc ?_ _) | (with_reducible refine Kd.C_drewN ?_ _) | (with_reducible refine Kd.C_drew ?_))); (case side2 => exact HC274.out); rintro e w47 ⟨rfl, hb⟩; refine ⟨_, rfl, ?_⟩; have n0_ := Aside0.mk (Kd.R_below (by (with_reducible repeat (first | apply Kd.R_alloc | apply Kd.R_drewN | apply Kd.R_drew)); exact HO_3.out) hb); have n1_ := Aside0.mk (blk_below (g := gb263) (o := .cells #[.slice A0_0 l0_0.length c0_0, .slice A0_1 l0_1.length c0_1, .int .i64 a0_2, .slice A0_3 l0_3.length c0_3, .int .i64 a0_4, .slice A0_5 l0_5.length c0_5] 60 (0, 0)) (by (with_reducible repeat (first | refine blk_drewN ?_ _ | refine blk_drew ?_ | refine blk_alloc ?_ _)); exact BK263.out) hb); have n2_ := Aside0.mk (below_step (by repeat (first | (with_reducible first | exact HB.out | apply below_alloc | apply pw_below_drewN | apply below_drew1 | refine below_set ?_ GE263.out) | exact HB.out)) hb); clear HO_3; clear BK263; clear HB; have HO_3 := n0_; have BK263 := n1_; have HB := n2_; clear n0_ n1_ n2_; (try clear hb); (try clear hb2); (try clear hk); (try clear hi)) | ((with_reducible refine gate_dst (N := 6) rfl ?_); refine box_event ?hg (N := 6) ?hd (cs := #[.int .i64 0, .int .i64 0, .int .i64 0, .int .i64 0, .int .i64 0]) (t := 111) ?hr ?_; (case hd => rfl); (case hg => rfl); (case hr => first | (go_simp; done) | (go_simp; rfl)); intro gb280 hg w48 hbox hb; have n0_ := Aside0.mk (Kd.R_below (by (with_reducible repeat (first | apply Kd.R_alloc | apply Kd.R_drewN | apply Kd.R_drew)); exact HO_3.out) hb); have n1_ := Aside0.mk (blk_below (g := gb263) (o := .cells #[.slice A0_0 l0_0.length c0_0, .slice A0_1 l0_1.length c0_1, .int .i64 a0_2, .slice A0_3 l0_3.length c0_3, .int .i64 a0_4, .slice A0_5 l0_5.length c0_5] 60 (0, 0)) (by (with_reducible repeat (first | refine blk_drewN ?_ _ | refine blk_drew ?_ | refine blk_alloc ?_ _)); exact BK263.out) hb); have n2_ := Aside0.mk (below_step (by repeat (first | (with_reducible first | exact HB.out | apply below_alloc | apply pw_below_drewN | apply below_drew1 | refine below_set ?_ GE263.out) | exact HB.out)) hb); have n3_ := Aside0.mk (hbox); have n4_ := Aside0.mk ((by rw [hg]; exact (below_size (by repeat (first | (with_reducible first | exact HB.out | apply below_alloc | apply pw_below_drewN | apply below_drew1 | refine below_set ?_ GE263.out) | exact HB.out))) : w.heap.size ≤ gb280)); have n5_ := Aside0.mk ((by rw [hg]; exact (below_size (by repeat (first | (with_reducible first | exact HB.out | apply below_alloc | apply pw_below_drewN | apply below_drew1 | refine below_set ?_ GE263.out) | exact HB.out))) : w.heap.size ≤ gb280)); have n6_ := Aside0.mk ((by rw [hg]; exact Nat.ne_of_lt (blk_lt (g := gb263) (o := .cells #[.slice A0_0 l0_0.length c0_0, .slice A0_1 l0_1.length c0_1, .int .i64 a0_2, .slice A0_3 l0_3.length c0_3, .int .i64 a0_4, .slice A0_5 l0_5.length c0_5] 60 (0, 0)) (by (with_reducible repeat (first | refine blk_drewN ?_ _ | refine blk_drew ?_ | refine blk_alloc ?_ _)); exact BK263.out)) : gb263 ≠ gb280)); have n7_ := Aside0.mk ((by rw [hg]; exact Nat.ne_of_gt (blk_lt (g := gb263) (o := .cells #[.slice A0_0 l0_0.length c0_0, .slice A0_1 l0_1.length c0_1, .int .i64 a0_2, .slice A0_3 l0_3.length c0_3, .int .i64 a0_4, .slice A0_5 l0_5.length c0_5] 60 (0, 0)) (by (with_reducible repeat (first | refine blk_drewN ?_ _ | refine blk_drew ?_ | refine blk_alloc ?_ _)); exact BK263.out)) : gb280 ≠ gb263)); clear HO_3; clear BK263; clear HB; have HO_3 := n0_; have BK263 := n1_; have HB := n2_; have BK280 := n3_; have GW280 := n4_; have GE280 := n5_; have NB263_280 := n6_; have NB280_263 := n7_; clear n0_ n1_ n2_ n3_ n4_ n5_ n6_ n7_; clear hb hbox hg; have hnb49 := NB280_263.out; have hnc49 := NB263_280.out; have hcz50_0 : w48.cell? ⟨gb280, 0, none⟩ = some (.int .i64 0) := (blk_cell BK280.out 0).trans rfl; have hcz50_1 : w48.cell? ⟨gb280, 1, none⟩ = some (.int .i64 0) := (blk_cell BK280.out 1).trans rfl; have hcz50_2 : w48.cell? ⟨gb280, 2, none⟩ = some (.int .i64 0) := (blk_cell BK280.out 2).trans rfl; have hcz50_3 : w48.cell? ⟨gb280, 3, none⟩ = some (.int .i64 0) := (blk_cell BK280.out 3).trans rfl; have hcz50_4 : w48.cell? ⟨gb280, 4, none⟩ = some (.int .i64 0) := (blk_cell BK280.out 4).trans rfl; have hfz50_0 := blk_frozen BK280.out 0; have hfz50_1 := blk_frozen BK280.out 1; have hfz50_2 := blk_frozen BK280.out 2; have hfz50_3 := blk_frozen BK280.out 3; have hfz50_4 := blk_frozen BK280.out 4))
                                         have n0_ : Aside0 (Kd.R (Kd.int .u8) 5 (((((w48.setCell ⟨gb280, 0, none⟩ (.int .i64 t275)).setCell ⟨gb280, 1, none⟩ (.int .i64 t276)).setCell ⟨gb280, 2, none⟩ (.int .i64 t277)).setCell ⟨gb280, 3, none⟩ (.int .i64 t278)).setCell ⟨gb280, 4, none⟩ (.int .i64 t279)) w.heap.size (fun _ => True) u3 x3_2) := ⟨by (with_reducible repeat (first | apply Kd.R_alloc | apply Kd.R_drewN | apply Kd.R_drew)); exact Kd.R_mono (Kd.R_far (p := ⟨gb280, 4, none⟩) (Kd.R_far (p := ⟨gb280, 3, none⟩) (Kd.R_far (p := ⟨gb280, 2, none⟩) (Kd.R_far (p := ⟨gb280, 1, none⟩) (Kd.R_far (p := ⟨gb280, 0, none⟩) (Kd.R_types HO_3.out BK280.out (by decide)) (fun _ hk => hk.2) (.int .i64 t275)) (fun _ hk => hk.2) (.int .i64 t276)) (fun _ hk => hk.2) (.int .i64 t277)) (fun _ hk => hk.2) (.int .i64 t278)) (fun _ hk => hk.2) (.int .i64 t279)) (fun _ hk => trivial)⟩
                                         have n1_ : Aside0 ((((((w48.setCell ⟨gb280, 0, none⟩ (.int .i64 t275)).setCell ⟨gb280, 1, none⟩ (.int .i64 t276)).setCell ⟨gb280, 2, none⟩ (.int .i64 t277)).setCell ⟨gb280, 3, none⟩ (.int .i64 t278)).setCell ⟨gb280, 4, none⟩ (.int .i64 t279)).heap[gb263]? = some (.cells #[.slice A0_0 l0_0.length c0_0, .slice A0_1 l0_1.length c0_1, .int .i64 a0_2, .slice A0_3 l0_3.length c0_3, .int .i64 a0_4, .slice A0_5 l0_5.length c0_5] 60 (0, 0))) := ⟨by (with_reducible repeat (first | refine blk_drewN ?_ _ | refine blk_drew ?_ | refine blk_alloc ?_ _)); refine blk_far ?_ NB263_280.out _; (with_reducible repeat (first | refine blk_drewN ?_ _ | refine blk_drew ?_ | refine blk_alloc ?_ _)); refine blk_far ?_ NB263_280.out _; (with_reducible repeat (first | refine blk_drewN ?_ _ | refine blk_drew ?_ | refine blk_alloc ?_ _)); refine blk_far ?_ NB263_280.out _; (with_reducible repeat (first | refine blk_drewN ?_ _ | refine blk_drew ?_ | refine blk_alloc ?_ _)); refine blk_far ?_ NB263_280.out _; (with_reducible repeat (first | refine blk_drewN ?_ _ | refine blk_drew ?_ | refine blk_alloc ?_ _)); refine blk_far ?_ NB263_280.out _; (with_reducible repeat (first | refine blk_drewN ?_ _ | refine blk_drew ?_ | refine blk_alloc ?_ _)); exact BK263.out⟩
                                         have n2_ : Aside0 ((((((w48.setCell ⟨gb280, 0, none⟩ (.int .i64 t275)).setCell ⟨gb280, 1, none⟩ (.int .i64 t276)).setCell ⟨gb280, 2, none⟩ (.int .i64 t277)).setCell ⟨gb280, 3, none⟩ (.int .i64 t278)).setCell ⟨gb280, 4, none⟩ (.int .i64 t279)).heap[gb280]? = some (.cells #[.int .i64 t275, .int .i64 t276, .int .i64 t277, .int .i64 t278, .int .i64 t279] 111 (0, 0))) := ⟨by (with_reducible repeat (first | refine blk_drewN ?_ _ | refine blk_drew ?_ | refine blk_alloc ?_ _)); refine blk_put (cs := #[.int .i64 t275, .int .i64 t276, .int .i64 t277, .int .i64 t278, .int .i64 0]) ?_ 4 _ rfl; (with_reducible repeat (first | refine blk_drewN ?_ _ | refine blk_drew ?_ | refine blk_alloc ?_ _)); refine blk_put (cs := #[.int .i64 t275, .int .i64 t276, .int .i64 t277, .int .i64 0, .int .i64 0]) ?_ 3 _ rfl; (with_reducible repeat (first | refine blk_drewN ?_ _ | refine blk_drew ?_ | refine blk_alloc ?_ _)); refine blk_put (cs := #[.int .i64 t275, .int .i64 t276, .int .i64 0, .int .i64 0, .int .i64 0]) ?_ 2 _ rfl; (with_reducible repeat (first | refine blk_drewN ?_ _ | refine blk_drew ?_ | refine blk_alloc ?_ _)); refine blk_put (cs := #[.int .i64 t275, .int .i64 0, .int .i64 0, .int .i64 0, .int .i64 0]) ?_ 1 _ rfl; (with_reducible repeat (first | refine blk_drewN ?_ _ | refine blk_drew ?_ | refine blk_alloc ?_ _)); refine blk_put (cs := #[.int .i64 0, .int .i64 0, .int .i64 0, .int .i64 0, .int .i64 0]) ?_ 0 _ rfl; (with_reducible repeat (first | refine blk_drewN ?_ _ | refine blk_drew ?_ | refine blk_alloc ?_ _)); exact BK280.out⟩
                                         have n3_ : Aside0 (Below w.heap.size w (((((w48.setCell ⟨gb280, 0, none⟩ (.int .i64 t275)).setCell ⟨gb280, 1, none⟩ (.int .i64 t276)).setCell ⟨gb280, 2, none⟩ (.int .i64 t277)).setCell ⟨gb280, 3, none⟩ (.int .i64 t278)).setCell ⟨gb280, 4, none⟩ (.int .i64 t279))) := ⟨by repeat (first | (with_reducible first | exact HB.out | apply below_alloc | apply pw_below_drewN | apply below_drew1 | refine below_set ?_ GE263.out | refine below_set ?_ GE280.out) | exact HB.out)⟩
                                         (try clear HO_3)
                                         (try clear BK263)
                                         (try clear BK280)
                                         (try clear HB)
                                         generalize (((((w48.setCell ⟨gb280, 0, none⟩ (.int .i64 t275)).setCell ⟨gb280, 1, none⟩ (.int .i64 t276)).setCell ⟨gb280, 2, none⟩ (.int .i64 t277)).setCell ⟨gb280, 3, none⟩ (.int .i64 t278)).setCell ⟨gb280, 4, none⟩ (.int .i64 t279)) = w51 at n0_ n1_ n2_ n3_ ⊢
                                         have HO_3 := n0_
                                         have BK263 := n1_
                                         have BK280 := n2_
                                         have HB := n3_
                                         clear n0_ n1_ n2_ n3_
                                         have n0_ := Aside0.mk (Kd.R_drew HO_3.out)
                                         have n1_ := Aside0.mk (blk_drew BK263.out)
                                         have n2_ := Aside0.mk (blk_drew BK280.out)
                                         have n3_ := Aside0.mk (below_drew1 HB.out)
                                         clear HO_3
                                         clear BK263
                                         clear BK280
                                         clear HB
                                         have HO_3 := n0_
                                         have BK263 := n1_
                                         have BK280 := n2_
                                         have HB := n3_
                                         clear n0_ n1_ n2_ n3_
                                         refine start_ (n := 31) (S := fun w' => w'.cell? ⟨gb280, 0, none⟩ = some (.int .i64 t275) ∧ w'.cell? ⟨gb280, 1, none⟩ = some (.int .i64 t276) ∧ w'.cell? ⟨gb280, 2, none⟩ = some (.int .i64 t277) ∧ w'.cell? ⟨gb280, 3, none⟩ = some (.int .i64 t278) ∧ w'.cell? ⟨gb280, 4, none⟩ = some (.int .i64 t279)) (ds := []) #[false, false, false, false, false, false, false, false, false, false, false, false, false, false, false, false, false, false, false, false, false, false, false, false, false, false, false, false, false, false, false] (by kernel_rfl) rfl rfl ⟨(blk_cell BK280.out 0).trans rfl, (blk_cell BK280.out 1).trans rfl, (blk_cell BK280.out 2).trans rfl, (blk_cell BK280.out 3).trans rfl, (blk_cell BK280.out 4).trans rfl⟩ (fun hHeld => ?_); refine with_tabW spec_Disassemble.tab13 spec_Disassemble.bits13 (fun HT_ HW_ => ?_)
                                         generalize w51.drew = w52 at HO_3 BK263 BK280 HB hHeld ⊢
                                         refine pure_ (i := 0) (N := some 60) (v := ?_) (a' := ?_) #[true, false, false, false, false, false, false, false, false, false, false, false, false, false, false, false, false, false, false, false, false, false, false, false, false, false, false, false, false, false, false] rfl rfl (any_of HT_.out (by kernel_rfl)) (fun _ _ _ h => h) (Or.inl ⟨by rfl, ?_⟩) ?_ ?_
                                         rotate_left
                                         · intro w'
                                           go_simp
                                           with_reducible rfl
                                         rotate_left
                                         · simp only [Act.put, List.setIfInBounds_toArray, List.set_cons_zero, List.set_cons_succ, i64_w, i32_w]
                                           rfl
                                         refine pure_ (i := 1) (N := some 61) (v := ?_) (a' := ?_) #[true, true, false, false, false, false, false, false, false, false, false, false, false, false, false, false, false, false, false, false, false, false, false, false, false, false, false, false, false, false, false] rfl rfl (any_of HT_.out (by kernel_rfl)) (fun _ _ _ h => h) (Or.inl ⟨by rfl, ?_⟩) ?_ ?_
                                         rotate_left
                                         · intro w'
                                           go_simp
                                           with_reducible rfl
                                         rotate_left
                                         · simp only [Act.put, List.setIfInBounds_toArray, List.set_cons_zero, List.set_cons_succ, i64_w, i32_w]
                                           rfl
                                         refine pure_ (i := 4) (N := some 64) (v := ?_) (a' := ?_) #[true, true, false, false, true, false, false, false, false, false, false, false, false, false, false, false, false, false, false, false, false, false, false, false, false, false, false, false, false, false, false] rfl rfl (any_of HT_.out (by kernel_rfl)) (fun _ _ _ h => h) (Or.inl ⟨by rfl, ?_⟩) ?_ ?_
                                         rotate_left
                                         · intro w'
                                           go_simp
                                           with_reducible rfl
                                         rotate_left
                                         · simp only [Act.put, List.setIfInBounds_toArray, List.set_cons_zero, List.set_cons_succ, i64_w, i32_w]
                                           rfl
                                         refine pure_ (i := 9) (N := some 69) (v := ?_) (a' := ?_) #[true, true, false, false, true, false, false, false, false, true, false, false, false, false, false, false, false, false, false, false, false, false, false, false, false, false, false, false, false, false, false] rfl rfl (any_of HT_.out (by kernel_rfl)) (fun _ _ _ h => h) (Or.inl ⟨by rfl, ?_⟩) ?_ ?_
                                         rotate_left
                                         · intro w'
                                           go_simp
                                           with_reducible rfl
                                         rotate_left
                                         · simp only [Act.put, List.setIfInBounds_toArray, List.set_cons_zero, List.set_cons_succ, i64_w, i32_w]
                                           rfl
                                         refine pure_ (i := 14) (N := some 74) (v := ?_) (a' := ?_) #[true, true, false, false, true, false, false, false, false, true, false, false, false, false, true, false, false, false, false, false, false, false, false, false, false, false, false, false, false, false, false] rfl rfl (any_of HT_.out (by kernel_rfl)) (fun _ _ _ h => h) (Or.inl ⟨by rfl, ?_⟩) ?_ ?_
                                         rotate_left
                                         · intro w'
                                           go_simp
                                           with_reducible rfl
                                         rotate_left
                                         · simp only [Act.put, List.setIfInBounds_toArray, List.set_cons_zero, List.set_cons_succ, i64_w, i32_w]
                                           rfl
                                         refine pure_ (i := 19) (N := some 79) (v := ?_) (a' := ?_) #[true, true, false, false, true, false, false, false, false, true, false, false, false, false, true, false, false, false, false, true, false, false, false, false, false, false, false, false, false, false, false] rfl rfl (any_of HT_.out (by kernel_rfl)) (fun _ _ _ h => h) (Or.inl ⟨by rfl, ?_⟩) ?_ ?_
                                         rotate_left
                                         · intro w'
                                           go_simp
                                           with_reducible rfl
                                         rotate_left
                                         · simp only [Act.put, List.setIfInBounds_toArray, List.set_cons_zero, List.set_cons_succ, i64_w, i32_w]
                                           rfl
                                         refine pure_ (i := 24) (N := some 84) (v := ?_) (a' := ?_) #[true, true, false, false, true, false, false, false, false, true, false, false, false, false, true, false, false, false, false, true, false, false, false, false, true, false, false, false, false, false, false] rfl rfl (any_of HT_.out (by kernel_rfl)) (fun _ _ _ h => h) (Or.inl ⟨by rfl, ?_⟩) ?_ ?_
                                         rotate_left
                                         · intro w'
                                           go_simp
                                           with_reducible rfl
                                         rotate_left
                                         · simp only [Act.put, List.setIfInBounds_toArray, List.set_cons_zero, List.set_cons_succ, i64_w, i32_w]
                                           rfl
                                         refine take_ (i := 5) (N := some 65) (v := ?_) (a' := ?_) #[true, true, false, false, true, true, false, false, false, true, false, false, false, false, true, false, false, false, false, true, false, false, false, false, true, false, false, false, false, false, false] rfl rfl (take_ofW HT_.out HW_.out (by kernel_rfl)) (fun _ _ _ h => h) (Or.inl ⟨by rfl, ?_⟩) hHeld ?_ ?_
                                         rotate_left
                                         · rintro w' ⟨s0, s1, s2, s3, s4⟩
                                           go_simp
                                           with_reducible rfl
                                         rotate_left
                                         · simp only [Act.put, List.setIfInBounds_toArray, List.set_cons_zero, List.set_cons_succ, i64_w, i32_w]
                                           rfl
                                         refine take_ (i := 10) (N := some 70) (v := ?_) (a' := ?_) #[true, true, false, false, true, true, false, false, false, true, true, false, false, false, true, false, false, false, false, true, false, false, false, false, true, false, false, false, false, false, false] rfl rfl (take_ofW HT_.out HW_.out (by kernel_rfl)) (fun _ _ _ h => h) (Or.inl ⟨by rfl, ?_⟩) hHeld ?_ ?_
                                         rotate_left
                                         · rintro w' ⟨s0, s1, s2, s3, s4⟩
                                           go_simp
                                           with_reducible rfl
                                         rotate_left
                                         · simp only [Act.put, List.setIfInBounds_toArray, List.set_cons_zero, List.set_cons_succ, i64_w, i32_w]
                                           rfl
                                         refine take_ (i := 15) (N := some 75) (v := ?_) (a' := ?_) #[true, true, false, false, true, true, false, false, false, true, true, false, false, false, true, true, false, false, false, true, false, false, false, false, true, false, false, false, false, false, false] rfl rfl (take_ofW HT_.out HW_.out (by kernel_rfl)) (fun _ _ _ h => h) (Or.inl ⟨by rfl, ?_⟩) hHeld ?_ ?_
                                         rotate_left
                                         · rintro w' ⟨s0, s1, s2, s3, s4⟩
                                           go_simp
                                           with_reducible rfl
                                         rotate_left
                                         · simp only [Act.put, List.setIfInBounds_toArray, List.set_cons_zero, List.set_cons_succ, i64_w, i32_w]
                                           rfl
                                         refine take_ (i := 20) (N := some 80) (v := ?_) (a' := ?_) #[true, true, false, false, true, true, false, false, false, true, true, false, false, false, true, true, false, false, false, true, true, false, false, false, true, false, false, false, false, false, false] rfl rfl (take_ofW HT_.out HW_.out (by kernel_rfl)) (fun _ _ _ h => h) (Or.inl ⟨by rfl, ?_⟩) hHeld ?_ ?_
                                         rotate_left
                                         · rintro w' ⟨s0, s1, s2, s3, s4⟩
                                           go_simp
                                           with_reducible rfl
                                         rotate_left
                                         · simp only [Act.put, List.setIfInBounds_toArray, List.set_cons_zero, List.set_cons_succ, i64_w, i32_w]
                                           rfl
                                         refine take_ (i := 25) (N := some 85) (v := ?_) (a' := ?_) #[true, true, false, false, true, true, false, false, false, true, true, false, false, false, true, true, false, false, false, true, true, false, false, false, true, true, false, false, false, false, false] rfl rfl (take_ofW HT_.out HW_.out (by kernel_rfl)) (fun _ _ _ h => h) (Or.inl ⟨by rfl, ?_⟩) hHeld ?_ ?_
                                         rotate_left
                                         · rintro w' ⟨s0, s1, s2, s3, s4⟩
                                           go_simp
                                           with_reducible rfl
                                         rotate_left
                                         · simp only [Act.put, List.setIfInBounds_toArray, List.set_cons_zero, List.set_cons_succ, i64_w, i32_w]
                                           rfl
                                         refine one_ (i := 2) (N := some 62) #[true, true, true, false, true, true, false, false, false, true, true, false, false, false, true, true, false, false, false, true, true, false, false, false, true, true, false, false, false, false, false] rfl rfl (one_of HT_.out (by kernel_rfl)) (by decide) (fun K hK => ?_)
                                         refine goes_ Tryd.func60 (by kernel_rfl) rfl #[.int .i64 x4_1] (by rfl) rfl rfl (by (try simp only [List.map_toArray, List.map_cons, List.map_nil]); first | done | rfl | (simp only [List.length_drop, List.length_take]; rfl)) ?_
                                         with_reducible refine (spec_l3Int.calls k2 x4_1 t281 _ A27.out).mono ?_
                                         rintro e w53 ⟨rfl, hb⟩
                                         refine ⟨_, rfl, ?_⟩
                                         have n0_ := Aside0.mk (Kd.R_below (by (with_reducible repeat (first | apply Kd.R_alloc | apply Kd.R_drewN | apply Kd.R_drew)); exact HO_3.out) hb)
                                         have n1_ := Aside0.mk (blk_below (g := gb263) (o := .cells #[.slice A0_0 l0_0.length c0_0, .slice A0_1 l0_1.length c0_1, .int .i64 a0_2, .slice A0_3 l0_3.length c0_3, .int .i64 a0_4, .slice A0_5 l0_5.length c0_5] 60 (0, 0)) (by (with_reducible repeat (first | refine blk_drewN ?_ _ | refine blk_drew ?_ | refine blk_alloc ?_ _)); exact BK263.out) hb)
                                         have n2_ := Aside0.mk (blk_below (g := gb280) (o := .cells #[.int .i64 t275, .int .i64 t276, .int .i64 t277, .int .i64 t278, .int .i64 t279] 111 (0, 0)) (by (with_reducible repeat (first | refine blk_drewN ?_ _ | refine blk_drew ?_ | refine blk_alloc ?_ _)); exact BK280.out) hb)
                                         have n3_ := Aside0.mk (below_step (by repeat (first | (with_reducible first | exact HB.out | apply below_alloc | apply pw_below_drewN | apply below_drew1 | refine below_set ?_ GE263.out | refine below_set ?_ GE280.out) | exact HB.out)) hb)
                                         clear HO_3
                                         clear BK263
                                         clear BK280
                                         clear HB
                                         have HO_3 := n0_
                                         have BK263 := n1_
                                         have BK280 := n2_
                                         have HB := n3_
                                         clear n0_ n1_ n2_ n3_
                                         (try clear hb)
                                         (try clear hb2)
                                         (try clear hk)
                                         (try clear hi)
                                         refine hK.out _ _ ⟨(blk_cell BK280.out 0).trans rfl, (blk_cell BK280.out 1).trans rfl, (blk_cell BK280.out 2).trans rfl, (blk_cell BK280.out 3).trans rfl, (blk_cell BK280.out 4).trans rfl⟩ (fun hHeld => ?_)
                                         clear hK K
                                         refine norm_ (a' := ?_) ?_ ?_
                                         rotate_left
                                         · show Act.put _ (some 62) _ = _
                                           simp only [Act.put, List.setIfInBounds_toArray, List.set_cons_zero, List.set_cons_succ, i64_w, i32_w]
                                           rfl
                                         refine pure_ (i := 3) (N := some 63) (v := ?_) (a' := ?_) #[true, true, true, true, true, true, false, false, false, true, true, false, false, false, true, true, false, false, false, true, true, false, false, false, true, true, false, false, false, false, false] rfl rfl (any_of HT_.out (by kernel_rfl)) (fun _ _ _ h => h) (Or.inl ⟨by rfl, ?_⟩) ?_ ?_
                                         rotate_left
                                         · intro w'
                                           go_simp
                                           with_reducible rfl
                                         rotate_left
                                         · simp only [Act.put, List.setIfInBounds_toArray, List.set_cons_zero, List.set_cons_succ, i64_w, i32_w]
                                           rfl
                                         refine one_ (i := 6) (N := some 66) #[true, true, true, true, true, true, true, false, false, true, true, false, false, false, true, true, false, false, false, true, true, false, false, false, true, true, false, false, false, false, false] rfl rfl (one_of HT_.out (by kernel_rfl)) (by decide) (fun K hK => ?_)
                                         refine goes_ Tryd.func60 (by kernel_rfl) rfl #[.int .i64 t275] (by rfl) rfl rfl (by (try simp only [List.map_toArray, List.map_cons, List.map_nil]); first | done | rfl | (simp only [List.length_drop, List.length_take]; rfl)) ?_
                                         with_reducible refine (spec_l3Int.calls k2 t275 t282 _ A29.out).mono ?_
                                         rintro e w54 ⟨rfl, hb⟩
                                         refine ⟨_, rfl, ?_⟩
                                         have n0_ := Aside0.mk (Kd.R_below (by (with_reducible repeat (first | apply Kd.R_alloc | apply Kd.R_drewN | apply Kd.R_drew)); exact HO_3.out) hb)
                                         have n1_ := Aside0.mk (blk_below (g := gb263) (o := .cells #[.slice A0_0 l0_0.length c0_0, .slice A0_1 l0_1.length c0_1, .int .i64 a0_2, .slice A0_3 l0_3.length c0_3, .int .i64 a0_4, .slice A0_5 l0_5.length c0_5] 60 (0, 0)) (by (with_reducible repeat (first | refine blk_drewN ?_ _ | refine blk_drew ?_ | refine blk_alloc ?_ _)); exact BK263.out) hb)
                                         have n2_ := Aside0.mk (blk_below (g := gb280) (o := .cells #[.int .i64 t275, .int .i64 t276, .int .i64 t277, .int .i64 t278, .int .i64 t279] 111 (0, 0)) (by (with_reducible repeat (first | refine blk_drewN ?_ _ | refine blk_drew ?_ | refine blk_alloc ?_ _)); exact BK280.out) hb)
                                         have n3_ := Aside0.mk (below_step (by repeat (first | (with_reducible first | exact HB.out | apply below_alloc | apply pw_below_drewN | apply below_drew1 | refine below_set ?_ GE263.out | refine below_set ?_ GE280.out) | exact HB.out)) hb)
                                         clear HO_3
                                         clear BK263
                                         clear BK280
                                         clear HB
                                         have HO_3 := n0_
                                         have BK263 := n1_
                                         have BK280 := n2_
                                         have HB := n3_
                                         clear n0_ n1_ n2_ n3_
                                         (try clear hb)
                                         (try clear hb2)
                                         (try clear hk)
                                         (try clear hi)
                                         refine hK.out _ _ ⟨(blk_cell BK280.out 0).trans rfl, (blk_cell BK280.out 1).trans rfl, (blk_cell BK280.out 2).trans rfl, (blk_cell BK280.out 3).trans rfl, (blk_cell BK280.out 4).trans rfl⟩ (fun hHeld => ?_)
                                         clear hK K
                                         refine norm_ (a' := ?_) ?_ ?_
                                         rotate_left
                                         · show Act.put _ (some 66) _ = _
                                           simp only [Act.put, List.setIfInBounds_toArray, List.set_cons_zero, List.set_cons_succ, i64_w, i32_w]
                                           rfl
                                         refine pure_ (i := 7) (N := some 67) (v := ?_) (a' := ?_) #[true, true, true, true, true, true, true, true, false, true, true, false, false, false, true, true, false, false, false, true, true, false, false, false, true, true, false, false, false, false, false] rfl rfl (any_of HT_.out (by kernel_rfl)) (fun _ _ _ h => h) (Or.inl ⟨by rfl, ?_⟩) ?_ ?_
                                         rotate_left
                                         · intro w'
                                           go_simp
                                           with_reducible rfl
                                         rotate_left
                                         · simp only [Act.put, List.setIfInBounds_toArray, List.set_cons_zero, List.set_cons_succ, i64_w, i32_w]
                                           rfl
                                         refine pure_ (i := 8) (N := some 68) (v := ?_) (a' := ?_) #[true, true, true, true, true, true, true, true, true, true, true, false, false, false, true, true, false, false, false, true, true, false, false, false, true, true, false, false, false, false, false] rfl rfl (any_of HT_.out (by kernel_rfl)) (fun _ _ _ h => h) (Or.inl ⟨by rfl, ?_⟩) ?_ ?_
                                         rotate_left
                                         · intro w'
                                           go_simp
                                           with_reducible rfl
                                         rotate_left
                                         · simp only [Act.put, List.setIfInBounds_toArray, List.set_cons_zero, List.set_cons_succ, i64_w, i32_w]
                                           rfl
                                         refine one_ (i := 11) (N := some 71) #[true, true, true, true, true, true, true, true, true, true, true, true, false, false, true, true, false, false, false, true, true, false, false, false, true, true, false, false, false, false, false] rfl rfl (one_of HT_.out (by kernel_rfl)) (by decide) (fun K hK => ?_)
                                         refine goes_ Tryd.func60 (by kernel_rfl) rfl #[.int .i64 t276] (by rfl) rfl rfl (by (try simp only [List.map_toArray, List.map_cons, List.map_nil]); first | done | rfl | (simp only [List.length_drop, List.length_take]; rfl)) ?_
                                         with_reducible refine (spec_l3Int.calls k2 t276 t283 _ A32.out).mono ?_
                                         rintro e w55 ⟨rfl, hb⟩
                                         refine ⟨_, rfl, ?_⟩
                                         have n0_ := Aside0.mk (Kd.R_below (by (with_reducible repeat (first | apply Kd.R_alloc | apply Kd.R_drewN | apply Kd.R_drew)); exact HO_3.out) hb)
                                         have n1_ := Aside0.mk (blk_below (g := gb263) (o := .cells #[.slice A0_0 l0_0.length c0_0, .slice A0_1 l0_1.length c0_1, .int .i64 a0_2, .slice A0_3 l0_3.length c0_3, .int .i64 a0_4, .slice A0_5 l0_5.length c0_5] 60 (0, 0)) (by (with_reducible repeat (first | refine blk_drewN ?_ _ | refine blk_drew ?_ | refine blk_alloc ?_ _)); exact BK263.out) hb)
                                         have n2_ := Aside0.mk (blk_below (g := gb280) (o := .cells #[.int .i64 t275, .int .i64 t276, .int .i64 t277, .int .i64 t278, .int .i64 t279] 111 (0, 0)) (by (with_reducible repeat (first | refine blk_drewN ?_ _ | refine blk_drew ?_ | refine blk_alloc ?_ _)); exact BK280.out) hb)
                                         have n3_ := Aside0.mk (below_step (by repeat (first | (with_reducible first | exact HB.out | apply below_alloc | apply pw_below_drewN | apply below_drew1 | refine below_set ?_ GE263.out | refine below_set ?_ GE280.out) | exact HB.out)) hb)
                                         clear HO_3
                                         clear BK263
                                         clear BK280
                                         clear HB
                                         have HO_3 := n0_
                                         have BK263 := n1_
                                         have BK280 := n2_
                                         have HB := n3_
                                         clear n0_ n1_ n2_ n3_
                                         (try clear hb)
                                         (try clear hb2)
                                         (try clear hk)
                                         (try clear hi)
                                         refine hK.out _ _ ⟨(blk_cell BK280.out 0).trans rfl, (blk_cell BK280.out 1).trans rfl, (blk_cell BK280.out 2).trans rfl, (blk_cell BK280.out 3).trans rfl, (blk_cell BK280.out 4).trans rfl⟩ (fun hHeld => ?_)
                                         clear hK K
                                         refine norm_ (a' := ?_) ?_ ?_
                                         rotate_left
                                         · show Act.put _ (some 71) _ = _
                                           simp only [Act.put, List.setIfInBounds_toArray, List.set_cons_zero, List.set_cons_succ, i64_w, i32_w]
                                           rfl
                                         refine pure_ (i := 12) (N := some 72) (v := ?_) (a' := ?_) #[true, true, true, true, true, true, true, true, true, true, true, true, true, false, true, true, false, false, false, true, true, false, false, false, true, true, false, false, false, false, false] rfl rfl (any_of HT_.out (by kernel_rfl)) (fun _ _ _ h => h) (Or.inl ⟨by rfl, ?_⟩) ?_ ?_
                                         rotate_left
                                         · intro w'
                                           go_simp
                                           with_reducible rfl
                                         rotate_left
                                         · simp only [Act.put, List.setIfInBounds_toArray, List.set_cons_zero, List.set_cons_succ, i64_w, i32_w]
                                           rfl
                                         refine pure_ (i := 13) (N := some 73) (v := ?_) (a' := ?_) #[true, true, true, true, true, true, true, true, true, true, true, true, true, true, true, true, false, false, false, true, true, false, false, false, true, true, false, false, false, false, false] rfl rfl (any_of HT_.out (by kernel_rfl)) (fun _ _ _ h => h) (Or.inl ⟨by rfl, ?_⟩) ?_ ?_
                                         rotate_left
                                         · intro w'
                                           go_simp
                                           with_reducible rfl
                                         rotate_left
                                         · simp only [Act.put, List.setIfInBounds_toArray, List.set_cons_zero, List.set_cons_succ, i64_w, i32_w]
                                           rfl
                                         refine one_ (i := 16) (N := some 76) #[true, true, true, true, true, true, true, true, true, true, true, true, true, true, true, true, true, false, false, true, true, false, false, false, true, true, false, false, false, false, false] rfl rfl (one_of HT_.out (by kernel_rfl)) (by decide) (fun K hK => ?_)
                                         refine goes_ Tryd.func60 (by kernel_rfl) rfl #[.int .i64 t277] (by rfl) rfl rfl (by (try simp only [List.map_toArray, List.map_cons, List.map_nil]); first | done | rfl | (simp only [List.length_drop, List.length_take]; rfl)) ?_
                                         with_reducible refine (spec_l3Int.calls k2 t277 t284 _ A35.out).mono ?_
                                         rintro e w56 ⟨rfl, hb⟩
                                         refine ⟨_, rfl, ?_⟩
                                         have n0_ := Aside0.mk (Kd.R_below (by (with_reducible repeat (first | apply Kd.R_alloc | apply Kd.R_drewN | apply Kd.R_drew)); exact HO_3.out) hb)
                                         have n1_ := Aside0.mk (blk_below (g := gb263) (o := .cells #[.slice A0_0 l0_0.length c0_0, .slice A0_1 l0_1.length c0_1, .int .i64 a0_2, .slice A0_3 l0_3.length c0_3, .int .i64 a0_4, .slice A0_5 l0_5.length c0_5] 60 (0, 0)) (by (with_reducible repeat (first | refine blk_drewN ?_ _ | refine blk_drew ?_ | refine blk_alloc ?_ _)); exact BK263.out) hb)
                                         have n2_ := Aside0.mk (blk_below (g := gb280) (o := .cells #[.int .i64 t275, .int .i64 t276, .int .i64 t277, .int .i64 t278, .int .i64 t279] 111 (0, 0)) (by (with_reducible repeat (first | refine blk_drewN ?_ _ | refine blk_drew ?_ | refine blk_alloc ?_ _)); exact BK280.out) hb)
                                         have n3_ := Aside0.mk (below_step (by repeat (first | (with_reducible first | exact HB.out | apply below_alloc | apply pw_below_drewN | apply below_drew1 | refine below_set ?_ GE263.out | refine below_set ?_ GE280.out) | exact HB.out)) hb)
                                         clear HO_3
                                         clear BK263
                                         clear BK280
                                         clear HB
                                         have HO_3 := n0_
                                         have BK263 := n1_
                                         have BK280 := n2_
                                         have HB := n3_
                                         clear n0_ n1_ n2_ n3_
                                         (try clear hb)
                                         (try clear hb2)
                                         (try clear hk)
                                         (try clear hi)
                                         refine hK.out _ _ ⟨(blk_cell BK280.out 0).trans rfl, (blk_cell BK280.out 1).trans rfl, (blk_cell BK280.out 2).trans rfl, (blk_cell BK280.out 3).trans rfl, (blk_cell BK280.out 4).trans rfl⟩ (fun hHeld => ?_)
                                         clear hK K
                                         refine norm_ (a' := ?_) ?_ ?_
                                         rotate_left
                                         · show Act.put _ (some 76) _ = _
                                           simp only [Act.put, List.setIfInBounds_toArray, List.set_cons_zero, List.set_cons_succ, i64_w, i32_w]
                                           rfl
                                         refine pure_ (i := 17) (N := some 77) (v := ?_) (a' := ?_) #[true, true, true, true, true, true, true, true, true, true, true, true, true, true, true, true, true, true, false, true, true, false, false, false, true, true, false, false, false, false, false] rfl rfl (any_of HT_.out (by kernel_rfl)) (fun _ _ _ h => h) (Or.inl ⟨by rfl, ?_⟩) ?_ ?_
                                         rotate_left
                                         · intro w'
                                           go_simp
                                           with_reducible rfl
                                         rotate_left
                                         · simp only [Act.put, List.setIfInBounds_toArray, List.set_cons_zero, List.set_cons_succ, i64_w, i32_w]
                                           rfl
                                         refine pure_ (i := 18) (N := some 78) (v := ?_) (a' := ?_) #[true, true, true, true, true, true, true, true, true, true, true, true, true, true, true, true, true, true, true, true, true, false, false, false, true, true, false, false, false, false, false] rfl rfl (any_of HT_.out (by kernel_rfl)) (fun _ _ _ h => h) (Or.inl ⟨by rfl, ?_⟩) ?_ ?_
                                         rotate_left
                                         · intro w'
                                           go_simp
                                           with_reducible rfl
                                         rotate_left
                                         · simp only [Act.put, List.setIfInBounds_toArray, List.set_cons_zero, List.set_cons_succ, i64_w, i32_w]
                                           rfl
                                         refine one_ (i := 21) (N := some 81) #[true, true, true, true, true, true, true, true, true, true, true, true, true, true, true, true, true, true, true, true, true, true, false, false, true, true, false, false, false, false, false] rfl rfl (one_of HT_.out (by kernel_rfl)) (by decide) (fun K hK => ?_)
                                         refine goes_ Tryd.func60 (by kernel_rfl) rfl #[.int .i64 t278] (by rfl) rfl rfl (by (try simp only [List.map_toArray, List.map_cons, List.map_nil]); first | done | rfl | (simp only [List.length_drop, List.length_take]; rfl)) ?_
                                         with_reducible refine (spec_l3Int.calls k2 t278 t285 _ A38.out).mono ?_
                                         rintro e w57 ⟨rfl, hb⟩
                                         refine ⟨_, rfl, ?_⟩
                                         have n0_ := Aside0.mk (Kd.R_below (by (with_reducible repeat (first | apply Kd.R_alloc | apply Kd.R_drewN | apply Kd.R_drew)); exact HO_3.out) hb)
                                         have n1_ := Aside0.mk (blk_below (g := gb263) (o := .cells #[.slice A0_0 l0_0.length c0_0, .slice A0_1 l0_1.length c0_1, .int .i64 a0_2, .slice A0_3 l0_3.length c0_3, .int .i64 a0_4, .slice A0_5 l0_5.length c0_5] 60 (0, 0)) (by (with_reducible repeat (first | refine blk_drewN ?_ _ | refine blk_drew ?_ | refine blk_alloc ?_ _)); exact BK263.out) hb)
                                         have n2_ := Aside0.mk (blk_below (g := gb280) (o := .cells #[.int .i64 t275, .int .i64 t276, .int .i64 t277, .int .i64 t278, .int .i64 t279] 111 (0, 0)) (by (with_reducible repeat (first | refine blk_drewN ?_ _ | refine blk_drew ?_ | refine blk_alloc ?_ _)); exact BK280.out) hb)
                                         have n3_ := Aside0.mk (below_step (by repeat (first | (with_reducible first | exact HB.out | apply below_alloc | apply pw_below_drewN | apply below_drew1 | refine below_set ?_ GE263.out | refine below_set ?_ GE280.out) | exact HB.out)) hb)
                                         clear HO_3
                                         clear BK263
                                         clear BK280
                                         clear HB
                                         have HO_3 := n0_
                                         have BK263 := n1_
                                         have BK280 := n2_
                                         have HB := n3_
                                         clear n0_ n1_ n2_ n3_
                                         (try clear hb)
                                         (try clear hb2)
                                         (try clear hk)
                                         (try clear hi)
                                         refine hK.out _ _ ⟨(blk_cell BK280.out 0).trans rfl, (blk_cell BK280.out 1).trans rfl, (blk_cell BK280.out 2).trans rfl, (blk_cell BK280.out 3).trans rfl, (blk_cell BK280.out 4).trans rfl⟩ (fun hHeld => ?_)
                                         clear hK K
                                         refine norm_ (a' := ?_) ?_ ?_
                                         rotate_left
                                         · show Act.put _ (some 81) _ = _
                                           simp only [Act.put, List.setIfInBounds_toArray, List.set_cons_zero, List.set_cons_succ, i64_w, i32_w]
                                           rfl
                                         refine pure_ (i := 22) (N := some 82) (v := ?_) (a' := ?_) #[true, true, true, true, true, true, true, true, true, true, true, true, true, true, true, true, true, true, true, true, true, true, true, false, true, true, false, false, false, false, false] rfl rfl (any_of HT_.out (by kernel_rfl)) (fun _ _ _ h => h) (Or.inl ⟨by rfl, ?_⟩) ?_ ?_
                                         rotate_left
                                         · intro w'
                                           go_simp
                                           with_reducible rfl
                                         rotate_left
                                         · simp only [Act.put, List.setIfInBounds_toArray, List.set_cons_zero, List.set_cons_succ, i64_w, i32_w]
                                           rfl
                                         refine pure_ (i := 23) (N := some 83) (v := ?_) (a' := ?_) #[true, true, true, true, true, true, true, true, true, true, true, true, true, true, true, true, true, true, true, true, true, true, true, true, true, true, false, false, false, false, false] rfl rfl (any_of HT_.out (by kernel_rfl)) (fun _ _ _ h => h) (Or.inl ⟨by rfl, ?_⟩) ?_ ?_
                                         rotate_left
                                         · intro w'
                                           go_simp
                                           with_reducible rfl
                                         rotate_left
                                         · simp only [Act.put, List.setIfInBounds_toArray, List.set_cons_zero, List.set_cons_succ, i64_w, i32_w]
                                           rfl
                                         refine one_ (i := 26) (N := some 86) #[true, true, true, true, true, true, true, true, true, true, true, true, true, true, true, true, true, true, true, true, true, true, true, true, true, true, true, false, false, false, false] rfl rfl (one_of HT_.out (by kernel_rfl)) (by decide) (fun K hK => ?_)
                                         refine goes_ Tryd.func60 (by kernel_rfl) rfl #[.int .i64 t279] (by rfl) rfl rfl (by (try simp only [List.map_toArray, List.map_cons, List.map_nil]); first | done | rfl | (simp only [List.length_drop, List.length_take]; rfl)) ?_
                                         with_reducible refine (spec_l3Int.calls k2 t279 t286 _ A41.out).mono ?_
                                         rintro e w58 ⟨rfl, hb⟩
                                         refine ⟨_, rfl, ?_⟩
                                         have n0_ := Aside0.mk (Kd.R_below (by (with_reducible repeat (first | apply Kd.R_alloc | apply Kd.R_drewN | apply Kd.R_drew)); exact HO_3.out) hb)
                                         have n1_ := Aside0.mk (blk_below (g := gb263) (o := .cells #[.slice A0_0 l0_0.length c0_0, .slice A0_1 l0_1.length c0_1, .int .i64 a0_2, .slice A0_3 l0_3.length c0_3, .int .i64 a0_4, .slice A0_5 l0_5.length c0_5] 60 (0, 0)) (by (with_reducible repeat (first | refine blk_drewN ?_ _ | refine blk_drew ?_ | refine blk_alloc ?_ _)); exact BK263.out) hb)
                                         have n2_ := Aside0.mk (blk_below (g := gb280) (o := .cells #[.int .i64 t275, .int .i64 t276, .int .i64 t277, .int .i64 t278, .int .i64 t279] 111 (0, 0)) (by (with_reducible repeat (first | refine blk_drewN ?_ _ | refine blk_drew ?_ | refine blk_alloc ?_ _)); exact BK280.out) hb)
                                         have n3_ := Aside0.mk (below_step (by repeat (first | (with_reducible first | exact HB.out | apply below_alloc | apply pw_below_drewN | apply below_drew1 | refine below_set ?_ GE263.out | refine below_set ?_ GE280.out) | exact HB.out)) hb)
                                         clear HO_3
                                         clear BK263
                                         clear BK280
                                         clear HB
                                         have HO_3 := n0_
                                         have BK263 := n1_
                                         have BK280 := n2_
                                         have HB := n3_
                                         clear n0_ n1_ n2_ n3_
                                         (try clear hb)
                                         (try clear hb2)
                                         (try clear hk)
                                         (try clear hi)
                                         refine hK.out _ _ ⟨(blk_cell BK280.out 0).trans rfl, (blk_cell BK280.out 1).trans rfl, (blk_cell BK280.out 2).trans rfl, (blk_cell BK280.out 3).trans rfl, (blk_cell BK280.out 4).trans rfl⟩ (fun hHeld => ?_)
                                         clear hK K
                                         refine norm_ (a' := ?_) ?_ ?_
                                         rotate_left
                                         · show Act.put _ (some 86) _ = _
                                           simp only [Act.put, List.setIfInBounds_toArray, List.set_cons_zero, List.set_cons_succ, i64_w, i32_w]
                                           rfl
                                         refine pure_ (i := 27) (N := some 87) (v := ?_) (a' := ?_) #[true, true, true, true, true, true, true, true, true, true, true, true, true, true, true, true, true, true, true, true, true, true, true, true, true, true, true, true, false, false, false] rfl rfl (any_of HT_.out (by kernel_rfl)) (fun _ _ _ h => h) (Or.inl ⟨by rfl, ?_⟩) ?_ ?_
                                         rotate_left
                                         · intro w'
                                           go_simp
                                           with_reducible rfl
                                         rotate_left
                                         · simp only [Act.put, List.setIfInBounds_toArray, List.set_cons_zero, List.set_cons_succ, i64_w, i32_w]
                                           rfl
                                         refine pure_ (i := 28) (N := some 88) (v := ?_) (a' := ?_) #[true, true, true, true, true, true, true, true, true, true, true, true, true, true, true, true, true, true, true, true, true, true, true, true, true, true, true, true, true, false, false] rfl rfl (any_of HT_.out (by kernel_rfl)) (fun _ _ _ h => h) (Or.inl ⟨by rfl, ?_⟩) ?_ ?_
                                         rotate_left
                                         · intro w'
                                           go_simp
                                           with_reducible rfl
                                         rotate_left
                                         · simp only [Act.put, List.setIfInBounds_toArray, List.set_cons_zero, List.set_cons_succ, i64_w, i32_w]
                                           rfl
                                         refine one_ (i := 29) (N := some 89) #[true, true, true, true, true, true, true, true, true, true, true, true, true, true, true, true, true, true, true, true, true, true, true, true, true, true, true, true, true, true, false] rfl rfl (one_of HT_.out (by kernel_rfl)) (by decide) (fun K hK => ?_)
                                         refine print_append_str_step (w0 := w) w.heap.size (by rfl) (.tmp 60) _ 41 9 5 rfl Tryd.underlying41 Tryd.underlying9 info5 u3 x3_2 (((((((((((t281 ++ (⟨#[32]⟩ : ByteArray)) ++ t282) ++ (⟨#[32]⟩ : ByteArray)) ++ t283) ++ (⟨#[32]⟩ : ByteArray)) ++ t284) ++ (⟨#[32]⟩ : ByteArray)) ++ t285) ++ (⟨#[32]⟩ : ByteArray)) ++ t286) ++ (⟨#[10]⟩ : ByteArray)) rfl rfl ?aO ?aB ?aS ?aL ?_
                                         (case aB => exact (by repeat (first | (with_reducible first | exact HB.out | apply below_alloc | apply pw_below_drewN | apply below_drew1 | refine below_set ?_ GE263.out | refine below_set ?_ GE280.out) | exact HB.out)))
                                         (case aO => exact (Kd.own_of_R (by (with_reducible repeat (first | apply Kd.R_alloc | apply Kd.R_drewN | apply Kd.R_drew)); exact HO_3.out)))
                                         (case aS => exact (below_size (by repeat (first | (with_reducible first | exact HB.out | apply below_alloc | apply pw_below_drewN | apply below_drew1 | refine below_set ?_ GE263.out | refine below_set ?_ GE280.out) | exact HB.out))))
                                         (case aL => have := LMc44.out; omega)
                                         intro v288 w59 ho0 hb hg
                                         have ho := Kd.R_of_own (h1 := fun _ => rfl) (ok := fun _ => True) ho0 (fun _ _ => trivial)
                                         clear ho0
                                         have hat := True.intro
                                         rw [← Ny287.out] at ho
                                         change Kd.R (Kd.int .u8) 5 w59 w.heap.size (fun _ => True) v288 y287 at ho
                                         have n0_ := Aside0.mk (blk_grown (g := gb263) (o := .cells #[.slice A0_0 l0_0.length c0_0, .slice A0_1 l0_1.length c0_1, .int .i64 a0_2, .slice A0_3 l0_3.length c0_3, .int .i64 a0_4, .slice A0_5 l0_5.length c0_5] 60 (0, 0)) (by (with_reducible repeat (first | refine blk_drewN ?_ _ | refine blk_drew ?_ | refine blk_alloc ?_ _)); exact BK263.out) hg (Kd.R_ne HO_3.out BK263.out (by decide)))
                                         have n1_ := Aside0.mk (blk_grown (g := gb280) (o := .cells #[.int .i64 t275, .int .i64 t276, .int .i64 t277, .int .i64 t278, .int .i64 t279] 111 (0, 0)) (by (with_reducible repeat (first | refine blk_drewN ?_ _ | refine blk_drew ?_ | refine blk_alloc ?_ _)); exact BK280.out) hg (Kd.R_ne HO_3.out BK280.out (by decide)))
                                         have n2_ := Aside0.mk (hb)
                                         have n3_ := Aside0.mk (ho)
                                         clear BK263
                                         clear BK280
                                         clear HB
                                         clear HO_3
                                         have BK263 := n0_
                                         have BK280 := n1_
                                         have HB := n2_
                                         have HO289 := n3_
                                         clear n0_ n1_ n2_ n3_
                                         clear ho hb hg hat
                                         refine hK.out _ _ ⟨(blk_cell BK280.out 0).trans rfl, (blk_cell BK280.out 1).trans rfl, (blk_cell BK280.out 2).trans rfl, (blk_cell BK280.out 3).trans rfl, (blk_cell BK280.out 4).trans rfl⟩ (fun hHeld => ?_)
                                         clear hK K
                                         refine norm_ (a' := ?_) ?_ ?_
                                         rotate_left
                                         · show Act.put _ (some 89) _ = _
                                           simp only [Act.put, List.setIfInBounds_toArray, List.set_cons_zero, List.set_cons_succ, i64_w, i32_w]
                                           rfl
                                         refine pure_ (i := 30) (N := some 3) (v := ?_) (a' := ?_) #[true, true, true, true, true, true, true, true, true, true, true, true, true, true, true, true, true, true, true, true, true, true, true, true, true, true, true, true, true, true, true] rfl rfl (any_of HT_.out (by kernel_rfl)) (fun _ _ _ h => h) (Or.inl ⟨by rfl, ?_⟩) ?_ ?_
                                         rotate_left
                                         · intro w'
                                           go_simp
                                           with_reducible rfl
                                         rotate_left
                                         · simp only [Act.put, List.setIfInBounds_toArray, List.set_cons_zero, List.set_cons_succ, i64_w, i32_w]
                                           rfl
                                         refine done_ (done_of HT_.out (by kernel_rfl)) ?_
                                         try go_wp2
                                         go_roundg k2
                                         case measure => have := HK1.out; have := HK2.out; omega
                                         case rel => exact ⟨(y287), (wrap64 (x4_1 + 1)), (by first | rfl | (simp; done) | (simp [*]; done)), H', ⟨by have := HK1.out; have := HK2.out; omega⟩, ⟨by (with_reducible repeat (first | apply Kd.R_alloc | apply Kd.R_drewN | apply Kd.R_drew)); exact HO289.out⟩, ⟨by (with_reducible repeat (first | refine blk_drewN ?_ _ | refine blk_drew ?_ | refine blk_alloc ?_ _)); exact BK263.out⟩, ⟨by repeat (first | (with_reducible first | exact HB.out | apply below_alloc | apply pw_below_drewN | apply below_drew1 | refine below_set ?_ GE263.out | refine below_set ?_ GE280.out) | exact HB.out)⟩⟩
                                       · rw [if_neg c44] at H
                                         exact absurd H (by simp)
                                     · rw [if_neg c43] at H
                                       exact absurd H (by simp)
                                   · rw [if_neg c42] at H
                                     exact absurd H (by simp)
                                 · rw [if_neg c40] at H
                                   exact absurd H (by simp)
                               · rw [if_neg c39] at H
                                 exact absurd H (by simp)
                             · rw [if_neg c37] at H
                               exact absurd H (by simp)
                           · rw [if_neg c36] at H
                             exact absurd H (by simp)
                         · rw [if_neg c34] at H
                           exact absurd H (by simp)
                       · rw [if_neg c33] at H
                         exact absurd H (by simp)
                     · rw [if_neg c31] at H
                       exact absurd H (by simp)
                   · rw [if_neg c30] at H
                     exact absurd H (by simp)
                 · rw [if_neg c28] at H
                   exact absurd H (by simp)
               · rw [if_neg c25] at H
                 exact absurd H (by simp)
             · rw [if_neg c24] at H
               exact absurd H (by simp)
           · rw [if_neg c23] at H
             exact absurd H (by simp)
     · rw [if_neg c9] at H
       have c9b0 : decide (x4_1 < (wrap64 ((l0_0.length : Int) / 8))) = false := decide_eq_false c9
       clear c9
       obtain rfl := Option.some.inj H
       have hcz60_0 : wr.cell? ⟨gb263, 0, none⟩ = some (.slice A0_0 l0_0.length c0_0) := (blk_cell BK263.out 0).trans rfl
       have hcz60_1 : wr.cell? ⟨gb263, 1, none⟩ = some (.slice A0_1 l0_1.length c0_1) := (blk_cell BK263.out 1).trans rfl
       have hcz60_2 : wr.cell? ⟨gb263, 2, none⟩ = some (.int .i64 a0_2) := (blk_cell BK263.out 2).trans rfl
       have hcz60_3 : wr.cell? ⟨gb263, 3, none⟩ = some (.slice A0_3 l0_3.length c0_3) := (blk_cell BK263.out 3).trans rfl
       have hcz60_4 : wr.cell? ⟨gb263, 4, none⟩ = some (.int .i64 a0_4) := (blk_cell BK263.out 4).trans rfl
       have hcz60_5 : wr.cell? ⟨gb263, 5, none⟩ = some (.slice A0_5 l0_5.length c0_5) := (blk_cell BK263.out 5).trans rfl
       have hfz60_0 := blk_frozen BK263.out 0
       have hfz60_1 := blk_frozen BK263.out 1
       have hfz60_2 := blk_frozen BK263.out 2
       have hfz60_3 := blk_frozen BK263.out 3
       have hfz60_4 := blk_frozen BK263.out 4
       have hfz60_5 := blk_frozen BK263.out 5
       have hcv61 := own_string (P := Tryd.prog) Tryd.underlying41 Tryd.underlying5 Tryd.underlying9 (Kd.own_of_R HO_3.out)
       go_wp2
       go_ret
       exact ⟨by first | rfl | (simp [errW_none, errW_some] <;> rfl) | (simp [*, errW_none, errW_some] <;> rfl), by repeat (first | (with_reducible first | exact HB.out | apply below_alloc | apply pw_below_drewN | apply below_drew1 | refine below_set ?_ GE263.out) | exact HB.out)⟩
 · rw [if_neg c3] at H
   have c3b0 : (t264 == 0) = false := beq_eq_false_iff_ne.mpr c3
   have c3b1 : (t264 != 0) = true := bne_iff_ne.mpr c3
   obtain rfl := Option.some.inj H
   go_enter Tryd.func25, Tryd.ntmps25
   go_wp2_with (first | ((with_reducible refine gate_dst (N := 1) rfl ?_); refine box_event ?hg (N := 1) ?hd (cs := #[.slice A0_0 l0_0.length c0_0, .slice A0_1 l0_1.length c0_1, .int .i64 a0_2, .slice A0_3 l0_3.length c0_3, .int .i64 a0_4, .slice A0_5 l0_5.length c0_5]) (t := 60) ?hr ?_; (case hd => rfl); (case hg => rfl); (case hr => first | (go_simp; done) | (go_simp; rfl)); intro gb263 hg w62 hbox hb; have n0_ := Aside0.mk (below_step (by repeat (first | (with_reducible first | exact HB.out | apply below_alloc | apply pw_below_drewN | apply below_drew1) | exact HB.out)) hb); have n1_ := Aside0.mk (hbox); have n2_ := Aside0.mk ((by rw [hg]; exact (below_size (by repeat (first | (with_reducible first | exact HB.out | apply below_alloc | apply pw_below_drewN | apply below_drew1) | exact HB.out))) : w.heap.size ≤ gb263)); have n3_ := Aside0.mk ((by rw [hg]; exact (below_size (by repeat (first | (with_reducible first | exact HB.out | apply below_alloc | apply pw_below_drewN | apply below_drew1) | exact HB.out))) : w.heap.size ≤ gb263)); clear HB; have HB := n0_; have BK263 := n1_; have GW263 := n2_; have GE263 := n3_; clear n0_ n1_ n2_ n3_; clear hb hbox hg; have hcz63_0 : w62.cell? ⟨gb263, 0, none⟩ = some (.slice A0_0 l0_0.length c0_0) := (blk_cell BK263.out 0).trans rfl; have hcz63_1 : w62.cell? ⟨gb263, 1, none⟩ = some (.slice A0_1 l0_1.length c0_1) := (blk_cell BK263.out 1).trans rfl; have hcz63_2 : w62.cell? ⟨gb263, 2, none⟩ = some (.int .i64 a0_2) := (blk_cell BK263.out 2).trans rfl; have hcz63_3 : w62.cell? ⟨gb263, 3, none⟩ = some (.slice A0_3 l0_3.length c0_3) := (blk_cell BK263.out 3).trans rfl; have hcz63_4 : w62.cell? ⟨gb263, 4, none⟩ = some (.int .i64 a0_4) := (blk_cell BK263.out 4).trans rfl; have hcz63_5 : w62.cell? ⟨gb263, 5, none⟩ = some (.slice A0_5 l0_5.length c0_5) := (blk_cell BK263.out 5).trans rfl; have hfz63_0 := blk_frozen BK263.out 0; have hfz63_1 := blk_frozen BK263.out 1; have hfz63_2 := blk_frozen BK263.out 2; have hfz63_3 := blk_frozen BK263.out 3; have hfz63_4 := blk_frozen BK263.out 4; have hfz63_5 := blk_frozen BK263.out 5) | ((with_reducible refine gate_callee (f := 58) rfl ?_); refine goesL_ (some 8) rfl rfl Tryd.func58 (by kernel_rfl) rfl #[.agg #[.slice A0_0 l0_0.length c0_0, .slice A0_1 l0_1.length c0_1, .int .i64 a0_2, .slice A0_3 l0_3.length c0_3, .int .i64 a0_4, .slice A0_5 l0_5.length c0_5]] rfl (by (try simp only [List.map_toArray, List.map_cons, List.map_nil]); first | done | rfl | (simp only [List.length_drop, List.length_take]; rfl)) ?_; (with_reducible refine (spec_ImageFault.calls k _ _ l0_0 _ _ l0_1 a0_2 _ _ l0_3 a0_4 _ _ l0_5 t264 _ ?side1 ?side2 ?side3 ?side4 ?side5 ?side6 ?side7 ?side8 A2.out).mono ?_); (case side1 => repeat (first | exact (Kd.C_below HR0_0.out HB.out) | (with_reducible refine Kd.C_alloc ?_ _) | (with_reducible refine Kd.C_drewN ?_ _) | (with_reducible refine Kd.C_drew ?_))); (case side2 => exact HC0_0.out); (case side3 => repeat (first | exact (Kd.C_below HR0_1.out HB.out) | (with_reducible refine Kd.C_alloc ?_ _) | (with_reducible refine Kd.C_drewN ?_ _) | (with_reducible refine Kd.C_drew ?_))); (case side4 => exact HC0_1.out); (case side5 => repeat (first | exact (Kd.C_below HR0_3.out HB.out) | (with_reducible refine Kd.C_alloc ?_ _) | (with_reducible refine Kd.C_drewN ?_ _) | (with_reducible refine Kd.C_drew ?_))); (case side6 => exact HC0_3.out); (case side7 => repeat (first | exact (Kd.C_below HR0_5.out HB.out) | (with_reducible refine Kd.C_alloc ?_ _) | (with_reducible refine Kd.C_drewN ?_ _) | (with_reducible refine Kd.C_drew ?_))); (case side8 => exact HC0_5.out); rintro e w64 ⟨rfl, hb⟩; refine ⟨_, rfl, ?_⟩; have n0_ := Aside0.mk (blk_below (g := gb263) (o := .cells #[.slice A0_0 l0_0.length c0_0, .slice A0_1 l0_1.length c0_1, .int .i64 a0_2, .slice A0_3 l0_3.length c0_3, .int .i64 a0_4, .slice A0_5 l0_5.length c0_5] 60 (0, 0)) (by (with_reducible repeat (first | refine blk_drewN ?_ _ | refine blk_drew ?_ | refine blk_alloc ?_ _)); exact BK263.out) hb); have n1_ := Aside0.mk (below_step (by repeat (first | (with_reducible first | exact HB.out | apply below_alloc | apply pw_below_drewN | apply below_drew1 | refine below_set ?_ GE263.out) | exact HB.out)) hb); clear BK263; clear HB; have BK263 := n0_; have HB := n1_; clear n0_ n1_; (try clear hb); (try clear hb2); (try clear hk); (try clear hi)))
   go_ret
   exact ⟨by first | rfl | (simp [errW_none, errW_some] <;> rfl) | (simp [*, errW_none, errW_some] <;> rfl), by repeat (first | (with_reducible first | exact HB.out | apply below_alloc | apply pw_below_drewN | apply below_drew1 | refine below_set ?_ GE263.out) | exact HB.out)⟩

end Go.Proofs.YtkohjiajbdkcbaaDoor.All


namespace Go.Proofs.YtkohjiajbdkcbaaDoor.All
open Go.RowKit Go.Proofs.YtkohjiajbdkcbaaDoorW.PrintWords Go.Proofs.YtkohjiajbdkcbaaDoorW.PrintLast Go.Proofs.YtkohjiajbdkcbaaDoorW.PrintMore
attribute [local go_sem] max2_int min2_int max_two min_two max_three min_three max_four min_four   -- for this text's walks alone
set_option linter.unusedVariables false
set_option linter.unusedSimpArgs false

/-! ### laws_toByteS: function 61 -/
def laws_toByteS.l0 : Nat → List Int → List Int → Int → Option (List Int)
 | 0, _, _, _ => none
 | k + 1, x0, x3, x4 => if x4 < (x0.length : Int) then (if 0 ≤ x4 then (if x4 < (x3.length : Int) then (laws_toByteS.l0 k x0 (x3.set (x4 : Int).toNat (rd x0 x4)) (wrap64 (x4 + 1))) else (none)) else (none)) else (some x3)
def laws_toByteS.f (k : Nat) (l0 : List Int) : Option (List Int) := if 0 ≤ (l0.length : Int) then (if ((l0.length : Int) : Int).toNat ≤ 281474976710656 then (laws_toByteS.l0 k l0 (List.replicate ((l0.length : Int) : Int).toNat 0) 0) else (none)) else (none)
set_option maxHeartbeats 8000000 in
set_option maxRecDepth 100000 in
theorem laws_toByteS.calls (k : Nat) (A0 : Option Addr) (c0 : Nat) (l0 : List Int) (r : List Int) (w : World) (hr0 : Kd.C (Kd.int .u8) w A0 l0.length l0) (hc0 : l0.length ≤ c0) (h : laws_toByteS.f k l0 = some r) :
 Calls Tryd.prog 61 #[.slice A0 l0.length c0] w fun e w' => ∃ v0_ : Value, e = .returned (v0_) ∧ Kd.R (Kd.int .u8) 5 w' w.heap.size (fun _ => True) v0_ r ∧ Below w.heap.size w w' := by
 have HR0 := Aside0.mk hr0
 have HC0 := Aside0.mk hc0
 clear hr0 hc0
 have HB := Aside0.mk (Below.refl w.heap.size w)
 have H : (if 0 ≤ (l0.length : Int) then (if ((l0.length : Int) : Int).toNat ≤ 281474976710656 then (laws_toByteS.l0 k l0 (List.replicate ((l0.length : Int) : Int).toNat 0) 0) else (none)) else (none)) = some r := h
 clear h
 by_cases c2 : 0 ≤ (l0.length : Int)
 · rw [if_pos c2] at H
   have c2b0 := eq_true c2
   have c2b1 : decide (0 ≤ (l0.length : Int)) = true := decide_eq_true c2
   clear c2
   by_cases c3 : ((l0.length : Int) : Int).toNat ≤ 281474976710656
   · rw [if_pos c3] at H
     have c3b0 := eq_true c3
     have c3b1 : decide (((l0.length : Int) : Int).toNat ≤ 281474976710656) = true := decide_eq_true c3
     clear c3
     obtain ⟨y290, hy290⟩ : ∃ y_ : List Int, y_ = (List.replicate ((l0.length : Int) : Int).toNat 0) := ⟨_, rfl⟩
     replace H : (laws_toByteS.l0 k l0 y290 0) = some r := by first | (rw [hy290]; with_reducible exact H) | (have H2_ := (Option.bind_some _ _).symm.trans H; rw [hy290]; with_reducible exact H2_) | (have H2_ := (Option.bind_some _ _).symm.trans H; with_reducible exact H2_) | with_reducible exact H | (rw [hy290]; exact H) | exact H
     have Ny290 := Aside0.mk hy290
     clear hy290
     have H' := Aside0.mk H
     clear H
     go_enter Tryd.func61, Tryd.ntmps61
     go_wp2_with (first | ((with_reducible refine gate_dst (N := 7) rfl ?_); refine Kd.R_make (Kd.int .u8) _ 5 rfl (N := 7) rfl 41 _ _ rfl (l0.length : Int) rfl rfl Tryd.underlying41 (.int .u8 0) 1 info5 rfl (by decide) (by omega) 0 (ok := fun _ => True) (okp := fun _ => True) rfl (fun _ hk => hk) trivial (of_decide_eq_true (by first | (with_reducible assumption) | assumption)) (Nat.le_trans (Nat.mul_le_mul_right _ (of_decide_eq_true (by first | (with_reducible assumption) | assumption) : (l0.length : Int).toNat ≤ 281474976710656)) (by omega)) (Below.refl _ _) (Nat.le_refl _) ?_; intro v291 w4 ho5 hb hg_ hnew_; clear hg_ hnew_; (first | rw [← Ny290.out] at ho5 | (simp only [Int.reduceToNat] at ho5; rw [← Ny290.out] at ho5)); have n0_ := Aside0.mk (Kd.R_lower ho5 (below_size (by repeat (first | (with_reducible first | exact HB.out | apply below_alloc | apply pw_below_drewN | apply below_drew1) | exact HB.out)))); have n1_ := Aside0.mk (below_step (by repeat (first | (with_reducible first | exact HB.out | apply below_alloc | apply pw_below_drewN | apply below_drew1) | exact HB.out)) hb); clear HB; have HO292 := n0_; have HB := n1_; clear n0_ n1_; clear hb ho5))
     go_loopg [4] k (fun kq v4 w' => ∃ (x3_1 : List Int) (x4_1 : Int), v4 = .int .i64 x4_1 ∧ Aside0 (laws_toByteS.l0 kq l0 x3_1 x4_1 = some r) ∧ Aside0 (kq ≤ k) ∧ Aside0 (Kd.R (Kd.int .u8) 5 w' w.heap.size (fun _ => True) v291 x3_1) ∧ Aside0 (Below w.heap.size w w'))
     case atStart => exact ⟨(y290), (0), (by first | rfl | (simp; done) | (simp [*]; done)), H', ⟨Nat.le_refl _⟩, ⟨by (with_reducible repeat (first | apply Kd.R_alloc | apply Kd.R_drewN | apply Kd.R_drew)); exact HO292.out⟩, ⟨by repeat (first | (with_reducible first | exact HB.out | apply below_alloc | apply pw_below_drewN | apply below_drew1) | exact HB.out)⟩⟩
     case round =>
      clear H'
      try clear c2
      try clear c2b0
      try clear c2b1
      try clear p2
      try clear c3
      try clear c3b0
      try clear c3b1
      obtain ⟨x3_1, x4_1, rfl, HA, HK1, HO_3, HB⟩ := hrel
      cases gk with
      | zero => exact absurd HA.out (by simp [laws_toByteS.l0])
      | succ k1 =>
       have H := HA.out
       clear HA
       simp only [laws_toByteS.l0] at H
       by_cases c6 : x4_1 < (l0.length : Int)
       · rw [if_pos c6] at H
         have c6b0 : decide (x4_1 < (l0.length : Int)) = true := decide_eq_true c6
         clear c6
         by_cases c7 : 0 ≤ x4_1
         · rw [if_pos c7] at H
           have c7b0 : decide (0 ≤ x4_1) = true := decide_eq_true c7
           clear c7
           by_cases c8 : x4_1 < (x3_1.length : Int)
           · rw [if_pos c8] at H
             have c8b0 : decide (x4_1 < (x3_1.length : Int)) = true := decide_eq_true c8
             clear c8
             obtain ⟨y294, hy294⟩ : ∃ y_ : List Int, y_ = (x3_1.set (x4_1 : Int).toNat (rd l0 x4_1)) := ⟨_, rfl⟩
             replace H : (laws_toByteS.l0 k1 l0 y294 (wrap64 (x4_1 + 1))) = some r := by first | (rw [hy294]; with_reducible exact H) | (have H2_ := (Option.bind_some _ _).symm.trans H; rw [hy294]; with_reducible exact H2_) | (have H2_ := (Option.bind_some _ _).symm.trans H; with_reducible exact H2_) | with_reducible exact H | (rw [hy294]; exact H) | exact H
             have Ny294 := Aside0.mk hy294
             clear hy294
             have H' := Aside0.mk H
             clear H
             have p293 : 0 ≤ (x4_1 : Int) := of_decide_eq_true (by first | (with_reducible assumption) | assumption)
             have q293 : x4_1 < (l0.length : Int) := of_decide_eq_true (by first | (with_reducible assumption) | assumption)
             obtain ⟨ad293, e293, hx293_0⟩ := Kd.at_int HR0.out x4_1 p293 q293
             cases e293
             replace hx293_0 := (HB.out.cell (World.block_lt_of_cell? w _ hx293_0)).trans hx293_0
             replace p293 := eq_true p293
             replace q293 := eq_true q293
             have p9 : 0 ≤ (x4_1 : Int) := of_decide_eq_true (by first | (with_reducible assumption) | assumption)
             have q9 : (x4_1 : Int) < ((x3_1.length : Int) : Int) := of_decide_eq_true (by first | (with_reducible assumption) | assumption)
             obtain ⟨go9, co9, eo9, gb9, gl9, cl9, HG9⟩ := Kd.R_form HO_3.out (by omega)
             (first | cases eo9 | (injection eo9 with ea_ en_ ec_; (first | subst ea_ | (injection ea_ with ea_; subst ea_)); subst ec_; clear en_))
             have GB9 := Aside0.mk gb9
             have GG9 := Aside0.mk HG9
             clear gb9 gl9 HG9
             obtain ⟨hx9_0, hf9_0⟩ := Kd.R_celln 0 HO_3.out (x4_1 : Int) p9 q9
             replace p9 := eq_true p9
             replace q9 := eq_true q9
             have HP10 := Kd.R_putg HO_3.out (x4_1 : Int) (rd l0 x4_1)
             go_wp2_with (first | ((with_reducible refine gate_store (t := 5) (p := 20) rfl ?_); refine store_event (t := 5) (p := 20) (v := ?vo_w11) (w1 := (wr.setCell ⟨go9, (x4_1 : Int).toNat, none⟩ (.int .u8 (rd l0 x4_1)))) ?hg ?ho ?hn ?hr ?_; (case ho => rfl); (case hg => rfl); (case hn => rfl); (case hr => first | (go_simp; done) | (go_simp; rfl)); intro w11 hw; have hg : wr.grownBy w11 (some go9) := (by rw [hw]; exact HP10.2); have hp_ : Kd.R (Kd.int .u8) 5 w11 w.heap.size (fun _ => True) (.slice (some ⟨go9, 0, none⟩) x3_1.length co9) y294 := (by rw [hw, Ny294.out]; exact HP10.1); clear HP10; have n0_ := Aside0.mk (hp_); have n1_ := Aside0.mk ((by rw [hw]; exact below_set (HB.out) GB9.out : Below w.heap.size w w11)); clear HO_3; clear HB; have HO_3 := n0_; have HB := n1_; clear n0_ n1_; clear hg hw hp_))
             go_roundg k1
             case measure => have := HK1.out; omega
             case rel => exact ⟨(y294), (wrap64 (x4_1 + 1)), (by first | rfl | (simp; done) | (simp [*]; done)), H', ⟨by have := HK1.out; omega⟩, ⟨by (with_reducible repeat (first | apply Kd.R_alloc | apply Kd.R_drewN | apply Kd.R_drew)); exact HO_3.out⟩, ⟨by repeat (first | (with_reducible first | exact HB.out | apply below_alloc | apply pw_below_drewN | apply below_drew1) | exact HB.out)⟩⟩
           · rw [if_neg c8] at H
             exact absurd H (by simp)
         · rw [if_neg c7] at H
           exact absurd H (by simp)
       · rw [if_neg c6] at H
         have c6b0 : decide (x4_1 < (l0.length : Int)) = false := decide_eq_false c6
         clear c6
         obtain rfl := Option.some.inj H
         go_wp2
         go_ret
         exact ⟨_, by first | rfl | (simp [errW_none, errW_some] <;> rfl) | (simp [*, errW_none, errW_some] <;> rfl), by (with_reducible repeat (first | apply Kd.R_alloc | apply Kd.R_drewN | apply Kd.R_drew)); exact HO_3.out, by repeat (first | (with_reducible first | exact HB.out | apply below_alloc | apply pw_below_drewN | apply below_drew1) | exact HB.out)⟩
   · rw [if_neg c3] at H
     exact absurd H (by simp)
 · rw [if_neg c2] at H
   exact absurd H (by simp)

end Go.Proofs.YtkohjiajbdkcbaaDoor.All


namespace Go.Proofs.YtkohjiajbdkcbaaDoor.All
open Go.RowKit Go.Proofs.YtkohjiajbdkcbaaDoorW.PrintWords Go.Proofs.YtkohjiajbdkcbaaDoorW.PrintLast Go.Proofs.YtkohjiajbdkcbaaDoorW.PrintMore
attribute [local go_sem] max2_int min2_int max_two min_two max_three min_three max_four min_four   -- for this text's walks alone
set_option linter.unusedVariables false
set_option linter.unusedSimpArgs false

/-! ### laws_toInt64S: function 62 -/
def laws_toInt64S.l0 : Nat → List Int → List Int → Int → Option (List Int)
 | 0, _, _, _ => none
 | k + 1, x0, x3, x4 => if x4 < (x0.length : Int) then (if 0 ≤ x4 then (if x4 < (x3.length : Int) then (laws_toInt64S.l0 k x0 (x3.set (x4 : Int).toNat (rd x0 x4)) (wrap64 (x4 + 1))) else (none)) else (none)) else (some x3)
def laws_toInt64S.f (k : Nat) (l0 : List Int) : Option (List Int) := if 0 ≤ (l0.length : Int) then (if ((l0.length : Int) : Int).toNat ≤ 35184372088832 then (laws_toInt64S.l0 k l0 (List.replicate ((l0.length : Int) : Int).toNat 0) 0) else (none)) else (none)
set_option maxHeartbeats 8000000 in
set_option maxRecDepth 100000 in
theorem laws_toInt64S.calls (k : Nat) (A0 : Option Addr) (c0 : Nat) (l0 : List Int) (r : List Int) (w : World) (hr0 : Kd.C (Kd.int .i64) w A0 l0.length l0) (hc0 : l0.length ≤ c0) (h : laws_toInt64S.f k l0 = some r) :
 Calls Tryd.prog 62 #[.slice A0 l0.length c0] w fun e w' => ∃ v0_ : Value, e = .returned (v0_) ∧ Kd.R (Kd.int .i64) 2 w' w.heap.size (fun _ => True) v0_ r ∧ Below w.heap.size w w' := by
 have HR0 := Aside0.mk hr0
 have HC0 := Aside0.mk hc0
 clear hr0 hc0
 have HB := Aside0.mk (Below.refl w.heap.size w)
 have H : (if 0 ≤ (l0.length : Int) then (if ((l0.length : Int) : Int).toNat ≤ 35184372088832 then (laws_toInt64S.l0 k l0 (List.replicate ((l0.length : Int) : Int).toNat 0) 0) else (none)) else (none)) = some r := h
 clear h
 by_cases c2 : 0 ≤ (l0.length : Int)
 · rw [if_pos c2] at H
   have c2b0 := eq_true c2
   have c2b1 : decide (0 ≤ (l0.length : Int)) = true := decide_eq_true c2
   clear c2
   by_cases c3 : ((l0.length : Int) : Int).toNat ≤ 35184372088832
   · rw [if_pos c3] at H
     have c3b0 := eq_true c3
     have c3b1 : decide (((l0.length : Int) : Int).toNat ≤ 35184372088832) = true := decide_eq_true c3
     clear c3
     obtain ⟨y295, hy295⟩ : ∃ y_ : List Int, y_ = (List.replicate ((l0.length : Int) : Int).toNat 0) := ⟨_, rfl⟩
     replace H : (laws_toInt64S.l0 k l0 y295 0) = some r := by first | (rw [hy295]; with_reducible exact H) | (have H2_ := (Option.bind_some _ _).symm.trans H; rw [hy295]; with_reducible exact H2_) | (have H2_ := (Option.bind_some _ _).symm.trans H; with_reducible exact H2_) | with_reducible exact H | (rw [hy295]; exact H) | exact H
     have Ny295 := Aside0.mk hy295
     clear hy295
     have H' := Aside0.mk H
     clear H
     go_enter Tryd.func62, Tryd.ntmps62
     go_wp2_with (first | ((with_reducible refine gate_dst (N := 7) rfl ?_); refine Kd.R_make (Kd.int .i64) _ 2 rfl (N := 7) rfl 52 _ _ rfl (l0.length : Int) rfl rfl Tryd.underlying52 (.int .i64 0) 8 info2 rfl (by decide) (by omega) 0 (ok := fun _ => True) (okp := fun _ => True) rfl (fun _ hk => hk) trivial (of_decide_eq_true (by first | (with_reducible assumption) | assumption)) (Nat.le_trans (Nat.mul_le_mul_right _ (of_decide_eq_true (by first | (with_reducible assumption) | assumption) : (l0.length : Int).toNat ≤ 35184372088832)) (by omega)) (Below.refl _ _) (Nat.le_refl _) ?_; intro v296 w4 ho5 hb hg_ hnew_; clear hg_ hnew_; (first | rw [← Ny295.out] at ho5 | (simp only [Int.reduceToNat] at ho5; rw [← Ny295.out] at ho5)); have n0_ := Aside0.mk (Kd.R_lower ho5 (below_size (by repeat (first | (with_reducible first | exact HB.out | apply below_alloc | apply pw_below_drewN | apply below_drew1) | exact HB.out)))); have n1_ := Aside0.mk (below_step (by repeat (first | (with_reducible first | exact HB.out | apply below_alloc | apply pw_below_drewN | apply below_drew1) | exact HB.out)) hb); clear HB; have HO297 := n0_; have HB := n1_; clear n0_ n1_; clear hb ho5))
     go_loopg [4] k (fun kq v4 w' => ∃ (x3_1 : List Int) (x4_1 : Int), v4 = .int .i64 x4_1 ∧ Aside0 (laws_toInt64S.l0 kq l0 x3_1 x4_1 = some r) ∧ Aside0 (kq ≤ k) ∧ Aside0 (Kd.R (Kd.int .i64) 2 w' w.heap.size (fun _ => True) v296 x3_1) ∧ Aside0 (Below w.heap.size w w'))
     case atStart => exact ⟨(y295), (0), (by first | rfl | (simp; done) | (simp [*]; done)), H', ⟨Nat.le_refl _⟩, ⟨by (with_reducible repeat (first | apply Kd.R_alloc | apply Kd.R_drewN | apply Kd.R_drew)); exact HO297.out⟩, ⟨by repeat (first | (with_reducible first | exact HB.out | apply below_alloc | apply pw_below_drewN | apply below_drew1) | exact HB.out)⟩⟩
     case round =>
      clear H'
      try clear c2
      try clear c2b0
      try clear c2b1
      try clear p2
      try clear c3
      try clear c3b0
      try clear c3b1
      obtain ⟨x3_1, x4_1, rfl, HA, HK1, HO_3, HB⟩ := hrel
      cases gk with
      | zero => exact absurd HA.out (by simp [laws_toInt64S.l0])
      | succ k1 =>
       have H := HA.out
       clear HA
       simp only [laws_toInt64S.l0] at H
       by_cases c6 : x4_1 < (l0.length : Int)
       · rw [if_pos c6] at H
         have c6b0 : decide (x4_1 < (l0.length : Int)) = true := decide_eq_true c6
         clear c6
         by_cases c7 : 0 ≤ x4_1
         · rw [if_pos c7] at H
           have c7b0 : decide (0 ≤ x4_1) = true := decide_eq_true c7
           clear c7
           by_cases c8 : x4_1 < (x3_1.length : Int)
           · rw [if_pos c8] at H
             have c8b0 : decide (x4_1 < (x3_1.length : Int)) = true := decide_eq_true c8
             clear c8
             obtain ⟨y299, hy299⟩ : ∃ y_ : List Int, y_ = (x3_1.set (x4_1 : Int).toNat (rd l0 x4_1)) := ⟨_, rfl⟩
             replace H : (laws_toInt64S.l0 k1 l0 y299 (wrap64 (x4_1 + 1))) = some r := by first | (rw [hy299]; with_reducible exact H) | (have H2_ := (Option.bind_some _ _).symm.trans H; rw [hy299]; with_reducible exact H2_) | (have H2_ := (Option.bind_some _ _).symm.trans H; with_reducible exact H2_) | with_reducible exact H | (rw [hy299]; exact H) | exact H
             have Ny299 := Aside0.mk hy299
             clear hy299
             have H' := Aside0.mk H
             clear H
             have p298 : 0 ≤ (x4_1 : Int) := of_decide_eq_true (by first | (with_reducible assumption) | assumption)
             have q298 : x4_1 < (l0.length : Int) := of_decide_eq_true (by first | (with_reducible assumption) | assumption)
             obtain ⟨ad298, e298, hx298_0⟩ := Kd.at_int HR0.out x4_1 p298 q298
             cases e298
             replace hx298_0 := (HB.out.cell (World.block_lt_of_cell? w _ hx298_0)).trans hx298_0
             replace p298 := eq_true p298
             replace q298 := eq_true q298
             have p9 : 0 ≤ (x4_1 : Int) := of_decide_eq_true (by first | (with_reducible assumption) | assumption)
             have q9 : (x4_1 : Int) < ((x3_1.length : Int) : Int) := of_decide_eq_true (by first | (with_reducible assumption) | assumption)
             obtain ⟨go9, co9, eo9, gb9, gl9, cl9, HG9⟩ := Kd.R_form HO_3.out (by omega)
             (first | cases eo9 | (injection eo9 with ea_ en_ ec_; (first | subst ea_ | (injection ea_ with ea_; subst ea_)); subst ec_; clear en_))
             have GB9 := Aside0.mk gb9
             have GG9 := Aside0.mk HG9
             clear gb9 gl9 HG9
             obtain ⟨hx9_0, hf9_0⟩ := Kd.R_celln 0 HO_3.out (x4_1 : Int) p9 q9
             replace p9 := eq_true p9
             replace q9 := eq_true q9
             have HP10 := Kd.R_putg HO_3.out (x4_1 : Int) (rd l0 x4_1)
             go_wp2_with (first | ((with_reducible refine gate_store (t := 2) (p := 20) rfl ?_); refine store_event (t := 2) (p := 20) (v := ?vo_w11) (w1 := (wr.setCell ⟨go9, (x4_1 : Int).toNat, none⟩ (.int .i64 (rd l0 x4_1)))) ?hg ?ho ?hn ?hr ?_; (case ho => rfl); (case hg => rfl); (case hn => rfl); (case hr => first | (go_simp; done) | (go_simp; rfl)); intro w11 hw; have hg : wr.grownBy w11 (some go9) := (by rw [hw]; exact HP10.2); have hp_ : Kd.R (Kd.int .i64) 2 w11 w.heap.size (fun _ => True) (.slice (some ⟨go9, 0, none⟩) x3_1.length co9) y299 := (by rw [hw, Ny299.out]; exact HP10.1); clear HP10; have n0_ := Aside0.mk (hp_); have n1_ := Aside0.mk ((by rw [hw]; exact below_set (HB.out) GB9.out : Below w.heap.size w w11)); clear HO_3; clear HB; have HO_3 := n0_; have HB := n1_; clear n0_ n1_; clear hg hw hp_))
             go_roundg k1
             case measure => have := HK1.out; omega
             case rel => exact ⟨(y299), (wrap64 (x4_1 + 1)), (by first | rfl | (simp; done) | (simp [*]; done)), H', ⟨by have := HK1.out; omega⟩, ⟨by (with_reducible repeat (first | apply Kd.R_alloc | apply Kd.R_drewN | apply Kd.R_drew)); exact HO_3.out⟩, ⟨by repeat (first | (with_reducible first | exact HB.out | apply below_alloc | apply pw_below_drewN | apply below_drew1) | exact HB.out)⟩⟩
           · rw [if_neg c8] at H
             exact absurd H (by simp)
         · rw [if_neg c7] at H
           exact absurd H (by simp)
       · rw [if_neg c6] at H
         have c6b0 : decide (x4_1 < (l0.length : Int)) = false := decide_eq_false c6
         clear c6
         obtain rfl := Option.some.inj H
         go_wp2
         go_ret
         exact ⟨_, by first | rfl | (simp [errW_none, errW_some] <;> rfl) | (simp [*, errW_none, errW_some] <;> rfl), by (with_reducible repeat (first | apply Kd.R_alloc | apply Kd.R_drewN | apply Kd.R_drew)); exact HO_3.out, by repeat (first | (with_reducible first | exact HB.out | apply below_alloc | apply pw_below_drewN | apply below_drew1) | exact HB.out)⟩
   · rw [if_neg c3] at H
     exact absurd H (by simp)
 · rw [if_neg c2] at H
   exact absurd H (by simp)

end Go.Proofs.YtkohjiajbdkcbaaDoor.All


namespace Go.Proofs.YtkohjiajbdkcbaaDoor.All
open Go.RowKit Go.Proofs.YtkohjiajbdkcbaaDoorW.PrintWords Go.Proofs.YtkohjiajbdkcbaaDoorW.PrintLast Go.Proofs.YtkohjiajbdkcbaaDoorW.PrintMore
attribute [local go_sem] max2_int min2_int max_two min_two max_three min_three max_four min_four   -- for this text's walks alone
set_option linter.unusedVariables false
set_option linter.unusedSimpArgs false

/-! ### laws_toImageSymbol: function 86 -/
def laws_toImageSymbol.f (a0_0 : ByteArray) (a0_1 : Bool) (a0_2 : Int) : Option (ByteArray × Bool × Int) := some (a0_0, a0_1, a0_2)
set_option maxHeartbeats 8000000 in
set_option maxRecDepth 100000 in
theorem laws_toImageSymbol.calls (a0_0 : ByteArray) (a0_1 : Bool) (a0_2 : Int) (r1 : ByteArray) (r2 : Bool) (r3 : Int) (w : World) (h : laws_toImageSymbol.f a0_0 a0_1 a0_2 = some (r1, r2, r3)) :
 Calls Tryd.prog 86 #[.agg #[.string a0_0, .bool a0_1, .int .i64 a0_2]] w fun e w' => e = .returned (.agg #[.string r1, .bool r2, .int .i64 r3]) ∧ Below w.heap.size w w' := by
 have hu135 := Tryd.underlying135
 have hu109 := Tryd.underlying109
 have HB := Aside0.mk (Below.refl w.heap.size w)
 have H : (some (a0_0, a0_1, a0_2)) = some (r1, r2, r3) := h
 clear h
 simp only [Option.some.injEq, Prod.mk.injEq] at H
 obtain ⟨rfl, rfl, rfl⟩ := H
 go_enter Tryd.func86, Tryd.ntmps86
 go_wp2_with (first | ((with_reducible refine gate_dst (N := 1) rfl ?_); refine box_event ?hg (N := 1) ?hd (cs := #[.string a0_0, .bool a0_1, .int .i64 a0_2]) (t := 135) ?hr ?_; (case hd => rfl); (case hg => rfl); (case hr => first | (go_simp; done) | (go_simp; rfl)); intro gb300 hg w2 hbox hb; have n0_ := Aside0.mk (below_step (by repeat (first | (with_reducible first | exact HB.out | apply below_alloc | apply pw_below_drewN | apply below_drew1) | exact HB.out)) hb); have n1_ := Aside0.mk (hbox); have n2_ := Aside0.mk ((by rw [hg]; exact (below_size (by repeat (first | (with_reducible first | exact HB.out | apply below_alloc | apply pw_below_drewN | apply below_drew1) | exact HB.out))) : w.heap.size ≤ gb300)); have n3_ := Aside0.mk ((by rw [hg]; exact (below_size (by repeat (first | (with_reducible first | exact HB.out | apply below_alloc | apply pw_below_drewN | apply below_drew1) | exact HB.out))) : w.heap.size ≤ gb300)); clear HB; have HB := n0_; have BK300 := n1_; have GW300 := n2_; have GE300 := n3_; clear n0_ n1_ n2_ n3_; clear hb hbox hg) | ((with_reducible refine gate_dst (N := 2) rfl ?_); refine box_event ?hg (N := 2) ?hd (cs := #[.string (⟨#[]⟩ : ByteArray), .bool false, .int .i64 0]) (t := 109) ?hr ?_; (case hd => rfl); (case hg => rfl); (case hr => first | (go_simp; done) | (go_simp; rfl)); intro gb301 hg w3 hbox hb; have n0_ := Aside0.mk (blk_below (g := gb300) (o := .cells #[.string a0_0, .bool a0_1, .int .i64 a0_2] 135 (0, 0)) (by (with_reducible repeat (first | refine blk_drewN ?_ _ | refine blk_drew ?_ | refine blk_alloc ?_ _)); exact BK300.out) hb); have n1_ := Aside0.mk (below_step (by repeat (first | (with_reducible first | exact HB.out | apply below_alloc | apply pw_below_drewN | apply below_drew1 | refine below_set ?_ GE300.out) | exact HB.out)) hb); have n2_ := Aside0.mk (hbox); have n3_ := Aside0.mk ((by rw [hg]; exact (below_size (by repeat (first | (with_reducible first | exact HB.out | apply below_alloc | apply pw_below_drewN | apply below_drew1 | refine below_set ?_ GE300.out) | exact HB.out))) : w.heap.size ≤ gb301)); have n4_ := Aside0.mk ((by rw [hg]; exact (below_size (by repeat (first | (with_reducible first | exact HB.out | apply below_alloc | apply pw_below_drewN | apply below_drew1 | refine below_set ?_ GE300.out) | exact HB.out))) : w.heap.size ≤ gb301)); have n5_ := Aside0.mk ((by rw [hg]; exact Nat.ne_of_lt (blk_lt (g := gb300) (o := .cells #[.string a0_0, .bool a0_1, .int .i64 a0_2] 135 (0, 0)) (by (with_reducible repeat (first | refine blk_drewN ?_ _ | refine blk_drew ?_ | refine blk_alloc ?_ _)); exact BK300.out)) : gb300 ≠ gb301)); have n6_ := Aside0.mk ((by rw [hg]; exact Nat.ne_of_gt (blk_lt (g := gb300) (o := .cells #[.string a0_0, .bool a0_1, .int .i64 a0_2] 135 (0, 0)) (by (with_reducible repeat (first | refine blk_drewN ?_ _ | refine blk_drew ?_ | refine blk_alloc ?_ _)); exact BK300.out)) : gb301 ≠ gb300)); clear BK300; clear HB; have BK300 := n0_; have HB := n1_; have BK301 := n2_; have GW301 := n3_; have GE301 := n4_; have NB300_301 := n5_; have NB301_300 := n6_; clear n0_ n1_ n2_ n3_ n4_ n5_ n6_; clear hb hbox hg) | ((with_reducible refine gate_dst (N := 3) rfl ?_); refine box_event ?hg (N := 3) ?hd (cs := #[.string (⟨#[]⟩ : ByteArray), .bool false, .int .i64 0]) (t := 109) ?hr ?_; (case hd => rfl); (case hg => rfl); (case hr => first | (go_simp; done) | (go_simp; rfl)); intro gb302 hg w4 hbox hb; have n0_ := Aside0.mk (blk_below (g := gb300) (o := .cells #[.string a0_0, .bool a0_1, .int .i64 a0_2] 135 (0, 0)) (by (with_reducible repeat (first | refine blk_drewN ?_ _ | refine blk_drew ?_ | refine blk_alloc ?_ _)); exact BK300.out) hb); have n1_ := Aside0.mk (blk_below (g := gb301) (o := .cells #[.string (⟨#[]⟩ : ByteArray), .bool false, .int .i64 0] 109 (0, 0)) (by (with_reducible repeat (first | refine blk_drewN ?_ _ | refine blk_drew ?_ | refine blk_alloc ?_ _)); exact BK301.out) hb); have n2_ := Aside0.mk (below_step (by repeat (first | (with_reducible first | exact HB.out | apply below_alloc | apply pw_below_drewN | apply below_drew1 | refine below_set ?_ GE300.out | refine below_set ?_ GE301.out) | exact HB.out)) hb); have n3_ := Aside0.mk (hbox); have n4_ := Aside0.mk ((by rw [hg]; exact (below_size (by repeat (first | (with_reducible first | exact HB.out | apply below_alloc | apply pw_below_drewN | apply below_drew1 | refine below_set ?_ GE300.out | refine below_set ?_ GE301.out) | exact HB.out))) : w.heap.size ≤ gb302)); have n5_ := Aside0.mk ((by rw [hg]; exact (below_size (by repeat (first | (with_reducible first | exact HB.out | apply below_alloc | apply pw_below_drewN | apply below_drew1 | refine below_set ?_ GE300.out | refine below_set ?_ GE301.out) | exact HB.out))) : w.heap.size ≤ gb302)); have n6_ := Aside0.mk ((by rw [hg]; exact Nat.ne_of_lt (blk_lt (g := gb300) (o := .cells #[.string a0_0, .bool a0_1, .int .i64 a0_2] 135 (0, 0)) (by (with_reducible repeat (first | refine blk_drewN ?_ _ | refine blk_drew ?_ | refine blk_alloc ?_ _)); exact BK300.out)) : gb300 ≠ gb302)); have n7_ := Aside0.mk ((by rw [hg]; exact Nat.ne_of_gt (blk_lt (g := gb300) (o := .cells #[.string a0_0, .bool a0_1, .int .i64 a0_2] 135 (0, 0)) (by (with_reducible repeat (first | refine blk_drewN ?_ _ | refine blk_drew ?_ | refine blk_alloc ?_ _)); exact BK300.out)) : gb302 ≠ gb300)); have n8_ := Aside0.mk ((by rw [hg]; exact Nat.ne_of_lt (blk_lt (g := gb301) (o := .cells #[.string (⟨#[]⟩ : ByteArray), .bool false, .int .i64 0] 109 (0, 0)) (by (with_reducible repeat (first | refine blk_drewN ?_ _ | refine blk_drew ?_ | refine blk_alloc ?_ _)); exact BK301.out)) : gb301 ≠ gb302)); have n9_ := Aside0.mk ((by rw [hg]; exact Nat.ne_of_gt (blk_lt (g := gb301) (o := .cells #[.string (⟨#[]⟩ : ByteArray), .bool false, .int .i64 0] 109 (0, 0)) (by (with_reducible repeat (first | refine blk_drewN ?_ _ | refine blk_drew ?_ | refine blk_alloc ?_ _)); exact BK301.out)) : gb302 ≠ gb301)); clear BK300; clear BK301; clear HB; have BK300 := n0_; have BK301 := n1_; have HB := n2_; have BK302 := n3_; have GW302 := n4_; have GE302 := n5_; have NB300_302 := n6_; have NB302_300 := n7_; have NB301_302 := n8_; have NB302_301 := n9_; clear n0_ n1_ n2_ n3_ n4_ n5_ n6_ n7_ n8_ n9_; clear hb hbox hg; have hnb5 := NB300_301.out; have hnc5 := NB301_300.out; have hnb6 := NB300_302.out; have hnc6 := NB302_300.out; have hcz7_0 : w4.cell? ⟨gb300, 0, none⟩ = some (.string a0_0) := (blk_cell BK300.out 0).trans rfl; have hcz7_1 : w4.cell? ⟨gb300, 1, none⟩ = some (.bool a0_1) := (blk_cell BK300.out 1).trans rfl; have hcz7_2 : w4.cell? ⟨gb300, 2, none⟩ = some (.int .i64 a0_2) := (blk_cell BK300.out 2).trans rfl; have hfz7_0 := blk_frozen BK300.out 0; have hfz7_1 := blk_frozen BK300.out 1; have hfz7_2 := blk_frozen BK300.out 2; have hnb8 := NB302_301.out; have hnc8 := NB301_302.out; have hcz9_0 : w4.cell? ⟨gb302, 0, none⟩ = some (.string (⟨#[]⟩ : ByteArray)) := (blk_cell BK302.out 0).trans rfl; have hcz9_1 : w4.cell? ⟨gb302, 1, none⟩ = some (.bool false) := (blk_cell BK302.out 1).trans rfl; have hcz9_2 : w4.cell? ⟨gb302, 2, none⟩ = some (.int .i64 0) := (blk_cell BK302.out 2).trans rfl; have hfz9_0 := blk_frozen BK302.out 0; have hfz9_1 := blk_frozen BK302.out 1; have hfz9_2 := blk_frozen BK302.out 2; have hcz10_0 : w4.cell? ⟨gb301, 0, none⟩ = some (.string (⟨#[]⟩ : ByteArray)) := (blk_cell BK301.out 0).trans rfl; have hcz10_1 : w4.cell? ⟨gb301, 1, none⟩ = some (.bool false) := (blk_cell BK301.out 1).trans rfl; have hcz10_2 : w4.cell? ⟨gb301, 2, none⟩ = some (.int .i64 0) := (blk_cell BK301.out 2).trans rfl; have hfz10_0 := blk_frozen BK301.out 0; have hfz10_1 := blk_frozen BK301.out 1; have hfz10_2 := blk_frozen BK301.out 2))
 refine bodyPost_ret (results_cell_row rfl _ _ gb301 109 #[.string a0_0, .bool a0_1, .int .i64 a0_2] (0, 0) _ rfl (by (with_reducible repeat (first | refine blk_drewN ?_ _ | refine blk_drew ?_ | refine blk_alloc ?_ _)); refine blk_put (cs := #[.string a0_0, .bool a0_1, .int .i64 0]) ?_ 2 _ rfl; (with_reducible repeat (first | refine blk_drewN ?_ _ | refine blk_drew ?_ | refine blk_alloc ?_ _)); refine blk_put (cs := #[.string a0_0, .bool false, .int .i64 0]) ?_ 1 _ rfl; (with_reducible repeat (first | refine blk_drewN ?_ _ | refine blk_drew ?_ | refine blk_alloc ?_ _)); refine blk_put (cs := #[.string (⟨#[]⟩ : ByteArray), .bool false, .int .i64 0]) ?_ 0 _ rfl; (with_reducible repeat (first | refine blk_drewN ?_ _ | refine blk_drew ?_ | refine blk_alloc ?_ _)); refine blk_far ?_ NB301_302.out _; (with_reducible repeat (first | refine blk_drewN ?_ _ | refine blk_drew ?_ | refine blk_alloc ?_ _)); refine blk_far ?_ NB301_302.out _; (with_reducible repeat (first | refine blk_drewN ?_ _ | refine blk_drew ?_ | refine blk_alloc ?_ _)); refine blk_far ?_ NB301_302.out _; (with_reducible repeat (first | refine blk_drewN ?_ _ | refine blk_drew ?_ | refine blk_alloc ?_ _)); exact BK301.out) Tryd.underlying109 rfl (by kernel_rfl)) rfl ?_
 exact ⟨by first | rfl | (simp [errW_none, errW_some] <;> rfl) | (simp [*, errW_none, errW_some] <;> rfl), by repeat (first | (with_reducible first | exact HB.out | apply below_alloc | apply pw_below_drewN | apply below_drew1 | refine below_set ?_ GE300.out | refine below_set ?_ GE301.out | refine below_set ?_ GE302.out) | exact HB.out)⟩

end Go.Proofs.YtkohjiajbdkcbaaDoor.All


namespace Go.Proofs.YtkohjiajbdkcbaaDoor.All
open Go.RowKit Go.Proofs.YtkohjiajbdkcbaaDoorW.PrintWords Go.Proofs.YtkohjiajbdkcbaaDoorW.PrintLast Go.Proofs.YtkohjiajbdkcbaaDoorW.PrintMore
attribute [local go_sem] max2_int min2_int max_two min_two max_three min_three max_four min_four   -- for this text's walks alone
set_option linter.unusedVariables false
set_option linter.unusedSimpArgs false

/-! ### laws_toImageSymbolS: function 63 -/
def laws_toImageSymbolS.l0 : Nat → List (S135) → List (S109) → Int → Option ((List (S109)))
 | 0, _, _, _ => none
 | k + 1, x0, x3, x4 => if x4 < (x0.length : Int) then (if 0 ≤ x4 then ((laws_toImageSymbol.f ((rd_T135 x0 x4).f0) ((rd_T135 x0 x4).f1) ((rd_T135 x0 x4).f2)).bind fun bt307 => (if x4 < (x3.length : Int) then (laws_toImageSymbolS.l0 k x0 (x3.set (x4 : Int).toNat (⟨bt307.1, bt307.2.1, bt307.2.2⟩ : S109)) (wrap64 (x4 + 1))) else (none))) else (none)) else (some x3)
def laws_toImageSymbolS.f (k : Nat) (l0 : List (S135)) : Option ((List (S109))) := if 0 ≤ (l0.length : Int) then (if ((l0.length : Int) : Int).toNat ≤ 8796093022208 then (laws_toImageSymbolS.l0 k l0 (List.replicate ((l0.length : Int) : Int).toNat z109) 0) else (none)) else (none)
set_option maxHeartbeats 8000000 in
set_option maxRecDepth 100000 in
theorem laws_toImageSymbolS.calls (k : Nat) (A0 : Option Addr) (c0 : Nat) (l0 : List (S135)) (r : List (S109)) (w : World) (hr0 : Kd.C k135 w A0 l0.length l0) (hc0 : l0.length ≤ c0) (h : laws_toImageSymbolS.f k l0 = some r) :
 Calls Tryd.prog 63 #[.slice A0 l0.length c0] w fun e w' => ∃ v0_ : Value, e = .returned (v0_) ∧ Kd.R k109 109 w' w.heap.size (fun _ => True) v0_ r ∧ Below w.heap.size w w' := by
 have hu135 := Tryd.underlying135
 have hu109 := Tryd.underlying109
 have HR0 := Aside0.mk hr0
 have HC0 := Aside0.mk hc0
 clear hr0 hc0
 have HB := Aside0.mk (Below.refl w.heap.size w)
 have H : (if 0 ≤ (l0.length : Int) then (if ((l0.length : Int) : Int).toNat ≤ 8796093022208 then (laws_toImageSymbolS.l0 k l0 (List.replicate ((l0.length : Int) : Int).toNat z109) 0) else (none)) else (none)) = some r := h
 clear h
 by_cases c2 : 0 ≤ (l0.length : Int)
 · rw [if_pos c2] at H
   have c2b0 := eq_true c2
   have c2b1 : decide (0 ≤ (l0.length : Int)) = true := decide_eq_true c2
   clear c2
   by_cases c3 : ((l0.length : Int) : Int).toNat ≤ 8796093022208
   · rw [if_pos c3] at H
     have c3b0 := eq_true c3
     have c3b1 : decide (((l0.length : Int) : Int).toNat ≤ 8796093022208) = true := decide_eq_true c3
     clear c3
     obtain ⟨y303, hy303⟩ : ∃ y_ : List (S109), y_ = (List.replicate ((l0.length : Int) : Int).toNat z109) := ⟨_, rfl⟩
     replace H : (laws_toImageSymbolS.l0 k l0 y303 0) = some r := by first | (rw [hy303]; with_reducible exact H) | (have H2_ := (Option.bind_some _ _).symm.trans H; rw [hy303]; with_reducible exact H2_) | (have H2_ := (Option.bind_some _ _).symm.trans H; with_reducible exact H2_) | with_reducible exact H | (rw [hy303]; exact H) | exact H
     have Ny303 := Aside0.mk hy303
     clear hy303
     have H' := Aside0.mk H
     clear H
     go_enter Tryd.func63, Tryd.ntmps63
     go_wp2_with (first | ((with_reducible refine gate_dst (N := 7) rfl ?_); refine Kd.R_make k109 _ 109 rfl (N := 7) rfl 58 _ _ rfl (l0.length : Int) rfl rfl Tryd.underlying58 (.agg #[(.string ⟨#[]⟩), (.bool false), (.int .i64 0)]) 32 info109 rfl (by decide) (by omega) z109 (ok := fun _ => True) (okp := fun _ => True) (k109_mkM _ _ _ z109 ) (fun _ hk => hk) trivial (of_decide_eq_true (by first | (with_reducible assumption) | assumption)) (Nat.le_trans (Nat.mul_le_mul_right _ (of_decide_eq_true (by first | (with_reducible assumption) | assumption) : (l0.length : Int).toNat ≤ 8796093022208)) (by omega)) (Below.refl _ _) (Nat.le_refl _) ?_; intro v304 w4 ho5 hb hg_ hnew_; clear hg_ hnew_; (first | rw [← Ny303.out] at ho5 | (simp only [Int.reduceToNat] at ho5; rw [← Ny303.out] at ho5)); have n0_ := Aside0.mk (Kd.R_lower ho5 (below_size (by repeat (first | (with_reducible first | exact HB.out | apply below_alloc | apply pw_below_drewN | apply below_drew1) | exact HB.out)))); have n1_ := Aside0.mk (below_step (by repeat (first | (with_reducible first | exact HB.out | apply below_alloc | apply pw_below_drewN | apply below_drew1) | exact HB.out)) hb); clear HB; have HO305 := n0_; have HB := n1_; clear n0_ n1_; clear hb ho5))
     go_loopg [4] k (fun kq v4 w' => ∃ (x3_1 : List (S109)) (x4_1 : Int), v4 = .int .i64 x4_1 ∧ Aside0 (laws_toImageSymbolS.l0 kq l0 x3_1 x4_1 = some r) ∧ Aside0 (kq ≤ k) ∧ Aside0 (Kd.R k109 109 w' w.heap.size (fun _ => True) v304 x3_1) ∧ Aside0 (Below w.heap.size w w'))
     case atStart => exact ⟨(y303), (0), (by first | rfl | (simp; done) | (simp [*]; done)), H', ⟨Nat.le_refl _⟩, ⟨by (with_reducible repeat (first | apply Kd.R_alloc | apply Kd.R_drewN | apply Kd.R_drew)); exact HO305.out⟩, ⟨by repeat (first | (with_reducible first | exact HB.out | apply below_alloc | apply pw_below_drewN | apply below_drew1) | exact HB.out)⟩⟩
     case round =>
      clear H'
      try clear c2
      try clear c2b0
      try clear c2b1
      try clear p2
      try clear c3
      try clear c3b0
      try clear c3b1
      obtain ⟨x3_1, x4_1, rfl, HA, HK1, HO_3, HB⟩ := hrel
      cases gk with
      | zero => exact absurd HA.out (by simp [laws_toImageSymbolS.l0])
      | succ k1 =>
       have H := HA.out
       clear HA
       simp only [laws_toImageSymbolS.l0] at H
       by_cases c6 : x4_1 < (l0.length : Int)
       · rw [if_pos c6] at H
         have c6b0 : decide (x4_1 < (l0.length : Int)) = true := decide_eq_true c6
         clear c6
         by_cases c7 : 0 ≤ x4_1
         · rw [if_pos c7] at H
           have c7b0 : decide (0 ≤ x4_1) = true := decide_eq_true c7
           clear c7
           replace H := Option.bind_eq_some_iff.mp H
           obtain ⟨⟨t307, t308, t309⟩, A80, H⟩ := H
           replace H : (if x4_1 < (x3_1.length : Int) then (laws_toImageSymbolS.l0 k1 l0 (x3_1.set (x4_1 : Int).toNat (⟨t307, t308, t309⟩ : S109)) (wrap64 (x4_1 + 1))) else (none)) = some r := H
           have A8 := Aside0.mk A80
           clear A80
           by_cases c9 : x4_1 < (x3_1.length : Int)
           · rw [if_pos c9] at H
             have c9b0 : decide (x4_1 < (x3_1.length : Int)) = true := decide_eq_true c9
             clear c9
             obtain ⟨y310, hy310⟩ : ∃ y_ : List (S109), y_ = (x3_1.set (x4_1 : Int).toNat (⟨t307, t308, t309⟩ : S109)) := ⟨_, rfl⟩
             replace H : (laws_toImageSymbolS.l0 k1 l0 y310 (wrap64 (x4_1 + 1))) = some r := by first | (rw [hy310]; with_reducible exact H) | (have H2_ := (Option.bind_some _ _).symm.trans H; rw [hy310]; with_reducible exact H2_) | (have H2_ := (Option.bind_some _ _).symm.trans H; with_reducible exact H2_) | with_reducible exact H | (rw [hy310]; exact H) | exact H
             have Ny310 := Aside0.mk hy310
             clear hy310
             have H' := Aside0.mk H
             clear H
             have p306 : 0 ≤ (x4_1 : Int) := of_decide_eq_true (by first | (with_reducible assumption) | assumption)
             have q306 : x4_1 < (l0.length : Int) := of_decide_eq_true (by first | (with_reducible assumption) | assumption)
             obtain ⟨ad306, e306, hx306_0, hx306_1, hx306_2⟩ := at_T135 HR0.out x4_1 p306 q306
             cases e306
             replace hx306_0 := (HB.out.cell (World.block_lt_of_cell? w _ hx306_0)).trans hx306_0
             replace hx306_1 := (HB.out.cell (World.block_lt_of_cell? w _ hx306_1)).trans hx306_1
             replace hx306_2 := (HB.out.cell (World.block_lt_of_cell? w _ hx306_2)).trans hx306_2
             replace p306 := eq_true p306
             replace q306 := eq_true q306
             go_wp2_with (first | ((with_reducible refine gate_callee (f := 86) rfl ?_); refine goesL_ (some 20) rfl rfl Tryd.func86 (by kernel_rfl) rfl #[.agg #[.string ((rd_T135 l0 x4_1).f0), .bool ((rd_T135 l0 x4_1).f1), .int .i64 ((rd_T135 l0 x4_1).f2)]] rfl (by (try simp only [List.map_toArray, List.map_cons, List.map_nil]); first | done | rfl | (simp only [List.length_drop, List.length_take]; rfl)) ?_; (with_reducible refine (laws_toImageSymbol.calls ((rd_T135 l0 x4_1).f0) ((rd_T135 l0 x4_1).f1) ((rd_T135 l0 x4_1).f2) t307 t308 t309 _ A8.out).mono ?_); rintro e w11 ⟨rfl, hb⟩; refine ⟨_, rfl, ?_⟩; have n0_ := Aside0.mk (Kd.R_below (by (with_reducible repeat (first | apply Kd.R_alloc | apply Kd.R_drewN | apply Kd.R_drew)); exact HO_3.out) hb); have n1_ := Aside0.mk (below_step (by repeat (first | (with_reducible first | exact HB.out | apply below_alloc | apply pw_below_drewN | apply below_drew1) | exact HB.out)) hb); clear HO_3; clear HB; have HO_3 := n0_; have HB := n1_; clear n0_ n1_; (try clear hb); (try clear hb2); (try clear hk); (try clear hi); have p10 : 0 ≤ (x4_1 : Int) := of_decide_eq_true (by first | (with_reducible assumption) | assumption); have q10 : (x4_1 : Int) < ((x3_1.length : Int) : Int) := of_decide_eq_true (by first | (with_reducible assumption) | assumption); obtain ⟨go10, co10, eo10, gb10, gl10, cl10, HG10⟩ := Kd.R_form HO_3.out (by omega); (first | cases eo10 | (injection eo10 with ea_ en_ ec_; (first | subst ea_ | (injection ea_ with ea_; subst ea_)); subst ec_; clear en_)); have GB10 := Aside0.mk gb10; have GG10 := Aside0.mk HG10; clear gb10 gl10 HG10; obtain ⟨ce10, hcl10, hM10, hcc10, hfr10⟩ := Kd.R_elem HO_3.out z109 (x4_1 : Int) p10 q10; obtain rfl := k109_openM hM10; have hx10_0 : w11.cell? ⟨go10, (x4_1 : Int).toNat * 3, none⟩ = some (.string ((rd_T109 x3_1 x4_1).f0)) := hcc10 0 _ rfl; have hx10_1 : w11.cell? ⟨go10, (x4_1 : Int).toNat * 3 + 1, none⟩ = some (.bool ((rd_T109 x3_1 x4_1).f1)) := hcc10 1 _ rfl; have hx10_2 : w11.cell? ⟨go10, (x4_1 : Int).toNat * 3 + 2, none⟩ = some (.int .i64 ((rd_T109 x3_1 x4_1).f2)) := hcc10 2 _ rfl; have hf10_0 : w11.frozen? ⟨go10, (x4_1 : Int).toNat * 3, none⟩ = false := hfr10 0; have hf10_1 : w11.frozen? ⟨go10, (x4_1 : Int).toNat * 3 + 1, none⟩ = false := hfr10 1; have hf10_2 : w11.frozen? ⟨go10, (x4_1 : Int).toNat * 3 + 2, none⟩ = false := hfr10 2; clear hcl10 hcc10 hfr10 hM10; replace p10 := eq_true p10; replace q10 := eq_true q10; have HX12 := Aside0.mk (show Kd.R k109 109 w11 w.heap.size (fun _ => True) (.slice (some ⟨go10, 0, none⟩) x3_1.length co10) x3_1 from (by (with_reducible repeat (first | apply Kd.R_alloc | apply Kd.R_drewN | apply Kd.R_drew)); exact HO_3.out)); obtain ⟨ce12, hcl12, hM12, hcc12, hfr12⟩ := Kd.R_elem HX12.out z109 (x4_1 : Int) (of_decide_eq_true (by first | (with_reducible assumption) | assumption)) (by have h_ : (x4_1 : Int) < ((x3_1.length : Int) : Int) := of_decide_eq_true (by first | (with_reducible assumption) | assumption); first | exact h_ | (have e_ := (Kd.R_reads' HO_3.out).1; omega) | simpa using h_); obtain rfl := k109_openM hM12; have HP12 := Kd.R_seg HX12.out (x4_1 : Int) (of_decide_eq_true (by first | (with_reducible assumption) | assumption)) (by have h_ : (x4_1 : Int) < ((x3_1.length : Int) : Int) := of_decide_eq_true (by first | (with_reducible assumption) | assumption); first | exact h_ | (have e_ := (Kd.R_reads' HO_3.out).1; omega) | simpa using h_) (seg := [.string t307, .bool t308, .int .i64 t309]) (j := 0) hcl12 hcc12 (show 3 ≤ 3 from by decide) (x' := (⟨t307, t308, t309⟩ : S109)) (k109_mkM _ _ _ (⟨t307, t308, t309⟩ : S109) ) (fun _ hk => hk); have hx12_0 := hcc12 0 _ rfl; (try simp only [show (k109).sz = 3 from rfl, Nat.mul_one, Nat.add_zero] at hx12_0); have hf12_0 := hfr12 0; (try simp only [show (k109).sz = 3 from rfl, Nat.mul_one, Nat.add_zero] at hf12_0); have hx12_1 := hcc12 1 _ rfl; (try simp only [show (k109).sz = 3 from rfl, Nat.mul_one, Nat.add_zero] at hx12_1); have hf12_1 := hfr12 1; (try simp only [show (k109).sz = 3 from rfl, Nat.mul_one, Nat.add_zero] at hf12_1); have hx12_2 := hcc12 2 _ rfl; (try simp only [show (k109).sz = 3 from rfl, Nat.mul_one, Nat.add_zero] at hx12_2); have hf12_2 := hfr12 2; (try simp only [show (k109).sz = 3 from rfl, Nat.mul_one, Nat.add_zero] at hf12_2); clear hcl12 hcc12 hfr12 hM12) | ((with_reducible refine gate_store (t := 109) (p := 21) rfl ?_); refine store_event (t := 109) (p := 21) (v := ?vo_w13) (w1 := (((w11.setCell ⟨go10, (x4_1 : Int).toNat * 3, none⟩ (.string t307)).setCell ⟨go10, (x4_1 : Int).toNat * 3 + 1, none⟩ (.bool t308)).setCell ⟨go10, (x4_1 : Int).toNat * 3 + 2, none⟩ (.int .i64 t309))) ?hg ?ho ?hn ?hr ?_; (case ho => rfl); (case hg => rfl); (case hn => rfl); (case hr => first | (go_simp; done) | (go_simp; rfl)); intro w13 hw; have hg : w11.grownBy w13 (some go10) := (by rw [hw]; exact HP12.2); have hp_ : Kd.R k109 109 w13 w.heap.size (fun _ => True) (.slice (some ⟨go10, 0, none⟩) x3_1.length co10) y310 := (by rw [hw, Ny310.out]; exact HP12.1); clear HP12; have n0_ := Aside0.mk (hp_); have n1_ := Aside0.mk ((by rw [hw]; exact below_set (below_set (below_set (HB.out) GB10.out) GB10.out) GB10.out : Below w.heap.size w w13)); clear HO_3; clear HB; have HO_3 := n0_; have HB := n1_; clear n0_ n1_; clear hg hw hp_))
             go_roundg k1
             case measure => have := HK1.out; omega
             case rel => exact ⟨(y310), (wrap64 (x4_1 + 1)), (by first | rfl | (simp; done) | (simp [*]; done)), H', ⟨by have := HK1.out; omega⟩, ⟨by (with_reducible repeat (first | apply Kd.R_alloc | apply Kd.R_drewN | apply Kd.R_drew)); exact HO_3.out⟩, ⟨by repeat (first | (with_reducible first | exact HB.out | apply below_alloc | apply pw_below_drewN | apply below_drew1) | exact HB.out)⟩⟩
           · rw [if_neg c9] at H
             exact absurd H (by simp)
         · rw [if_neg c7] at H
           exact absurd H (by simp)
       · rw [if_neg c6] at H
         have c6b0 : decide (x4_1 < (l0.length : Int)) = false := decide_eq_false c6
         clear c6
         obtain rfl := Option.some.inj H
         go_wp2
         go_ret
         exact ⟨_, by first | rfl | (simp [errW_none, errW_some] <;> rfl) | (simp [*, errW_none, errW_some] <;> rfl), by (with_reducible repeat (first | apply Kd.R_alloc | apply Kd.R_drewN | apply Kd.R_drew)); exact HO_3.out, by repeat (first | (with_reducible first | exact HB.out | apply below_alloc | apply pw_below_drewN | apply below_drew1) | exact HB.out)⟩
   · rw [if_neg c3] at H
     exact absurd H (by simp)
 · rw [if_neg c2] at H
   exact absurd H (by simp)

end Go.Proofs.YtkohjiajbdkcbaaDoor.All


namespace Go.Proofs.YtkohjiajbdkcbaaDoor.All
open Go.RowKit Go.Proofs.YtkohjiajbdkcbaaDoorW.PrintWords Go.Proofs.YtkohjiajbdkcbaaDoorW.PrintLast Go.Proofs.YtkohjiajbdkcbaaDoorW.PrintMore
attribute [local go_sem] max2_int min2_int max_two min_two max_three min_three max_four min_four   -- for this text's walks alone
set_option linter.unusedVariables false
set_option linter.unusedSimpArgs false

/-! ### laws_toImage: function 26 -/
def laws_toImage.f (k : Nat) (l0_0 : List Int) (l0_1 : List Int) (a0_2 : Int) (l0_3 : List Int) (a0_4 : Int) (l0_5 : List (S135)) : Option (List Int × List Int × Int × List Int × Int × (List (S109))) := (laws_toByteS.f k l0_0).bind fun t314 => ((laws_toByteS.f k l0_1).bind fun t317 => ((laws_toInt64S.f k l0_3).bind fun t320 => ((laws_toImageSymbolS.f k l0_5).bind fun t323 => (some (t314, t317, a0_2, t320, a0_4, t323)))))
set_option maxHeartbeats 8000000 in
set_option maxRecDepth 100000 in
theorem laws_toImage.calls (k : Nat) (A0_0 : Option Addr) (c0_0 : Nat) (l0_0 : List Int) (A0_1 : Option Addr) (c0_1 : Nat) (l0_1 : List Int) (a0_2 : Int) (A0_3 : Option Addr) (c0_3 : Nat) (l0_3 : List Int) (a0_4 : Int) (A0_5 : Option Addr) (c0_5 : Nat) (l0_5 : List (S135)) (r1 : List Int) (r2 : List Int) (r3 : Int) (r4 : List Int) (r5 : Int) (r6 : List (S109)) (w : World) (hr0_0 : Kd.C (Kd.int .u8) w A0_0 l0_0.length l0_0) (hc0_0 : l0_0.length ≤ c0_0) (hr0_1 : Kd.C (Kd.int .u8) w A0_1 l0_1.length l0_1) (hc0_1 : l0_1.length ≤ c0_1) (hr0_3 : Kd.C (Kd.int .i64) w A0_3 l0_3.length l0_3) (hc0_3 : l0_3.length ≤ c0_3) (hr0_5 : Kd.C k135 w A0_5 l0_5.length l0_5) (hc0_5 : l0_5.length ≤ c0_5) (h : laws_toImage.f k l0_0 l0_1 a0_2 l0_3 a0_4 l0_5 = some (r1, r2, r3, r4, r5, r6)) :
 Calls Tryd.prog 26 #[.agg #[.slice A0_0 l0_0.length c0_0, .slice A0_1 l0_1.length c0_1, .int .i64 a0_2, .slice A0_3 l0_3.length c0_3, .int .i64 a0_4, .slice A0_5 l0_5.length c0_5]] w fun e w' => ∃ v0_ v1_ v3_ v5_ : Value, e = .returned (.agg #[v0_, v1_, .int .i64 r3, v3_, .int .i64 r5, v5_]) ∧ Kd.R (Kd.int .u8) 5 w' w.heap.size (fun k_ => some k_ ≠ (v1_ : Value).ownBlock) v0_ r1 ∧ Kd.R (Kd.int .u8) 5 w' w.heap.size (fun k_ => some k_ ≠ (v0_ : Value).ownBlock) v1_ r2 ∧ Kd.R (Kd.int .i64) 2 w' w.heap.size (fun _ => True) v3_ r4 ∧ Kd.R k109 109 w' w.heap.size (fun _ => True) v5_ r6 ∧ Below w.heap.size w w' := by
 have hu55 := Tryd.underlying55
 have hu60 := Tryd.underlying60
 have HR0_0 := Aside0.mk hr0_0
 have HC0_0 := Aside0.mk hc0_0
 clear hr0_0 hc0_0
 have HR0_1 := Aside0.mk hr0_1
 have HC0_1 := Aside0.mk hc0_1
 clear hr0_1 hc0_1
 have HR0_3 := Aside0.mk hr0_3
 have HC0_3 := Aside0.mk hc0_3
 clear hr0_3 hc0_3
 have HR0_5 := Aside0.mk hr0_5
 have HC0_5 := Aside0.mk hc0_5
 clear hr0_5 hc0_5
 have HB := Aside0.mk (Below.refl w.heap.size w)
 have H : ((laws_toByteS.f k l0_0).bind fun t314 => ((laws_toByteS.f k l0_1).bind fun t317 => ((laws_toInt64S.f k l0_3).bind fun t320 => ((laws_toImageSymbolS.f k l0_5).bind fun t323 => (some (t314, t317, a0_2, t320, a0_4, t323)))))) = some (r1, r2, r3, r4, r5, r6) := h
 clear h
 replace H := Option.bind_eq_some_iff.mp H
 obtain ⟨t314, A20, H⟩ := H
 replace H : ((laws_toByteS.f k l0_1).bind fun t317 => ((laws_toInt64S.f k l0_3).bind fun t320 => ((laws_toImageSymbolS.f k l0_5).bind fun t323 => (some (t314, t317, a0_2, t320, a0_4, t323))))) = some (r1, r2, r3, r4, r5, r6) := H
 have A2 := Aside0.mk A20
 clear A20
 replace H := Option.bind_eq_some_iff.mp H
 obtain ⟨t317, A30, H⟩ := H
 replace H : ((laws_toInt64S.f k l0_3).bind fun t320 => ((laws_toImageSymbolS.f k l0_5).bind fun t323 => (some (t314, t317, a0_2, t320, a0_4, t323)))) = some (r1, r2, r3, r4, r5, r6) := H
 have A3 := Aside0.mk A30
 clear A30
 replace H := Option.bind_eq_some_iff.mp H
 obtain ⟨t320, A40, H⟩ := H
 replace H : ((laws_toImageSymbolS.f k l0_5).bind fun t323 => (some (t314, t317, a0_2, t320, a0_4, t323))) = some (r1, r2, r3, r4, r5, r6) := H
 have A4 := Aside0.mk A40
 clear A40
 replace H := Option.bind_eq_some_iff.mp H
 obtain ⟨t323, A50, H⟩ := H
 replace H : (some (t314, t317, a0_2, t320, a0_4, t323)) = some (r1, r2, r3, r4, r5, r6) := H
 have A5 := Aside0.mk A50
 clear A50
 simp only [Option.some.injEq, Prod.mk.injEq] at H
 obtain ⟨rfl, rfl, rfl, rfl, rfl, rfl⟩ := H
 go_enter Tryd.func26, Tryd.ntmps26
 go_wp2_with (first | ((with_reducible refine gate_dst (N := 1) rfl ?_); refine box_event ?hg (N := 1) ?hd (cs := #[.slice A0_0 l0_0.length c0_0, .slice A0_1 l0_1.length c0_1, .int .i64 a0_2, .slice A0_3 l0_3.length c0_3, .int .i64 a0_4, .slice A0_5 l0_5.length c0_5]) (t := 55) ?hr ?_; (case hd => rfl); (case hg => rfl); (case hr => first | (go_simp; done) | (go_simp; rfl)); intro gb311 hg w6 hbox hb; have n0_ := Aside0.mk (below_step (by repeat (first | (with_reducible first | exact HB.out | apply below_alloc | apply pw_below_drewN | apply below_drew1) | exact HB.out)) hb); have n1_ := Aside0.mk (hbox); have n2_ := Aside0.mk ((by rw [hg]; exact (below_size (by repeat (first | (with_reducible first | exact HB.out | apply below_alloc | apply pw_below_drewN | apply below_drew1) | exact HB.out))) : w.heap.size ≤ gb311)); have n3_ := Aside0.mk ((by rw [hg]; exact (below_size (by repeat (first | (with_reducible first | exact HB.out | apply below_alloc | apply pw_below_drewN | apply below_drew1) | exact HB.out))) : w.heap.size ≤ gb311)); clear HB; have HB := n0_; have BK311 := n1_; have GW311 := n2_; have GE311 := n3_; clear n0_ n1_ n2_ n3_; clear hb hbox hg) | ((with_reducible refine gate_dst (N := 2) rfl ?_); refine box_event ?hg (N := 2) ?hd (cs := #[.slice none 0 0, .slice none 0 0, .int .i64 0, .slice none 0 0, .int .i64 0, .slice none 0 0]) (t := 60) ?hr ?_; (case hd => rfl); (case hg => rfl); (case hr => first | (go_simp; done) | (go_simp; rfl)); intro gb312 hg w7 hbox hb; have n0_ := Aside0.mk (blk_below (g := gb311) (o := .cells #[.slice A0_0 l0_0.length c0_0, .slice A0_1 l0_1.length c0_1, .int .i64 a0_2, .slice A0_3 l0_3.length c0_3, .int .i64 a0_4, .slice A0_5 l0_5.length c0_5] 55 (0, 0)) (by (with_reducible repeat (first | refine blk_drewN ?_ _ | refine blk_drew ?_ | refine blk_alloc ?_ _)); exact BK311.out) hb); have n1_ := Aside0.mk (below_step (by repeat (first | (with_reducible first | exact HB.out | apply below_alloc | apply pw_below_drewN | apply below_drew1 | refine below_set ?_ GE311.out) | exact HB.out)) hb); have n2_ := Aside0.mk (hbox); have n3_ := Aside0.mk ((by rw [hg]; exact (below_size (by repeat (first | (with_reducible first | exact HB.out | apply below_alloc | apply pw_below_drewN | apply below_drew1 | refine below_set ?_ GE311.out) | exact HB.out))) : w.heap.size ≤ gb312)); have n4_ := Aside0.mk ((by rw [hg]; exact (below_size (by repeat (first | (with_reducible first | exact HB.out | apply below_alloc | apply pw_below_drewN | apply below_drew1 | refine below_set ?_ GE311.out) | exact HB.out))) : w.heap.size ≤ gb312)); have n5_ := Aside0.mk ((by rw [hg]; exact Nat.ne_of_lt (blk_lt (g := gb311) (o := .cells #[.slice A0_0 l0_0.length c0_0, .slice A0_1 l0_1.length c0_1, .int .i64 a0_2, .slice A0_3 l0_3.length c0_3, .int .i64 a0_4, .slice A0_5 l0_5.length c0_5] 55 (0, 0)) (by (with_reducible repeat (first | refine blk_drewN ?_ _ | refine blk_drew ?_ | refine blk_alloc ?_ _)); exact BK311.out)) : gb311 ≠ gb312)); have n6_ := Aside0.mk ((by rw [hg]; exact Nat.ne_of_gt (blk_lt (g := gb311) (o := .cells #[.slice A0_0 l0_0.length c0_0, .slice A0_1 l0_1.length c0_1, .int .i64 a0_2, .slice A0_3 l0_3.length c0_3, .int .i64 a0_4, .slice A0_5 l0_5.length c0_5] 55 (0, 0)) (by (with_reducible repeat (first | refine blk_drewN ?_ _ | refine blk_drew ?_ | refine blk_alloc ?_ _)); exact BK311.out)) : gb312 ≠ gb311)); clear BK311; clear HB; have BK311 := n0_; have HB := n1_; have BK312 := n2_; have GW312 := n3_; have GE312 := n4_; have NB311_312 := n5_; have NB312_311 := n6_; clear n0_ n1_ n2_ n3_ n4_ n5_ n6_; clear hb hbox hg) | ((with_reducible refine gate_dst (N := 3) rfl ?_); refine box_event ?hg (N := 3) ?hd (cs := #[.slice none 0 0, .slice none 0 0, .int .i64 0, .slice none 0 0, .int .i64 0, .slice none 0 0]) (t := 60) ?hr ?_; (case hd => rfl); (case hg => rfl); (case hr => first | (go_simp; done) | (go_simp; rfl)); intro gb313 hg w8 hbox hb; have n0_ := Aside0.mk (blk_below (g := gb311) (o := .cells #[.slice A0_0 l0_0.length c0_0, .slice A0_1 l0_1.length c0_1, .int .i64 a0_2, .slice A0_3 l0_3.length c0_3, .int .i64 a0_4, .slice A0_5 l0_5.length c0_5] 55 (0, 0)) (by (with_reducible repeat (first | refine blk_drewN ?_ _ | refine blk_drew ?_ | refine blk_alloc ?_ _)); exact BK311.out) hb); have n1_ := Aside0.mk (blk_below (g := gb312) (o := .cells #[.slice none 0 0, .slice none 0 0, .int .i64 0, .slice none 0 0, .int .i64 0, .slice none 0 0] 60 (0, 0)) (by (with_reducible repeat (first | refine blk_drewN ?_ _ | refine blk_drew ?_ | refine blk_alloc ?_ _)); exact BK312.out) hb); have n2_ := Aside0.mk (below_step (by repeat (first | (with_reducible first | exact HB.out | apply below_alloc | apply pw_below_drewN | apply below_drew1 | refine below_set ?_ GE311.out | refine below_set ?_ GE312.out) | exact HB.out)) hb); have n3_ := Aside0.mk (hbox); have n4_ := Aside0.mk ((by rw [hg]; exact (below_size (by repeat (first | (with_reducible first | exact HB.out | apply below_alloc | apply pw_below_drewN | apply below_drew1 | refine below_set ?_ GE311.out | refine below_set ?_ GE312.out) | exact HB.out))) : w.heap.size ≤ gb313)); have n5_ := Aside0.mk ((by rw [hg]; exact (below_size (by repeat (first | (with_reducible first | exact HB.out | apply below_alloc | apply pw_below_drewN | apply below_drew1 | refine below_set ?_ GE311.out | refine below_set ?_ GE312.out) | exact HB.out))) : w.heap.size ≤ gb313)); have n6_ := Aside0.mk ((by rw [hg]; exact Nat.ne_of_lt (blk_lt (g := gb311) (o := .cells #[.slice A0_0 l0_0.length c0_0, .slice A0_1 l0_1.length c0_1, .int .i64 a0_2, .slice A0_3 l0_3.length c0_3, .int .i64 a0_4, .slice A0_5 l0_5.length c0_5] 55 (0, 0)) (by (with_reducible repeat (first | refine blk_drewN ?_ _ | refine blk_drew ?_ | refine blk_alloc ?_ _)); exact BK311.out)) : gb311 ≠ gb313)); have n7_ := Aside0.mk ((by rw [hg]; exact Nat.ne_of_gt (blk_lt (g := gb311) (o := .cells #[.slice A0_0 l0_0.length c0_0, .slice A0_1 l0_1.length c0_1, .int .i64 a0_2, .slice A0_3 l0_3.length c0_3, .int .i64 a0_4, .slice A0_5 l0_5.length c0_5] 55 (0, 0)) (by (with_reducible repeat (first | refine blk_drewN ?_ _ | refine blk_drew ?_ | refine blk_alloc ?_ _)); exact BK311.out)) : gb313 ≠ gb311)); have n8_ := Aside0.mk ((by rw [hg]; exact Nat.ne_of_lt (blk_lt (g := gb312) (o := .cells #[.slice none 0 0, .slice none 0 0, .int .i64 0, .slice none 0 0, .int .i64 0, .slice none 0 0] 60 (0, 0)) (by (with_reducible repeat (first | refine blk_drewN ?_ _ | refine blk_drew ?_ | refine blk_alloc ?_ _)); exact BK312.out)) : gb312 ≠ gb313)); have n9_ := Aside0.mk ((by rw [hg]; exact Nat.ne_of_gt (blk_lt (g := gb312) (o := .cells #[.slice none 0 0, .slice none 0 0, .int .i64 0, .slice none 0 0, .int .i64 0, .slice none 0 0] 60 (0, 0)) (by (with_reducible repeat (first | refine blk_drewN ?_ _ | refine blk_drew ?_ | refine blk_alloc ?_ _)); exact BK312.out)) : gb313 ≠ gb312)); clear BK311; clear BK312; clear HB; have BK311 := n0_; have BK312 := n1_; have HB := n2_; have BK313 := n3_; have GW313 := n4_; have GE313 := n5_; have NB311_313 := n6_; have NB313_311 := n7_; have NB312_313 := n8_; have NB313_312 := n9_; clear n0_ n1_ n2_ n3_ n4_ n5_ n6_ n7_ n8_ n9_; clear hb hbox hg; have hnb9 := NB311_312.out; have hnc9 := NB312_311.out; have hnb10 := NB311_313.out; have hnc10 := NB313_311.out; have hcz11_0 : w8.cell? ⟨gb311, 0, none⟩ = some (.slice A0_0 l0_0.length c0_0) := (blk_cell BK311.out 0).trans rfl; have hcz11_1 : w8.cell? ⟨gb311, 1, none⟩ = some (.slice A0_1 l0_1.length c0_1) := (blk_cell BK311.out 1).trans rfl; have hcz11_2 : w8.cell? ⟨gb311, 2, none⟩ = some (.int .i64 a0_2) := (blk_cell BK311.out 2).trans rfl; have hcz11_3 : w8.cell? ⟨gb311, 3, none⟩ = some (.slice A0_3 l0_3.length c0_3) := (blk_cell BK311.out 3).trans rfl; have hcz11_4 : w8.cell? ⟨gb311, 4, none⟩ = some (.int .i64 a0_4) := (blk_cell BK311.out 4).trans rfl; have hcz11_5 : w8.cell? ⟨gb311, 5, none⟩ = some (.slice A0_5 l0_5.length c0_5) := (blk_cell BK311.out 5).trans rfl; have hfz11_0 := blk_frozen BK311.out 0; have hfz11_1 := blk_frozen BK311.out 1; have hfz11_2 := blk_frozen BK311.out 2; have hfz11_3 := blk_frozen BK311.out 3; have hfz11_4 := blk_frozen BK311.out 4; have hfz11_5 := blk_frozen BK311.out 5) | ((with_reducible refine gate_callee (f := 61) rfl ?_); refine goesL_ (some 6) rfl rfl Tryd.func61 (by kernel_rfl) rfl #[.slice A0_0 l0_0.length c0_0] rfl (by (try simp only [List.map_toArray, List.map_cons, List.map_nil]); first | done | rfl | (simp only [List.length_drop, List.length_take]; rfl)) ?_; (with_reducible refine (laws_toByteS.calls k _ _ l0_0 t314 _ ?side1 ?side2 A2.out).mono ?_); (case side1 => repeat (first | exact (Kd.C_below HR0_0.out HB.out) | (with_reducible refine Kd.C_alloc ?_ _) | (with_reducible refine Kd.C_drewN ?_ _) | (with_reducible refine Kd.C_drew ?_))); (case side2 => exact HC0_0.out); rintro e w12 ⟨v315, rfl, ho0, hb⟩; refine ⟨_, rfl, ?_⟩; have n0_ := Aside0.mk (Kd.R_lower ho0 (below_size (by repeat (first | (with_reducible first | exact HB.out | apply below_alloc | apply pw_below_drewN | apply below_drew1 | refine below_set ?_ GE311.out | refine below_set ?_ GE312.out | refine below_set ?_ GE313.out) | exact HB.out)))); have n1_ := Aside0.mk (blk_below (g := gb311) (o := .cells #[.slice A0_0 l0_0.length c0_0, .slice A0_1 l0_1.length c0_1, .int .i64 a0_2, .slice A0_3 l0_3.length c0_3, .int .i64 a0_4, .slice A0_5 l0_5.length c0_5] 55 (0, 0)) (by (with_reducible repeat (first | refine blk_drewN ?_ _ | refine blk_drew ?_ | refine blk_alloc ?_ _)); exact BK311.out) hb); have n2_ := Aside0.mk (blk_below (g := gb312) (o := .cells #[.slice none 0 0, .slice none 0 0, .int .i64 0, .slice none 0 0, .int .i64 0, .slice none 0 0] 60 (0, 0)) (by (with_reducible repeat (first | refine blk_drewN ?_ _ | refine blk_drew ?_ | refine blk_alloc ?_ _)); exact BK312.out) hb); have n3_ := Aside0.mk (blk_below (g := gb313) (o := .cells #[.slice none 0 0, .slice none 0 0, .int .i64 0, .slice none 0 0, .int .i64 0, .slice none 0 0] 60 (0, 0)) (by (with_reducible repeat (first | refine blk_drewN ?_ _ | refine blk_drew ?_ | refine blk_alloc ?_ _)); exact BK313.out) hb); have n4_ := Aside0.mk (below_step (by repeat (first | (with_reducible first | exact HB.out | apply below_alloc | apply pw_below_drewN | apply below_drew1 | refine below_set ?_ GE311.out | refine below_set ?_ GE312.out | refine below_set ?_ GE313.out) | exact HB.out)) hb); clear BK311; clear BK312; clear BK313; clear HB; have HO316 := n0_; have BK311 := n1_; have BK312 := n2_; have BK313 := n3_; have HB := n4_; clear n0_ n1_ n2_ n3_ n4_; (try clear hb); (try clear hb2); (try clear hk); (try clear hi); (try clear ho0); obtain ⟨Ao13, co13, eo13⟩ := Kd.R_slice HO316.out; subst eo13; have hnb14 := NB313_312.out; have hnc14 := NB312_313.out; have hcz15_0 : w12.cell? ⟨gb313, 0, none⟩ = some (.slice none 0 0) := (blk_cell BK313.out 0).trans rfl; have hcz15_1 : w12.cell? ⟨gb313, 1, none⟩ = some (.slice none 0 0) := (blk_cell BK313.out 1).trans rfl; have hcz15_2 : w12.cell? ⟨gb313, 2, none⟩ = some (.int .i64 0) := (blk_cell BK313.out 2).trans rfl; have hcz15_3 : w12.cell? ⟨gb313, 3, none⟩ = some (.slice none 0 0) := (blk_cell BK313.out 3).trans rfl; have hcz15_4 : w12.cell? ⟨gb313, 4, none⟩ = some (.int .i64 0) := (blk_cell BK313.out 4).trans rfl; have hcz15_5 : w12.cell? ⟨gb313, 5, none⟩ = some (.slice none 0 0) := (blk_cell BK313.out 5).trans rfl; have hfz15_0 := blk_frozen BK313.out 0; have hfz15_1 := blk_frozen BK313.out 1; have hfz15_2 := blk_frozen BK313.out 2; have hfz15_3 := blk_frozen BK313.out 3; have hfz15_4 := blk_frozen BK313.out 4; have hfz15_5 := blk_frozen BK313.out 5; have hcz16_0 : w12.cell? ⟨gb311, 0, none⟩ = some (.slice A0_0 l0_0.length c0_0) := (blk_cell BK311.out 0).trans rfl; have hcz16_1 : w12.cell? ⟨gb311, 1, none⟩ = some (.slice A0_1 l0_1.length c0_1) := (blk_cell BK311.out 1).trans rfl; have hcz16_2 : w12.cell? ⟨gb311, 2, none⟩ = some (.int .i64 a0_2) := (blk_cell BK311.out 2).trans rfl; have hcz16_3 : w12.cell? ⟨gb311, 3, none⟩ = some (.slice A0_3 l0_3.length c0_3) := (blk_cell BK311.out 3).trans rfl; have hcz16_4 : w12.cell? ⟨gb311, 4, none⟩ = some (.int .i64 a0_4) := (blk_cell BK311.out 4).trans rfl; have hcz16_5 : w12.cell? ⟨gb311, 5, none⟩ = some (.slice A0_5 l0_5.length c0_5) := (blk_cell BK311.out 5).trans rfl; have hfz16_0 := blk_frozen BK311.out 0; have hfz16_1 := blk_frozen BK311.out 1; have hfz16_2 := blk_frozen BK311.out 2; have hfz16_3 := blk_frozen BK311.out 3; have hfz16_4 := blk_frozen BK311.out 4; have hfz16_5 := blk_frozen BK311.out 5) | ((with_reducible refine gate_callee (f := 61) rfl ?_); refine goesL_ (some 10) rfl rfl Tryd.func61 (by kernel_rfl) rfl #[.slice A0_1 l0_1.length c0_1] rfl (by (try simp only [List.map_toArray, List.map_cons, List.map_nil]); first | done | rfl | (simp only [List.length_drop, List.length_take]; rfl)) ?_; (with_reducible refine (laws_toByteS.calls k _ _ l0_1 t317 _ ?side1 ?side2 A3.out).mono ?_); (case side1 => exact Kd.C_below HR0_1.out (by repeat (first | (with_reducible first | exact HB.out | apply below_alloc | apply pw_below_drewN | apply below_drew1 | refine below_set ?_ GE311.out | refine below_set ?_ GE312.out | refine below_set ?_ GE313.out) | exact HB.out))); (case side2 => exact HC0_1.out); rintro e w17 ⟨v318, rfl, ho0, hb⟩; refine ⟨_, rfl, ?_⟩; have n0_ := Aside0.mk (Kd.R_elder' (by (with_reducible repeat (first | apply Kd.R_alloc | apply Kd.R_drewN | apply Kd.R_drew)); exact (Kd.R_mono (Kd.R_far (p := ⟨gb313, 0, none⟩) (Kd.R_types HO316.out BK313.out (by decide)) (fun _ hk => hk.2) (.slice Ao13 t314.length co13)) (fun _ h_ => h_.1))) (Kd.R_base ho0) hb); have n1_ := Aside0.mk (Kd.R_lower (Kd.R_new' ho0 (Kd.R_lt (by (with_reducible repeat (first | apply Kd.R_alloc | apply Kd.R_drewN | apply Kd.R_drew)); exact (Kd.R_mono (Kd.R_far (p := ⟨gb313, 0, none⟩) (Kd.R_types HO316.out BK313.out (by decide)) (fun _ hk => hk.2) (.slice Ao13 t314.length co13)) (fun _ h_ => h_.1))))) (below_size (by repeat (first | (with_reducible first | exact HB.out | apply below_alloc | apply pw_below_drewN | apply below_drew1 | refine below_set ?_ GE311.out | refine below_set ?_ GE312.out | refine below_set ?_ GE313.out) | exact HB.out)))); have n2_ := Aside0.mk (blk_below (g := gb311) (o := .cells #[.slice A0_0 l0_0.length c0_0, .slice A0_1 l0_1.length c0_1, .int .i64 a0_2, .slice A0_3 l0_3.length c0_3, .int .i64 a0_4, .slice A0_5 l0_5.length c0_5] 55 (0, 0)) (by (with_reducible repeat (first | refine blk_drewN ?_ _ | refine blk_drew ?_ | refine blk_alloc ?_ _)); refine blk_far ?_ NB311_313.out _; (with_reducible repeat (first | refine blk_drewN ?_ _ | refine blk_drew ?_ | refine blk_alloc ?_ _)); exact BK311.out) hb); have n3_ := Aside0.mk (blk_below (g := gb312) (o := .cells #[.slice none 0 0, .slice none 0 0, .int .i64 0, .slice none 0 0, .int .i64 0, .slice none 0 0] 60 (0, 0)) (by (with_reducible repeat (first | refine blk_drewN ?_ _ | refine blk_drew ?_ | refine blk_alloc ?_ _)); refine blk_far ?_ NB312_313.out _; (with_reducible repeat (first | refine blk_drewN ?_ _ | refine blk_drew ?_ | refine blk_alloc ?_ _)); exact BK312.out) hb); have n4_ := Aside0.mk (blk_below (g := gb313) (o := .cells #[.slice Ao13 t314.length co13, .slice none 0 0, .int .i64 0, .slice none 0 0, .int .i64 0, .slice none 0 0] 60 (0, 0)) (by (with_reducible repeat (first | refine blk_drewN ?_ _ | refine blk_drew ?_ | refine blk_alloc ?_ _)); refine blk_put (cs := #[.slice none 0 0, .slice none 0 0, .int .i64 0, .slice none 0 0, .int .i64 0, .slice none 0 0]) ?_ 0 _ rfl; (with_reducible repeat (first | refine blk_drewN ?_ _ | refine blk_drew ?_ | refine blk_alloc ?_ _)); exact BK313.out) hb); have n5_ := Aside0.mk (below_step (by repeat (first | (with_reducible first | exact HB.out | apply below_alloc | apply pw_below_drewN | apply below_drew1 | refine below_set ?_ GE311.out | refine below_set ?_ GE312.out | refine below_set ?_ GE313.out) | exact HB.out)) hb); clear HO316; clear BK311; clear BK312; clear BK313; clear HB; have HO316 := n0_; have HO319 := n1_; have BK311 := n2_; have BK312 := n3_; have BK313 := n4_; have HB := n5_; clear n0_ n1_ n2_ n3_ n4_ n5_; (try clear hb); (try clear hb2); (try clear hk); (try clear hi); (try clear ho0); obtain ⟨Ao18, co18, eo18⟩ := Kd.R_slice HO319.out; subst eo18; have hcz19_0 : w17.cell? ⟨gb313, 0, none⟩ = some (.slice Ao13 t314.length co13) := (blk_cell BK313.out 0).trans rfl; have hcz19_1 : w17.cell? ⟨gb313, 1, none⟩ = some (.slice none 0 0) := (blk_cell BK313.out 1).trans rfl; have hcz19_2 : w17.cell? ⟨gb313, 2, none⟩ = some (.int .i64 0) := (blk_cell BK313.out 2).trans rfl; have hcz19_3 : w17.cell? ⟨gb313, 3, none⟩ = some (.slice none 0 0) := (blk_cell BK313.out 3).trans rfl; have hcz19_4 : w17.cell? ⟨gb313, 4, none⟩ = some (.int .i64 0) := (blk_cell BK313.out 4).trans rfl; have hcz19_5 : w17.cell? ⟨gb313, 5, none⟩ = some (.slice none 0 0) := (blk_cell BK313.out 5).trans rfl; have hfz19_0 := blk_frozen BK313.out 0; have hfz19_1 := blk_frozen BK313.out 1; have hfz19_2 := blk_frozen BK313.out 2; have hfz19_3 := blk_frozen BK313.out 3; have hfz19_4 := blk_frozen BK313.out 4; have hfz19_5 := blk_frozen BK313.out 5; have hcz20_0 : w17.cell? ⟨gb311, 0, none⟩ = some (.slice A0_0 l0_0.length c0_0) := (blk_cell BK311.out 0).trans rfl; have hcz20_1 : w17.cell? ⟨gb311, 1, none⟩ = some (.slice A0_1 l0_1.length c0_1) := (blk_cell BK311.out 1).trans rfl; have hcz20_2 : w17.cell? ⟨gb311, 2, none⟩ = some (.int .i64 a0_2) := (blk_cell BK311.out 2).trans rfl; have hcz20_3 : w17.cell? ⟨gb311, 3, none⟩ = some (.slice A0_3 l0_3.length c0_3) := (blk_cell BK311.out 3).trans rfl; have hcz20_4 : w17.cell? ⟨gb311, 4, none⟩ = some (.int .i64 a0_4) := (blk_cell BK311.out 4).trans rfl; have hcz20_5 : w17.cell? ⟨gb311, 5, none⟩ = some (.slice A0_5 l0_5.length c0_5) := (blk_cell BK311.out 5).trans rfl; have hfz20_0 := blk_frozen BK311.out 0; have hfz20_1 := blk_frozen BK311.out 1; have hfz20_2 := blk_frozen BK311.out 2; have hfz20_3 := blk_frozen BK311.out 3; have hfz20_4 := blk_frozen BK311.out 4; have hfz20_5 := blk_frozen BK311.out 5) | ((with_reducible refine gate_callee (f := 62) rfl ?_); refine goesL_ (some 17) rfl rfl Tryd.func62 (by kernel_rfl) rfl #[.slice A0_3 l0_3.length c0_3] rfl (by (try simp only [List.map_toArray, List.map_cons, List.map_nil]); first | done | rfl | (simp only [List.length_drop, List.length_take]; rfl)) ?_; (with_reducible refine (laws_toInt64S.calls k _ _ l0_3 t320 _ ?side1 ?side2 A4.out).mono ?_); (case side1 => exact Kd.C_below HR0_3.out (by repeat (first | (with_reducible first | exact HB.out | apply below_alloc | apply pw_below_drewN | apply below_drew1 | refine below_set ?_ GE311.out | refine below_set ?_ GE312.out | refine below_set ?_ GE313.out) | exact HB.out))); (case side2 => exact HC0_3.out); rintro e w21 ⟨v321, rfl, ho0, hb⟩; refine ⟨_, rfl, ?_⟩; have n0_ := Aside0.mk (Kd.R_below (by (with_reducible repeat (first | apply Kd.R_alloc | apply Kd.R_drewN | apply Kd.R_drew)); exact (Kd.R_mono (Kd.R_far (p := ⟨gb313, 2, none⟩) (Kd.R_far (p := ⟨gb313, 1, none⟩) (Kd.R_types HO316.out BK313.out (by decide)) (fun _ hk => hk.2) (.slice Ao18 t317.length co18)) (fun _ hk => hk.2) (.int .i64 a0_2)) (fun _ h_ => h_.1))) hb); have n1_ := Aside0.mk (Kd.R_below (by (with_reducible repeat (first | apply Kd.R_alloc | apply Kd.R_drewN | apply Kd.R_drew)); exact (Kd.R_mono (Kd.R_far (p := ⟨gb313, 2, none⟩) (Kd.R_far (p := ⟨gb313, 1, none⟩) (Kd.R_types HO319.out BK313.out (by decide)) (fun _ hk => hk.2) (.slice Ao18 t317.length co18)) (fun _ hk => hk.2) (.int .i64 a0_2)) (fun _ h_ => h_.1))) hb); have n2_ := Aside0.mk (Kd.R_lower ho0 (below_size (by repeat (first | (with_reducible first | exact HB.out | apply below_alloc | apply pw_below_drewN | apply below_drew1 | refine below_set ?_ GE311.out | refine below_set ?_ GE312.out | refine below_set ?_ GE313.out) | exact HB.out)))); have n3_ := Aside0.mk (blk_below (g := gb311) (o := .cells #[.slice A0_0 l0_0.length c0_0, .slice A0_1 l0_1.length c0_1, .int .i64 a0_2, .slice A0_3 l0_3.length c0_3, .int .i64 a0_4, .slice A0_5 l0_5.length c0_5] 55 (0, 0)) (by (with_reducible repeat (first | refine blk_drewN ?_ _ | refine blk_drew ?_ | refine blk_alloc ?_ _)); refine blk_far ?_ NB311_313.out _; (with_reducible repeat (first | refine blk_drewN ?_ _ | refine blk_drew ?_ | refine blk_alloc ?_ _)); refine blk_far ?_ NB311_313.out _; (with_reducible repeat (first | refine blk_drewN ?_ _ | refine blk_drew ?_ | refine blk_alloc ?_ _)); exact BK311.out) hb); have n4_ := Aside0.mk (blk_below (g := gb312) (o := .cells #[.slice none 0 0, .slice none 0 0, .int .i64 0, .slice none 0 0, .int .i64 0, .slice none 0 0] 60 (0, 0)) (by (with_reducible repeat (first | refine blk_drewN ?_ _ | refine blk_drew ?_ | refine blk_alloc ?_ _)); refine blk_far ?_ NB312_313.out _; (with_reducible repeat (first | refine blk_drewN ?_ _ | refine blk_drew ?_ | refine blk_alloc ?_ _)); refine blk_far ?_ NB312_313.out _; (with_reducible repeat (first | refine blk_drewN ?_ _ | refine blk_drew ?_ | refine blk_alloc ?_ _)); exact BK312.out) hb); have n5_ := Aside0.mk (blk_below (g := gb313) (o := .cells #[.slice Ao13 t314.length co13, .slice Ao18 t317.length co18, .int .i64 a0_2, .slice none 0 0, .int .i64 0, .slice none 0 0] 60 (0, 0)) (by (with_reducible repeat (first | refine blk_drewN ?_ _ | refine blk_drew ?_ | refine blk_alloc ?_ _)); refine blk_put (cs := #[.slice Ao13 t314.length co13, .slice Ao18 t317.length co18, .int .i64 0, .slice none 0 0, .int .i64 0, .slice none 0 0]) ?_ 2 _ rfl; (with_reducible repeat (first | refine blk_drewN ?_ _ | refine blk_drew ?_ | refine blk_alloc ?_ _)); refine blk_put (cs := #[.slice Ao13 t314.length co13, .slice none 0 0, .int .i64 0, .slice none 0 0, .int .i64 0, .slice none 0 0]) ?_ 1 _ rfl; (with_reducible repeat (first | refine blk_drewN ?_ _ | refine blk_drew ?_ | refine blk_alloc ?_ _)); exact BK313.out) hb); have n6_ := Aside0.mk (below_step (by repeat (first | (with_reducible first | exact HB.out | apply below_alloc | apply pw_below_drewN | apply below_drew1 | refine below_set ?_ GE311.out | refine below_set ?_ GE312.out | refine below_set ?_ GE313.out) | exact HB.out)) hb); clear HO316; clear HO319; clear BK311; clear BK312; clear BK313; clear HB; have HO316 := n0_; have HO319 := n1_; have HO322 := n2_; have BK311 := n3_; have BK312 := n4_; have BK313 := n5_; have HB := n6_; clear n0_ n1_ n2_ n3_ n4_ n5_ n6_; (try clear hb); (try clear hb2); (try clear hk); (try clear hi); (try clear ho0); obtain ⟨Ao22, co22, eo22⟩ := Kd.R_slice HO322.out; subst eo22; have hcz23_0 : w21.cell? ⟨gb313, 0, none⟩ = some (.slice Ao13 t314.length co13) := (blk_cell BK313.out 0).trans rfl; have hcz23_1 : w21.cell? ⟨gb313, 1, none⟩ = some (.slice Ao18 t317.length co18) := (blk_cell BK313.out 1).trans rfl; have hcz23_2 : w21.cell? ⟨gb313, 2, none⟩ = some (.int .i64 a0_2) := (blk_cell BK313.out 2).trans rfl; have hcz23_3 : w21.cell? ⟨gb313, 3, none⟩ = some (.slice none 0 0) := (blk_cell BK313.out 3).trans rfl; have hcz23_4 : w21.cell? ⟨gb313, 4, none⟩ = some (.int .i64 0) := (blk_cell BK313.out 4).trans rfl; have hcz23_5 : w21.cell? ⟨gb313, 5, none⟩ = some (.slice none 0 0) := (blk_cell BK313.out 5).trans rfl; have hfz23_0 := blk_frozen BK313.out 0; have hfz23_1 := blk_frozen BK313.out 1; have hfz23_2 := blk_frozen BK313.out 2; have hfz23_3 := blk_frozen BK313.out 3; have hfz23_4 := blk_frozen BK313.out 4; have hfz23_5 := blk_frozen BK313.out 5; have hcz24_0 : w21.cell? ⟨gb311, 0, none⟩ = some (.slice A0_0 l0_0.length c0_0) := (blk_cell BK311.out 0).trans rfl; have hcz24_1 : w21.cell? ⟨gb311, 1, none⟩ = some (.slice A0_1 l0_1.length c0_1) := (blk_cell BK311.out 1).trans rfl; have hcz24_2 : w21.cell? ⟨gb311, 2, none⟩ = some (.int .i64 a0_2) := (blk_cell BK311.out 2).trans rfl; have hcz24_3 : w21.cell? ⟨gb311, 3, none⟩ = some (.slice A0_3 l0_3.length c0_3) := (blk_cell BK311.out 3).trans rfl; have hcz24_4 : w21.cell? ⟨gb311, 4, none⟩ = some (.int .i64 a0_4) := (blk_cell BK311.out 4).trans rfl; have hcz24_5 : w21.cell? ⟨gb311, 5, none⟩ = some (.slice A0_5 l0_5.length c0_5) := (blk_cell BK311.out 5).trans rfl; have hfz24_0 := blk_frozen BK311.out 0; have hfz24_1 := blk_frozen BK311.out 1; have hfz24_2 := blk_frozen BK311.out 2; have hfz24_3 := blk_frozen BK311.out 3; have hfz24_4 := blk_frozen BK311.out 4; have hfz24_5 := blk_frozen BK311.out 5) | ((with_reducible refine gate_callee (f := 63) rfl ?_); refine goesL_ (some 24) rfl rfl Tryd.func63 (by kernel_rfl) rfl #[.slice A0_5 l0_5.length c0_5] rfl (by (try simp only [List.map_toArray, List.map_cons, List.map_nil]); first | done | rfl | (simp only [List.length_drop, List.length_take]; rfl)) ?_; (with_reducible refine (laws_toImageSymbolS.calls k _ _ l0_5 t323 _ ?side1 ?side2 A5.out).mono ?_); (case side1 => exact Kd.C_below HR0_5.out (by repeat (first | (with_reducible first | exact HB.out | apply below_alloc | apply pw_below_drewN | apply below_drew1 | refine below_set ?_ GE311.out | refine below_set ?_ GE312.out | refine below_set ?_ GE313.out) | exact HB.out))); (case side2 => exact HC0_5.out); rintro e w25 ⟨v324, rfl, ho0, hb⟩; refine ⟨_, rfl, ?_⟩; have n0_ := Aside0.mk (Kd.R_below (by (with_reducible repeat (first | apply Kd.R_alloc | apply Kd.R_drewN | apply Kd.R_drew)); exact (Kd.R_mono (Kd.R_far (p := ⟨gb313, 4, none⟩) (Kd.R_far (p := ⟨gb313, 3, none⟩) (Kd.R_types HO316.out BK313.out (by decide)) (fun _ hk => hk.2) (.slice Ao22 t320.length co22)) (fun _ hk => hk.2) (.int .i64 a0_4)) (fun _ h_ => h_.1))) hb); have n1_ := Aside0.mk (Kd.R_below (by (with_reducible repeat (first | apply Kd.R_alloc | apply Kd.R_drewN | apply Kd.R_drew)); exact (Kd.R_mono (Kd.R_far (p := ⟨gb313, 4, none⟩) (Kd.R_far (p := ⟨gb313, 3, none⟩) (Kd.R_types HO319.out BK313.out (by decide)) (fun _ hk => hk.2) (.slice Ao22 t320.length co22)) (fun _ hk => hk.2) (.int .i64 a0_4)) (fun _ h_ => h_.1))) hb); have n2_ := Aside0.mk (Kd.R_below (by (with_reducible repeat (first | apply Kd.R_alloc | apply Kd.R_drewN | apply Kd.R_drew)); exact (Kd.R_mono (Kd.R_far (p := ⟨gb313, 4, none⟩) (Kd.R_far (p := ⟨gb313, 3, none⟩) (Kd.R_types HO322.out BK313.out (by decide)) (fun _ hk => hk.2) (.slice Ao22 t320.length co22)) (fun _ hk => hk.2) (.int .i64 a0_4)) (fun _ h_ => h_.1))) hb); have n3_ := Aside0.mk (Kd.R_lower ho0 (below_size (by repeat (first | (with_reducible first | exact HB.out | apply below_alloc | apply pw_below_drewN | apply below_drew1 | refine below_set ?_ GE311.out | refine below_set ?_ GE312.out | refine below_set ?_ GE313.out) | exact HB.out)))); have n4_ := Aside0.mk (blk_below (g := gb311) (o := .cells #[.slice A0_0 l0_0.length c0_0, .slice A0_1 l0_1.length c0_1, .int .i64 a0_2, .slice A0_3 l0_3.length c0_3, .int .i64 a0_4, .slice A0_5 l0_5.length c0_5] 55 (0, 0)) (by (with_reducible repeat (first | refine blk_drewN ?_ _ | refine blk_drew ?_ | refine blk_alloc ?_ _)); refine blk_far ?_ NB311_313.out _; (with_reducible repeat (first | refine blk_drewN ?_ _ | refine blk_drew ?_ | refine blk_alloc ?_ _)); refine blk_far ?_ NB311_313.out _; (with_reducible repeat (first | refine blk_drewN ?_ _ | refine blk_drew ?_ | refine blk_alloc ?_ _)); exact BK311.out) hb); have n5_ := Aside0.mk (blk_below (g := gb312) (o := .cells #[.slice none 0 0, .slice none 0 0, .int .i64 0, .slice none 0 0, .int .i64 0, .slice none 0 0] 60 (0, 0)) (by (with_reducible repeat (first | refine blk_drewN ?_ _ | refine blk_drew ?_ | refine blk_alloc ?_ _)); refine blk_far ?_ NB312_313.out _; (with_reducible repeat (first | refine blk_drewN ?_ _ | refine blk_drew ?_ | refine blk_alloc ?_ _)); refine blk_far ?_ NB312_313.out _; (with_reducible repeat (first | refine blk_drewN ?_ _ | refine blk_drew ?_ | refine blk_alloc ?_ _)); exact BK312.out) hb); have n6_ := Aside0.mk (blk_below (g := gb313) (o := .cells #[.slice Ao13 t314.length co13, .slice Ao18 t317.length co18, .int .i64 a0_2, .slice Ao22 t320.length co22, .int .i64 a0_4, .slice none 0 0] 60 (0, 0)) (by (with_reducible repeat (first | refine blk_drewN ?_ _ | refine blk_drew ?_ | refine blk_alloc ?_ _)); refine blk_put (cs := #[.slice Ao13 t314.length co13, .slice Ao18 t317.length co18, .int .i64 a0_2, .slice Ao22 t320.length co22, .int .i64 0, .slice none 0 0]) ?_ 4 _ rfl; (with_reducible repeat (first | refine blk_drewN ?_ _ | refine blk_drew ?_ | refine blk_alloc ?_ _)); refine blk_put (cs := #[.slice Ao13 t314.length co13, .slice Ao18 t317.length co18, .int .i64 a0_2, .slice none 0 0, .int .i64 0, .slice none 0 0]) ?_ 3 _ rfl; (with_reducible repeat (first | refine blk_drewN ?_ _ | refine blk_drew ?_ | refine blk_alloc ?_ _)); exact BK313.out) hb); have n7_ := Aside0.mk (below_step (by repeat (first | (with_reducible first | exact HB.out | apply below_alloc | apply pw_below_drewN | apply below_drew1 | refine below_set ?_ GE311.out | refine below_set ?_ GE312.out | refine below_set ?_ GE313.out) | exact HB.out)) hb); clear HO316; clear HO319; clear HO322; clear BK311; clear BK312; clear BK313; clear HB; have HO316 := n0_; have HO319 := n1_; have HO322 := n2_; have HO325 := n3_; have BK311 := n4_; have BK312 := n5_; have BK313 := n6_; have HB := n7_; clear n0_ n1_ n2_ n3_ n4_ n5_ n6_ n7_; (try clear hb); (try clear hb2); (try clear hk); (try clear hi); (try clear ho0); obtain ⟨Ao26, co26, eo26⟩ := Kd.R_slice HO325.out; subst eo26; have hcz27_0 : w25.cell? ⟨gb313, 0, none⟩ = some (.slice Ao13 t314.length co13) := (blk_cell BK313.out 0).trans rfl; have hcz27_1 : w25.cell? ⟨gb313, 1, none⟩ = some (.slice Ao18 t317.length co18) := (blk_cell BK313.out 1).trans rfl; have hcz27_2 : w25.cell? ⟨gb313, 2, none⟩ = some (.int .i64 a0_2) := (blk_cell BK313.out 2).trans rfl; have hcz27_3 : w25.cell? ⟨gb313, 3, none⟩ = some (.slice Ao22 t320.length co22) := (blk_cell BK313.out 3).trans rfl; have hcz27_4 : w25.cell? ⟨gb313, 4, none⟩ = some (.int .i64 a0_4) := (blk_cell BK313.out 4).trans rfl; have hcz27_5 : w25.cell? ⟨gb313, 5, none⟩ = some (.slice none 0 0) := (blk_cell BK313.out 5).trans rfl; have hfz27_0 := blk_frozen BK313.out 0; have hfz27_1 := blk_frozen BK313.out 1; have hfz27_2 := blk_frozen BK313.out 2; have hfz27_3 := blk_frozen BK313.out 3; have hfz27_4 := blk_frozen BK313.out 4; have hfz27_5 := blk_frozen BK313.out 5; have hcz28_0 : w25.cell? ⟨gb312, 0, none⟩ = some (.slice none 0 0) := (blk_cell BK312.out 0).trans rfl; have hcz28_1 : w25.cell? ⟨gb312, 1, none⟩ = some (.slice none 0 0) := (blk_cell BK312.out 1).trans rfl; have hcz28_2 : w25.cell? ⟨gb312, 2, none⟩ = some (.int .i64 0) := (blk_cell BK312.out 2).trans rfl; have hcz28_3 : w25.cell? ⟨gb312, 3, none⟩ = some (.slice none 0 0) := (blk_cell BK312.out 3).trans rfl; have hcz28_4 : w25.cell? ⟨gb312, 4, none⟩ = some (.int .i64 0) := (blk_cell BK312.out 4).trans rfl; have hcz28_5 : w25.cell? ⟨gb312, 5, none⟩ = some (.slice none 0 0) := (blk_cell BK312.out 5).trans rfl; have hfz28_0 := blk_frozen BK312.out 0; have hfz28_1 := blk_frozen BK312.out 1; have hfz28_2 := blk_frozen BK312.out 2; have hfz28_3 := blk_frozen BK312.out 3; have hfz28_4 := blk_frozen BK312.out 4; have hfz28_5 := blk_frozen BK312.out 5))
 refine bodyPost_ret (results_cell_row rfl _ _ gb312 60 #[.slice Ao13 t314.length co13, .slice Ao18 t317.length co18, .int .i64 a0_2, .slice Ao22 t320.length co22, .int .i64 a0_4, .slice Ao26 t323.length co26] (0, 0) _ rfl (by (with_reducible repeat (first | refine blk_drewN ?_ _ | refine blk_drew ?_ | refine blk_alloc ?_ _)); refine blk_put (cs := #[.slice Ao13 t314.length co13, .slice Ao18 t317.length co18, .int .i64 a0_2, .slice Ao22 t320.length co22, .int .i64 a0_4, .slice none 0 0]) ?_ 5 _ rfl; (with_reducible repeat (first | refine blk_drewN ?_ _ | refine blk_drew ?_ | refine blk_alloc ?_ _)); refine blk_put (cs := #[.slice Ao13 t314.length co13, .slice Ao18 t317.length co18, .int .i64 a0_2, .slice Ao22 t320.length co22, .int .i64 0, .slice none 0 0]) ?_ 4 _ rfl; (with_reducible repeat (first | refine blk_drewN ?_ _ | refine blk_drew ?_ | refine blk_alloc ?_ _)); refine blk_put (cs := #[.slice Ao13 t314.length co13, .slice Ao18 t317.length co18, .int .i64 a0_2, .slice none 0 0, .int .i64 0, .slice none 0 0]) ?_ 3 _ rfl; (with_reducible repeat (first | refine blk_drewN ?_ _ | refine blk_drew ?_ | refine blk_alloc ?_ _)); refine blk_put (cs := #[.slice Ao13 t314.length co13, .slice Ao18 t317.length co18, .int .i64 0, .slice none 0 0, .int .i64 0, .slice none 0 0]) ?_ 2 _ rfl; (with_reducible repeat (first | refine blk_drewN ?_ _ | refine blk_drew ?_ | refine blk_alloc ?_ _)); refine blk_put (cs := #[.slice Ao13 t314.length co13, .slice none 0 0, .int .i64 0, .slice none 0 0, .int .i64 0, .slice none 0 0]) ?_ 1 _ rfl; (with_reducible repeat (first | refine blk_drewN ?_ _ | refine blk_drew ?_ | refine blk_alloc ?_ _)); refine blk_put (cs := #[.slice none 0 0, .slice none 0 0, .int .i64 0, .slice none 0 0, .int .i64 0, .slice none 0 0]) ?_ 0 _ rfl; (with_reducible repeat (first | refine blk_drewN ?_ _ | refine blk_drew ?_ | refine blk_alloc ?_ _)); refine blk_far ?_ NB312_313.out _; (with_reducible repeat (first | refine blk_drewN ?_ _ | refine blk_drew ?_ | refine blk_alloc ?_ _)); exact BK312.out) Tryd.underlying60 rfl (by kernel_rfl)) rfl ?_
 exact ⟨_, _, _, _, by first | rfl | (simp [errW_none, errW_some] <;> rfl) | (simp [*, errW_none, errW_some] <;> rfl), by (with_reducible repeat (first | apply Kd.R_alloc | apply Kd.R_drewN | apply Kd.R_drew)); exact Kd.R_mono (Kd.R_far (p := ⟨gb312, 5, none⟩) (Kd.R_far (p := ⟨gb312, 4, none⟩) (Kd.R_far (p := ⟨gb312, 3, none⟩) (Kd.R_far (p := ⟨gb312, 2, none⟩) (Kd.R_far (p := ⟨gb312, 1, none⟩) (Kd.R_far (p := ⟨gb312, 0, none⟩) (Kd.R_far (p := ⟨gb313, 5, none⟩) (Kd.R_types (Kd.R_types HO316.out BK313.out (by decide)) BK312.out (by decide)) (fun _ hk => hk.1.2) (.slice Ao26 t323.length co26)) (fun _ hk => hk.2) (.slice Ao13 t314.length co13)) (fun _ hk => hk.2) (.slice Ao18 t317.length co18)) (fun _ hk => hk.2) (.int .i64 a0_2)) (fun _ hk => hk.2) (.slice Ao22 t320.length co22)) (fun _ hk => hk.2) (.int .i64 a0_4)) (fun _ hk => hk.2) (.slice Ao26 t323.length co26)) (fun _ hk => hk.1.1.2), by (with_reducible repeat (first | apply Kd.R_alloc | apply Kd.R_drewN | apply Kd.R_drew)); exact Kd.R_mono (Kd.R_far (p := ⟨gb312, 5, none⟩) (Kd.R_far (p := ⟨gb312, 4, none⟩) (Kd.R_far (p := ⟨gb312, 3, none⟩) (Kd.R_far (p := ⟨gb312, 2, none⟩) (Kd.R_far (p := ⟨gb312, 1, none⟩) (Kd.R_far (p := ⟨gb312, 0, none⟩) (Kd.R_far (p := ⟨gb313, 5, none⟩) (Kd.R_types (Kd.R_types HO319.out BK313.out (by decide)) BK312.out (by decide)) (fun _ hk => hk.1.2) (.slice Ao26 t323.length co26)) (fun _ hk => hk.2) (.slice Ao13 t314.length co13)) (fun _ hk => hk.2) (.slice Ao18 t317.length co18)) (fun _ hk => hk.2) (.int .i64 a0_2)) (fun _ hk => hk.2) (.slice Ao22 t320.length co22)) (fun _ hk => hk.2) (.int .i64 a0_4)) (fun _ hk => hk.2) (.slice Ao26 t323.length co26)) (fun _ hk => hk.1.1.2), by (with_reducible repeat (first | apply Kd.R_alloc | apply Kd.R_drewN | apply Kd.R_drew)); exact Kd.R_mono (Kd.R_far (p := ⟨gb312, 5, none⟩) (Kd.R_far (p := ⟨gb312, 4, none⟩) (Kd.R_far (p := ⟨gb312, 3, none⟩) (Kd.R_far (p := ⟨gb312, 2, none⟩) (Kd.R_far (p := ⟨gb312, 1, none⟩) (Kd.R_far (p := ⟨gb312, 0, none⟩) (Kd.R_far (p := ⟨gb313, 5, none⟩) (Kd.R_types (Kd.R_types HO322.out BK313.out (by decide)) BK312.out (by decide)) (fun _ hk => hk.1.2) (.slice Ao26 t323.length co26)) (fun _ hk => hk.2) (.slice Ao13 t314.length co13)) (fun _ hk => hk.2) (.slice Ao18 t317.length co18)) (fun _ hk => hk.2) (.int .i64 a0_2)) (fun _ hk => hk.2) (.slice Ao22 t320.length co22)) (fun _ hk => hk.2) (.int .i64 a0_4)) (fun _ hk => hk.2) (.slice Ao26 t323.length co26)) (fun _ hk => trivial), by (with_reducible repeat (first | apply Kd.R_alloc | apply Kd.R_drewN | apply Kd.R_drew)); exact Kd.R_mono (Kd.R_far (p := ⟨gb312, 5, none⟩) (Kd.R_far (p := ⟨gb312, 4, none⟩) (Kd.R_far (p := ⟨gb312, 3, none⟩) (Kd.R_far (p := ⟨gb312, 2, none⟩) (Kd.R_far (p := ⟨gb312, 1, none⟩) (Kd.R_far (p := ⟨gb312, 0, none⟩) (Kd.R_far (p := ⟨gb313, 5, none⟩) (Kd.R_types (Kd.R_types HO325.out BK313.out (by decide)) BK312.out (by decide)) (fun _ hk => hk.1.2) (.slice Ao26 t323.length co26)) (fun _ hk => hk.2) (.slice Ao13 t314.length co13)) (fun _ hk => hk.2) (.slice Ao18 t317.length co18)) (fun _ hk => hk.2) (.int .i64 a0_2)) (fun _ hk => hk.2) (.slice Ao22 t320.length co22)) (fun _ hk => hk.2) (.int .i64 a0_4)) (fun _ hk => hk.2) (.slice Ao26 t323.length co26)) (fun _ hk => trivial), by repeat (first | (with_reducible first | exact HB.out | apply below_alloc | apply pw_below_drewN | apply below_drew1 | refine below_set ?_ GE311.out | refine below_set ?_ GE312.out | refine below_set ?_ GE313.out) | exact HB.out)⟩

end Go.Proofs.YtkohjiajbdkcbaaDoor.All


namespace Go.Proofs.YtkohjiajbdkcbaaDoor.All
open Go.RowKit Go.Proofs.YtkohjiajbdkcbaaDoorW.PrintWords Go.Proofs.YtkohjiajbdkcbaaDoorW.PrintLast Go.Proofs.YtkohjiajbdkcbaaDoorW.PrintMore
attribute [local go_sem] max2_int min2_int max_two min_two max_three min_three max_four min_four   -- for this text's walks alone
set_option linter.unusedVariables false
set_option linter.unusedSimpArgs false

/-! ### impl_uses: function 112 -/
mutual
def impl_uses.j1 : Nat → Int → Option (ByteArray)
 | 0, _ => none
 | k + 1, x0 => if x0 = 14 then (some (⟨#[114, 114, 114, 112]⟩ : ByteArray)) else (if x0 = 46 then (some (⟨#[114, 114, 112, 105]⟩ : ByteArray)) else (if x0 = 15 then (some (⟨#[114, 114, 114, 114]⟩ : ByteArray)) else (if x0 = 16 then (impl_uses.j2 k x0 (x0 == 16)) else (impl_uses.j2 k x0 (x0 == 17)))))
def impl_uses.j2 : Nat → Int → Bool → Option (ByteArray)
 | 0, _, _ => none
 | k + 1, x17, x24 => if x24 = true then (some (⟨#[114, 114, 45, 119]⟩ : ByteArray)) else (if x17 = 18 then (impl_uses.j3 k x17 (x17 == 18)) else (impl_uses.j3 k x17 (x17 == 30)))
def impl_uses.j3 : Nat → Int → Bool → Option (ByteArray)
 | 0, _, _ => none
 | k + 1, x17, x27 => if x27 = true then (some (⟨#[114, 45, 45, 105]⟩ : ByteArray)) else (if x17 = 19 then (some (⟨#[114, 114, 45, 105]⟩ : ByteArray)) else (if x17 = 20 then (impl_uses.j4 k x17 (x17 == 20)) else (impl_uses.j4 k x17 (x17 == 21))))
def impl_uses.j4 : Nat → Int → Bool → Option (ByteArray)
 | 0, _, _ => none
 | k + 1, x17, x32 => if x32 = true then (some (⟨#[114, 114, 110, 105]⟩ : ByteArray)) else (if x17 = 22 then (some (⟨#[114, 114, 45, 45]⟩ : ByteArray)) else (if x17 = 23 then (impl_uses.j5 k x17 (x17 == 23)) else (impl_uses.j5 k x17 (x17 == 26))))
def impl_uses.j5 : Nat → Int → Bool → Option (ByteArray)
 | 0, _, _ => none
 | k + 1, x17, x37 => if x37 = true then (some (⟨#[45, 45, 45, 105]⟩ : ByteArray)) else (if x17 = 24 then (impl_uses.j6 k x17 (x17 == 24)) else (impl_uses.j6 k x17 (x17 == 25)))
def impl_uses.j6 : Nat → Int → Bool → Option (ByteArray)
 | 0, _, _ => none
 | k + 1, x17, x40 => if x40 = true then (some (⟨#[114, 45, 45, 105]⟩ : ByteArray)) else (if x17 = 27 then (impl_uses.j7 k x17 (x17 == 27)) else (impl_uses.j7 k x17 (x17 == 29)))
def impl_uses.j7 : Nat → Int → Bool → Option (ByteArray)
 | 0, _, _ => none
 | k + 1, x17, x43 => if x43 = true then (some (⟨#[45, 45, 45, 45]⟩ : ByteArray)) else (if x17 = 28 then (some (⟨#[114, 45, 45, 45]⟩ : ByteArray)) else (some (⟨#[]⟩ : ByteArray)))
def impl_uses.j0 : Nat → Int → Bool → Option (ByteArray)
 | 0, _, _ => none
 | k + 1, x0, x3 => if x3 = true then (some (⟨#[114, 114, 114, 45]⟩ : ByteArray)) else (if x0 ≥ 33 then (if x0 ≤ 45 then (some (⟨#[114, 114, 45, 105]⟩ : ByteArray)) else (impl_uses.j1 k x0)) else (impl_uses.j1 k x0))
end
def impl_uses.f (k : Nat) (a0 : Int) : Option (ByteArray) := if a0 ≥ 1 then (impl_uses.j0 k a0 (decide (a0 ≤ 13))) else (impl_uses.j0 k a0 false)
set_option maxHeartbeats 8000000 in
set_option maxRecDepth 100000 in
theorem impl_uses.calls (k : Nat) (a0 : Int) (r : ByteArray) (w : World) (h : impl_uses.f k a0 = some r) :
 Calls Tryd.prog 112 #[.int .i64 a0] w fun e w' => e = .returned (.string r) ∧ Drawn0 w w' := by
 have H : (if a0 ≥ 1 then (impl_uses.j0 k a0 (decide (a0 ≤ 13))) else (impl_uses.j0 k a0 false)) = some r := h
 clear h
 have HC2 := Aside0.mk H
 clear H
 go_enter Tryd.func112, Tryd.ntmps112
 go_upto_block 0 with (fail)
 go_cut [] (fun wc => ∃ (kq : Nat), Aside0 (impl_uses.j1 kq a0 = some r) ∧ Aside0 (kq ≤ k) ∧ Drawn0 w wc)
 case first =>
  have H := HC2.out
  clear HC2
  have HC3 := Aside0.mk H
  clear H
  go_upto_region 1 with (fail)
  go_cut [3] (fun v3 wc => ∃ (kq : Nat) (x3_2 : Bool), v3 = .bool x3_2 ∧ Aside0 (impl_uses.j0 kq a0 x3_2 = some r) ∧ Aside0 (kq ≤ k) ∧ Drawn0 w wc)
  case first =>
   have H := HC3.out
   clear HC3
   by_cases c4 : a0 ≥ 1
   · rw [if_pos c4] at H
     have c4b0 : decide (1 ≤ a0) = true := decide_eq_true c4
     clear c4
     (first | rw [c4b0] | (simp only [i64_w, i32_w]; rw [c4b0]) | skip)
     have H' := Aside0.mk H
     clear H
     go_wp2
     go_meet
     case rel => exact ⟨_, (decide (a0 ≤ 13)), (by first | rfl | (simp; done) | (simp [*]; done)), H', ⟨by first | omega | exact Nat.le_refl _⟩, by repeat (first | exact Drawn0.refl _ | apply Drawn0.step)⟩
   · rw [if_neg c4] at H
     have c4b0 : decide (1 ≤ a0) = false := decide_eq_false c4
     clear c4
     (first | rw [c4b0] | (simp only [i64_w, i32_w]; rw [c4b0]) | skip)
     have H' := Aside0.mk H
     clear H
     go_wp2
     go_meet
     case rel => exact ⟨_, (false), (by first | rfl | (simp; done) | (simp [*]; done)), H', ⟨by first | omega | exact Nat.le_refl _⟩, by repeat (first | exact Drawn0.refl _ | apply Drawn0.step)⟩
  case rest =>
   clear HC3
   try clear c1
   try clear p2
   try clear c4
   try clear c4b0
   obtain ⟨kq, x3_2, rfl, HA, HJ2, ⟨mc2, rfl⟩⟩ := hcut
   cases kq with
   | zero => exact absurd HA.out (by simp [impl_uses.j0])
   | succ kj2 =>
    have H := HA.out
    clear HA
    simp only [impl_uses.j0] at H
    by_cases c5 : x3_2 = true
    · subst c5
      have H1 : (some (⟨#[114, 114, 114, 45]⟩ : ByteArray)) = some r := by rw [if_pos rfl] at H; exact H
      clear H
      have H := H1
      clear H1
      obtain rfl := Option.some.inj H
      go_wp2
      go_ret
      exact ⟨by first | rfl | (simp; done) | (simp [*]; done), by repeat (first | exact Drawn0.refl _ | apply Drawn0.step)⟩
    · replace c5 := Bool.eq_false_iff.mpr c5
      subst c5
      have H1 : (if a0 ≥ 33 then (if a0 ≤ 45 then (some (⟨#[114, 114, 45, 105]⟩ : ByteArray)) else (impl_uses.j1 kj2 a0)) else (impl_uses.j1 kj2 a0)) = some r := by rw [if_neg (show ¬ (false = true) by decide)] at H; exact H
      clear H
      have H := H1
      clear H1
      by_cases c6 : a0 ≥ 33
      · rw [if_pos c6] at H
        have c6b0 : decide (33 ≤ a0) = true := decide_eq_true c6
        clear c6
        by_cases c7 : a0 ≤ 45
        · rw [if_pos c7] at H
          have c7b0 : decide (a0 ≤ 45) = true := decide_eq_true c7
          clear c7
          obtain rfl := Option.some.inj H
          go_wp2
          go_ret
          exact ⟨by first | rfl | (simp; done) | (simp [*]; done), by repeat (first | exact Drawn0.refl _ | apply Drawn0.step)⟩
        · rw [if_neg c7] at H
          have c7b0 : decide (a0 ≤ 45) = false := decide_eq_false c7
          clear c7
          have H' := Aside0.mk H
          clear H
          go_wp2
          go_meet
          case rel => exact ⟨_, H', ⟨by have := HJ2.out; first | omega | exact Nat.le_refl _⟩, by repeat (first | exact Drawn0.refl _ | apply Drawn0.step)⟩
      · rw [if_neg c6] at H
        have c6b0 : decide (33 ≤ a0) = false := decide_eq_false c6
        clear c6
        have H' := Aside0.mk H
        clear H
        go_wp2
        go_meet
        case rel => exact ⟨_, H', ⟨by have := HJ2.out; first | omega | exact Nat.le_refl _⟩, by repeat (first | exact Drawn0.refl _ | apply Drawn0.step)⟩
 case rest =>
  clear HC2
  try clear c1
  try clear c2
  try clear p2
  try clear c4
  try clear c4b0
  try clear c5
  try clear c6
  try clear c6b0
  try clear c7
  try clear c7b0
  try clear p2
  obtain ⟨kq, HA, HJ1, ⟨mc1, rfl⟩⟩ := hcut
  cases kq with
  | zero => exact absurd HA.out (by simp [impl_uses.j1])
  | succ kj1 =>
   have H := HA.out
   clear HA
   simp only [impl_uses.j1] at H
   by_cases c8 : a0 = 14
   · rw [if_pos c8] at H
     have c8b0 : (a0 == 14) = true := beq_iff_eq.mpr c8
     have c8b1 : (a0 != 14) = false := bne_eq_false_iff_eq.mpr c8
     clear c8
     obtain rfl := Option.some.inj H
     go_wp2
     go_ret
     exact ⟨by first | rfl | (simp; done) | (simp [*]; done), by repeat (first | exact Drawn0.refl _ | apply Drawn0.step)⟩
   · rw [if_neg c8] at H
     have c8b0 : (a0 == 14) = false := beq_eq_false_iff_ne.mpr c8
     have c8b1 : (a0 != 14) = true := bne_iff_ne.mpr c8
     by_cases c9 : a0 = 46
     · rw [if_pos c9] at H
       have c9b0 : (a0 == 46) = true := beq_iff_eq.mpr c9
       have c9b1 : (a0 != 46) = false := bne_eq_false_iff_eq.mpr c9
       clear c9
       obtain rfl := Option.some.inj H
       go_wp2
       go_ret
       exact ⟨by first | rfl | (simp; done) | (simp [*]; done), by repeat (first | exact Drawn0.refl _ | apply Drawn0.step)⟩
     · rw [if_neg c9] at H
       have c9b0 : (a0 == 46) = false := beq_eq_false_iff_ne.mpr c9
       have c9b1 : (a0 != 46) = true := bne_iff_ne.mpr c9
       by_cases c10 : a0 = 15
       · rw [if_pos c10] at H
         have c10b0 : (a0 == 15) = true := beq_iff_eq.mpr c10
         have c10b1 : (a0 != 15) = false := bne_eq_false_iff_eq.mpr c10
         clear c10
         obtain rfl := Option.some.inj H
         go_wp2
         go_ret
         exact ⟨by first | rfl | (simp; done) | (simp [*]; done), by repeat (first | exact Drawn0.refl _ | apply Drawn0.step)⟩
       · rw [if_neg c10] at H
         have c10b0 : (a0 == 15) = false := beq_eq_false_iff_ne.mpr c10
         have c10b1 : (a0 != 15) = true := bne_iff_ne.mpr c10
         have HC11 := Aside0.mk H
         clear H
         go_upto_if 24 with (fail)
         go_cut [24] (fun v24 wc => ∃ (kq : Nat) (x24_10 : Bool), v24 = .bool x24_10 ∧ Aside0 (impl_uses.j2 kq a0 x24_10 = some r) ∧ Aside0 (kq ≤ kj1) ∧ Drawn0 w wc)
         case first =>
          have H := HC11.out
          clear HC11
          by_cases c12 : a0 = 16
          · rw [if_pos c12] at H
            have c12b0 : (a0 == 16) = true := beq_iff_eq.mpr c12
            have c12b1 : (a0 != 16) = false := bne_eq_false_iff_eq.mpr c12
            clear c12
            (first | rw [c12b0] | (simp only [i64_w, i32_w]; rw [c12b0]) | skip)
            have H' := Aside0.mk H
            clear H
            go_wp2
            go_meet
            case rel => exact ⟨_, ((a0 == 16)), (by first | rfl | (simp; done) | (simp [*]; done)), H', ⟨by have := HJ1.out; first | omega | exact Nat.le_refl _⟩, by repeat (first | exact Drawn0.refl _ | apply Drawn0.step)⟩
          · rw [if_neg c12] at H
            have c12b0 : (a0 == 16) = false := beq_eq_false_iff_ne.mpr c12
            have c12b1 : (a0 != 16) = true := bne_iff_ne.mpr c12
            (first | rw [c12b0] | (simp only [i64_w, i32_w]; rw [c12b0]) | skip)
            have H' := Aside0.mk H
            clear H
            go_wp2
            go_meet
            case rel => exact ⟨_, ((a0 == 17)), (by first | rfl | (simp; done) | (simp [*]; done)), H', ⟨by have := HJ1.out; first | omega | exact Nat.le_refl _⟩, by repeat (first | exact Drawn0.refl _ | apply Drawn0.step)⟩
         case rest =>
          clear HC11
          try clear c1
          try clear c2
          try clear p2
          try clear c4
          try clear c4b0
          try clear c5
          try clear c6
          try clear c6b0
          try clear c7
          try clear c7b0
          try clear c8
          try clear c8b0
          try clear c8b1
          try clear c9
          try clear c9b0
          try clear c9b1
          try clear c10
          try clear c10b0
          try clear c10b1
          try clear c11
          try clear c12
          try clear c12b0
          try clear c12b1
          try clear p2
          obtain ⟨kq, x24_10, rfl, HA, HJ10, ⟨mc10, rfl⟩⟩ := hcut
          cases kq with
          | zero => exact absurd HA.out (by simp [impl_uses.j2])
          | succ kj10 =>
           have H := HA.out
           clear HA
           simp only [impl_uses.j2] at H
           by_cases c13 : x24_10 = true
           · subst c13
             have H1 : (some (⟨#[114, 114, 45, 119]⟩ : ByteArray)) = some r := by rw [if_pos rfl] at H; exact H
             clear H
             have H := H1
             clear H1
             obtain rfl := Option.some.inj H
             go_wp2
             go_ret
             exact ⟨by first | rfl | (simp; done) | (simp [*]; done), by repeat (first | exact Drawn0.refl _ | apply Drawn0.step)⟩
           · replace c13 := Bool.eq_false_iff.mpr c13
             subst c13
             have H1 : (if a0 = 18 then (impl_uses.j3 kj10 a0 (a0 == 18)) else (impl_uses.j3 kj10 a0 (a0 == 30))) = some r := by rw [if_neg (show ¬ (false = true) by decide)] at H; exact H
             clear H
             have H := H1
             clear H1
             have HC14 := Aside0.mk H
             clear H
             go_upto_if 27 with (fail)
             go_cut [27] (fun v27 wc => ∃ (kq : Nat) (x27_13 : Bool), v27 = .bool x27_13 ∧ Aside0 (impl_uses.j3 kq a0 x27_13 = some r) ∧ Aside0 (kq ≤ kj10) ∧ Drawn0 w wc)
             case first =>
              have H := HC14.out
              clear HC14
              by_cases c15 : a0 = 18
              · rw [if_pos c15] at H
                have c15b0 : (a0 == 18) = true := beq_iff_eq.mpr c15
                have c15b1 : (a0 != 18) = false := bne_eq_false_iff_eq.mpr c15
                clear c15
                (first | rw [c15b0] | (simp only [i64_w, i32_w]; rw [c15b0]) | skip)
                have H' := Aside0.mk H
                clear H
                go_wp2
                go_meet
                case rel => exact ⟨_, ((a0 == 18)), (by first | rfl | (simp; done) | (simp [*]; done)), H', ⟨by have := HJ1.out; have := HJ10.out; first | omega | exact Nat.le_refl _⟩, by repeat (first | exact Drawn0.refl _ | apply Drawn0.step)⟩
              · rw [if_neg c15] at H
                have c15b0 : (a0 == 18) = false := beq_eq_false_iff_ne.mpr c15
                have c15b1 : (a0 != 18) = true := bne_iff_ne.mpr c15
                (first | rw [c15b0] | (simp only [i64_w, i32_w]; rw [c15b0]) | skip)
                have H' := Aside0.mk H
                clear H
                go_wp2
                go_meet
                case rel => exact ⟨_, ((a0 == 30)), (by first | rfl | (simp; done) | (simp [*]; done)), H', ⟨by have := HJ1.out; have := HJ10.out; first | omega | exact Nat.le_refl _⟩, by repeat (first | exact Drawn0.refl _ | apply Drawn0.step)⟩
             case rest =>
              clear HC14
              try clear c1
              try clear c2
              try clear p2
              try clear c4
              try clear c4b0
              try clear c5
              try clear c6
              try clear c6b0
              try clear c7
              try clear c7b0
              try clear c8
              try clear c8b0
              try clear c8b1
              try clear c9
              try clear c9b0
              try clear c9b1
              try clear c10
              try clear c10b0
              try clear c10b1
              try clear c11
              try clear c12
              try clear c12b0
              try clear c12b1
              try clear c13
              try clear c15
              try clear c15b0
              try clear c15b1
              try clear p2
              obtain ⟨kq, x27_13, rfl, HA, HJ13, ⟨mc13, rfl⟩⟩ := hcut
              cases kq with
              | zero => exact absurd HA.out (by simp [impl_uses.j3])
              | succ kj13 =>
               have H := HA.out
               clear HA
               simp only [impl_uses.j3] at H
               by_cases c16 : x27_13 = true
               · subst c16
                 have H1 : (some (⟨#[114, 45, 45, 105]⟩ : ByteArray)) = some r := by rw [if_pos rfl] at H; exact H
                 clear H
                 have H := H1
                 clear H1
                 obtain rfl := Option.some.inj H
                 go_wp2
                 go_ret
                 exact ⟨by first | rfl | (simp; done) | (simp [*]; done), by repeat (first | exact Drawn0.refl _ | apply Drawn0.step)⟩
               · replace c16 := Bool.eq_false_iff.mpr c16
                 subst c16
                 have H1 : (if a0 = 19 then (some (⟨#[114, 114, 45, 105]⟩ : ByteArray)) else (if a0 = 20 then (impl_uses.j4 kj13 a0 (a0 == 20)) else (impl_uses.j4 kj13 a0 (a0 == 21)))) = some r := by rw [if_neg (show ¬ (false = true) by decide)] at H; exact H
                 clear H
                 have H := H1
                 clear H1
                 by_cases c17 : a0 = 19
                 · rw [if_pos c17] at H
                   have c17b0 : (a0 == 19) = true := beq_iff_eq.mpr c17
                   have c17b1 : (a0 != 19) = false := bne_eq_false_iff_eq.mpr c17
                   clear c17
                   obtain rfl := Option.some.inj H
                   go_wp2
                   go_ret
                   exact ⟨by first | rfl | (simp; done) | (simp [*]; done), by repeat (first | exact Drawn0.refl _ | apply Drawn0.step)⟩
                 · rw [if_neg c17] at H
                   have c17b0 : (a0 == 19) = false := beq_eq_false_iff_ne.mpr c17
                   have c17b1 : (a0 != 19) = true := bne_iff_ne.mpr c17
                   have HC18 := Aside0.mk H
                   clear H
                   go_upto_if 32 with (fail)
                   go_cut [32] (fun v32 wc => ∃ (kq : Nat) (x32_17 : Bool), v32 = .bool x32_17 ∧ Aside0 (impl_uses.j4 kq a0 x32_17 = some r) ∧ Aside0 (kq ≤ kj13) ∧ Drawn0 w wc)
                   case first =>
                    have H := HC18.out
                    clear HC18
                    by_cases c19 : a0 = 20
                    · rw [if_pos c19] at H
                      have c19b0 : (a0 == 20) = true := beq_iff_eq.mpr c19
                      have c19b1 : (a0 != 20) = false := bne_eq_false_iff_eq.mpr c19
                      clear c19
                      (first | rw [c19b0] | (simp only [i64_w, i32_w]; rw [c19b0]) | skip)
                      have H' := Aside0.mk H
                      clear H
                      go_wp2
                      go_meet
                      case rel => exact ⟨_, ((a0 == 20)), (by first | rfl | (simp; done) | (simp [*]; done)), H', ⟨by have := HJ1.out; have := HJ10.out; have := HJ13.out; first | omega | exact Nat.le_refl _⟩, by repeat (first | exact Drawn0.refl _ | apply Drawn0.step)⟩
                    · rw [if_neg c19] at H
                      have c19b0 : (a0 == 20) = false := beq_eq_false_iff_ne.mpr c19
                      have c19b1 : (a0 != 20) = true := bne_iff_ne.mpr c19
                      (first | rw [c19b0] | (simp only [i64_w, i32_w]; rw [c19b0]) | skip)
                      have H' := Aside0.mk H
                      clear H
                      go_wp2
                      go_meet
                      case rel => exact ⟨_, ((a0 == 21)), (by first | rfl | (simp; done) | (simp [*]; done)), H', ⟨by have := HJ1.out; have := HJ10.out; have := HJ13.out; first | omega | exact Nat.le_refl _⟩, by repeat (first | exact Drawn0.refl _ | apply Drawn0.step)⟩
                   case rest =>
                    clear HC18
                    try clear c1
                    try clear c2
                    try clear p2
                    try clear c4
                    try clear c4b0
                    try clear c5
                    try clear c6
                    try clear c6b0
                    try clear c7
                    try clear c7b0
                    try clear c8
                    try clear c8b0
                    try clear c8b1
                    try clear c9
                    try clear c9b0
                    try clear c9b1
                    try clear c10
                    try clear c10b0
                    try clear c10b1
                    try clear c11
                    try clear c12
                    try clear c12b0
                    try clear c12b1
                    try clear c13
                    try clear c15
                    try clear c15b0
                    try clear c15b1
                    try clear c16
                    try clear c17
                    try clear c17b0
                    try clear c17b1
                    try clear c19
                    try clear c19b0
                    try clear c19b1
                    try clear p2
                    obtain ⟨kq, x32_17, rfl, HA, HJ17, ⟨mc17, rfl⟩⟩ := hcut
                    cases kq with
                    | zero => exact absurd HA.out (by simp [impl_uses.j4])
                    | succ kj17 =>
                     have H := HA.out
                     clear HA
                     simp only [impl_uses.j4] at H
                     by_cases c20 : x32_17 = true
                     · subst c20
                       have H1 : (some (⟨#[114, 114, 110, 105]⟩ : ByteArray)) = some r := by rw [if_pos rfl] at H; exact H
                       clear H
                       have H := H1
                       clear H1
                       obtain rfl := Option.some.inj H
                       go_wp2
                       go_ret
                       exact ⟨by first | rfl | (simp; done) | (simp [*]; done), by repeat (first | exact Drawn0.refl _ | apply Drawn0.step)⟩
                     · replace c20 := Bool.eq_false_iff.mpr c20
                       subst c20
                       have H1 : (if a0 = 22 then (some (⟨#[114, 114, 45, 45]⟩ : ByteArray)) else (if a0 = 23 then (impl_uses.j5 kj17 a0 (a0 == 23)) else (impl_uses.j5 kj17 a0 (a0 == 26)))) = some r := by rw [if_neg (show ¬ (false = true) by decide)] at H; exact H
                       clear H
                       have H := H1
                       clear H1
                       by_cases c21 : a0 = 22
                       · rw [if_pos c21] at H
                         have c21b0 : (a0 == 22) = true := beq_iff_eq.mpr c21
                         have c21b1 : (a0 != 22) = false := bne_eq_false_iff_eq.mpr c21
                         clear c21
                         obtain rfl := Option.some.inj H
                         go_wp2
                         go_ret
                         exact ⟨by first | rfl | (simp; done) | (simp [*]; done), by repeat (first | exact Drawn0.refl _ | apply Drawn0.step)⟩
                       · rw [if_neg c21] at H
                         have c21b0 : (a0 == 22) = false := beq_eq_false_iff_ne.mpr c21
                         have c21b1 : (a0 != 22) = true := bne_iff_ne.mpr c21
                         have HC22 := Aside0.mk H
                         clear H
                         go_upto_if 37 with (fail)
                         go_cut [37] (fun v37 wc => ∃ (kq : Nat) (x37_21 : Bool), v37 = .bool x37_21 ∧ Aside0 (impl_uses.j5 kq a0 x37_21 = some r) ∧ Aside0 (kq ≤ kj17) ∧ Drawn0 w wc)
                         case first =>
                          have H := HC22.out
                          clear HC22
                          by_cases c23 : a0 = 23
                          · rw [if_pos c23] at H
                            have c23b0 : (a0 == 23) = true := beq_iff_eq.mpr c23
                            have c23b1 : (a0 != 23) = false := bne_eq_false_iff_eq.mpr c23
                            clear c23
                            (first | rw [c23b0] | (simp only [i64_w, i32_w]; rw [c23b0]) | skip)
                            have H' := Aside0.mk H
                            clear H
                            go_wp2
                            go_meet
                            case rel => exact ⟨_, ((a0 == 23)), (by first | rfl | (simp; done) | (simp [*]; done)), H', ⟨by have := HJ1.out; have := HJ10.out; have := HJ13.out; have := HJ17.out; first | omega | exact Nat.le_refl _⟩, by repeat (first | exact Drawn0.refl _ | apply Drawn0.step)⟩
                          · rw [if_neg c23] at H
                            have c23b0 : (a0 == 23) = false := beq_eq_false_iff_ne.mpr c23
                            have c23b1 : (a0 != 23) = true := bne_iff_ne.mpr c23
                            (first | rw [c23b0] | (simp only [i64_w, i32_w]; rw [c23b0]) | skip)
                            have H' := Aside0.mk H
                            clear H
                            go_wp2
                            go_meet
                            case rel => exact ⟨_, ((a0 == 26)), (by first | rfl | (simp; done) | (simp [*]; done)), H', ⟨by have := HJ1.out; have := HJ10.out; have := HJ13.out; have := HJ17.out; first | omega | exact Nat.le_refl _⟩, by repeat (first | exact Drawn0.refl _ | apply Drawn0.step)⟩
                         case rest =>
                          clear HC22
                          try clear c1
                          try clear c2
                          try clear p2
                          try clear c4
                          try clear c4b0
                          try clear c5
                          try clear c6
                          try clear c6b0
                          try clear c7
                          try clear c7b0
                          try clear c8
                          try clear c8b0
                          try clear c8b1
                          try clear c9
                          try clear c9b0
                          try clear c9b1
                          try clear c10
                          try clear c10b0
                          try clear c10b1
                          try clear c11
                          try clear c12
                          try clear c12b0
                          try clear c12b1
                          try clear c13
                          try clear c15
                          try clear c15b0
                          try clear c15b1
                          try clear c16
                          try clear c17
                          try clear c17b0
                          try clear c17b1
                          try clear c19
                          try clear c19b0
                          try clear c19b1
                          try clear c20
                          try clear c21
                          try clear c21b0
                          try clear c21b1
                          try clear c23
                          try clear c23b0
                          try clear c23b1
                          try clear p2
                          obtain ⟨kq, x37_21, rfl, HA, HJ21, ⟨mc21, rfl⟩⟩ := hcut
                          cases kq with
                          | zero => exact absurd HA.out (by simp [impl_uses.j5])
                          | succ kj21 =>
                           have H := HA.out
                           clear HA
                           simp only [impl_uses.j5] at H
                           by_cases c24 : x37_21 = true
                           · subst c24
                             have H1 : (some (⟨#[45, 45, 45, 105]⟩ : ByteArray)) = some r := by rw [if_pos rfl] at H; exact H
                             clear H
                             have H := H1
                             clear H1
                             obtain rfl := Option.some.inj H
                             go_wp2
                             go_ret
                             exact ⟨by first | rfl | (simp; done) | (simp [*]; done), by repeat (first | exact Drawn0.refl _ | apply Drawn0.step)⟩
                           · replace c24 := Bool.eq_false_iff.mpr c24
                             subst c24
                             have H1 : (if a0 = 24 then (impl_uses.j6 kj21 a0 (a0 == 24)) else (impl_uses.j6 kj21 a0 (a0 == 25))) = some r := by rw [if_neg (show ¬ (false = true) by decide)] at H; exact H
                             clear H
                             have H := H1
                             clear H1
                             have HC25 := Aside0.mk H
                             clear H
                             go_upto_if 40 with (fail)
                             go_cut [40] (fun v40 wc => ∃ (kq : Nat) (x40_24 : Bool), v40 = .bool x40_24 ∧ Aside0 (impl_uses.j6 kq a0 x40_24 = some r) ∧ Aside0 (kq ≤ kj21) ∧ Drawn0 w wc)
                             case first =>
                              have H := HC25.out
                              clear HC25
                              by_cases c26 : a0 = 24
                              · rw [if_pos c26] at H
                                have c26b0 : (a0 == 24) = true := beq_iff_eq.mpr c26
                                have c26b1 : (a0 != 24) = false := bne_eq_false_iff_eq.mpr c26
                                clear c26
                                (first | rw [c26b0] | (simp only [i64_w, i32_w]; rw [c26b0]) | skip)
                                have H' := Aside0.mk H
                                clear H
                                go_wp2
                                go_meet
                                case rel => exact ⟨_, ((a0 == 24)), (by first | rfl | (simp; done) | (simp [*]; done)), H', ⟨by have := HJ1.out; have := HJ10.out; have := HJ13.out; have := HJ17.out; have := HJ21.out; first | omega | exact Nat.le_refl _⟩, by repeat (first | exact Drawn0.refl _ | apply Drawn0.step)⟩
                              · rw [if_neg c26] at H
                                have c26b0 : (a0 == 24) = false := beq_eq_false_iff_ne.mpr c26
                                have c26b1 : (a0 != 24) = true := bne_iff_ne.mpr c26
                                (first | rw [c26b0] | (simp only [i64_w, i32_w]; rw [c26b0]) | skip)
                                have H' := Aside0.mk H
                                clear H
                                go_wp2
                                go_meet
                                case rel => exact ⟨_, ((a0 == 25)), (by first | rfl | (simp; done) | (simp [*]; done)), H', ⟨by have := HJ1.out; have := HJ10.out; have := HJ13.out; have := HJ17.out; have := HJ21.out; first | omega | exact Nat.le_refl _⟩, by repeat (first | exact Drawn0.refl _ | apply Drawn0.step)⟩
                             case rest =>
                              clear HC25
                              try clear c1
                              try clear c2
                              try clear p2
                              try clear c4
                              try clear c4b0
                              try clear c5
                              try clear c6
                              try clear c6b0
                              try clear c7
                              try clear c7b0
                              try clear c8
                              try clear c8b0
                              try clear c8b1
                              try clear c9
                              try clear c9b0
                              try clear c9b1
                              try clear c10
                              try clear c10b0
                              try clear c10b1
                              try clear c11
                              try clear c12
                              try clear c12b0
                              try clear c12b1
                              try clear c13
                              try clear c15
                              try clear c15b0
                              try clear c15b1
                              try clear c16
                              try clear c17
                              try clear c17b0
                              try clear c17b1
                              try clear c19
                              try clear c19b0
                              try clear c19b1
                              try clear c20
                              try clear c21
                              try clear c21b0
                              try clear c21b1
                              try clear c23
                              try clear c23b0
                              try clear c23b1
                              try clear c24
                              try clear c26
                              try clear c26b0
                              try clear c26b1
                              try clear p2
                              obtain ⟨kq, x40_24, rfl, HA, HJ24, ⟨mc24, rfl⟩⟩ := hcut
                              cases kq with
                              | zero => exact absurd HA.out (by simp [impl_uses.j6])
                              | succ kj24 =>
                               have H := HA.out
                               clear HA
                               simp only [impl_uses.j6] at H
                               by_cases c27 : x40_24 = true
                               · subst c27
                                 have H1 : (some (⟨#[114, 45, 45, 105]⟩ : ByteArray)) = some r := by rw [if_pos rfl] at H; exact H
                                 clear H
                                 have H := H1
                                 clear H1
                                 obtain rfl := Option.some.inj H
                                 go_wp2
                                 go_ret
                                 exact ⟨by first | rfl | (simp; done) | (simp [*]; done), by repeat (first | exact Drawn0.refl _ | apply Drawn0.step)⟩
                               · replace c27 := Bool.eq_false_iff.mpr c27
                                 subst c27
                                 have H1 : (if a0 = 27 then (impl_uses.j7 kj24 a0 (a0 == 27)) else (impl_uses.j7 kj24 a0 (a0 == 29))) = some r := by rw [if_neg (show ¬ (false = true) by decide)] at H; exact H
                                 clear H
                                 have H := H1
                                 clear H1
                                 have HC28 := Aside0.mk H
                                 clear H
                                 go_upto_if 43 with (fail)
                                 go_cut [43] (fun v43 wc => ∃ (kq : Nat) (x43_27 : Bool), v43 = .bool x43_27 ∧ Aside0 (impl_uses.j7 kq a0 x43_27 = some r) ∧ Aside0 (kq ≤ kj24) ∧ Drawn0 w wc)
                                 case first =>
                                  have H := HC28.out
                                  clear HC28
                                  by_cases c29 : a0 = 27
                                  · rw [if_pos c29] at H
                                    have c29b0 : (a0 == 27) = true := beq_iff_eq.mpr c29
                                    have c29b1 : (a0 != 27) = false := bne_eq_false_iff_eq.mpr c29
                                    clear c29
                                    (first | rw [c29b0] | (simp only [i64_w, i32_w]; rw [c29b0]) | skip)
                                    have H' := Aside0.mk H
                                    clear H
                                    go_wp2
                                    go_meet
                                    case rel => exact ⟨_, ((a0 == 27)), (by first | rfl | (simp; done) | (simp [*]; done)), H', ⟨by have := HJ1.out; have := HJ10.out; have := HJ13.out; have := HJ17.out; have := HJ21.out; have := HJ24.out; first | omega | exact Nat.le_refl _⟩, by repeat (first | exact Drawn0.refl _ | apply Drawn0.step)⟩
                                  · rw [if_neg c29] at H
                                    have c29b0 : (a0 == 27) = false := beq_eq_false_iff_ne.mpr c29
                                    have c29b1 : (a0 != 27) = true := bne_iff_ne.mpr c29
                                    (first | rw [c29b0] | (simp only [i64_w, i32_w]; rw [c29b0]) | skip)
                                    have H' := Aside0.mk H
                                    clear H
                                    go_wp2
                                    go_meet
                                    case rel => exact ⟨_, ((a0 == 29)), (by first | rfl | (simp; done) | (simp [*]; done)), H', ⟨by have := HJ1.out; have := HJ10.out; have := HJ13.out; have := HJ17.out; have := HJ21.out; have := HJ24.out; first | omega | exact Nat.le_refl _⟩, by repeat (first | exact Drawn0.refl _ | apply Drawn0.step)⟩
                                 case rest =>
                                  clear HC28
                                  try clear c1
                                  try clear c2
                                  try clear p2
                                  try clear c4
                                  try clear c4b0
                                  try clear c5
                                  try clear c6
                                  try clear c6b0
                                  try clear c7
                                  try clear c7b0
                                  try clear c8
                                  try clear c8b0
                                  try clear c8b1
                                  try clear c9
                                  try clear c9b0
                                  try clear c9b1
                                  try clear c10
                                  try clear c10b0
                                  try clear c10b1
                                  try clear c11
                                  try clear c12
                                  try clear c12b0
                                  try clear c12b1
                                  try clear c13
                                  try clear c15
                                  try clear c15b0
                                  try clear c15b1
                                  try clear c16
                                  try clear c17
                                  try clear c17b0
                                  try clear c17b1
                                  try clear c19
                                  try clear c19b0
                                  try clear c19b1
                                  try clear c20
                                  try clear c21
                                  try clear c21b0
                                  try clear c21b1
                                  try clear c23
                                  try clear c23b0
                                  try clear c23b1
                                  try clear c24
                                  try clear c26
                                  try clear c26b0
                                  try clear c26b1
                                  try clear c27
                                  try clear c29
                                  try clear c29b0
                                  try clear c29b1
                                  try clear p2
                                  obtain ⟨kq, x43_27, rfl, HA, HJ27, ⟨mc27, rfl⟩⟩ := hcut
                                  cases kq with
                                  | zero => exact absurd HA.out (by simp [impl_uses.j7])
                                  | succ kj27 =>
                                   have H := HA.out
                                   clear HA
                                   simp only [impl_uses.j7] at H
                                   by_cases c30 : x43_27 = true
                                   · subst c30
                                     have H1 : (some (⟨#[45, 45, 45, 45]⟩ : ByteArray)) = some r := by rw [if_pos rfl] at H; exact H
                                     clear H
                                     have H := H1
                                     clear H1
                                     obtain rfl := Option.some.inj H
                                     go_wp2
                                     go_ret
                                     exact ⟨by first | rfl | (simp; done) | (simp [*]; done), by repeat (first | exact Drawn0.refl _ | apply Drawn0.step)⟩
                                   · replace c30 := Bool.eq_false_iff.mpr c30
                                     subst c30
                                     have H1 : (if a0 = 28 then (some (⟨#[114, 45, 45, 45]⟩ : ByteArray)) else (some (⟨#[]⟩ : ByteArray))) = some r := by rw [if_neg (show ¬ (false = true) by decide)] at H; exact H
                                     clear H
                                     have H := H1
                                     clear H1
                                     by_cases c31 : a0 = 28
                                     · rw [if_pos c31] at H
                                       have c31b0 : (a0 == 28) = true := beq_iff_eq.mpr c31
                                       have c31b1 : (a0 != 28) = false := bne_eq_false_iff_eq.mpr c31
                                       clear c31
                                       obtain rfl := Option.some.inj H
                                       go_wp2
                                       go_ret
                                       exact ⟨by first | rfl | (simp; done) | (simp [*]; done), by repeat (first | exact Drawn0.refl _ | apply Drawn0.step)⟩
                                     · rw [if_neg c31] at H
                                       have c31b0 : (a0 == 28) = false := beq_eq_false_iff_ne.mpr c31
                                       have c31b1 : (a0 != 28) = true := bne_iff_ne.mpr c31
                                       obtain rfl := Option.some.inj H
                                       go_wp2
                                       go_ret
                                       exact ⟨by first | rfl | (simp; done) | (simp [*]; done), by repeat (first | exact Drawn0.refl _ | apply Drawn0.step)⟩

end Go.Proofs.YtkohjiajbdkcbaaDoor.All


namespace Go.Proofs.YtkohjiajbdkcbaaDoor.All
open Go.RowKit Go.Proofs.YtkohjiajbdkcbaaDoorW.PrintWords Go.Proofs.YtkohjiajbdkcbaaDoorW.PrintLast Go.Proofs.YtkohjiajbdkcbaaDoorW.PrintMore
attribute [local go_sem] max2_int min2_int max_two min_two max_three min_three max_four min_four   -- for this text's walks alone
set_option linter.unusedVariables false
set_option linter.unusedSimpArgs false

/-! ### impl_Fits: function 113 -/
def impl_Fits.f (a0 : Int) : Option (Bool) := if a0 ≥ (-2147483648) then (some (decide (a0 ≤ 2147483647))) else (some false)
set_option maxHeartbeats 8000000 in
set_option maxRecDepth 100000 in
theorem impl_Fits.calls (a0 : Int) (r : Bool) (w : World) (h : impl_Fits.f a0 = some r) :
 Calls Tryd.prog 113 #[.int .i64 a0] w fun e w' => e = .returned (.bool r) ∧ Drawn0 w w' := by
 have H : (if a0 ≥ (-2147483648) then (some (decide (a0 ≤ 2147483647))) else (some false)) = some r := h
 clear h
 by_cases c2 : a0 ≥ (-2147483648)
 · rw [if_pos c2] at H
   have c2b0 : decide ((-2147483648) ≤ a0) = true := decide_eq_true c2
   clear c2
   obtain rfl := Option.some.inj H
   go_enter Tryd.func113, Tryd.ntmps113
   go_wp2
   go_ret
   exact ⟨by first | rfl | (simp; done) | (simp [*]; done), by repeat (first | exact Drawn0.refl _ | apply Drawn0.step)⟩
 · rw [if_neg c2] at H
   have c2b0 : decide ((-2147483648) ≤ a0) = false := decide_eq_false c2
   clear c2
   obtain rfl := Option.some.inj H
   go_enter Tryd.func113, Tryd.ntmps113
   go_wp2
   go_ret
   exact ⟨by first | rfl | (simp; done) | (simp [*]; done), by repeat (first | exact Drawn0.refl _ | apply Drawn0.step)⟩

end Go.Proofs.YtkohjiajbdkcbaaDoor.All


namespace Go.Proofs.YtkohjiajbdkcbaaDoor.All
open Go.RowKit Go.Proofs.YtkohjiajbdkcbaaDoorW.PrintWords Go.Proofs.YtkohjiajbdkcbaaDoorW.PrintLast Go.Proofs.YtkohjiajbdkcbaaDoorW.PrintMore
attribute [local go_sem] max2_int min2_int max_two min_two max_three min_three max_four min_four   -- for this text's walks alone
set_option linter.unusedVariables false
set_option linter.unusedSimpArgs false

/-! ### impl_reg: function 114 -/
def impl_reg.f (a0 : Int) : Option (Bool) := if a0 ≥ 0 then (some (decide (a0 ≤ 31))) else (some false)
set_option maxHeartbeats 8000000 in
set_option maxRecDepth 100000 in
theorem impl_reg.calls (a0 : Int) (r : Bool) (w : World) (h : impl_reg.f a0 = some r) :
 Calls Tryd.prog 114 #[.int .i64 a0] w fun e w' => e = .returned (.bool r) ∧ Drawn0 w w' := by
 have H : (if a0 ≥ 0 then (some (decide (a0 ≤ 31))) else (some false)) = some r := h
 clear h
 by_cases c2 : a0 ≥ 0
 · rw [if_pos c2] at H
   have c2b0 : decide (0 ≤ a0) = true := decide_eq_true c2
   clear c2
   obtain rfl := Option.some.inj H
   go_enter Tryd.func114, Tryd.ntmps114
   go_wp2
   go_ret
   exact ⟨by first | rfl | (simp; done) | (simp [*]; done), by repeat (first | exact Drawn0.refl _ | apply Drawn0.step)⟩
 · rw [if_neg c2] at H
   have c2b0 : decide (0 ≤ a0) = false := decide_eq_false c2
   clear c2
   obtain rfl := Option.some.inj H
   go_enter Tryd.func114, Tryd.ntmps114
   go_wp2
   go_ret
   exact ⟨by first | rfl | (simp; done) | (simp [*]; done), by repeat (first | exact Drawn0.refl _ | apply Drawn0.step)⟩

end Go.Proofs.YtkohjiajbdkcbaaDoor.All


namespace Go.Proofs.YtkohjiajbdkcbaaDoor.All
open Go.RowKit Go.Proofs.YtkohjiajbdkcbaaDoorW.PrintWords Go.Proofs.YtkohjiajbdkcbaaDoorW.PrintLast Go.Proofs.YtkohjiajbdkcbaaDoorW.PrintMore
attribute [local go_sem] max2_int min2_int max_two min_two max_three min_three max_four min_four   -- for this text's walks alone
set_option linter.unusedVariables false
set_option linter.unusedSimpArgs false

/-! ### impl_pred: function 115 -/
def impl_pred.f (a0 : Int) : Option (Bool) := if a0 ≥ 1 then (some (decide (a0 ≤ 10))) else (some false)
set_option maxHeartbeats 8000000 in
set_option maxRecDepth 100000 in
theorem impl_pred.calls (a0 : Int) (r : Bool) (w : World) (h : impl_pred.f a0 = some r) :
 Calls Tryd.prog 115 #[.int .i64 a0] w fun e w' => e = .returned (.bool r) ∧ Drawn0 w w' := by
 have H : (if a0 ≥ 1 then (some (decide (a0 ≤ 10))) else (some false)) = some r := h
 clear h
 by_cases c2 : a0 ≥ 1
 · rw [if_pos c2] at H
   have c2b0 : decide (1 ≤ a0) = true := decide_eq_true c2
   clear c2
   obtain rfl := Option.some.inj H
   go_enter Tryd.func115, Tryd.ntmps115
   go_wp2
   go_ret
   exact ⟨by first | rfl | (simp; done) | (simp [*]; done), by repeat (first | exact Drawn0.refl _ | apply Drawn0.step)⟩
 · rw [if_neg c2] at H
   have c2b0 : decide (1 ≤ a0) = false := decide_eq_false c2
   clear c2
   obtain rfl := Option.some.inj H
   go_enter Tryd.func115, Tryd.ntmps115
   go_wp2
   go_ret
   exact ⟨by first | rfl | (simp; done) | (simp [*]; done), by repeat (first | exact Drawn0.refl _ | apply Drawn0.step)⟩

end Go.Proofs.YtkohjiajbdkcbaaDoor.All


namespace Go.Proofs.YtkohjiajbdkcbaaDoor.All
open Go.RowKit Go.Proofs.YtkohjiajbdkcbaaDoorW.PrintWords Go.Proofs.YtkohjiajbdkcbaaDoorW.PrintLast Go.Proofs.YtkohjiajbdkcbaaDoorW.PrintMore
attribute [local go_sem] max2_int min2_int max_two min_two max_three min_three max_four min_four   -- for this text's walks alone
set_option linter.unusedVariables false
set_option linter.unusedSimpArgs false

/-! ### impl_bytesCount: function 116 -/
def impl_bytesCount.f (a0 : Int) : Option (Bool) := if a0 = 1 then (some true) else (if a0 = 2 then (some true) else (if a0 = 4 then (some true) else (some (a0 == 8))))
set_option maxHeartbeats 8000000 in
set_option maxRecDepth 100000 in
theorem impl_bytesCount.calls (a0 : Int) (r : Bool) (w : World) (h : impl_bytesCount.f a0 = some r) :
 Calls Tryd.prog 116 #[.int .i64 a0] w fun e w' => e = .returned (.bool r) ∧ Drawn0 w w' := by
 have H : (if a0 = 1 then (some true) else (if a0 = 2 then (some true) else (if a0 = 4 then (some true) else (some (a0 == 8))))) = some r := h
 clear h
 by_cases c2 : a0 = 1
 · rw [if_pos c2] at H
   have c2b0 : (a0 == 1) = true := beq_iff_eq.mpr c2
   have c2b1 : (a0 != 1) = false := bne_eq_false_iff_eq.mpr c2
   clear c2
   obtain rfl := Option.some.inj H
   go_enter Tryd.func116, Tryd.ntmps116
   go_wp2
   go_ret
   exact ⟨by first | rfl | (simp; done) | (simp [*]; done), by repeat (first | exact Drawn0.refl _ | apply Drawn0.step)⟩
 · rw [if_neg c2] at H
   have c2b0 : (a0 == 1) = false := beq_eq_false_iff_ne.mpr c2
   have c2b1 : (a0 != 1) = true := bne_iff_ne.mpr c2
   by_cases c3 : a0 = 2
   · rw [if_pos c3] at H
     have c3b0 : (a0 == 2) = true := beq_iff_eq.mpr c3
     have c3b1 : (a0 != 2) = false := bne_eq_false_iff_eq.mpr c3
     clear c3
     obtain rfl := Option.some.inj H
     go_enter Tryd.func116, Tryd.ntmps116
     go_wp2
     go_ret
     exact ⟨by first | rfl | (simp; done) | (simp [*]; done), by repeat (first | exact Drawn0.refl _ | apply Drawn0.step)⟩
   · rw [if_neg c3] at H
     have c3b0 : (a0 == 2) = false := beq_eq_false_iff_ne.mpr c3
     have c3b1 : (a0 != 2) = true := bne_iff_ne.mpr c3
     by_cases c4 : a0 = 4
     · rw [if_pos c4] at H
       have c4b0 : (a0 == 4) = true := beq_iff_eq.mpr c4
       have c4b1 : (a0 != 4) = false := bne_eq_false_iff_eq.mpr c4
       clear c4
       obtain rfl := Option.some.inj H
       go_enter Tryd.func116, Tryd.ntmps116
       go_wp2
       go_ret
       exact ⟨by first | rfl | (simp; done) | (simp [*]; done), by repeat (first | exact Drawn0.refl _ | apply Drawn0.step)⟩
     · rw [if_neg c4] at H
       have c4b0 : (a0 == 4) = false := beq_eq_false_iff_ne.mpr c4
       have c4b1 : (a0 != 4) = true := bne_iff_ne.mpr c4
       obtain rfl := Option.some.inj H
       go_enter Tryd.func116, Tryd.ntmps116
       go_wp2
       go_ret
       exact ⟨by first | rfl | (simp; done) | (simp [*]; done), by repeat (first | exact Drawn0.refl _ | apply Drawn0.step)⟩

end Go.Proofs.YtkohjiajbdkcbaaDoor.All

