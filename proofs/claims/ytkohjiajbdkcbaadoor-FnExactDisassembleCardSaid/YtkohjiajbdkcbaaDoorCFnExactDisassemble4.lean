/- Part 4 of the proof of FnExactDisassemble: functions of the translation with what they return, and plain laws of these. Written by programs of this session over the kit's print, and by hand. -/
import Derived.Test.YtkohjiajbdkcbaaDoorProg
import Derived.Test.YtkohjiajbdkcbaaDoorCFnExactDisassembleWApart
import Derived.Test.YtkohjiajbdkcbaaDoorCFnExactDisassembleWArr
import Derived.Test.YtkohjiajbdkcbaaDoorCFnExactDisassembleWFoot
import Derived.Test.YtkohjiajbdkcbaaDoorCFnExactDisassembleWGuard
import Derived.Test.YtkohjiajbdkcbaaDoorCFnExactDisassembleWKept
import Derived.Test.YtkohjiajbdkcbaaDoorCFnExactDisassembleWLast
import Derived.Test.YtkohjiajbdkcbaaDoorCFnExactDisassembleWMore
import Derived.Test.YtkohjiajbdkcbaaDoorCFnExactDisassembleWN
import Derived.Test.YtkohjiajbdkcbaaDoorCFnExactDisassembleWNEv
import Derived.Test.YtkohjiajbdkcbaaDoorCFnExactDisassembleWQPut
import Derived.Test.YtkohjiajbdkcbaaDoorCFnExactDisassembleWRepsOne
import Derived.Test.YtkohjiajbdkcbaaDoorCFnExactDisassembleWShare
import Derived.Test.YtkohjiajbdkcbaaDoorCFnExactDisassembleWTab
import Derived.Test.YtkohjiajbdkcbaaDoorCFnExactDisassembleWWords
import Derived.Test.YtkohjiajbdkcbaaDoorCFnExactDisassembleWZeros
import Derived.Below
import Derived.Deep.Draws
import Derived.Deep.AppendLies
import Derived.Maps.AppendAt
import Derived.OwnWalk
import Derived.Laws.BytesArg
import Derived.Laws.MakeOwn
import Derived.Laws.OwnMore
import Derived.Deep.OwnRows
import Derived.Tactics
import Derived.Lib.ConvBytes
import Derived.Laws.Slices
import Derived.WalkKit
import Derived.KernelRfl
import Derived.RowKit3
import Derived.Deep.LoopGhost
import Derived.Deep.QuietTactic
import Derived.BigQuiet
import Derived.WideLaws
import Derived.Deep.DeepCutAuto
import Derived.Deep.CutBlock
import Derived.Deep.RegionHeld3
import Derived.Laws.Rows
import Derived.Lib.AppendStr
import Derived.ArgAppend
import Derived.Laws.IdiomCopy
import Derived.OrdersHeld
import Derived.Laws.BitsLemmas
import Derived.RowKit
import Derived.Lib.LaidTab
import Derived.Lib.ItoaNum
import Derived.Sort.Grow
import Derived.Lib.ItoaLen
import Derived.Shelf.Strings.Builder1
import Derived.Lib.Builder
import Derived.Shelf.LaysM
import Derived.Shelf.LaysC
import Derived.Shelf.Strconv.Itoa4
import Derived.Shelf.Strconv.Itoa3
import Derived.Shelf.Strconv.Itoa1
import Derived.Laws.BitsAllLaws
import Derived.Lib.ParseIntBCases
import Derived.Deep.Slices
import Derived.ChangeArms
import Derived.OpenShut
import Derived.Stop.LaidErr
import Derived.LaidMore
import Derived.ProofKit
import Derived.ShutString
import Derived.ChangeOld
import Derived.SizedLaws
import Derived.Deep.DeepHandedRow
import Derived.Deep.DeepWitnessRowRef
import Derived.SevenTiedAt
import Derived.Test.YtkohjiajbdkcbaaDoorCFnExactDisassemble1
import Derived.Test.YtkohjiajbdkcbaaDoorCFnExactDisassemble2
import Derived.Test.YtkohjiajbdkcbaaDoorCFnExactDisassemble3
namespace Go.Proofs.YtkohjiajbdkcbaaDoor.All
open Go.RowKit Go.Proofs.YtkohjiajbdkcbaaDoorW.PrintWords Go.Proofs.YtkohjiajbdkcbaaDoorW.PrintLast Go.Proofs.YtkohjiajbdkcbaaDoorW.PrintMore
attribute [local go_sem] max2_int min2_int max_two min_two max_three min_three max_four min_four   -- for this text's walks alone
set_option linter.unusedVariables false
set_option linter.unusedSimpArgs false

/-! ### impl_ImageFault: function 64 -/
mutual
def impl_ImageFault.j0 : Nat → Bool → List Int → List Int → Int → List Int → Int → List (S109) → Option (Int)
 | 0, _, _, _, _, _, _, _ => none
 | k + 1, x22, x349000, x349001, x349002, x349003, x349004, x349005 => if x22 = true then (some 1) else (impl_ImageFault.l0 k 0 x349000 x349001 x349002 x349003 x349004 x349005)
def impl_ImageFault.l0 : Nat → Int → List Int → List Int → Int → List Int → Int → List (S109) → Option (Int)
 | 0, _, _, _, _, _, _, _ => none
 | k + 1, x3, x349000, x349001, x349002, x349003, x349004, x349005 => if x3 < (x349000.length : Int) then (if 0 ≤ x3 then (if x3 ≤ (wrap64 (x3 + 8)) then (if (wrap64 (x3 + 8)) ≤ (x349000.length : Int) then ((impl_DecodeIns.f k ((x349000.take ((wrap64 (x3 + 8)) : Int).toNat).drop (x3 : Int).toNat)).bind fun bt350 => (if bt350.1 = true then (impl_ImageFault.l0 k (wrap64 (x3 + 8)) x349000 x349001 x349002 x349003 x349004 x349005) else (some 2))) else (none)) else (none)) else (none)) else (if (x349001.length : Int) > 1048576 then (some 3) else (if x349002 < 0 then (impl_ImageFault.j2 k true x349000 x349001 x349002 x349003 x349004 x349005) else (impl_ImageFault.j2 k (decide (x349002 ≥ (wrap64 ((x349000.length : Int) / 8)))) x349000 x349001 x349002 x349003 x349004 x349005)))
def impl_ImageFault.j2 : Nat → Bool → List Int → List Int → Int → List Int → Int → List (S109) → Option (Int)
 | 0, _, _, _, _, _, _, _ => none
 | k + 1, x54, x349000, x349001, x349002, x349003, x349004, x349005 => if x54 = true then (some 4) else (if (x349003.length : Int) > 6 then (impl_ImageFault.j3 k true x349000 x349001 x349002 x349003 x349004 x349005) else (if x349004 = 0 then (impl_ImageFault.j3 k false x349000 x349001 x349002 x349003 x349004 x349005) else ((impl_ValidType.f x349004).bind fun t356 => (impl_ImageFault.j3 k (!t356) x349000 x349001 x349002 x349003 x349004 x349005))))
def impl_ImageFault.j3 : Nat → Bool → List Int → List Int → Int → List Int → Int → List (S109) → Option (Int)
 | 0, _, _, _, _, _, _, _ => none
 | k + 1, x69, x349000, x349001, x349002, x349003, x349004, x349005 => if x69 = true then (some 5) else (impl_ImageFault.l1 k x349003 (x349003.length : Int) 0)
def impl_ImageFault.l1 : Nat → List Int → Int → Int → Option (Int)
 | 0, _, _, _ => none
 | k + 1, x71, x72, x73 => if x73 < x72 then (if 0 ≤ x73 then (if x73 < (x71.length : Int) then ((impl_ValidWidth.f (rd x71 x73)).bind fun t358 => (if t358 = true then (impl_ImageFault.l1 k x71 x72 (wrap64 (x73 + 1))) else (some 5))) else (none)) else (none)) else (some 0)
end
def impl_ImageFault.f (k : Nat) (l0_0 : List Int) (l0_1 : List Int) (a0_2 : Int) (l0_3 : List Int) (a0_4 : Int) (l0_5 : List (S109)) : Option (Int) := if (l0_0.length : Int) = 0 then (impl_ImageFault.j0 k true l0_0 l0_1 a0_2 l0_3 a0_4 l0_5) else (if ((l0_0.length : Int) % 8) = 0 then (impl_ImageFault.j0 k (decide ((l0_0.length : Int) > 4194304)) l0_0 l0_1 a0_2 l0_3 a0_4 l0_5) else (impl_ImageFault.j0 k true l0_0 l0_1 a0_2 l0_3 a0_4 l0_5))
set_option maxHeartbeats 8000000 in
set_option maxRecDepth 100000 in
theorem impl_ImageFault.calls (k : Nat) (A0_0 : Option Addr) (c0_0 : Nat) (l0_0 : List Int) (A0_1 : Option Addr) (c0_1 : Nat) (l0_1 : List Int) (a0_2 : Int) (A0_3 : Option Addr) (c0_3 : Nat) (l0_3 : List Int) (a0_4 : Int) (A0_5 : Option Addr) (c0_5 : Nat) (l0_5 : List (S109)) (r : Int) (w : World) (hr0_0 : Kd.C (Kd.int .u8) w A0_0 l0_0.length l0_0) (hc0_0 : l0_0.length ≤ c0_0) (hr0_1 : Kd.C (Kd.int .u8) w A0_1 l0_1.length l0_1) (hc0_1 : l0_1.length ≤ c0_1) (hr0_3 : Kd.C (Kd.int .i64) w A0_3 l0_3.length l0_3) (hc0_3 : l0_3.length ≤ c0_3) (hr0_5 : Kd.C k109 w A0_5 l0_5.length l0_5) (hc0_5 : l0_5.length ≤ c0_5) (h : impl_ImageFault.f k l0_0 l0_1 a0_2 l0_3 a0_4 l0_5 = some r) :
 Calls Tryd.prog 64 #[.agg #[.slice A0_0 l0_0.length c0_0, .slice A0_1 l0_1.length c0_1, .int .i64 a0_2, .slice A0_3 l0_3.length c0_3, .int .i64 a0_4, .slice A0_5 l0_5.length c0_5]] w fun e w' => e = .returned (.int .i64 r) ∧ Below w.heap.size w w' := by
 have hfd118_0 : ∀ (x1 : Bool) (x2 : Int) (x3 : Int) (x4 : Int) (x5 : Int) (x6 : Int) (W_ : World), (Instr.field 118 (.agg #[.bool x1, .int .i64 x2, .int .i64 x3, .int .i64 x4, .int .i64 x5, .int .i64 x6]) 0).run Tryd.prog W_ = .ok (.bool x1) W_ := fun _ _ _ _ _ _ _ => by kernel_rfl
 have hu60 := Tryd.underlying60
 have HR0_0 := Aside0.mk hr0_0
 have HC0_0 := Aside0.mk hc0_0
 clear hr0_0 hc0_0
 have HR0_1 := Aside0.mk hr0_1
 have HC0_1 := Aside0.mk hc0_1
 clear hr0_1 hc0_1
 have HR0_3 := Aside0.mk hr0_3
 have HC0_3 := Aside0.mk hc0_3
 clear hr0_3 hc0_3
 have HR0_5 := Aside0.mk hr0_5
 have HC0_5 := Aside0.mk hc0_5
 clear hr0_5 hc0_5
 have HB := Aside0.mk (Below.refl w.heap.size w)
 have H : (if (l0_0.length : Int) = 0 then (impl_ImageFault.j0 k true l0_0 l0_1 a0_2 l0_3 a0_4 l0_5) else (if ((l0_0.length : Int) % 8) = 0 then (impl_ImageFault.j0 k (decide ((l0_0.length : Int) > 4194304)) l0_0 l0_1 a0_2 l0_3 a0_4 l0_5) else (impl_ImageFault.j0 k true l0_0 l0_1 a0_2 l0_3 a0_4 l0_5))) = some r := h
 clear h
 have HC2 := Aside0.mk H
 clear H
 go_enter Tryd.func64, Tryd.ntmps64
 go_upto_region 1 with (first | ((with_reducible refine gate_dst (N := 1) rfl ?_); (try (refine gate_guard (by rfl) ?_; dsimp only)); refine box_event ?hg (N := 1) ?hd (cs := #[.slice A0_0 l0_0.length c0_0, .slice A0_1 l0_1.length c0_1, .int .i64 a0_2, .slice A0_3 l0_3.length c0_3, .int .i64 a0_4, .slice A0_5 l0_5.length c0_5]) (t := 60) ?hr ?_; (case hd => rfl); (case hg => rfl); (case hr => first | (go_simp; done) | (go_simp; rfl)); intro gb348 hg w3 hbox hb; have n0_ := Aside0.mk (below_step (by repeat (first | (with_reducible first | exact HB.out | apply below_alloc | apply pw_below_drewN | apply below_drew1) | exact HB.out)) hb); have n1_ := Aside0.mk (hbox); have n2_ := Aside0.mk ((by rw [hg]; exact (below_size (by repeat (first | (with_reducible first | exact HB.out | apply below_alloc | apply pw_below_drewN | apply below_drew1) | exact HB.out))) : w.heap.size ≤ gb348)); have n3_ := Aside0.mk ((by rw [hg]; exact (below_size (by repeat (first | (with_reducible first | exact HB.out | apply below_alloc | apply pw_below_drewN | apply below_drew1) | exact HB.out))) : w.heap.size ≤ gb348)); clear HB; have HB := n0_; have BK348 := n1_; have GW348 := n2_; have GE348 := n3_; clear n0_ n1_ n2_ n3_; clear hb hbox hg))
 (try simp only [Act.put, List.setIfInBounds_toArray, List.set_cons_zero, List.set_cons_succ])
 go_cut [22] (fun v22 wc => ∃ (kq : Nat) (x22_1 : Bool), v22 = .bool x22_1 ∧ Aside0 (impl_ImageFault.j0 kq x22_1 l0_0 l0_1 a0_2 l0_3 a0_4 l0_5 = some r) ∧ Aside0 (kq ≤ k) ∧ Aside0 (wc.heap[gb348]? = some (.cells #[(.slice A0_0 l0_0.length c0_0), (.slice A0_1 l0_1.length c0_1), .int .i64 a0_2, (.slice A0_3 l0_3.length c0_3), .int .i64 a0_4, (.slice A0_5 l0_5.length c0_5)] 60 (0, 0))) ∧ Aside0 (Below w.heap.size w wc))
 case first =>
  have H := HC2.out
  clear HC2
  by_cases c4 : (l0_0.length : Int) = 0
  · rw [if_pos c4] at H
    have c4b0 : ((l0_0.length : Int) == 0) = true := beq_iff_eq.mpr c4
    have c4b1 : ((l0_0.length : Int) != 0) = false := bne_eq_false_iff_eq.mpr c4
    clear c4
    (first | rw [c4b0] | (simp only [i64_w, i32_w]; rw [c4b0]) | skip)
    have H' := Aside0.mk H
    clear H
    have hcz5_0 : w3.cell? ⟨gb348, 0, none⟩ = some (.slice A0_0 l0_0.length c0_0) := (blk_cell BK348.out 0).trans rfl
    have hcz5_1 : w3.cell? ⟨gb348, 1, none⟩ = some (.slice A0_1 l0_1.length c0_1) := (blk_cell BK348.out 1).trans rfl
    have hcz5_2 : w3.cell? ⟨gb348, 2, none⟩ = some (.int .i64 a0_2) := (blk_cell BK348.out 2).trans rfl
    have hcz5_3 : w3.cell? ⟨gb348, 3, none⟩ = some (.slice A0_3 l0_3.length c0_3) := (blk_cell BK348.out 3).trans rfl
    have hcz5_4 : w3.cell? ⟨gb348, 4, none⟩ = some (.int .i64 a0_4) := (blk_cell BK348.out 4).trans rfl
    have hcz5_5 : w3.cell? ⟨gb348, 5, none⟩ = some (.slice A0_5 l0_5.length c0_5) := (blk_cell BK348.out 5).trans rfl
    have hfz5_0 := blk_frozen BK348.out 0
    have hfz5_1 := blk_frozen BK348.out 1
    have hfz5_2 := blk_frozen BK348.out 2
    have hfz5_3 := blk_frozen BK348.out 3
    have hfz5_4 := blk_frozen BK348.out 4
    have hfz5_5 := blk_frozen BK348.out 5
    go_wp2
    go_meet
    case rel => exact ⟨_, (true), (by first | rfl | (simp; done) | (simp [*]; done)), H', ⟨by first | omega | exact Nat.le_refl _⟩, ⟨by (with_reducible repeat (first | refine blk_drewN ?_ _ | refine blk_drew ?_ | refine blk_alloc ?_ _)); exact BK348.out⟩, ⟨by repeat (first | (with_reducible first | exact HB.out | apply below_alloc | apply pw_below_drewN | apply below_drew1 | refine below_set ?_ GE348.out) | exact HB.out)⟩⟩
  · rw [if_neg c4] at H
    have c4b0 : ((l0_0.length : Int) == 0) = false := beq_eq_false_iff_ne.mpr c4
    have c4b1 : ((l0_0.length : Int) != 0) = true := bne_iff_ne.mpr c4
    have c4b2 : ¬ (l0_0 = []) := fun h_ => c4 (by rw [h_]; rfl)
    (first | rw [c4b0] | (simp only [i64_w, i32_w]; rw [c4b0]) | skip)
    by_cases c6 : ((l0_0.length : Int) % 8) = 0
    · rw [if_pos c6] at H
      have c6b0 : (((l0_0.length : Int) % 8) == 0) = true := beq_iff_eq.mpr c6
      have c6b1 : (((l0_0.length : Int) % 8) != 0) = false := bne_eq_false_iff_eq.mpr c6
      clear c6
      have H' := Aside0.mk H
      clear H
      have hcz7_0 : w3.cell? ⟨gb348, 0, none⟩ = some (.slice A0_0 l0_0.length c0_0) := (blk_cell BK348.out 0).trans rfl
      have hcz7_1 : w3.cell? ⟨gb348, 1, none⟩ = some (.slice A0_1 l0_1.length c0_1) := (blk_cell BK348.out 1).trans rfl
      have hcz7_2 : w3.cell? ⟨gb348, 2, none⟩ = some (.int .i64 a0_2) := (blk_cell BK348.out 2).trans rfl
      have hcz7_3 : w3.cell? ⟨gb348, 3, none⟩ = some (.slice A0_3 l0_3.length c0_3) := (blk_cell BK348.out 3).trans rfl
      have hcz7_4 : w3.cell? ⟨gb348, 4, none⟩ = some (.int .i64 a0_4) := (blk_cell BK348.out 4).trans rfl
      have hcz7_5 : w3.cell? ⟨gb348, 5, none⟩ = some (.slice A0_5 l0_5.length c0_5) := (blk_cell BK348.out 5).trans rfl
      have hfz7_0 := blk_frozen BK348.out 0
      have hfz7_1 := blk_frozen BK348.out 1
      have hfz7_2 := blk_frozen BK348.out 2
      have hfz7_3 := blk_frozen BK348.out 3
      have hfz7_4 := blk_frozen BK348.out 4
      have hfz7_5 := blk_frozen BK348.out 5
      go_wp2
      go_meet
      case rel => exact ⟨_, (decide ((l0_0.length : Int) > 4194304)), (by first | rfl | (simp; done) | (simp [*]; done)), H', ⟨by first | omega | exact Nat.le_refl _⟩, ⟨by (with_reducible repeat (first | refine blk_drewN ?_ _ | refine blk_drew ?_ | refine blk_alloc ?_ _)); exact BK348.out⟩, ⟨by repeat (first | (with_reducible first | exact HB.out | apply below_alloc | apply pw_below_drewN | apply below_drew1 | refine below_set ?_ GE348.out) | exact HB.out)⟩⟩
    · rw [if_neg c6] at H
      have c6b0 : (((l0_0.length : Int) % 8) == 0) = false := beq_eq_false_iff_ne.mpr c6
      have c6b1 : (((l0_0.length : Int) % 8) != 0) = true := bne_iff_ne.mpr c6
      have H' := Aside0.mk H
      clear H
      have hcz8_0 : w3.cell? ⟨gb348, 0, none⟩ = some (.slice A0_0 l0_0.length c0_0) := (blk_cell BK348.out 0).trans rfl
      have hcz8_1 : w3.cell? ⟨gb348, 1, none⟩ = some (.slice A0_1 l0_1.length c0_1) := (blk_cell BK348.out 1).trans rfl
      have hcz8_2 : w3.cell? ⟨gb348, 2, none⟩ = some (.int .i64 a0_2) := (blk_cell BK348.out 2).trans rfl
      have hcz8_3 : w3.cell? ⟨gb348, 3, none⟩ = some (.slice A0_3 l0_3.length c0_3) := (blk_cell BK348.out 3).trans rfl
      have hcz8_4 : w3.cell? ⟨gb348, 4, none⟩ = some (.int .i64 a0_4) := (blk_cell BK348.out 4).trans rfl
      have hcz8_5 : w3.cell? ⟨gb348, 5, none⟩ = some (.slice A0_5 l0_5.length c0_5) := (blk_cell BK348.out 5).trans rfl
      have hfz8_0 := blk_frozen BK348.out 0
      have hfz8_1 := blk_frozen BK348.out 1
      have hfz8_2 := blk_frozen BK348.out 2
      have hfz8_3 := blk_frozen BK348.out 3
      have hfz8_4 := blk_frozen BK348.out 4
      have hfz8_5 := blk_frozen BK348.out 5
      go_wp2
      go_meet
      case rel => exact ⟨_, (true), (by first | rfl | (simp; done) | (simp [*]; done)), H', ⟨by first | omega | exact Nat.le_refl _⟩, ⟨by (with_reducible repeat (first | refine blk_drewN ?_ _ | refine blk_drew ?_ | refine blk_alloc ?_ _)); exact BK348.out⟩, ⟨by repeat (first | (with_reducible first | exact HB.out | apply below_alloc | apply pw_below_drewN | apply below_drew1 | refine below_set ?_ GE348.out) | exact HB.out)⟩⟩
 case rest =>
  clear HC2
  try clear p2
  try clear c4
  try clear c4b0
  try clear c4b1
  try clear c4b2
  try clear c6
  try clear c6b0
  try clear c6b1
  try clear hcz5_0
  try clear hcz5_1
  try clear hcz5_2
  try clear hcz5_3
  try clear hcz5_4
  try clear hcz5_5
  try clear hcz7_0
  try clear hcz7_1
  try clear hcz7_2
  try clear hcz7_3
  try clear hcz7_4
  try clear hcz7_5
  try clear hcz8_0
  try clear hcz8_1
  try clear hcz8_2
  try clear hcz8_3
  try clear hcz8_4
  try clear hcz8_5
  try clear hfz5_0
  try clear hfz5_1
  try clear hfz5_2
  try clear hfz5_3
  try clear hfz5_4
  try clear hfz5_5
  try clear hfz7_0
  try clear hfz7_1
  try clear hfz7_2
  try clear hfz7_3
  try clear hfz7_4
  try clear hfz7_5
  try clear hfz8_0
  try clear hfz8_1
  try clear hfz8_2
  try clear hfz8_3
  try clear hfz8_4
  try clear hfz8_5
  obtain ⟨kq, x22_1, rfl, HA, HJ1, BK348, HB⟩ := hcut
  cases kq with
  | zero => exact absurd HA.out (by simp [impl_ImageFault.j0])
  | succ kj1 =>
   have H := HA.out
   clear HA
   simp only [impl_ImageFault.j0] at H
   by_cases c9 : x22_1 = true
   · subst c9
     have H1 : (some 1) = some r := by rw [if_pos rfl] at H; exact H
     clear H
     have H := H1
     clear H1
     obtain rfl := Option.some.inj H
     go_wp2
     go_ret
     exact ⟨by first | rfl | (simp [errW_none, errW_some] <;> rfl) | (simp [*, errW_none, errW_some] <;> rfl), by repeat (first | (with_reducible first | exact HB.out | apply below_alloc | apply pw_below_drewN | apply below_drew1 | refine below_set ?_ GE348.out) | exact HB.out)⟩
   · replace c9 := Bool.eq_false_iff.mpr c9
     subst c9
     have H1 : (impl_ImageFault.l0 kj1 0 l0_0 l0_1 a0_2 l0_3 a0_4 l0_5) = some r := by rw [if_neg (show ¬ (false = true) by decide)] at H; exact H
     clear H
     have H := H1
     clear H1
     have H' := Aside0.mk H
     clear H
     go_wp2
     go_loopg [3] kj1 (fun kq v3 w' => ∃ (x3_2 : Int), v3 = .int .i64 x3_2 ∧ Aside0 (impl_ImageFault.l0 kq x3_2 l0_0 l0_1 a0_2 l0_3 a0_4 l0_5 = some r) ∧ Aside0 (kq ≤ kj1) ∧ Aside0 (w'.heap[gb348]? = some (.cells #[(.slice A0_0 l0_0.length c0_0), (.slice A0_1 l0_1.length c0_1), .int .i64 a0_2, (.slice A0_3 l0_3.length c0_3), .int .i64 a0_4, (.slice A0_5 l0_5.length c0_5)] 60 (0, 0))) ∧ Aside0 (Below w.heap.size w w'))
     case atStart => exact ⟨(0), (by first | rfl | (simp; done) | (simp [*]; done)), H', ⟨Nat.le_refl _⟩, ⟨by (with_reducible repeat (first | refine blk_drewN ?_ _ | refine blk_drew ?_ | refine blk_alloc ?_ _)); exact BK348.out⟩, ⟨by repeat (first | (with_reducible first | exact HB.out | apply below_alloc | apply pw_below_drewN | apply below_drew1 | refine below_set ?_ GE348.out) | exact HB.out)⟩⟩
     case round =>
      clear H'
      try clear p2
      try clear c4
      try clear c4b0
      try clear c4b1
      try clear c4b2
      try clear c6
      try clear c6b0
      try clear c6b1
      try clear c9
      try clear hcz5_0
      try clear hcz5_1
      try clear hcz5_2
      try clear hcz5_3
      try clear hcz5_4
      try clear hcz5_5
      try clear hcz7_0
      try clear hcz7_1
      try clear hcz7_2
      try clear hcz7_3
      try clear hcz7_4
      try clear hcz7_5
      try clear hcz8_0
      try clear hcz8_1
      try clear hcz8_2
      try clear hcz8_3
      try clear hcz8_4
      try clear hcz8_5
      try clear hfz5_0
      try clear hfz5_1
      try clear hfz5_2
      try clear hfz5_3
      try clear hfz5_4
      try clear hfz5_5
      try clear hfz7_0
      try clear hfz7_1
      try clear hfz7_2
      try clear hfz7_3
      try clear hfz7_4
      try clear hfz7_5
      try clear hfz8_0
      try clear hfz8_1
      try clear hfz8_2
      try clear hfz8_3
      try clear hfz8_4
      try clear hfz8_5
      try clear p2
      obtain ⟨x3_2, rfl, HA, HK2, BK348, HB⟩ := hrel
      cases gk with
      | zero => exact absurd HA.out (by simp [impl_ImageFault.l0])
      | succ k2 =>
       have H := HA.out
       clear HA
       simp only [impl_ImageFault.l0] at H
       by_cases c10 : x3_2 < (l0_0.length : Int)
       · rw [if_pos c10] at H
         have c10b0 : decide (x3_2 < (l0_0.length : Int)) = true := decide_eq_true c10
         clear c10
         by_cases c11 : 0 ≤ x3_2
         · rw [if_pos c11] at H
           have c11b0 := eq_true c11
           have c11b1 : decide (0 ≤ x3_2) = true := decide_eq_true c11
           clear c11
           by_cases c12 : x3_2 ≤ (wrap64 (x3_2 + 8))
           · rw [if_pos c12] at H
             have c12b0 := eq_true c12
             have c12b1 : decide (x3_2 ≤ (wrap64 (x3_2 + 8))) = true := decide_eq_true c12
             by_cases c13 : (wrap64 (x3_2 + 8)) ≤ (l0_0.length : Int)
             · rw [if_pos c13] at H
               have c13b0 := eq_true c13
               have c13b1 : decide ((wrap64 (x3_2 + 8)) ≤ (l0_0.length : Int)) = true := decide_eq_true c13
               replace H := Option.bind_eq_some_iff.mp H
               obtain ⟨⟨t350, t351, t352, t353, t354, t355⟩, A140, H⟩ := H
               replace H : (if t350 = true then (impl_ImageFault.l0 k2 (wrap64 (x3_2 + 8)) l0_0 l0_1 a0_2 l0_3 a0_4 l0_5) else (some 2)) = some r := H
               have A14 := Aside0.mk A140
               clear A140
               by_cases c15 : t350 = true
               · subst c15
                 have H1 : (impl_ImageFault.l0 k2 (wrap64 (x3_2 + 8)) l0_0 l0_1 a0_2 l0_3 a0_4 l0_5) = some r := by rw [if_pos rfl] at H; exact H
                 clear H
                 have H := H1
                 clear H1
                 have H' := Aside0.mk H
                 clear H
                 have hcz16_0 : wr.cell? ⟨gb348, 0, none⟩ = some (.slice A0_0 l0_0.length c0_0) := (blk_cell BK348.out 0).trans rfl
                 have hcz16_1 : wr.cell? ⟨gb348, 1, none⟩ = some (.slice A0_1 l0_1.length c0_1) := (blk_cell BK348.out 1).trans rfl
                 have hcz16_2 : wr.cell? ⟨gb348, 2, none⟩ = some (.int .i64 a0_2) := (blk_cell BK348.out 2).trans rfl
                 have hcz16_3 : wr.cell? ⟨gb348, 3, none⟩ = some (.slice A0_3 l0_3.length c0_3) := (blk_cell BK348.out 3).trans rfl
                 have hcz16_4 : wr.cell? ⟨gb348, 4, none⟩ = some (.int .i64 a0_4) := (blk_cell BK348.out 4).trans rfl
                 have hcz16_5 : wr.cell? ⟨gb348, 5, none⟩ = some (.slice A0_5 l0_5.length c0_5) := (blk_cell BK348.out 5).trans rfl
                 have hfz16_0 := blk_frozen BK348.out 0
                 have hfz16_1 := blk_frozen BK348.out 1
                 have hfz16_2 := blk_frozen BK348.out 2
                 have hfz16_3 := blk_frozen BK348.out 3
                 have hfz16_4 := blk_frozen BK348.out 4
                 have hfz16_5 := blk_frozen BK348.out 5
                 obtain ⟨i017, hi017, _, hsz17, _⟩ := info_parts info5
                 obtain ⟨A17, hcut17, hA17, hC17⟩ := print_mid_of (P := Tryd.prog) (Value.int .u8) 0 41 5 .i64 .i64 Tryd.underlying41 hi017 hsz17 A0_0 c0_0 l0_0 x3_2 (wrap64 (x3_2 + 8)) (of_decide_eq_true (by first | (with_reducible assumption) | assumption)) (by first | omega | exact of_decide_eq_true (by first | (with_reducible assumption) | assumption)) (of_decide_eq_true (by first | (with_reducible assumption) | assumption)) HC0_0.out
                 have HR349 := Aside0.mk (Kd.C_of_reads (h1 := fun _ => rfl) (hA17 _ (Kd.reads_of_C HR0_0.out)))
                 have HC349 := Aside0.mk hC17
                 clear hA17 hC17 hi017 hsz17
                 go_wp2_with (first | ((with_reducible refine gate_callee (f := 65) rfl ?_); refine goesL_ (some 36) rfl rfl Tryd.func65 (by kernel_rfl) rfl #[.slice A17 ((l0_0.take ((wrap64 (x3_2 + 8)) : Int).toNat).drop (x3_2 : Int).toNat).length (c0_0 - x3_2.toNat)] rfl (by (try simp only [List.map_toArray, List.map_cons, List.map_nil]); first | done | (rw [show ((l0_0.take ((wrap64 (x3_2 + 8)) : Int).toNat).drop (x3_2 : Int).toNat).length = ((wrap64 (x3_2 + 8)).toNat - x3_2.toNat) from (by rw [List.length_drop, List.length_take]; have h_ : ((wrap64 (x3_2 + 8)) : Int) ≤ (l0_0.length : Int) := of_decide_eq_true (by first | (with_reducible assumption) | assumption); omega)] <;> rfl) | rfl | (simp only [List.length_drop, List.length_take]; rfl)) ?_; (with_reducible refine (impl_DecodeIns.calls k2 _ _ ((l0_0.take ((wrap64 (x3_2 + 8)) : Int).toNat).drop (x3_2 : Int).toNat) true t351 t352 t353 t354 t355 _ ?side1 ?side2 A14.out).mono ?_); (case side1 => repeat (first | exact (Kd.C_below HR349.out HB.out) | (with_reducible refine Kd.C_alloc ?_ _) | (with_reducible refine Kd.C_drewN ?_ _) | (with_reducible refine Kd.C_drew ?_))); (case side2 => exact HC349.out); rintro e w18 ⟨rfl, hb⟩; refine ⟨_, rfl, ?_⟩; have n0_ := Aside0.mk (blk_below (g := gb348) (o := .cells #[.slice A0_0 l0_0.length c0_0, .slice A0_1 l0_1.length c0_1, .int .i64 a0_2, .slice A0_3 l0_3.length c0_3, .int .i64 a0_4, .slice A0_5 l0_5.length c0_5] 60 (0, 0)) (by (with_reducible repeat (first | refine blk_drewN ?_ _ | refine blk_drew ?_ | refine blk_alloc ?_ _)); exact BK348.out) hb); have n1_ := Aside0.mk (below_step (by repeat (first | (with_reducible first | exact HB.out | apply below_alloc | apply pw_below_drewN | apply below_drew1 | refine below_set ?_ GE348.out) | exact HB.out)) hb); clear BK348; clear HB; have BK348 := n0_; have HB := n1_; clear n0_ n1_; (try clear hb); (try clear hb2); (try clear hk); (try clear hi)))
                 go_roundg k2
                 case measure => have := HJ1.out; have := HK2.out; omega
                 case rel => exact ⟨(wrap64 (x3_2 + 8)), (by first | rfl | (simp; done) | (simp [*]; done)), H', ⟨by have := HJ1.out; have := HK2.out; omega⟩, ⟨by (with_reducible repeat (first | refine blk_drewN ?_ _ | refine blk_drew ?_ | refine blk_alloc ?_ _)); exact BK348.out⟩, ⟨by repeat (first | (with_reducible first | exact HB.out | apply below_alloc | apply pw_below_drewN | apply below_drew1 | refine below_set ?_ GE348.out) | exact HB.out)⟩⟩
               · replace c15 := Bool.eq_false_iff.mpr c15
                 subst c15
                 have H1 : (some 2) = some r := by rw [if_neg (show ¬ (false = true) by decide)] at H; exact H
                 clear H
                 have H := H1
                 clear H1
                 obtain rfl := Option.some.inj H
                 have hcz19_0 : wr.cell? ⟨gb348, 0, none⟩ = some (.slice A0_0 l0_0.length c0_0) := (blk_cell BK348.out 0).trans rfl
                 have hcz19_1 : wr.cell? ⟨gb348, 1, none⟩ = some (.slice A0_1 l0_1.length c0_1) := (blk_cell BK348.out 1).trans rfl
                 have hcz19_2 : wr.cell? ⟨gb348, 2, none⟩ = some (.int .i64 a0_2) := (blk_cell BK348.out 2).trans rfl
                 have hcz19_3 : wr.cell? ⟨gb348, 3, none⟩ = some (.slice A0_3 l0_3.length c0_3) := (blk_cell BK348.out 3).trans rfl
                 have hcz19_4 : wr.cell? ⟨gb348, 4, none⟩ = some (.int .i64 a0_4) := (blk_cell BK348.out 4).trans rfl
                 have hcz19_5 : wr.cell? ⟨gb348, 5, none⟩ = some (.slice A0_5 l0_5.length c0_5) := (blk_cell BK348.out 5).trans rfl
                 have hfz19_0 := blk_frozen BK348.out 0
                 have hfz19_1 := blk_frozen BK348.out 1
                 have hfz19_2 := blk_frozen BK348.out 2
                 have hfz19_3 := blk_frozen BK348.out 3
                 have hfz19_4 := blk_frozen BK348.out 4
                 have hfz19_5 := blk_frozen BK348.out 5
                 obtain ⟨i020, hi020, _, hsz20, _⟩ := info_parts info5
                 obtain ⟨A20, hcut20, hA20, hC20⟩ := print_mid_of (P := Tryd.prog) (Value.int .u8) 0 41 5 .i64 .i64 Tryd.underlying41 hi020 hsz20 A0_0 c0_0 l0_0 x3_2 (wrap64 (x3_2 + 8)) (of_decide_eq_true (by first | (with_reducible assumption) | assumption)) (by first | omega | exact of_decide_eq_true (by first | (with_reducible assumption) | assumption)) (of_decide_eq_true (by first | (with_reducible assumption) | assumption)) HC0_0.out
                 have HR349 := Aside0.mk (Kd.C_of_reads (h1 := fun _ => rfl) (hA20 _ (Kd.reads_of_C HR0_0.out)))
                 have HC349 := Aside0.mk hC20
                 clear hA20 hC20 hi020 hsz20
                 go_wp2_with (first | ((with_reducible refine gate_callee (f := 65) rfl ?_); refine goesL_ (some 36) rfl rfl Tryd.func65 (by kernel_rfl) rfl #[.slice A20 ((l0_0.take ((wrap64 (x3_2 + 8)) : Int).toNat).drop (x3_2 : Int).toNat).length (c0_0 - x3_2.toNat)] rfl (by (try simp only [List.map_toArray, List.map_cons, List.map_nil]); first | done | (rw [show ((l0_0.take ((wrap64 (x3_2 + 8)) : Int).toNat).drop (x3_2 : Int).toNat).length = ((wrap64 (x3_2 + 8)).toNat - x3_2.toNat) from (by rw [List.length_drop, List.length_take]; have h_ : ((wrap64 (x3_2 + 8)) : Int) ≤ (l0_0.length : Int) := of_decide_eq_true (by first | (with_reducible assumption) | assumption); omega)] <;> rfl) | rfl | (simp only [List.length_drop, List.length_take]; rfl)) ?_; (with_reducible refine (impl_DecodeIns.calls k2 _ _ ((l0_0.take ((wrap64 (x3_2 + 8)) : Int).toNat).drop (x3_2 : Int).toNat) false t351 t352 t353 t354 t355 _ ?side1 ?side2 A14.out).mono ?_); (case side1 => repeat (first | exact (Kd.C_below HR349.out HB.out) | (with_reducible refine Kd.C_alloc ?_ _) | (with_reducible refine Kd.C_drewN ?_ _) | (with_reducible refine Kd.C_drew ?_))); (case side2 => exact HC349.out); rintro e w21 ⟨rfl, hb⟩; refine ⟨_, rfl, ?_⟩; have n0_ := Aside0.mk (blk_below (g := gb348) (o := .cells #[.slice A0_0 l0_0.length c0_0, .slice A0_1 l0_1.length c0_1, .int .i64 a0_2, .slice A0_3 l0_3.length c0_3, .int .i64 a0_4, .slice A0_5 l0_5.length c0_5] 60 (0, 0)) (by (with_reducible repeat (first | refine blk_drewN ?_ _ | refine blk_drew ?_ | refine blk_alloc ?_ _)); exact BK348.out) hb); have n1_ := Aside0.mk (below_step (by repeat (first | (with_reducible first | exact HB.out | apply below_alloc | apply pw_below_drewN | apply below_drew1 | refine below_set ?_ GE348.out) | exact HB.out)) hb); clear BK348; clear HB; have BK348 := n0_; have HB := n1_; clear n0_ n1_; (try clear hb); (try clear hb2); (try clear hk); (try clear hi)))
                 go_ret
                 exact ⟨by first | rfl | (simp [errW_none, errW_some] <;> rfl) | (simp [*, errW_none, errW_some] <;> rfl), by repeat (first | (with_reducible first | exact HB.out | apply below_alloc | apply pw_below_drewN | apply below_drew1 | refine below_set ?_ GE348.out) | exact HB.out)⟩
             · rw [if_neg c13] at H
               exact absurd H (by simp)
           · rw [if_neg c12] at H
             exact absurd H (by simp)
         · rw [if_neg c11] at H
           exact absurd H (by simp)
       · rw [if_neg c10] at H
         have c10b0 : decide (x3_2 < (l0_0.length : Int)) = false := decide_eq_false c10
         clear c10
         by_cases c22 : (l0_1.length : Int) > 1048576
         · rw [if_pos c22] at H
           have c22b0 : decide (1048576 < (l0_1.length : Int)) = true := decide_eq_true c22
           have c22b1 : decide (1048576 < l0_1.length) = true := decide_eq_true (by omega)
           clear c22
           obtain rfl := Option.some.inj H
           have hcz23_0 : wr.cell? ⟨gb348, 0, none⟩ = some (.slice A0_0 l0_0.length c0_0) := (blk_cell BK348.out 0).trans rfl
           have hcz23_1 : wr.cell? ⟨gb348, 1, none⟩ = some (.slice A0_1 l0_1.length c0_1) := (blk_cell BK348.out 1).trans rfl
           have hcz23_2 : wr.cell? ⟨gb348, 2, none⟩ = some (.int .i64 a0_2) := (blk_cell BK348.out 2).trans rfl
           have hcz23_3 : wr.cell? ⟨gb348, 3, none⟩ = some (.slice A0_3 l0_3.length c0_3) := (blk_cell BK348.out 3).trans rfl
           have hcz23_4 : wr.cell? ⟨gb348, 4, none⟩ = some (.int .i64 a0_4) := (blk_cell BK348.out 4).trans rfl
           have hcz23_5 : wr.cell? ⟨gb348, 5, none⟩ = some (.slice A0_5 l0_5.length c0_5) := (blk_cell BK348.out 5).trans rfl
           have hfz23_0 := blk_frozen BK348.out 0
           have hfz23_1 := blk_frozen BK348.out 1
           have hfz23_2 := blk_frozen BK348.out 2
           have hfz23_3 := blk_frozen BK348.out 3
           have hfz23_4 := blk_frozen BK348.out 4
           have hfz23_5 := blk_frozen BK348.out 5
           go_wp2
           go_ret
           exact ⟨by first | rfl | (simp [errW_none, errW_some] <;> rfl) | (simp [*, errW_none, errW_some] <;> rfl), by repeat (first | (with_reducible first | exact HB.out | apply below_alloc | apply pw_below_drewN | apply below_drew1 | refine below_set ?_ GE348.out) | exact HB.out)⟩
         · rw [if_neg c22] at H
           have c22b0 : decide (1048576 < (l0_1.length : Int)) = false := decide_eq_false c22
           have c22b1 : decide (1048576 < l0_1.length) = false := decide_eq_false (by omega)
           clear c22
           have HC24 := Aside0.mk H
           clear H
           have hcz25_0 : wr.cell? ⟨gb348, 0, none⟩ = some (.slice A0_0 l0_0.length c0_0) := (blk_cell BK348.out 0).trans rfl
           have hcz25_1 : wr.cell? ⟨gb348, 1, none⟩ = some (.slice A0_1 l0_1.length c0_1) := (blk_cell BK348.out 1).trans rfl
           have hcz25_2 : wr.cell? ⟨gb348, 2, none⟩ = some (.int .i64 a0_2) := (blk_cell BK348.out 2).trans rfl
           have hcz25_3 : wr.cell? ⟨gb348, 3, none⟩ = some (.slice A0_3 l0_3.length c0_3) := (blk_cell BK348.out 3).trans rfl
           have hcz25_4 : wr.cell? ⟨gb348, 4, none⟩ = some (.int .i64 a0_4) := (blk_cell BK348.out 4).trans rfl
           have hcz25_5 : wr.cell? ⟨gb348, 5, none⟩ = some (.slice A0_5 l0_5.length c0_5) := (blk_cell BK348.out 5).trans rfl
           have hfz25_0 := blk_frozen BK348.out 0
           have hfz25_1 := blk_frozen BK348.out 1
           have hfz25_2 := blk_frozen BK348.out 2
           have hfz25_3 := blk_frozen BK348.out 3
           have hfz25_4 := blk_frozen BK348.out 4
           have hfz25_5 := blk_frozen BK348.out 5
           go_upto_region 10 with (fail)
           go_cut [54] (fun v54 wc => ∃ (kq : Nat) (x54_23 : Bool), v54 = .bool x54_23 ∧ Aside0 (impl_ImageFault.j2 kq x54_23 l0_0 l0_1 a0_2 l0_3 a0_4 l0_5 = some r) ∧ Aside0 (kq ≤ k2) ∧ Aside0 (wc.heap[gb348]? = some (.cells #[(.slice A0_0 l0_0.length c0_0), (.slice A0_1 l0_1.length c0_1), .int .i64 a0_2, (.slice A0_3 l0_3.length c0_3), .int .i64 a0_4, (.slice A0_5 l0_5.length c0_5)] 60 (0, 0))) ∧ Aside0 (Below w.heap.size w wc))
           case first =>
            have H := HC24.out
            clear HC24
            by_cases c26 : a0_2 < 0
            · rw [if_pos c26] at H
              have c26b0 : decide (a0_2 < 0) = true := decide_eq_true c26
              clear c26
              (first | rw [c26b0] | (simp only [i64_w, i32_w]; rw [c26b0]) | skip)
              have H' := Aside0.mk H
              clear H
              have hcz27_0 : wr.cell? ⟨gb348, 0, none⟩ = some (.slice A0_0 l0_0.length c0_0) := (blk_cell BK348.out 0).trans rfl
              have hcz27_1 : wr.cell? ⟨gb348, 1, none⟩ = some (.slice A0_1 l0_1.length c0_1) := (blk_cell BK348.out 1).trans rfl
              have hcz27_2 : wr.cell? ⟨gb348, 2, none⟩ = some (.int .i64 a0_2) := (blk_cell BK348.out 2).trans rfl
              have hcz27_3 : wr.cell? ⟨gb348, 3, none⟩ = some (.slice A0_3 l0_3.length c0_3) := (blk_cell BK348.out 3).trans rfl
              have hcz27_4 : wr.cell? ⟨gb348, 4, none⟩ = some (.int .i64 a0_4) := (blk_cell BK348.out 4).trans rfl
              have hcz27_5 : wr.cell? ⟨gb348, 5, none⟩ = some (.slice A0_5 l0_5.length c0_5) := (blk_cell BK348.out 5).trans rfl
              have hfz27_0 := blk_frozen BK348.out 0
              have hfz27_1 := blk_frozen BK348.out 1
              have hfz27_2 := blk_frozen BK348.out 2
              have hfz27_3 := blk_frozen BK348.out 3
              have hfz27_4 := blk_frozen BK348.out 4
              have hfz27_5 := blk_frozen BK348.out 5
              go_wp2
              go_meet
              case rel => exact ⟨_, (true), (by first | rfl | (simp; done) | (simp [*]; done)), H', ⟨by have := HJ1.out; have := HK2.out; first | omega | exact Nat.le_refl _⟩, ⟨by (with_reducible repeat (first | refine blk_drewN ?_ _ | refine blk_drew ?_ | refine blk_alloc ?_ _)); exact BK348.out⟩, ⟨by repeat (first | (with_reducible first | exact HB.out | apply below_alloc | apply pw_below_drewN | apply below_drew1 | refine below_set ?_ GE348.out) | exact HB.out)⟩⟩
            · rw [if_neg c26] at H
              have c26b0 : decide (a0_2 < 0) = false := decide_eq_false c26
              clear c26
              (first | rw [c26b0] | (simp only [i64_w, i32_w]; rw [c26b0]) | skip)
              have H' := Aside0.mk H
              clear H
              have hcz28_0 : wr.cell? ⟨gb348, 0, none⟩ = some (.slice A0_0 l0_0.length c0_0) := (blk_cell BK348.out 0).trans rfl
              have hcz28_1 : wr.cell? ⟨gb348, 1, none⟩ = some (.slice A0_1 l0_1.length c0_1) := (blk_cell BK348.out 1).trans rfl
              have hcz28_2 : wr.cell? ⟨gb348, 2, none⟩ = some (.int .i64 a0_2) := (blk_cell BK348.out 2).trans rfl
              have hcz28_3 : wr.cell? ⟨gb348, 3, none⟩ = some (.slice A0_3 l0_3.length c0_3) := (blk_cell BK348.out 3).trans rfl
              have hcz28_4 : wr.cell? ⟨gb348, 4, none⟩ = some (.int .i64 a0_4) := (blk_cell BK348.out 4).trans rfl
              have hcz28_5 : wr.cell? ⟨gb348, 5, none⟩ = some (.slice A0_5 l0_5.length c0_5) := (blk_cell BK348.out 5).trans rfl
              have hfz28_0 := blk_frozen BK348.out 0
              have hfz28_1 := blk_frozen BK348.out 1
              have hfz28_2 := blk_frozen BK348.out 2
              have hfz28_3 := blk_frozen BK348.out 3
              have hfz28_4 := blk_frozen BK348.out 4
              have hfz28_5 := blk_frozen BK348.out 5
              go_wp2
              go_meet
              case rel => exact ⟨_, (decide (a0_2 ≥ (wrap64 ((l0_0.length : Int) / 8)))), (by first | rfl | (simp; done) | (simp [*]; done)), H', ⟨by have := HJ1.out; have := HK2.out; first | omega | exact Nat.le_refl _⟩, ⟨by (with_reducible repeat (first | refine blk_drewN ?_ _ | refine blk_drew ?_ | refine blk_alloc ?_ _)); exact BK348.out⟩, ⟨by repeat (first | (with_reducible first | exact HB.out | apply below_alloc | apply pw_below_drewN | apply below_drew1 | refine below_set ?_ GE348.out) | exact HB.out)⟩⟩
           case rest =>
            clear HC24
            try clear c1
            try clear c2
            try clear p2
            try clear c4
            try clear c4b0
            try clear c4b1
            try clear c4b2
            try clear c6
            try clear c6b0
            try clear c6b1
            try clear p6
            try clear c9
            try clear c10
            try clear c10b0
            try clear c11
            try clear c11b0
            try clear c11b1
            try clear c12
            try clear c12b0
            try clear c12b1
            try clear c13
            try clear c13b0
            try clear c13b1
            try clear c15
            try clear c22
            try clear c22b0
            try clear c22b1
            try clear c26
            try clear c26b0
            try clear hcz16_0
            try clear hcz16_1
            try clear hcz16_2
            try clear hcz16_3
            try clear hcz16_4
            try clear hcz16_5
            try clear hcz19_0
            try clear hcz19_1
            try clear hcz19_2
            try clear hcz19_3
            try clear hcz19_4
            try clear hcz19_5
            try clear hcz23_0
            try clear hcz23_1
            try clear hcz23_2
            try clear hcz23_3
            try clear hcz23_4
            try clear hcz23_5
            try clear hcz25_0
            try clear hcz25_1
            try clear hcz25_2
            try clear hcz25_3
            try clear hcz25_4
            try clear hcz25_5
            try clear hcz27_0
            try clear hcz27_1
            try clear hcz27_2
            try clear hcz27_3
            try clear hcz27_4
            try clear hcz27_5
            try clear hcz28_0
            try clear hcz28_1
            try clear hcz28_2
            try clear hcz28_3
            try clear hcz28_4
            try clear hcz28_5
            try clear hcz5_0
            try clear hcz5_1
            try clear hcz5_2
            try clear hcz5_3
            try clear hcz5_4
            try clear hcz5_5
            try clear hcz7_0
            try clear hcz7_1
            try clear hcz7_2
            try clear hcz7_3
            try clear hcz7_4
            try clear hcz7_5
            try clear hcz8_0
            try clear hcz8_1
            try clear hcz8_2
            try clear hcz8_3
            try clear hcz8_4
            try clear hcz8_5
            try clear hfz16_0
            try clear hfz16_1
            try clear hfz16_2
            try clear hfz16_3
            try clear hfz16_4
            try clear hfz16_5
            try clear hfz19_0
            try clear hfz19_1
            try clear hfz19_2
            try clear hfz19_3
            try clear hfz19_4
            try clear hfz19_5
            try clear hfz23_0
            try clear hfz23_1
            try clear hfz23_2
            try clear hfz23_3
            try clear hfz23_4
            try clear hfz23_5
            try clear hfz25_0
            try clear hfz25_1
            try clear hfz25_2
            try clear hfz25_3
            try clear hfz25_4
            try clear hfz25_5
            try clear hfz27_0
            try clear hfz27_1
            try clear hfz27_2
            try clear hfz27_3
            try clear hfz27_4
            try clear hfz27_5
            try clear hfz28_0
            try clear hfz28_1
            try clear hfz28_2
            try clear hfz28_3
            try clear hfz28_4
            try clear hfz28_5
            try clear hfz5_0
            try clear hfz5_1
            try clear hfz5_2
            try clear hfz5_3
            try clear hfz5_4
            try clear hfz5_5
            try clear hfz7_0
            try clear hfz7_1
            try clear hfz7_2
            try clear hfz7_3
            try clear hfz7_4
            try clear hfz7_5
            try clear hfz8_0
            try clear hfz8_1
            try clear hfz8_2
            try clear hfz8_3
            try clear hfz8_4
            try clear hfz8_5
            try clear p2
            obtain ⟨kq, x54_23, rfl, HA, HJ23, BK348, HB⟩ := hcut
            cases kq with
            | zero => exact absurd HA.out (by simp [impl_ImageFault.j2])
            | succ kj23 =>
             have H := HA.out
             clear HA
             simp only [impl_ImageFault.j2] at H
             by_cases c29 : x54_23 = true
             · subst c29
               have H1 : (some 4) = some r := by rw [if_pos rfl] at H; exact H
               clear H
               have H := H1
               clear H1
               obtain rfl := Option.some.inj H
               go_wp2
               go_ret
               exact ⟨by first | rfl | (simp [errW_none, errW_some] <;> rfl) | (simp [*, errW_none, errW_some] <;> rfl), by repeat (first | (with_reducible first | exact HB.out | apply below_alloc | apply pw_below_drewN | apply below_drew1 | refine below_set ?_ GE348.out) | exact HB.out)⟩
             · replace c29 := Bool.eq_false_iff.mpr c29
               subst c29
               have H1 : (if (l0_3.length : Int) > 6 then (impl_ImageFault.j3 kj23 true l0_0 l0_1 a0_2 l0_3 a0_4 l0_5) else (if a0_4 = 0 then (impl_ImageFault.j3 kj23 false l0_0 l0_1 a0_2 l0_3 a0_4 l0_5) else ((impl_ValidType.f a0_4).bind fun t356 => (impl_ImageFault.j3 kj23 (!t356) l0_0 l0_1 a0_2 l0_3 a0_4 l0_5)))) = some r := by rw [if_neg (show ¬ (false = true) by decide)] at H; exact H
               clear H
               have H := H1
               clear H1
               have HC30 := Aside0.mk H
               clear H
               go_upto_region 12 with (fail)
               go_cut [69] (fun v69 wc => ∃ (kq : Nat) (x69_29 : Bool), v69 = .bool x69_29 ∧ Aside0 (impl_ImageFault.j3 kq x69_29 l0_0 l0_1 a0_2 l0_3 a0_4 l0_5 = some r) ∧ Aside0 (kq ≤ kj23) ∧ Aside0 (wc.heap[gb348]? = some (.cells #[(.slice A0_0 l0_0.length c0_0), (.slice A0_1 l0_1.length c0_1), .int .i64 a0_2, (.slice A0_3 l0_3.length c0_3), .int .i64 a0_4, (.slice A0_5 l0_5.length c0_5)] 60 (0, 0))) ∧ Aside0 (Below w.heap.size w wc))
               case first =>
                have H := HC30.out
                clear HC30
                by_cases c31 : (l0_3.length : Int) > 6
                · rw [if_pos c31] at H
                  have c31b0 : decide (6 < (l0_3.length : Int)) = true := decide_eq_true c31
                  have c31b1 : decide (6 < l0_3.length) = true := decide_eq_true (by omega)
                  clear c31
                  (first | rw [c31b0] | (simp only [i64_w, i32_w]; rw [c31b0]) | skip)
                  have H' := Aside0.mk H
                  clear H
                  have hcz32_0 : wc.cell? ⟨gb348, 0, none⟩ = some (.slice A0_0 l0_0.length c0_0) := (blk_cell BK348.out 0).trans rfl
                  have hcz32_1 : wc.cell? ⟨gb348, 1, none⟩ = some (.slice A0_1 l0_1.length c0_1) := (blk_cell BK348.out 1).trans rfl
                  have hcz32_2 : wc.cell? ⟨gb348, 2, none⟩ = some (.int .i64 a0_2) := (blk_cell BK348.out 2).trans rfl
                  have hcz32_3 : wc.cell? ⟨gb348, 3, none⟩ = some (.slice A0_3 l0_3.length c0_3) := (blk_cell BK348.out 3).trans rfl
                  have hcz32_4 : wc.cell? ⟨gb348, 4, none⟩ = some (.int .i64 a0_4) := (blk_cell BK348.out 4).trans rfl
                  have hcz32_5 : wc.cell? ⟨gb348, 5, none⟩ = some (.slice A0_5 l0_5.length c0_5) := (blk_cell BK348.out 5).trans rfl
                  have hfz32_0 := blk_frozen BK348.out 0
                  have hfz32_1 := blk_frozen BK348.out 1
                  have hfz32_2 := blk_frozen BK348.out 2
                  have hfz32_3 := blk_frozen BK348.out 3
                  have hfz32_4 := blk_frozen BK348.out 4
                  have hfz32_5 := blk_frozen BK348.out 5
                  go_wp2
                  go_meet
                  case rel => exact ⟨_, (true), (by first | rfl | (simp; done) | (simp [*]; done)), H', ⟨by have := HJ1.out; have := HK2.out; have := HJ23.out; first | omega | exact Nat.le_refl _⟩, ⟨by (with_reducible repeat (first | refine blk_drewN ?_ _ | refine blk_drew ?_ | refine blk_alloc ?_ _)); exact BK348.out⟩, ⟨by repeat (first | (with_reducible first | exact HB.out | apply below_alloc | apply pw_below_drewN | apply below_drew1 | refine below_set ?_ GE348.out) | exact HB.out)⟩⟩
                · rw [if_neg c31] at H
                  have c31b0 : decide (6 < (l0_3.length : Int)) = false := decide_eq_false c31
                  have c31b1 : decide (6 < l0_3.length) = false := decide_eq_false (by omega)
                  clear c31
                  (first | rw [c31b0] | (simp only [i64_w, i32_w]; rw [c31b0]) | skip)
                  by_cases c33 : a0_4 = 0
                  · rw [if_pos c33] at H
                    have c33b0 : (a0_4 == 0) = true := beq_iff_eq.mpr c33
                    have c33b1 : (a0_4 != 0) = false := bne_eq_false_iff_eq.mpr c33
                    clear c33
                    have H' := Aside0.mk H
                    clear H
                    have hcz34_0 : wc.cell? ⟨gb348, 0, none⟩ = some (.slice A0_0 l0_0.length c0_0) := (blk_cell BK348.out 0).trans rfl
                    have hcz34_1 : wc.cell? ⟨gb348, 1, none⟩ = some (.slice A0_1 l0_1.length c0_1) := (blk_cell BK348.out 1).trans rfl
                    have hcz34_2 : wc.cell? ⟨gb348, 2, none⟩ = some (.int .i64 a0_2) := (blk_cell BK348.out 2).trans rfl
                    have hcz34_3 : wc.cell? ⟨gb348, 3, none⟩ = some (.slice A0_3 l0_3.length c0_3) := (blk_cell BK348.out 3).trans rfl
                    have hcz34_4 : wc.cell? ⟨gb348, 4, none⟩ = some (.int .i64 a0_4) := (blk_cell BK348.out 4).trans rfl
                    have hcz34_5 : wc.cell? ⟨gb348, 5, none⟩ = some (.slice A0_5 l0_5.length c0_5) := (blk_cell BK348.out 5).trans rfl
                    have hfz34_0 := blk_frozen BK348.out 0
                    have hfz34_1 := blk_frozen BK348.out 1
                    have hfz34_2 := blk_frozen BK348.out 2
                    have hfz34_3 := blk_frozen BK348.out 3
                    have hfz34_4 := blk_frozen BK348.out 4
                    have hfz34_5 := blk_frozen BK348.out 5
                    go_wp2
                    go_meet
                    case rel => exact ⟨_, (false), (by first | rfl | (simp; done) | (simp [*]; done)), H', ⟨by have := HJ1.out; have := HK2.out; have := HJ23.out; first | omega | exact Nat.le_refl _⟩, ⟨by (with_reducible repeat (first | refine blk_drewN ?_ _ | refine blk_drew ?_ | refine blk_alloc ?_ _)); exact BK348.out⟩, ⟨by repeat (first | (with_reducible first | exact HB.out | apply below_alloc | apply pw_below_drewN | apply below_drew1 | refine below_set ?_ GE348.out) | exact HB.out)⟩⟩
                  · rw [if_neg c33] at H
                    have c33b0 : (a0_4 == 0) = false := beq_eq_false_iff_ne.mpr c33
                    have c33b1 : (a0_4 != 0) = true := bne_iff_ne.mpr c33
                    replace H := Option.bind_eq_some_iff.mp H
                    obtain ⟨t356, A350, H⟩ := H
                    replace H : (impl_ImageFault.j3 kj23 (!t356) l0_0 l0_1 a0_2 l0_3 a0_4 l0_5) = some r := H
                    have A35 := Aside0.mk A350
                    clear A350
                    have H' := Aside0.mk H
                    clear H
                    have hcz36_0 : wc.cell? ⟨gb348, 0, none⟩ = some (.slice A0_0 l0_0.length c0_0) := (blk_cell BK348.out 0).trans rfl
                    have hcz36_1 : wc.cell? ⟨gb348, 1, none⟩ = some (.slice A0_1 l0_1.length c0_1) := (blk_cell BK348.out 1).trans rfl
                    have hcz36_2 : wc.cell? ⟨gb348, 2, none⟩ = some (.int .i64 a0_2) := (blk_cell BK348.out 2).trans rfl
                    have hcz36_3 : wc.cell? ⟨gb348, 3, none⟩ = some (.slice A0_3 l0_3.length c0_3) := (blk_cell BK348.out 3).trans rfl
                    have hcz36_4 : wc.cell? ⟨gb348, 4, none⟩ = some (.int .i64 a0_4) := (blk_cell BK348.out 4).trans rfl
                    have hcz36_5 : wc.cell? ⟨gb348, 5, none⟩ = some (.slice A0_5 l0_5.length c0_5) := (blk_cell BK348.out 5).trans rfl
                    have hfz36_0 := blk_frozen BK348.out 0
                    have hfz36_1 := blk_frozen BK348.out 1
                    have hfz36_2 := blk_frozen BK348.out 2
                    have hfz36_3 := blk_frozen BK348.out 3
                    have hfz36_4 := blk_frozen BK348.out 4
                    have hfz36_5 := blk_frozen BK348.out 5
                    go_wp2_with (first | (go_at_call 87; (with_reducible refine (impl_ValidType.calls a0_4 t356 _ A35.out).mono ?_); rintro e w' ⟨rfl, ⟨nd, rfl⟩⟩))
                    go_meet
                    case rel => exact ⟨_, (!t356), (by first | rfl | (simp; done) | (simp [*]; done)), H', ⟨by have := HJ1.out; have := HK2.out; have := HJ23.out; first | omega | exact Nat.le_refl _⟩, ⟨by (with_reducible repeat (first | refine blk_drewN ?_ _ | refine blk_drew ?_ | refine blk_alloc ?_ _)); exact BK348.out⟩, ⟨by repeat (first | (with_reducible first | exact HB.out | apply below_alloc | apply pw_below_drewN | apply below_drew1 | refine below_set ?_ GE348.out) | exact HB.out)⟩⟩
               case rest =>
                clear HC30
                try clear c1
                try clear c2
                try clear p2
                try clear c3
                try clear c4
                try clear c4b0
                try clear c4b1
                try clear c4b2
                try clear c6
                try clear c6b0
                try clear c6b1
                try clear p6
                try clear c9
                try clear c10
                try clear c10b0
                try clear c11
                try clear c11b0
                try clear c11b1
                try clear c12
                try clear c12b0
                try clear c12b1
                try clear c13
                try clear c13b0
                try clear c13b1
                try clear c15
                try clear c22
                try clear c22b0
                try clear c22b1
                try clear c26
                try clear c26b0
                try clear c29
                try clear c31
                try clear c31b0
                try clear c31b1
                try clear c33
                try clear c33b0
                try clear c33b1
                try clear hcz16_0
                try clear hcz16_1
                try clear hcz16_2
                try clear hcz16_3
                try clear hcz16_4
                try clear hcz16_5
                try clear hcz19_0
                try clear hcz19_1
                try clear hcz19_2
                try clear hcz19_3
                try clear hcz19_4
                try clear hcz19_5
                try clear hcz23_0
                try clear hcz23_1
                try clear hcz23_2
                try clear hcz23_3
                try clear hcz23_4
                try clear hcz23_5
                try clear hcz25_0
                try clear hcz25_1
                try clear hcz25_2
                try clear hcz25_3
                try clear hcz25_4
                try clear hcz25_5
                try clear hcz27_0
                try clear hcz27_1
                try clear hcz27_2
                try clear hcz27_3
                try clear hcz27_4
                try clear hcz27_5
                try clear hcz28_0
                try clear hcz28_1
                try clear hcz28_2
                try clear hcz28_3
                try clear hcz28_4
                try clear hcz28_5
                try clear hcz32_0
                try clear hcz32_1
                try clear hcz32_2
                try clear hcz32_3
                try clear hcz32_4
                try clear hcz32_5
                try clear hcz34_0
                try clear hcz34_1
                try clear hcz34_2
                try clear hcz34_3
                try clear hcz34_4
                try clear hcz34_5
                try clear hcz36_0
                try clear hcz36_1
                try clear hcz36_2
                try clear hcz36_3
                try clear hcz36_4
                try clear hcz36_5
                try clear hcz5_0
                try clear hcz5_1
                try clear hcz5_2
                try clear hcz5_3
                try clear hcz5_4
                try clear hcz5_5
                try clear hcz7_0
                try clear hcz7_1
                try clear hcz7_2
                try clear hcz7_3
                try clear hcz7_4
                try clear hcz7_5
                try clear hcz8_0
                try clear hcz8_1
                try clear hcz8_2
                try clear hcz8_3
                try clear hcz8_4
                try clear hcz8_5
                try clear hfz16_0
                try clear hfz16_1
                try clear hfz16_2
                try clear hfz16_3
                try clear hfz16_4
                try clear hfz16_5
                try clear hfz19_0
                try clear hfz19_1
                try clear hfz19_2
                try clear hfz19_3
                try clear hfz19_4
                try clear hfz19_5
                try clear hfz23_0
                try clear hfz23_1
                try clear hfz23_2
                try clear hfz23_3
                try clear hfz23_4
                try clear hfz23_5
                try clear hfz25_0
                try clear hfz25_1
                try clear hfz25_2
                try clear hfz25_3
                try clear hfz25_4
                try clear hfz25_5
                try clear hfz27_0
                try clear hfz27_1
                try clear hfz27_2
                try clear hfz27_3
                try clear hfz27_4
                try clear hfz27_5
                try clear hfz28_0
                try clear hfz28_1
                try clear hfz28_2
                try clear hfz28_3
                try clear hfz28_4
                try clear hfz28_5
                try clear hfz32_0
                try clear hfz32_1
                try clear hfz32_2
                try clear hfz32_3
                try clear hfz32_4
                try clear hfz32_5
                try clear hfz34_0
                try clear hfz34_1
                try clear hfz34_2
                try clear hfz34_3
                try clear hfz34_4
                try clear hfz34_5
                try clear hfz36_0
                try clear hfz36_1
                try clear hfz36_2
                try clear hfz36_3
                try clear hfz36_4
                try clear hfz36_5
                try clear hfz5_0
                try clear hfz5_1
                try clear hfz5_2
                try clear hfz5_3
                try clear hfz5_4
                try clear hfz5_5
                try clear hfz7_0
                try clear hfz7_1
                try clear hfz7_2
                try clear hfz7_3
                try clear hfz7_4
                try clear hfz7_5
                try clear hfz8_0
                try clear hfz8_1
                try clear hfz8_2
                try clear hfz8_3
                try clear hfz8_4
                try clear hfz8_5
                try clear p2
                try clear p6
                obtain ⟨kq, x69_29, rfl, HA, HJ29, BK348, HB⟩ := hcut
                cases kq with
                | zero => exact absurd HA.out (by simp [impl_ImageFault.j3])
                | succ kj29 =>
                 have H := HA.out
                 clear HA
                 simp only [impl_ImageFault.j3] at H
                 by_cases c37 : x69_29 = true
                 · subst c37
                   have H1 : (some 5) = some r := by rw [if_pos rfl] at H; exact H
                   clear H
                   have H := H1
                   clear H1
                   obtain rfl := Option.some.inj H
                   go_wp2
                   go_ret
                   exact ⟨by first | rfl | (simp [errW_none, errW_some] <;> rfl) | (simp [*, errW_none, errW_some] <;> rfl), by repeat (first | (with_reducible first | exact HB.out | apply below_alloc | apply pw_below_drewN | apply below_drew1 | refine below_set ?_ GE348.out) | exact HB.out)⟩
                 · replace c37 := Bool.eq_false_iff.mpr c37
                   subst c37
                   have H1 : (impl_ImageFault.l1 kj29 l0_3 (l0_3.length : Int) 0) = some r := by rw [if_neg (show ¬ (false = true) by decide)] at H; exact H
                   clear H
                   have H := H1
                   clear H1
                   have H' := Aside0.mk H
                   clear H
                   have hcz38_0 : wc.cell? ⟨gb348, 0, none⟩ = some (.slice A0_0 l0_0.length c0_0) := (blk_cell BK348.out 0).trans rfl
                   have hcz38_1 : wc.cell? ⟨gb348, 1, none⟩ = some (.slice A0_1 l0_1.length c0_1) := (blk_cell BK348.out 1).trans rfl
                   have hcz38_2 : wc.cell? ⟨gb348, 2, none⟩ = some (.int .i64 a0_2) := (blk_cell BK348.out 2).trans rfl
                   have hcz38_3 : wc.cell? ⟨gb348, 3, none⟩ = some (.slice A0_3 l0_3.length c0_3) := (blk_cell BK348.out 3).trans rfl
                   have hcz38_4 : wc.cell? ⟨gb348, 4, none⟩ = some (.int .i64 a0_4) := (blk_cell BK348.out 4).trans rfl
                   have hcz38_5 : wc.cell? ⟨gb348, 5, none⟩ = some (.slice A0_5 l0_5.length c0_5) := (blk_cell BK348.out 5).trans rfl
                   have hfz38_0 := blk_frozen BK348.out 0
                   have hfz38_1 := blk_frozen BK348.out 1
                   have hfz38_2 := blk_frozen BK348.out 2
                   have hfz38_3 := blk_frozen BK348.out 3
                   have hfz38_4 := blk_frozen BK348.out 4
                   have hfz38_5 := blk_frozen BK348.out 5
                   go_wp2
                   go_loopg [73] kj29 (fun kq v73 w' => ∃ (x73_5 : Int), v73 = .int .i64 x73_5 ∧ Aside0 (impl_ImageFault.l1 kq l0_3 (l0_3.length : Int) x73_5 = some r) ∧ Aside0 (kq ≤ kj29) ∧ Aside0 (w'.heap[gb348]? = some (.cells #[(.slice A0_0 l0_0.length c0_0), (.slice A0_1 l0_1.length c0_1), .int .i64 a0_2, (.slice A0_3 l0_3.length c0_3), .int .i64 a0_4, (.slice A0_5 l0_5.length c0_5)] 60 (0, 0))) ∧ Aside0 (Below w.heap.size w w'))
                   case atStart => exact ⟨(0), (by first | rfl | (simp; done) | (simp [*]; done)), H', ⟨Nat.le_refl _⟩, ⟨by (with_reducible repeat (first | refine blk_drewN ?_ _ | refine blk_drew ?_ | refine blk_alloc ?_ _)); exact BK348.out⟩, ⟨by repeat (first | (with_reducible first | exact HB.out | apply below_alloc | apply pw_below_drewN | apply below_drew1 | refine below_set ?_ GE348.out) | exact HB.out)⟩⟩
                   case round =>
                    clear H'
                    try clear c1
                    try clear c2
                    try clear p2
                    try clear c3
                    try clear c4
                    try clear c4b0
                    try clear c4b1
                    try clear c4b2
                    try clear c6
                    try clear c6b0
                    try clear c6b1
                    try clear p6
                    try clear c9
                    try clear c10
                    try clear c10b0
                    try clear c11
                    try clear c11b0
                    try clear c11b1
                    try clear c12
                    try clear c12b0
                    try clear c12b1
                    try clear c13
                    try clear c13b0
                    try clear c13b1
                    try clear c15
                    try clear c22
                    try clear c22b0
                    try clear c22b1
                    try clear c26
                    try clear c26b0
                    try clear c29
                    try clear c31
                    try clear c31b0
                    try clear c31b1
                    try clear c33
                    try clear c33b0
                    try clear c33b1
                    try clear c37
                    try clear hcz16_0
                    try clear hcz16_1
                    try clear hcz16_2
                    try clear hcz16_3
                    try clear hcz16_4
                    try clear hcz16_5
                    try clear hcz19_0
                    try clear hcz19_1
                    try clear hcz19_2
                    try clear hcz19_3
                    try clear hcz19_4
                    try clear hcz19_5
                    try clear hcz23_0
                    try clear hcz23_1
                    try clear hcz23_2
                    try clear hcz23_3
                    try clear hcz23_4
                    try clear hcz23_5
                    try clear hcz25_0
                    try clear hcz25_1
                    try clear hcz25_2
                    try clear hcz25_3
                    try clear hcz25_4
                    try clear hcz25_5
                    try clear hcz27_0
                    try clear hcz27_1
                    try clear hcz27_2
                    try clear hcz27_3
                    try clear hcz27_4
                    try clear hcz27_5
                    try clear hcz28_0
                    try clear hcz28_1
                    try clear hcz28_2
                    try clear hcz28_3
                    try clear hcz28_4
                    try clear hcz28_5
                    try clear hcz32_0
                    try clear hcz32_1
                    try clear hcz32_2
                    try clear hcz32_3
                    try clear hcz32_4
                    try clear hcz32_5
                    try clear hcz34_0
                    try clear hcz34_1
                    try clear hcz34_2
                    try clear hcz34_3
                    try clear hcz34_4
                    try clear hcz34_5
                    try clear hcz36_0
                    try clear hcz36_1
                    try clear hcz36_2
                    try clear hcz36_3
                    try clear hcz36_4
                    try clear hcz36_5
                    try clear hcz38_0
                    try clear hcz38_1
                    try clear hcz38_2
                    try clear hcz38_3
                    try clear hcz38_4
                    try clear hcz38_5
                    try clear hcz5_0
                    try clear hcz5_1
                    try clear hcz5_2
                    try clear hcz5_3
                    try clear hcz5_4
                    try clear hcz5_5
                    try clear hcz7_0
                    try clear hcz7_1
                    try clear hcz7_2
                    try clear hcz7_3
                    try clear hcz7_4
                    try clear hcz7_5
                    try clear hcz8_0
                    try clear hcz8_1
                    try clear hcz8_2
                    try clear hcz8_3
                    try clear hcz8_4
                    try clear hcz8_5
                    try clear hfz16_0
                    try clear hfz16_1
                    try clear hfz16_2
                    try clear hfz16_3
                    try clear hfz16_4
                    try clear hfz16_5
                    try clear hfz19_0
                    try clear hfz19_1
                    try clear hfz19_2
                    try clear hfz19_3
                    try clear hfz19_4
                    try clear hfz19_5
                    try clear hfz23_0
                    try clear hfz23_1
                    try clear hfz23_2
                    try clear hfz23_3
                    try clear hfz23_4
                    try clear hfz23_5
                    try clear hfz25_0
                    try clear hfz25_1
                    try clear hfz25_2
                    try clear hfz25_3
                    try clear hfz25_4
                    try clear hfz25_5
                    try clear hfz27_0
                    try clear hfz27_1
                    try clear hfz27_2
                    try clear hfz27_3
                    try clear hfz27_4
                    try clear hfz27_5
                    try clear hfz28_0
                    try clear hfz28_1
                    try clear hfz28_2
                    try clear hfz28_3
                    try clear hfz28_4
                    try clear hfz28_5
                    try clear hfz32_0
                    try clear hfz32_1
                    try clear hfz32_2
                    try clear hfz32_3
                    try clear hfz32_4
                    try clear hfz32_5
                    try clear hfz34_0
                    try clear hfz34_1
                    try clear hfz34_2
                    try clear hfz34_3
                    try clear hfz34_4
                    try clear hfz34_5
                    try clear hfz36_0
                    try clear hfz36_1
                    try clear hfz36_2
                    try clear hfz36_3
                    try clear hfz36_4
                    try clear hfz36_5
                    try clear hfz38_0
                    try clear hfz38_1
                    try clear hfz38_2
                    try clear hfz38_3
                    try clear hfz38_4
                    try clear hfz38_5
                    try clear hfz5_0
                    try clear hfz5_1
                    try clear hfz5_2
                    try clear hfz5_3
                    try clear hfz5_4
                    try clear hfz5_5
                    try clear hfz7_0
                    try clear hfz7_1
                    try clear hfz7_2
                    try clear hfz7_3
                    try clear hfz7_4
                    try clear hfz7_5
                    try clear hfz8_0
                    try clear hfz8_1
                    try clear hfz8_2
                    try clear hfz8_3
                    try clear hfz8_4
                    try clear hfz8_5
                    try clear p2
                    try clear p6
                    obtain ⟨x73_5, rfl, HA, HK5, BK348, HB⟩ := hrel
                    cases gk with
                    | zero => exact absurd HA.out (by simp [impl_ImageFault.l1])
                    | succ k5 =>
                     have H := HA.out
                     clear HA
                     simp only [impl_ImageFault.l1] at H
                     by_cases c39 : x73_5 < (l0_3.length : Int)
                     · rw [if_pos c39] at H
                       have c39b0 : decide (x73_5 < (l0_3.length : Int)) = true := decide_eq_true c39
                       clear c39
                       by_cases c40 : 0 ≤ x73_5
                       · rw [if_pos c40] at H
                         have c40b0 : decide (0 ≤ x73_5) = true := decide_eq_true c40
                         clear c40
                         by_cases c41 : x73_5 < (l0_3.length : Int)
                         · rw [if_pos c41] at H
                           have c41b0 : decide (x73_5 < (l0_3.length : Int)) = true := decide_eq_true c41
                           clear c41
                           replace H := Option.bind_eq_some_iff.mp H
                           obtain ⟨t358, A420, H⟩ := H
                           replace H : (if t358 = true then (impl_ImageFault.l1 k5 l0_3 (l0_3.length : Int) (wrap64 (x73_5 + 1))) else (some 5)) = some r := H
                           have A42 := Aside0.mk A420
                           clear A420
                           by_cases c43 : t358 = true
                           · subst c43
                             have H1 : (impl_ImageFault.l1 k5 l0_3 (l0_3.length : Int) (wrap64 (x73_5 + 1))) = some r := by rw [if_pos rfl] at H; exact H
                             clear H
                             have H := H1
                             clear H1
                             have H' := Aside0.mk H
                             clear H
                             have p357 : 0 ≤ (x73_5 : Int) := of_decide_eq_true (by first | (with_reducible assumption) | assumption)
                             have q357 : x73_5 < (l0_3.length : Int) := of_decide_eq_true (by first | (with_reducible assumption) | assumption)
                             obtain ⟨ad357, e357, hx357_0⟩ := Kd.at_int HR0_3.out x73_5 p357 q357
                             cases e357
                             replace hx357_0 := (HB.out.cell (World.block_lt_of_cell? w _ hx357_0)).trans hx357_0
                             replace p357 := eq_true p357
                             replace q357 := eq_true q357
                             go_wp2_with (first | ((with_reducible refine gate_callee (f := 46) rfl ?_); refine goesL_ (some 78) rfl rfl Tryd.func46 (by kernel_rfl) rfl #[.int .i64 (rd l0_3 x73_5)] rfl (by (try simp only [List.map_toArray, List.map_cons, List.map_nil]); first | done | rfl | (simp only [List.length_drop, List.length_take]; rfl)) ?_; (with_reducible refine (impl_ValidWidth.calls (rd l0_3 x73_5) true _ A42.out).mono ?_); rintro e w' ⟨rfl, ⟨nd, rfl⟩⟩; refine ⟨_, rfl, ?_⟩))
                             go_roundg k5
                             case measure => have := HJ1.out; have := HK2.out; have := HJ23.out; have := HJ29.out; have := HK5.out; omega
                             case rel => exact ⟨(wrap64 (x73_5 + 1)), (by first | rfl | (simp; done) | (simp [*]; done)), H', ⟨by have := HJ1.out; have := HK2.out; have := HJ23.out; have := HJ29.out; have := HK5.out; omega⟩, ⟨by (with_reducible repeat (first | refine blk_drewN ?_ _ | refine blk_drew ?_ | refine blk_alloc ?_ _)); exact BK348.out⟩, ⟨by repeat (first | (with_reducible first | exact HB.out | apply below_alloc | apply pw_below_drewN | apply below_drew1 | refine below_set ?_ GE348.out) | exact HB.out)⟩⟩
                           · replace c43 := Bool.eq_false_iff.mpr c43
                             subst c43
                             have H1 : (some 5) = some r := by rw [if_neg (show ¬ (false = true) by decide)] at H; exact H
                             clear H
                             have H := H1
                             clear H1
                             obtain rfl := Option.some.inj H
                             have p357 : 0 ≤ (x73_5 : Int) := of_decide_eq_true (by first | (with_reducible assumption) | assumption)
                             have q357 : x73_5 < (l0_3.length : Int) := of_decide_eq_true (by first | (with_reducible assumption) | assumption)
                             obtain ⟨ad357, e357, hx357_0⟩ := Kd.at_int HR0_3.out x73_5 p357 q357
                             cases e357
                             replace hx357_0 := (HB.out.cell (World.block_lt_of_cell? w _ hx357_0)).trans hx357_0
                             replace p357 := eq_true p357
                             replace q357 := eq_true q357
                             go_wp2_with (first | ((with_reducible refine gate_callee (f := 46) rfl ?_); refine goesL_ (some 78) rfl rfl Tryd.func46 (by kernel_rfl) rfl #[.int .i64 (rd l0_3 x73_5)] rfl (by (try simp only [List.map_toArray, List.map_cons, List.map_nil]); first | done | rfl | (simp only [List.length_drop, List.length_take]; rfl)) ?_; (with_reducible refine (impl_ValidWidth.calls (rd l0_3 x73_5) false _ A42.out).mono ?_); rintro e w' ⟨rfl, ⟨nd, rfl⟩⟩; refine ⟨_, rfl, ?_⟩))
                             go_ret
                             exact ⟨by first | rfl | (simp [errW_none, errW_some] <;> rfl) | (simp [*, errW_none, errW_some] <;> rfl), by repeat (first | (with_reducible first | exact HB.out | apply below_alloc | apply pw_below_drewN | apply below_drew1 | refine below_set ?_ GE348.out) | exact HB.out)⟩
                         · rw [if_neg c41] at H
                           exact absurd H (by simp)
                       · rw [if_neg c40] at H
                         exact absurd H (by simp)
                     · rw [if_neg c39] at H
                       have c39b0 : decide (x73_5 < (l0_3.length : Int)) = false := decide_eq_false c39
                       clear c39
                       obtain rfl := Option.some.inj H
                       go_wp2
                       go_ret
                       exact ⟨by first | rfl | (simp [errW_none, errW_some] <;> rfl) | (simp [*, errW_none, errW_some] <;> rfl), by repeat (first | (with_reducible first | exact HB.out | apply below_alloc | apply pw_below_drewN | apply below_drew1 | refine below_set ?_ GE348.out) | exact HB.out)⟩

end Go.Proofs.YtkohjiajbdkcbaaDoor.All


/- A text out of its bytes; the texts of an outcome. -/
namespace Go.Proofs.YtkohjiajbdkcbaaDoor.All
open Go.RowKit Go.Proofs.YtkohjiajbdkcbaaDoorW.PrintWords Go.Proofs.YtkohjiajbdkcbaaDoorW.PrintLast Go.Proofs.YtkohjiajbdkcbaaDoorW.PrintMore
set_option linter.unusedVariables false
set_option linter.unusedSimpArgs false
def bsOf (l : List UInt8) : ByteArray := ⟨l.toArray⟩
theorem bsOf_append (a b : List UInt8) : bsOf a ++ bsOf b = bsOf (a ++ b) := by
  apply ByteArray.ext
  rw [ByteArray.data_append]
  simp [bsOf]
theorem bsOf_size (a : List UInt8) : (bsOf a).size = a.length := by simp [bsOf, ByteArray.size]
end Go.Proofs.YtkohjiajbdkcbaaDoor.All


/- strings.Builder at this translation: copyCheck and WriteString, turned from the shelf's worked proofs (their bodies part here at the check of a copied builder, which the row's cut refuses). -/
namespace Go.Proofs.YtkohjiajbdkcbaaDoor.All
open Go.RowKit Go.Proofs.YtkohjiajbdkcbaaDoorW.PrintWords Go.Proofs.YtkohjiajbdkcbaaDoorW.PrintLast Go.Proofs.YtkohjiajbdkcbaaDoorW.PrintMore
set_option linter.unusedVariables false
set_option linter.unusedSimpArgs false
open Go.Shelf
theorem bld_size : (Tryd.prog.info? 87).map (·.size) = some 2 := by kernel_rfl
theorem bld_lies : liesAt Tryd.prog Tryd.prog.depth 87 (2 / Tryd.prog.cellsOf 87) 0 87 1 = true := by kernel_rfl
theorem bld_byte : (Tryd.prog.info? 5).map (fun i => (i.zero, i.size, i.bytes)) = some (some (.int .u8 0), 1, 1) := by kernel_rfl
set_option maxHeartbeats 1000000 in
set_option maxRecDepth 100000 in
theorem bld_copyCheck_used (b : Nat) (w : World) (h0 : w.cell? ⟨b, 0, none⟩ = some (.pointer (some ⟨b, 0, none⟩))) :
    Calls Tryd.prog 77 #[.pointer (some ⟨b, 0, none⟩)] w fun e w' => e = .returned (.tuple #[]) ∧ w' = w := by
  obtain ⟨j, hj, _⟩ := Option.map_eq_some_iff.1 bld_size
  go_enter Tryd.func77, Tryd.ntmps77
  go_wp2
  rw [Lib.run_neq_ptr_same w _ Tryd.underlying85 hj]
  go_wp2
  go_end0
  exact ⟨rfl, rfl⟩
set_option maxHeartbeats 1000000 in
set_option maxRecDepth 100000 in
theorem bld_copyCheck_fresh (b : Nat) (w : World) (h0 : w.cell? ⟨b, 0, none⟩ = some (.pointer none)) (hsh : w.shape? b = some (87, 2)) (hfz : w.frozen? ⟨b, 0, none⟩ = false) :
    Calls Tryd.prog 77 #[.pointer (some ⟨b, 0, none⟩)] w fun e w' => e = .returned (.tuple #[]) ∧ w' = w.setCell ⟨b, 0, none⟩ (.pointer (some ⟨b, 0, none⟩)) := by
  obtain ⟨j, hj, hjs⟩ := Option.map_eq_some_iff.1 bld_size
  go_enter Tryd.func77, Tryd.ntmps77
  go_wp2
  rw [Lib.run_to_unsafe w ⟨b, 0, none⟩ Tryd.underlying85 Tryd.underlying158 hj (by rw [hjs]; decide) hsh (Nat.zero_lt_succ 1)]
  simp only [Result.andThen]
  rw [Oper.upon_value]
  go_wp2
  rw [run_callFunc_extern Tryd.func101 (by kernel_rfl) (by kernel_rfl) (by kernel_rfl) (e := Extern.AbiNoEscape.same) (by kernel_rfl)]
  rw [Lib.run_noEscape]
  simp only [Result.andThen]
  rw [Oper.upon_value]
  go_wp2
  rw [Lib.run_from_unsafe w ⟨b, 0, none⟩ Tryd.underlying158 Tryd.underlying85 hj hsh bld_lies]
  simp only [Result.andThen]
  rw [Oper.upon_value]
  go_wp2
  go_end0
  exact ⟨rfl, rfl⟩
end Go.Proofs.YtkohjiajbdkcbaaDoor.All


/- WriteString over a builder: what it leaves as it was: every block of another type but the builder's own. -/
namespace Go.Proofs.YtkohjiajbdkcbaaDoor.All
open Go.RowKit Go.Proofs.YtkohjiajbdkcbaaDoorW.PrintWords Go.Proofs.YtkohjiajbdkcbaaDoorW.PrintLast Go.Proofs.YtkohjiajbdkcbaaDoorW.PrintMore
set_option linter.unusedVariables false
set_option linter.unusedSimpArgs false
open Go.Shelf
theorem bldk_copyCheck (B b : Nat) (bs : List Value) (w : World) (h : Lib.IsBuilder 87 5 B b bs w) :
    Calls Tryd.prog 77 #[.pointer (some ⟨b, 0, none⟩)] w fun e w' => e = .returned (.tuple #[]) ∧ (Lib.BuilderAt 87 5 B b (.pointer (some ⟨b, 0, none⟩)) bs w' ∧ Below B w w' ∧ ∀ k, k ≠ b → w'.heap[k]? = w.heap[k]?) := by
  rcases h with h | h
  · refine (bld_copyCheck_fresh b w h.cell0 h.shape h.frozen0).mono ?_
    rintro e w' ⟨rfl, rfl⟩
    exact ⟨rfl, h.used _, (Below.refl B w).setCell (p := ⟨b, 0, none⟩) h.1 _, fun k hk => Below.heap_setCell w ⟨b, 0, none⟩ _ k hk⟩
  · refine (bld_copyCheck_used b w h.cell0).mono ?_
    rintro e w' ⟨rfl, rfl⟩
    exact ⟨rfl, h, Below.refl B _, fun _ _ => rfl⟩
theorem own_type {w : World} {B e n g : Nat} {v : Value} {xs : List Value} {cs : Array Value} {t : TypeId} (h : w.ownsRow B e 1 v n xs) (hv : v.ownBlock = some g) (hg : w.heap[g]? = some (.cells cs t (0, 0))) : t = e := by
  rcases h.2 with ⟨hv2, _⟩ | ⟨g2, cap, cur, hv2, _, hh, _⟩
  · rw [hv2] at hv; cases hv
  · rw [hv2] at hv
    obtain rfl : g2 = g := Option.some.inj hv
    have h3 := hh.symm.trans hg
    injection h3 with h4
    injection h4 with _ h5 _
    exact h5.symm
set_option maxHeartbeats 2000000 in
set_option maxRecDepth 100000 in
theorem bldk_WriteString (B b : Nat) (bs : List Value) (s : ByteArray) (w : World) (h : Lib.IsBuilder 87 5 B b bs w) (hlen : bs.length + s.size ≤ 140737488355328) (hBw : B ≤ w.heap.size) :
    Calls Tryd.prog 40 #[.pointer (some ⟨b, 0, none⟩), .string s] w fun e w' => e = .returned (.tuple #[.int .i64 s.size, .nilIface]) ∧ (Lib.BuilderAt 87 5 B b (.pointer (some ⟨b, 0, none⟩)) (bs ++ Lib.strCells s) w' ∧ Below B w w' ∧ ∀ g cs t, g ≠ b → t ≠ 5 → w.heap[g]? = some (.cells cs t (0, 0)) → w'.heap[g]? = some (.cells cs t (0, 0))) := by
  obtain ⟨i0, hi, hz0, hz1, hz2⟩ := info_parts bld_byte
  have hu := Tryd.underlying87
  go_enter Tryd.func40, Tryd.ntmps40
  go_wp2_with (go_at_call 77; refine (bldk_copyCheck B b bs _ h).mono ?_)
  rintro e w1 ⟨rfl, h1, hb1, hk1⟩
  obtain ⟨hB, v, hbk, hown, hne⟩ := h1
  have c0 : w1.cell? ⟨b, 0, none⟩ = some (.pointer (some ⟨b, 0, none⟩)) := by rw [Lib.cell_of_heap hbk]; rfl
  have c1 : w1.cell? ⟨b, 1, none⟩ = some v := by rw [Lib.cell_of_heap hbk]; rfl
  go_wp2_with (at_builtin; refine Lib.wpList_append_own_string _ rfl _ _ 41 9 rfl B 5 i0 Tryd.underlying41 Tryd.underlying9 hi hz0 hz1 hz2 _ _ _ rfl hown s rfl ?c3 ?c4 ?c5 ?_)
  case c3 => unfold maxLen; omega
  case c4 => omega
  case c5 => have := hb1.size; omega
  intro v' w2 hown' hgrow _
  have hlt : b < w1.heap.size := by
    rcases Nat.lt_or_ge b w1.heap.size with h' | h'
    · exact h'
    · simp [Array.getElem?_eq_none h'] at hbk
  have hb2 : w2.heap[b]? = some (.cells #[.pointer (some ⟨b, 0, none⟩), v] 87 (0, 0)) := by
    rw [hgrow.block b hlt (fun e => hne e.symm)]
    exact hbk
  have d0 : w2.cell? ⟨b, 0, none⟩ = some (.pointer (some ⟨b, 0, none⟩)) := by rw [Lib.cell_of_heap hb2]; rfl
  have d1 : w2.cell? ⟨b, 1, none⟩ = some v := by rw [Lib.cell_of_heap hb2]; rfl
  have f1 : w2.frozen? ⟨b, 1, none⟩ = false := Lib.frozen_of_heap hb2 1
  obtain ⟨ao, n', cap, rfl⟩ : ∃ ao n' cap, v' = .slice ao n' cap := by
    rcases hown'.2 with ⟨hv, _⟩ | ⟨g, cap, cur, hv, _⟩
    · exact ⟨_, _, _, hv⟩
    · exact ⟨_, _, _, hv⟩
  go_wp2
  go_ret2
  refine ⟨rfl, ?_, ?_, ?_⟩
  · exact Lib.BuilderAt.put (T := 87) (e := 5) hB hb2 (bs' := bs ++ Lib.strCells s) (by simpa [Lib.strCells_length] using hown') (by decide)
  · exact (hb1.grown hgrow (by have := hb1.size; omega) (fun k hk => (hown.lt k hk).1)).setCell (p := ⟨b, 1, none⟩) hB _
  · intro g cs t hg ht hc
    rw [← hk1 g hg] at hc
    have hl1 : g < w1.heap.size := (Array.getElem?_eq_some_iff.1 hc).1
    refine (Below.heap_setCell w2 ⟨b, 1, none⟩ _ g hg).trans ((hgrow.block g hl1 (fun e2 => ht (own_type hown e2.symm hc))).trans hc)
end Go.Proofs.YtkohjiajbdkcbaaDoor.All


/- Contracts of Go's library at this translation: laid by the shelf's lay-shelf.mjs and lay-plain.mjs, those that this session's claims use. -/
namespace Go.Proofs
open Go.Shelf
set_option linter.unusedVariables false
def Tryd.lays169_ren : Go.Shelf.Ren := ⟨fun | 169 => 41 | n => n, fun | 70 => 85 | 9 => 9 | 0 => 0 | 72 => 87 | 37 => 41 | 127 => 132 | 3 => 3 | 5 => 5 | n => n, fun | n => n⟩
theorem Tryd.lays169 : Go.Proofs.Lays.n169 Tryd.prog Tryd.lays169_ren := {
  mixed := by kernel_rfl
  f169 := Tryd.func41.trans (congrArg some (by kernel_rfl))
  t0 := Tryd.underlying0
  a0 := Tryd.isAgg0
  z0 := Tryd.sizeOf0
  v0 := Tryd.zeroValue0
  t3 := Tryd.underlying3
  a3 := Tryd.isAgg3
  z3 := Tryd.sizeOf3
  v3 := Tryd.zeroValue3
  t9 := Tryd.underlying9
  a9 := Tryd.isAgg9
  z9 := Tryd.sizeOf9
  v9 := Tryd.zeroValue9
  t37 := Tryd.underlying41
  a37 := Tryd.isAgg41
  z37 := Tryd.sizeOf41
  v37 := Tryd.zeroValue41
  t70 := Tryd.underlying85
  a70 := Tryd.isAgg85
  z70 := Tryd.sizeOf85
  v70 := Tryd.zeroValue85
  t72 := Tryd.underlying87
  a72 := Tryd.isAgg87
  z72 := Tryd.sizeOf87
  v72 := Tryd.zeroValue87
  t127 := Tryd.underlying132
  a127 := Tryd.isAgg132
  z127 := Tryd.sizeOf132
  v127 := Tryd.zeroValue132 }
theorem Tryd.Builder_Extra_169 : Builder.Extra Tryd.prog Tryd.lays169_ren := {
  sizeBuilder := by kernel_rfl
  liesBuilder := by kernel_rfl
  t5 := Tryd.underlying5
  a5 := Tryd.isAgg5
  z5 := Tryd.sizeOf5
  v5 := Tryd.zeroValue5
  infoByte := by kernel_rfl
  cellsByte := by kernel_rfl
  sizeByte := by kernel_rfl
  neB5 := by decide }
open Go.RowKit in
theorem Tryd.Builder_String_any (B b : Nat) (l : List UInt8) (w : World) (h : Lib.IsBuilder 87 5 B b (Lib.byteCells l) w) (hBw : B ≤ w.heap.size) :
    Calls Tryd.prog 41 #[.pointer (some ⟨b, 0, none⟩)] w fun e w' => e = .returned (.string ⟨l.toArray⟩) ∧ Below B w w' := Any.Builder_String_any Tryd.lays169 Tryd.Builder_Extra_169 B b l w h hBw
end Go.Proofs


/- Contracts of Go's library at this translation: laid by the shelf's lay-shelf.mjs and lay-plain.mjs, those that this session's claims use. -/
namespace Go.Proofs
open Go.Shelf
set_option linter.unusedVariables false
def Tryd.laysM173_ren : Go.Shelf.Ren := ⟨fun | 173 => 39 | 246 => 76 | 283 => 97 | 284 => 98 | 285 => 99 | 286 => 100 | 129 => 121 | 317 => 120 | 318 => 122 | 319 => 123 | 320 => 124 | 337 => 132 | 338 => 133 | n => n, fun | 2 => 2 | 3 => 3 | 9 => 9 | 4 => 4 | 171 => 153 | 0 => 0 | 53 => 22 | 37 => 41 | 5 => 5 | 173 => 156 | 212 => 171 | 51 => 138 | 20 => 20 | 213 => 172 | 46 => 100 | 232 => 197 | 233 => 198 | n => n, fun | 17 => 0 | 18 => 3 | 19 => 4 | n => n⟩
theorem Tryd.laysM173 : Go.Proofs.LaysM.n173 Tryd.prog Tryd.laysM173_ren := {
  mixed := by kernel_rfl
  f129 := Tryd.func121.trans (congrArg some (by kernel_rfl))
  f173 := Tryd.func39.trans (congrArg some (by kernel_rfl))
  f246 := Tryd.func76.trans (congrArg some (by kernel_rfl))
  f283 := Tryd.func97.trans (congrArg some (by kernel_rfl))
  f284 := Tryd.func98.trans (congrArg some (by kernel_rfl))
  f285 := Tryd.func99.trans (congrArg some (by kernel_rfl))
  f286 := Tryd.func100.trans (congrArg some (by kernel_rfl))
  f317 := Tryd.func120.trans (congrArg some (by kernel_rfl))
  f318 := Tryd.func122.trans (congrArg some (by kernel_rfl))
  f319 := Tryd.func123.trans (congrArg some (by kernel_rfl))
  f320 := Tryd.func124.trans (congrArg some (by kernel_rfl))
  f337 := Tryd.func132.trans (congrArg some (by kernel_rfl))
  f338 := Tryd.func133.trans (congrArg some (by kernel_rfl))
  t0 := Tryd.underlying0
  a0 := Tryd.isAgg0
  z0 := Tryd.sizeOf0
  v0 := Tryd.zeroValue0
  t2 := Tryd.underlying2
  a2 := Tryd.isAgg2
  z2 := Tryd.sizeOf2
  v2 := Tryd.zeroValue2
  t3 := Tryd.underlying3
  a3 := Tryd.isAgg3
  z3 := Tryd.sizeOf3
  v3 := Tryd.zeroValue3
  t4 := Tryd.underlying4
  a4 := Tryd.isAgg4
  z4 := Tryd.sizeOf4
  v4 := Tryd.zeroValue4
  t5 := Tryd.underlying5
  a5 := Tryd.isAgg5
  z5 := Tryd.sizeOf5
  v5 := Tryd.zeroValue5
  t9 := Tryd.underlying9
  a9 := Tryd.isAgg9
  z9 := Tryd.sizeOf9
  v9 := Tryd.zeroValue9
  t20 := Tryd.underlying20
  a20 := Tryd.isAgg20
  z20 := Tryd.sizeOf20
  v20 := Tryd.zeroValue20
  t37 := Tryd.underlying41
  a37 := Tryd.isAgg41
  z37 := Tryd.sizeOf41
  v37 := Tryd.zeroValue41
  t46 := Tryd.underlying100
  a46 := Tryd.isAgg100
  z46 := Tryd.sizeOf100
  v46 := Tryd.zeroValue100
  t51 := Tryd.underlying138
  a51 := Tryd.isAgg138
  z51 := Tryd.sizeOf138
  v51 := Tryd.zeroValue138
  t53 := Tryd.underlying22
  a53 := Tryd.isAgg22
  z53 := Tryd.sizeOf22
  v53 := Tryd.zeroValue22
  t171 := Tryd.underlying153
  a171 := Tryd.isAgg153
  z171 := Tryd.sizeOf153
  v171 := Tryd.zeroValue153
  t173 := Tryd.underlying156
  a173 := Tryd.isAgg156
  z173 := Tryd.sizeOf156
  v173 := Tryd.zeroValue156
  t212 := Tryd.underlying171
  a212 := Tryd.isAgg171
  z212 := Tryd.sizeOf171
  v212 := Tryd.zeroValue171
  t213 := Tryd.underlying172
  a213 := Tryd.isAgg172
  z213 := Tryd.sizeOf172
  t232 := Tryd.underlying197
  a232 := Tryd.isAgg197
  z232 := Tryd.sizeOf197
  v232 := Tryd.zeroValue197
  t233 := Tryd.underlying198
  a233 := Tryd.isAgg198
  z233 := Tryd.sizeOf198
  v233 := Tryd.zeroValue198
  g17 := by kernel_rfl
  g18 := by kernel_rfl
  g19 := by kernel_rfl
  i0 := by kernel_rfl
  i2 := by kernel_rfl
  i3 := by kernel_rfl
  i4 := by kernel_rfl
  i5 := by kernel_rfl
  i9 := by kernel_rfl
  i20 := by kernel_rfl
  i37 := by kernel_rfl
  i46 := by kernel_rfl
  i51 := by kernel_rfl
  i53 := by kernel_rfl
  i171 := by kernel_rfl
  i173 := by kernel_rfl
  i212 := by kernel_rfl
  i232 := by kernel_rfl
  i233 := by kernel_rfl
  m17 := by kernel_rfl
  m18 := by kernel_rfl
  m19 := by kernel_rfl }
open Go.RowKit Go.Sort Go.Lib in
theorem Tryd.strconv_FormatInt_10 (n : Int) (h0 : -9223372036854775808 ≤ n) (h1 : n ≤ 9223372036854775807) (w : World) (htab : Lib.TabIs Tryd.prog w "internal/strconv.uint64pow10" .u64 Lib.pow10Tab) :
    Calls Tryd.prog 39 #[.int .i64 n, .int .i64 10] w fun e w' => e = .returned (.string ⟨(Lib.itoa n).toArray⟩) ∧ ∃ k os, w' = grow (w.drewN k) os := Any.strconv_FormatInt_10 Tryd.laysM173 n h0 h1 w htab
end Go.Proofs


/- Contracts of Go's library at this translation: laid by the shelf's lay-shelf.mjs and lay-plain.mjs, those that this session's claims use. -/
namespace Go.Proofs
open Go.Shelf
set_option linter.unusedVariables false
def Tryd.laysM171_ren : Go.Shelf.Ren := ⟨fun | 171 => 66 | 243 => 89 | 246 => 76 | 283 => 97 | 284 => 98 | 285 => 99 | 286 => 100 | 129 => 121 | 317 => 120 | 318 => 122 | 319 => 123 | 320 => 124 | 337 => 132 | 338 => 133 | n => n, fun | 3 => 3 | 9 => 9 | 2 => 2 | 4 => 4 | 171 => 153 | 0 => 0 | 53 => 22 | 37 => 41 | 5 => 5 | 173 => 156 | 212 => 171 | 51 => 138 | 20 => 20 | 213 => 172 | 46 => 100 | 232 => 197 | 233 => 198 | n => n, fun | 17 => 0 | 18 => 3 | 19 => 4 | n => n⟩
theorem Tryd.laysM171 : Go.Proofs.LaysM.n171 Tryd.prog Tryd.laysM171_ren := {
  mixed := by kernel_rfl
  f129 := Tryd.func121.trans (congrArg some (by kernel_rfl))
  f171 := Tryd.func66.trans (congrArg some (by kernel_rfl))
  f243 := Tryd.func89.trans (congrArg some (by kernel_rfl))
  f246 := Tryd.func76.trans (congrArg some (by kernel_rfl))
  f283 := Tryd.func97.trans (congrArg some (by kernel_rfl))
  f284 := Tryd.func98.trans (congrArg some (by kernel_rfl))
  f285 := Tryd.func99.trans (congrArg some (by kernel_rfl))
  f286 := Tryd.func100.trans (congrArg some (by kernel_rfl))
  f317 := Tryd.func120.trans (congrArg some (by kernel_rfl))
  f318 := Tryd.func122.trans (congrArg some (by kernel_rfl))
  f319 := Tryd.func123.trans (congrArg some (by kernel_rfl))
  f320 := Tryd.func124.trans (congrArg some (by kernel_rfl))
  f337 := Tryd.func132.trans (congrArg some (by kernel_rfl))
  f338 := Tryd.func133.trans (congrArg some (by kernel_rfl))
  t0 := Tryd.underlying0
  a0 := Tryd.isAgg0
  z0 := Tryd.sizeOf0
  v0 := Tryd.zeroValue0
  t2 := Tryd.underlying2
  a2 := Tryd.isAgg2
  z2 := Tryd.sizeOf2
  v2 := Tryd.zeroValue2
  t3 := Tryd.underlying3
  a3 := Tryd.isAgg3
  z3 := Tryd.sizeOf3
  v3 := Tryd.zeroValue3
  t4 := Tryd.underlying4
  a4 := Tryd.isAgg4
  z4 := Tryd.sizeOf4
  v4 := Tryd.zeroValue4
  t5 := Tryd.underlying5
  a5 := Tryd.isAgg5
  z5 := Tryd.sizeOf5
  v5 := Tryd.zeroValue5
  t9 := Tryd.underlying9
  a9 := Tryd.isAgg9
  z9 := Tryd.sizeOf9
  v9 := Tryd.zeroValue9
  t20 := Tryd.underlying20
  a20 := Tryd.isAgg20
  z20 := Tryd.sizeOf20
  v20 := Tryd.zeroValue20
  t37 := Tryd.underlying41
  a37 := Tryd.isAgg41
  z37 := Tryd.sizeOf41
  v37 := Tryd.zeroValue41
  t46 := Tryd.underlying100
  a46 := Tryd.isAgg100
  z46 := Tryd.sizeOf100
  v46 := Tryd.zeroValue100
  t51 := Tryd.underlying138
  a51 := Tryd.isAgg138
  z51 := Tryd.sizeOf138
  v51 := Tryd.zeroValue138
  t53 := Tryd.underlying22
  a53 := Tryd.isAgg22
  z53 := Tryd.sizeOf22
  v53 := Tryd.zeroValue22
  t171 := Tryd.underlying153
  a171 := Tryd.isAgg153
  z171 := Tryd.sizeOf153
  v171 := Tryd.zeroValue153
  t173 := Tryd.underlying156
  a173 := Tryd.isAgg156
  z173 := Tryd.sizeOf156
  v173 := Tryd.zeroValue156
  t212 := Tryd.underlying171
  a212 := Tryd.isAgg171
  z212 := Tryd.sizeOf171
  v212 := Tryd.zeroValue171
  t213 := Tryd.underlying172
  a213 := Tryd.isAgg172
  z213 := Tryd.sizeOf172
  t232 := Tryd.underlying197
  a232 := Tryd.isAgg197
  z232 := Tryd.sizeOf197
  v232 := Tryd.zeroValue197
  t233 := Tryd.underlying198
  a233 := Tryd.isAgg198
  z233 := Tryd.sizeOf198
  v233 := Tryd.zeroValue198
  g17 := by kernel_rfl
  g18 := by kernel_rfl
  g19 := by kernel_rfl
  i0 := by kernel_rfl
  i2 := by kernel_rfl
  i3 := by kernel_rfl
  i4 := by kernel_rfl
  i5 := by kernel_rfl
  i9 := by kernel_rfl
  i20 := by kernel_rfl
  i37 := by kernel_rfl
  i46 := by kernel_rfl
  i51 := by kernel_rfl
  i53 := by kernel_rfl
  i171 := by kernel_rfl
  i173 := by kernel_rfl
  i212 := by kernel_rfl
  i232 := by kernel_rfl
  i233 := by kernel_rfl
  m17 := by kernel_rfl
  m18 := by kernel_rfl
  m19 := by kernel_rfl }
open Go.RowKit Go.Sort Go.Lib in
theorem Tryd.strconv_Itoa (n : Int) (h0 : -9223372036854775808 ≤ n) (h1 : n ≤ 9223372036854775807) (w : World) (htab : Lib.TabIs Tryd.prog w "internal/strconv.uint64pow10" .u64 Lib.pow10Tab) :
    Calls Tryd.prog 66 #[.int .i64 n] w fun e w' => e = .returned (.string ⟨(Lib.itoa n).toArray⟩) ∧ ∃ k os, w' = grow (w.drewN k) os := Any.strconv_Itoa Tryd.laysM171 n h0 h1 w htab
end Go.Proofs


namespace Go.Proofs.YtkohjiajbdkcbaaDoor.All
open Go.RowKit Go.Proofs.YtkohjiajbdkcbaaDoorW.PrintWords Go.Proofs.YtkohjiajbdkcbaaDoorW.PrintLast Go.Proofs.YtkohjiajbdkcbaaDoorW.PrintMore
attribute [local go_sem] max2_int min2_int max_two min_two max_three min_three max_four min_four   -- for this text's walks alone
set_option linter.unusedVariables false
set_option linter.unusedSimpArgs false

/-! ### impl_Disassemble: function 27 -/
def symLine (syms : List S109) (n : Int) : List UInt8 := syms.flatMap fun s => if s.f1 = true ∧ s.f2 = n then s.f0.data.toList ++ [58, 10] else []
def numsLine (l : List Int) : List UInt8 := l.flatMap fun x => [32] ++ Lib.itoa x
def chunk8 (code : List Int) (n : Nat) : List Int := (code.take (8 * n + 8)).drop (8 * n)
def r64 (x : Int) : Prop := -9223372036854775808 ≤ x ∧ x ≤ 9223372036854775807
instance (x : Int) : Decidable (r64 x) := by unfold r64; exact inferInstance
def disLine (syms : List S109) (n : Nat) (t : Bool × Int × Int × Int × Int × Int) : List UInt8 := symLine syms n ++ Lib.itoa n ++ numsLine [t.2.1, t.2.2.1, t.2.2.2.1, t.2.2.2.2.1, t.2.2.2.2.2] ++ [10]
def disTo (D : List Int → Option (Bool × Int × Int × Int × Int × Int)) (code : List Int) (syms : List S109) : Nat → Option (List UInt8)
 | 0 => some []
 | n + 1 => (disTo D code syms n).bind fun a => (D (chunk8 code n)).bind fun t => if r64 t.2.1 ∧ r64 t.2.2.1 ∧ r64 t.2.2.2.1 ∧ r64 t.2.2.2.2.1 ∧ r64 t.2.2.2.2.2 then some (a ++ disLine syms n t) else none
def symSum (syms : List S109) : Nat := (syms.map fun s => s.f0.size + 2).sum
def impl_Disassemble.f (k : Nat) (l0_0 : List Int) (l0_1 : List Int) (a0_2 : Int) (l0_3 : List Int) (a0_4 : Int) (l0_5 : List S109) : Option ByteArray := (impl_ImageFault.f k l0_0 l0_1 a0_2 l0_3 a0_4 l0_5).bind fun t => if t = 0 then (if l0_0.length ≤ 4194304 ∧ symSum l0_5 ≤ 4194304 then (disTo (impl_DecodeIns.f k) l0_0 l0_5 (l0_0.length / 8)).bind fun a => some (bsOf a) else none) else some (⟨#[]⟩ : ByteArray)
theorem itoa_len64 {x : Int} (h : r64 x) : (Lib.itoa x).length ≤ 21 := Lib.itoa_length_le _ h.1 h.2
theorem symLine_len (n : Int) : ∀ syms : List S109, (symLine syms n).length ≤ symSum syms
 | [] => Nat.le_refl _
 | s :: l => by
  have h1 := symLine_len n l
  unfold symLine symSum at h1 ⊢
  simp only [List.flatMap_cons, List.length_append, List.map_cons, List.sum_cons]
  have : (if s.f1 = true ∧ s.f2 = n then s.f0.data.toList ++ [58, 10] else []).length ≤ s.f0.size + 2 := by
   split
   · rw [List.length_append, Array.length_toList]; exact Nat.le_refl _
   · exact Nat.zero_le _
  omega
theorem symSum_len : ∀ syms : List S109, 2 * syms.length ≤ symSum syms
 | [] => Nat.le_refl _
 | s :: l => by
  have h1 := symSum_len l
  unfold symSum at h1 ⊢
  simp only [List.map_cons, List.sum_cons, List.length_cons]
  omega
theorem symLine_succ (syms : List S109) (n : Int) (m : Nat) (h : m < syms.length) : symLine (syms.take (m + 1)) n = symLine (syms.take m) n ++ (if syms[m].f1 = true ∧ syms[m].f2 = n then syms[m].f0.data.toList ++ [58, 10] else []) := by
 unfold symLine
 rw [List.take_succ_eq_append_getElem h, List.flatMap_append]
 simp
theorem symSum_take (m : Nat) (syms : List S109) : symSum (syms.take m) ≤ symSum syms := by
 unfold symSum
 conv => rhs; rw [← List.take_append_drop m syms]
 rw [List.map_append, List.sum_append]
 omega
theorem symSum_at (syms : List S109) (m : Nat) (h : m < syms.length) : syms[m].f0.size + 2 ≤ symSum syms := by
 have h1 := symSum_take (m + 1) syms
 rw [List.take_succ_eq_append_getElem h] at h1
 unfold symSum at h1 ⊢
 rw [List.map_append, List.sum_append] at h1
 simp only [List.map_cons, List.map_nil, List.sum_cons, List.sum_nil] at h1
 omega
theorem numsLine_len : ∀ l : List Int, (∀ x ∈ l, r64 x) → (numsLine l).length ≤ 22 * l.length
 | [], _ => Nat.le_refl _
 | x :: l, h => by
  have h1 := numsLine_len l (fun y hy => h y (List.mem_cons_of_mem _ hy))
  have h2 := itoa_len64 (h x List.mem_cons_self)
  unfold numsLine at h1 ⊢
  simp only [List.flatMap_cons, List.length_append, List.length_cons, List.length_nil] at h1 ⊢
  omega
theorem disTo_len {D : List Int → Option (Bool × Int × Int × Int × Int × Int)} {code : List Int} {syms : List S109} (hs : symSum syms ≤ 4194304) : ∀ (n : Nat) (a : List UInt8), n ≤ 524288 → disTo D code syms n = some a → a.length ≤ n * 4194500
 | 0, a, _, h => by obtain rfl := Option.some.inj h; exact Nat.zero_le _
 | n + 1, a, hn, h => by
  unfold disTo at h
  obtain ⟨a0, h0, h⟩ := Option.bind_eq_some_iff.1 h
  obtain ⟨t, ht, h⟩ := Option.bind_eq_some_iff.1 h
  split at h
  · rename_i hr
    obtain rfl := Option.some.inj h
    have h1 := disTo_len hs n a0 (by omega) h0
    have h2 := symLine_len (n : Int) syms
    have h3 := numsLine_len [t.2.1, t.2.2.1, t.2.2.2.1, t.2.2.2.2.1, t.2.2.2.2.2] (by intro x hx; simp only [List.mem_cons, List.not_mem_nil, or_false] at hx; rcases hx with rfl | rfl | rfl | rfl | rfl; exact hr.1; exact hr.2.1; exact hr.2.2.1; exact hr.2.2.2.1; exact hr.2.2.2.2)
    have h4 := itoa_len64 (x := (n : Int)) ⟨by omega, by omega⟩
    unfold disLine
    simp only [List.length_append, List.length_cons, List.length_nil] at h3 ⊢
    omega
  · cases h
theorem disTo_prev {D : List Int → Option (Bool × Int × Int × Int × Int × Int)} {code : List Int} {syms : List S109} {n : Nat} {N : Nat} {r : List UInt8} (h : disTo D code syms N = some r) (hn : n ≤ N) : ∃ a, disTo D code syms n = some a := by
 induction N generalizing r with
 | zero =>
  obtain rfl : n = 0 := by omega
  exact ⟨_, h⟩
 | succ N ih =>
  rcases Nat.lt_or_ge N n with h1 | h1
  · obtain rfl : n = N + 1 := by omega
    exact ⟨_, h⟩
  · unfold disTo at h
    obtain ⟨a0, h0, _⟩ := Option.bind_eq_some_iff.1 h
    exact ih h0 h1
theorem disTo_next {D : List Int → Option (Bool × Int × Int × Int × Int × Int)} {code : List Int} {syms : List S109} {n : Nat} {N : Nat} {r a : List UInt8} (h : disTo D code syms N = some r) (hn : n < N) (ha : disTo D code syms n = some a) : ∃ t, D (chunk8 code n) = some t ∧ r64 t.2.1 ∧ r64 t.2.2.1 ∧ r64 t.2.2.2.1 ∧ r64 t.2.2.2.2.1 ∧ r64 t.2.2.2.2.2 ∧ disTo D code syms (n + 1) = some (a ++ disLine syms n t) := by
 obtain ⟨b, hb⟩ := disTo_prev h (show n + 1 ≤ N from hn)
 have hb' := hb
 unfold disTo at hb
 rw [ha] at hb
 obtain ⟨t, ht, hb⟩ := Option.bind_eq_some_iff.1 (show ((D (chunk8 code n)).bind _) = some b from hb)
 split at hb
 · rename_i hr
   obtain rfl := Option.some.inj hb
   exact ⟨t, ht, hr.1, hr.2.1, hr.2.2.1, hr.2.2.2.1, hr.2.2.2.2, hb'⟩
 · cases hb
theorem itoa_c {n : Int} (h : r64 n) (w : World) (ht : LtTab w) : Calls Tryd.prog 66 #[.int .i64 n] w fun e w' => e = .returned (.string (bsOf (Lib.itoa n))) ∧ Below w.heap.size w w' := (Tryd.strconv_Itoa n h.1 h.2 w ht.here).mono (by rintro e w' ⟨rfl, q, os, rfl⟩; exact ⟨rfl, below_grow _ _ _⟩)
theorem fmt_c {n : Int} (h : r64 n) (w : World) (ht : LtTab w) : Calls Tryd.prog 39 #[.int .i64 n, .int .i64 10] w fun e w' => e = .returned (.string (bsOf (Lib.itoa n))) ∧ Below w.heap.size w w' := (Tryd.strconv_FormatInt_10 n h.1 h.2 w ht.here).mono (by rintro e w' ⟨rfl, q, os, rfl⟩; exact ⟨rfl, below_grow _ _ _⟩)
theorem sp_cells (l : List UInt8) : ((⟨#[32]⟩ : ByteArray) ++ bsOf l).data.toList = [32] ++ l := by
 rw [show (⟨#[32]⟩ : ByteArray) = bsOf [32] from rfl, bsOf_append]
 rfl
theorem num5_len {t2 t3 t4 t5 t6 : Int} (hR : r64 t2 ∧ r64 t3 ∧ r64 t4 ∧ r64 t5 ∧ r64 t6) : (numsLine ([t2, t3, t4, t5, t6].take 5)).length ≤ 110 := by
 have h := numsLine_len [t2, t3, t4, t5, t6] (by intro x hx; simp only [List.mem_cons, List.not_mem_nil, or_false] at hx; rcases hx with rfl | rfl | rfl | rfl | rfl; exact hR.1; exact hR.2.1; exact hR.2.2.1; exact hR.2.2.2.1; exact hR.2.2.2.2)
 exact h
theorem bl_new {w : World} {b B : Nat} (h : w.heap[b]? = some (.cells #[.pointer none, .slice none 0 0] 87 (0, 0))) (hB : B ≤ b) : Lib.IsBuilder 87 5 B b [] w :=
 Or.inl ⟨hB, .slice none 0 0, h, World.ownsRow_nil _ _ _ _, by simp [Value.ownBlock]⟩
theorem bl_app {s : List UInt8} {t : ByteArray} {B b : Nat} {w : World} {p : Value} (h : Lib.BuilderAt 87 5 B b p (Lib.byteCells s ++ Lib.strCells t) w) (hp : p = .pointer (some ⟨b, 0, none⟩)) : Lib.IsBuilder 87 5 B b (Lib.byteCells (s ++ t.data.toList)) w := by
 subst hp
 refine Or.inr ?_
 rw [Lib.byteCells_append]
 exact h
theorem bl_below {B b : Nat} {bs : List Value} {w w' : World} (h : Lib.IsBuilder 87 5 B b bs w) (hb : Below w.heap.size w w') : Lib.IsBuilder 87 5 B b bs w' := by
 have key : ∀ p, Lib.BuilderAt 87 5 B b p bs w → Lib.BuilderAt 87 5 B b p bs w' := by
  rintro p ⟨hB, v, hv, hown, hne⟩
  exact ⟨hB, v, blk_below hv hb, hown.kept (grown_of_below hb (some b)) (Or.inr hne), hne⟩
 rcases h with h | h
 · exact Or.inl (key _ h)
 · exact Or.inr (key _ h)
theorem dis_measure (n m : Nat) (h : m < n) (hn : n ≤ 9223372036854775806) : n - (intOf (.int .i64 (wrap64 ((m : Int) + 1)))).toNat < n - (intOf (.int .i64 (m : Int))).toNat := by
 have e : wrap64 ((m : Int) + 1) = ((m + 1 : Nat) : Int) := by unfold wrap64; omega
 rw [e]
 show n - ((m + 1 : Nat) : Int).toNat < n - ((m : Nat) : Int).toNat
 rw [Int.toNat_natCast, Int.toNat_natCast]
 omega
theorem dis_measure2 (n m : Nat) (h : m < n) : n - (intOf (.int .i64 ((m : Int) + 1))).toNat < n - (intOf (.int .i64 (m : Int))).toNat := by
 show n - ((m + 1 : Nat) : Int).toNat < n - ((m : Nat) : Int).toNat
 rw [Int.toNat_natCast, Int.toNat_natCast]
 omega
set_option maxHeartbeats 8000000 in
set_option maxRecDepth 100000 in
theorem impl_Disassemble.calls (k : Nat) (A0_0 : Option Addr) (c0_0 : Nat) (l0_0 : List Int) (A0_1 : Option Addr) (c0_1 : Nat) (l0_1 : List Int) (a0_2 : Int) (A0_3 : Option Addr) (c0_3 : Nat) (l0_3 : List Int) (a0_4 : Int) (A0_5 : Option Addr) (c0_5 : Nat) (l0_5 : List S109) (r : ByteArray) (w : World) (ht : LtTab w) (hr0_0 : Kd.C (Kd.int .u8) w A0_0 l0_0.length l0_0) (hc0_0 : l0_0.length ≤ c0_0) (hr0_1 : Kd.C (Kd.int .u8) w A0_1 l0_1.length l0_1) (hc0_1 : l0_1.length ≤ c0_1) (hr0_3 : Kd.C (Kd.int .i64) w A0_3 l0_3.length l0_3) (hc0_3 : l0_3.length ≤ c0_3) (hr0_5 : Kd.C k109 w A0_5 l0_5.length l0_5) (hc0_5 : l0_5.length ≤ c0_5) (h : impl_Disassemble.f k l0_0 l0_1 a0_2 l0_3 a0_4 l0_5 = some r) :
 Calls Tryd.prog 27 #[.agg #[.slice A0_0 l0_0.length c0_0, .slice A0_1 l0_1.length c0_1, .int .i64 a0_2, .slice A0_3 l0_3.length c0_3, .int .i64 a0_4, .slice A0_5 l0_5.length c0_5]] w fun e w' => e = .returned (.string r) ∧ Below w.heap.size w w' := by
 unfold impl_Disassemble.f at h
 obtain ⟨t, hI, h⟩ := Option.bind_eq_some_iff.1 h
 have HT := Aside0.mk ht
 have H0 := Aside0.mk hr0_0
 have H1 := Aside0.mk hr0_1
 have H3 := Aside0.mk hr0_3
 have H5 := Aside0.mk hr0_5
 have HC0 := Aside0.mk hc0_0
 have HC1 := Aside0.mk hc0_1
 have HC3 := Aside0.mk hc0_3
 have HC5 := Aside0.mk hc0_5
 have HI := Aside0.mk hI
 have HB := Aside0.mk (Below.refl w.heap.size w)
 clear ht hr0_0 hr0_1 hr0_3 hr0_5 hc0_0 hc0_1 hc0_3 hc0_5 hI
 have hu := Tryd.underlying60
 have hu2 := Tryd.underlying87
 have hu3 := Tryd.underlying109
 have hu4 := Tryd.underlying111
 by_cases ht0 : t = 0
 rotate_left
 · rw [if_neg ht0] at h
   obtain rfl := Option.some.inj h
   have e1 : (t == 0) = false := beq_eq_false_iff_ne.mpr ht0
   have e2 : (t != 0) = true := bne_iff_ne.mpr ht0
   clear h ht0
   go_enter Tryd.func27, Tryd.ntmps27
   go_wp2_with (first | ((with_reducible refine gate_dst (N := 1) rfl ?_); refine box_event ?hg (N := 1) ?hd (cs := #[.slice A0_0 l0_0.length c0_0, .slice A0_1 l0_1.length c0_1, .int .i64 a0_2, .slice A0_3 l0_3.length c0_3, .int .i64 a0_4, .slice A0_5 l0_5.length c0_5]) (t := 60) ?hr ?_; (case hd => rfl); (case hg => rfl); (case hr => first | (go_simp; done) | (go_simp; rfl)); intro gx hg w1 hbox hb; have n0_ := Aside0.mk (below_step HB.out hb); have BX := Aside0.mk hbox; clear HB; have HB := n0_; clear n0_; clear hb hbox hg; have hcw0 : w1.cell? ⟨gx, 0, none⟩ = some (.slice A0_0 l0_0.length c0_0) := (blk_cell BX.out 0).trans rfl; have hcw1 : w1.cell? ⟨gx, 1, none⟩ = some (.slice A0_1 l0_1.length c0_1) := (blk_cell BX.out 1).trans rfl; have hcw2 : w1.cell? ⟨gx, 2, none⟩ = some (.int .i64 a0_2) := (blk_cell BX.out 2).trans rfl; have hcw3 : w1.cell? ⟨gx, 3, none⟩ = some (.slice A0_3 l0_3.length c0_3) := (blk_cell BX.out 3).trans rfl; have hcw4 : w1.cell? ⟨gx, 4, none⟩ = some (.int .i64 a0_4) := (blk_cell BX.out 4).trans rfl; have hcw5 : w1.cell? ⟨gx, 5, none⟩ = some (.slice A0_5 l0_5.length c0_5) := (blk_cell BX.out 5).trans rfl) | (go_at_call 64; (with_reducible refine (impl_ImageFault.calls k A0_0 c0_0 l0_0 A0_1 c0_1 l0_1 a0_2 A0_3 c0_3 l0_3 a0_4 A0_5 c0_5 l0_5 _ _ ?i0 HC0.out ?i1 HC1.out ?i3 HC3.out ?i5 HC5.out HI.out).mono ?_); (case i0 => exact Kd.C_below H0.out (by repeat (first | (with_reducible first | exact HB.out | apply below_alloc | apply pw_below_drewN | apply below_drew1) | exact HB.out))); (case i1 => exact Kd.C_below H1.out (by repeat (first | (with_reducible first | exact HB.out | apply below_alloc | apply pw_below_drewN | apply below_drew1) | exact HB.out))); (case i3 => exact Kd.C_below H3.out (by repeat (first | (with_reducible first | exact HB.out | apply below_alloc | apply pw_below_drewN | apply below_drew1) | exact HB.out))); (case i5 => exact Kd.C_below H5.out (by repeat (first | (with_reducible first | exact HB.out | apply below_alloc | apply pw_below_drewN | apply below_drew1) | exact HB.out))); rintro e w2 ⟨rfl, hb⟩; have n0_ := Aside0.mk (below_step HB.out hb); have n1_ := Aside0.mk (blk_below BX.out hb); clear HB BX hb; have HB := n0_; have BX := n1_; clear n0_ n1_; have hcy0 : w2.cell? ⟨gx, 0, none⟩ = some (.slice A0_0 l0_0.length c0_0) := (blk_cell BX.out 0).trans rfl; have hcy1 : w2.cell? ⟨gx, 1, none⟩ = some (.slice A0_1 l0_1.length c0_1) := (blk_cell BX.out 1).trans rfl; have hcy2 : w2.cell? ⟨gx, 2, none⟩ = some (.int .i64 a0_2) := (blk_cell BX.out 2).trans rfl; have hcy3 : w2.cell? ⟨gx, 3, none⟩ = some (.slice A0_3 l0_3.length c0_3) := (blk_cell BX.out 3).trans rfl; have hcy4 : w2.cell? ⟨gx, 4, none⟩ = some (.int .i64 a0_4) := (blk_cell BX.out 4).trans rfl; have hcy5 : w2.cell? ⟨gx, 5, none⟩ = some (.slice A0_5 l0_5.length c0_5) := (blk_cell BX.out 5).trans rfl))
   go_ret
   exact ⟨rfl, HB.out⟩
 rw [if_pos ht0] at h
 split at h
 rotate_left
 · cases h
 rename_i hlim
 obtain ⟨full, hfull, h⟩ := Option.bind_eq_some_iff.1 h
 obtain rfl := Option.some.inj h
 have HF := Aside0.mk hfull
 have HL := Aside0.mk hlim
 clear h hlim hfull
 subst ht0
 go_enter Tryd.func27, Tryd.ntmps27
 go_wp2_with (first | ((with_reducible refine gate_dst (N := 1) rfl ?_); refine box_event ?hg (N := 1) ?hd (cs := #[.slice A0_0 l0_0.length c0_0, .slice A0_1 l0_1.length c0_1, .int .i64 a0_2, .slice A0_3 l0_3.length c0_3, .int .i64 a0_4, .slice A0_5 l0_5.length c0_5]) (t := 60) ?hr ?_; (case hd => rfl); (case hg => rfl); (case hr => first | (go_simp; done) | (go_simp; rfl)); intro gx hg w1 hbox hb; have n0_ := Aside0.mk (below_step HB.out hb); have BX := Aside0.mk hbox; clear HB; have HB := n0_; clear n0_; clear hb hbox hg; have hcw0 : w1.cell? ⟨gx, 0, none⟩ = some (.slice A0_0 l0_0.length c0_0) := (blk_cell BX.out 0).trans rfl; have hcw1 : w1.cell? ⟨gx, 1, none⟩ = some (.slice A0_1 l0_1.length c0_1) := (blk_cell BX.out 1).trans rfl; have hcw2 : w1.cell? ⟨gx, 2, none⟩ = some (.int .i64 a0_2) := (blk_cell BX.out 2).trans rfl; have hcw3 : w1.cell? ⟨gx, 3, none⟩ = some (.slice A0_3 l0_3.length c0_3) := (blk_cell BX.out 3).trans rfl; have hcw4 : w1.cell? ⟨gx, 4, none⟩ = some (.int .i64 a0_4) := (blk_cell BX.out 4).trans rfl; have hcw5 : w1.cell? ⟨gx, 5, none⟩ = some (.slice A0_5 l0_5.length c0_5) := (blk_cell BX.out 5).trans rfl) | (go_at_call 64; (with_reducible refine (impl_ImageFault.calls k A0_0 c0_0 l0_0 A0_1 c0_1 l0_1 a0_2 A0_3 c0_3 l0_3 a0_4 A0_5 c0_5 l0_5 _ _ ?i0 HC0.out ?i1 HC1.out ?i3 HC3.out ?i5 HC5.out HI.out).mono ?_); (case i0 => exact Kd.C_below H0.out (by repeat (first | (with_reducible first | exact HB.out | apply below_alloc | apply pw_below_drewN | apply below_drew1) | exact HB.out))); (case i1 => exact Kd.C_below H1.out (by repeat (first | (with_reducible first | exact HB.out | apply below_alloc | apply pw_below_drewN | apply below_drew1) | exact HB.out))); (case i3 => exact Kd.C_below H3.out (by repeat (first | (with_reducible first | exact HB.out | apply below_alloc | apply pw_below_drewN | apply below_drew1) | exact HB.out))); (case i5 => exact Kd.C_below H5.out (by repeat (first | (with_reducible first | exact HB.out | apply below_alloc | apply pw_below_drewN | apply below_drew1) | exact HB.out))); rintro e w2 ⟨rfl, hb⟩; have n0_ := Aside0.mk (below_step HB.out hb); have n1_ := Aside0.mk (blk_below BX.out hb); clear HB BX hb; have HB := n0_; have BX := n1_; clear n0_ n1_; have hcy0 : w2.cell? ⟨gx, 0, none⟩ = some (.slice A0_0 l0_0.length c0_0) := (blk_cell BX.out 0).trans rfl; have hcy1 : w2.cell? ⟨gx, 1, none⟩ = some (.slice A0_1 l0_1.length c0_1) := (blk_cell BX.out 1).trans rfl; have hcy2 : w2.cell? ⟨gx, 2, none⟩ = some (.int .i64 a0_2) := (blk_cell BX.out 2).trans rfl; have hcy3 : w2.cell? ⟨gx, 3, none⟩ = some (.slice A0_3 l0_3.length c0_3) := (blk_cell BX.out 3).trans rfl; have hcy4 : w2.cell? ⟨gx, 4, none⟩ = some (.int .i64 a0_4) := (blk_cell BX.out 4).trans rfl; have hcy5 : w2.cell? ⟨gx, 5, none⟩ = some (.slice A0_5 l0_5.length c0_5) := (blk_cell BX.out 5).trans rfl) | ((with_reducible refine gate_dst (N := 3) rfl ?_); refine box_event ?hg (N := 3) ?hd (cs := #[.pointer none, .slice none 0 0]) (t := 87) ?hr ?_; (case hd => rfl); (case hg => rfl); (case hr => first | (go_simp; done) | (go_simp; rfl)); intro gb hg w3 hbox hb; have BI := Aside0.mk (bl_new (B := gb) hbox (Nat.le_refl _)); have LT := Aside0.mk (show gx < gb from by rw [hg]; exact blk_lt BX.out); have BS := Aside0.mk (blk_lt hbox); have n0_ := Aside0.mk (below_step HB.out hb); have n1_ := Aside0.mk (blk_below BX.out hb); have GB := Aside0.mk (show w.heap.size ≤ gb from by rw [hg]; exact HB.out.size); clear HB BX; have HB := n0_; have BX := n1_; clear n0_ n1_; clear hb hbox hg; have hcx0 : w3.cell? ⟨gx, 0, none⟩ = some (.slice A0_0 l0_0.length c0_0) := (blk_cell BX.out 0).trans rfl; have hcx1 : w3.cell? ⟨gx, 1, none⟩ = some (.slice A0_1 l0_1.length c0_1) := (blk_cell BX.out 1).trans rfl; have hcx2 : w3.cell? ⟨gx, 2, none⟩ = some (.int .i64 a0_2) := (blk_cell BX.out 2).trans rfl; have hcx3 : w3.cell? ⟨gx, 3, none⟩ = some (.slice A0_3 l0_3.length c0_3) := (blk_cell BX.out 3).trans rfl; have hcx4 : w3.cell? ⟨gx, 4, none⟩ = some (.int .i64 a0_4) := (blk_cell BX.out 4).trans rfl; have hcx5 : w3.cell? ⟨gx, 5, none⟩ = some (.slice A0_5 l0_5.length c0_5) := (blk_cell BX.out 5).trans rfl))
 go_loopw [4] (fun v4 w' => ∃ (n : Nat) (a : List UInt8), n ≤ l0_0.length / 8 ∧ disTo (impl_DecodeIns.f k) l0_0 l0_5 n = some a ∧ v4 = .int .i64 (n : Int) ∧ Aside0 (Lib.IsBuilder 87 5 gb gb (Lib.byteCells a) w') ∧ Aside0 (gb < w'.heap.size) ∧ Aside0 (Below w.heap.size w w') ∧ Aside0 (w'.heap[gx]? = some (.cells #[.slice A0_0 l0_0.length c0_0, .slice A0_1 l0_1.length c0_1, .int .i64 a0_2, .slice A0_3 l0_3.length c0_3, .int .i64 a0_4, .slice A0_5 l0_5.length c0_5] 60 (0, 0)))) (fun v4 _ => l0_0.length / 8 - (intOf v4).toNat)
 case atStart => exact ⟨0, [], Nat.zero_le _, rfl, rfl, BI, BS, HB, BX⟩
 case round =>
  clear BI BS HB BX hcw0 hcw1 hcw2 hcw3 hcw4 hcw5 hcy0 hcy1 hcy2 hcy3 hcy4 hcy5 hcx0 hcx1 hcx2 hcx3 hcx4 hcx5
  obtain ⟨n, a, hn, hna, rfl, BI, BS, HB, BX⟩ := hrel
  have hcr0 : wr.cell? ⟨gx, 0, none⟩ = some (.slice A0_0 l0_0.length c0_0) := (blk_cell BX.out 0).trans rfl
  have hcr1 : wr.cell? ⟨gx, 1, none⟩ = some (.slice A0_1 l0_1.length c0_1) := (blk_cell BX.out 1).trans rfl
  have hcr2 : wr.cell? ⟨gx, 2, none⟩ = some (.int .i64 a0_2) := (blk_cell BX.out 2).trans rfl
  have hcr3 : wr.cell? ⟨gx, 3, none⟩ = some (.slice A0_3 l0_3.length c0_3) := (blk_cell BX.out 3).trans rfl
  have hcr4 : wr.cell? ⟨gx, 4, none⟩ = some (.int .i64 a0_4) := (blk_cell BX.out 4).trans rfl
  have hcr5 : wr.cell? ⟨gx, 5, none⟩ = some (.slice A0_5 l0_5.length c0_5) := (blk_cell BX.out 5).trans rfl
  have hN : wrap64 ((l0_0.length : Int) / 8) = ((l0_0.length / 8 : Nat) : Int) := by have := HL.out.1; unfold wrap64; omega
  by_cases hlt : n < l0_0.length / 8
  · have c1 : (wrap64 ((l0_0.length : Int) / 8) ≤ (n : Int)) = False := eq_false (by rw [hN]; omega)
    have c2 : decide ((n : Int) < wrap64 ((l0_0.length : Int) / 8)) = true := decide_eq_true (by rw [hN]; omega)
    have c3 : ((n : Int) < wrap64 ((l0_0.length : Int) / 8)) = True := eq_true (by rw [hN]; omega)
    obtain ⟨⟨t1, t2, t3, t4, t5, t6⟩, htD, hr1, hr2, hr3, hr4, hr5, hnext⟩ := disTo_next HF.out hlt hna
    replace hr1 : r64 t2 := hr1
    replace hr2 : r64 t3 := hr2
    replace hr3 : r64 t4 := hr3
    replace hr4 : r64 t5 := hr4
    replace hr5 : r64 t6 := hr5
    replace hnext : disTo (impl_DecodeIns.f k) l0_0 l0_5 (n + 1) = some (a ++ (symLine l0_5 n ++ Lib.itoa n ++ numsLine [t2, t3, t4, t5, t6] ++ [10])) := hnext
    have HD := Aside0.mk htD
    have HR := Aside0.mk (And.intro hr1 (And.intro hr2 (And.intro hr3 (And.intro hr4 hr5))))
    have HX := Aside0.mk hnext
    have HA := Aside0.mk (disTo_len HL.out.2 n a (by have := HL.out.1; omega) hna)
    have HLT := Aside0.mk hlt
    clear htD hr1 hr2 hr3 hr4 hr5 hnext hna hn hlt hN
    go_wp2
    go_loopw [24] (fun v24 w' => ∃ m : Nat, m ≤ l0_5.length ∧ v24 = .int .i64 (m : Int) ∧ Aside0 (Lib.IsBuilder 87 5 gb gb (Lib.byteCells (a ++ symLine (l0_5.take m) n)) w') ∧ Aside0 (gb < w'.heap.size) ∧ Aside0 (Below w.heap.size w w') ∧ Aside0 (w'.heap[gx]? = some (.cells #[.slice A0_0 l0_0.length c0_0, .slice A0_1 l0_1.length c0_1, .int .i64 a0_2, .slice A0_3 l0_3.length c0_3, .int .i64 a0_4, .slice A0_5 l0_5.length c0_5] 60 (0, 0)))) (fun v24 _ => l0_5.length - (intOf v24).toNat)
    case atStart => exact ⟨0, Nat.zero_le _, rfl, ⟨by have h1_ := BI.out; rw [show symLine (l0_5.take 0) n = [] from rfl, List.append_nil]; exact h1_⟩, BS, HB, BX⟩
    case round =>
     clear BI BS HB BX hcr0 hcr1 hcr2 hcr3 hcr4 hcr5
     obtain ⟨m, hm, rfl, BI, BS, HB, BX⟩ := hrel
     have hcq0 : wr.cell? ⟨gx, 0, none⟩ = some (.slice A0_0 l0_0.length c0_0) := (blk_cell BX.out 0).trans rfl
     have hcq1 : wr.cell? ⟨gx, 1, none⟩ = some (.slice A0_1 l0_1.length c0_1) := (blk_cell BX.out 1).trans rfl
     have hcq2 : wr.cell? ⟨gx, 2, none⟩ = some (.int .i64 a0_2) := (blk_cell BX.out 2).trans rfl
     have hcq3 : wr.cell? ⟨gx, 3, none⟩ = some (.slice A0_3 l0_3.length c0_3) := (blk_cell BX.out 3).trans rfl
     have hcq4 : wr.cell? ⟨gx, 4, none⟩ = some (.int .i64 a0_4) := (blk_cell BX.out 4).trans rfl
     have hcq5 : wr.cell? ⟨gx, 5, none⟩ = some (.slice A0_5 l0_5.length c0_5) := (blk_cell BX.out 5).trans rfl
     by_cases hlm : m < l0_5.length
     · obtain ⟨ad, e5, hx0, hx1, hx2⟩ := at_T109 H5.out (m : Int) (by omega) (by omega)
       obtain ⟨sy, hsy⟩ : ∃ sy, sy = l0_5[m] := ⟨_, rfl⟩
       have hrd : rd_T109 l0_5 (m : Int) = sy := by rw [hsy]; simp [rd_T109, List.getElem?_eq_getElem hlm]
       rw [hrd, Int.toNat_natCast] at hx0 hx1 hx2
       replace hx0 := (HB.out.cell (World.block_lt_of_cell? w _ hx0)).trans hx0
       replace hx1 := (HB.out.cell (World.block_lt_of_cell? w _ hx1)).trans hx1
       replace hx2 := (HB.out.cell (World.block_lt_of_cell? w _ hx2)).trans hx2
       have hsl := symLine_len n (l0_5.take m)
       have hst := symSum_take m l0_5
       have hsa := symSum_at l0_5 m hlm
       have hsu := symLine_succ l0_5 n m hlm
       rw [← hsy] at hsa hsu
       obtain ⟨nm, hnm⟩ : ∃ nm, nm = sy.f0 := ⟨_, rfl⟩
       obtain ⟨b1, hb1⟩ : ∃ b1, b1 = sy.f1 := ⟨_, rfl⟩
       obtain ⟨v2, hv2⟩ : ∃ v2, v2 = sy.f2 := ⟨_, rfl⟩
       rw [← hnm] at hx0 hsa hsu
       rw [← hb1] at hx1 hsu
       rw [← hv2] at hx2 hsu
       have HM := Aside0.mk hlm
       have HSU := Aside0.mk hsu
       have HSL := Aside0.mk (show l0_5.length ≤ 2097152 from by have := HL.out.2; have := symSum_len l0_5; omega)
       have HSS := Aside0.mk (show nm.size + 2 ≤ 4194304 ∧ (symLine (l0_5.take m) n).length ≤ 4194304 from by have := HL.out.2; omega)
       have z0 : (nm.size + 2 ≤ 9223372036854775807) = True := eq_true (by have := HSS.out; omega)
       have z1 : (9223372036854775807 < nm.size + 2) = False := eq_false (by have := HSS.out; omega)
       have c4 : decide ((m : Int) < (l0_5.length : Int)) = true := decide_eq_true (by omega)
       cases e5
       clear hm hsl hst hsa hsu hnm hb1 hv2 hsy hrd
       by_cases k1 : b1 = true
       · subst k1
         by_cases k2 : v2 = (n : Int)
         · subst k2
           go_wp2_with (first | ((with_reducible refine gate_dst (N := 6) rfl ?_); refine box_event ?hg (N := 6) ?hd (cs := #[.string ⟨#[]⟩, .bool false, .int .i64 0]) (t := 109) ?hr ?_; (case hd => rfl); (case hg => rfl); (case hr => first | (go_simp; done) | (go_simp; rfl)); intro gs hg w5 hbox hb; have HBS := Aside0.mk hb; have GS := Aside0.mk (show wr.heap.size ≤ gs from by rw [hg]; exact Nat.le_refl _); have hne1 : gx ≠ gs := Nat.ne_of_lt (Nat.lt_of_lt_of_le (blk_lt BX.out) GS.out); have hne2 : gs ≠ gx := Ne.symm hne1; have hcs0 : w5.cell? ⟨gs, 0, none⟩ = some (.string ⟨#[]⟩) := (blk_cell hbox 0).trans rfl; have hcs1 : w5.cell? ⟨gs, 1, none⟩ = some (.bool false) := (blk_cell hbox 1).trans rfl; have hcs2 : w5.cell? ⟨gs, 2, none⟩ = some (.int .i64 0) := (blk_cell hbox 2).trans rfl; have hfs0 := blk_frozen hbox 0; have hfs1 := blk_frozen hbox 1; have hfs2 := blk_frozen hbox 2; clear hbox hb hg) | (go_at_call 40; (with_reducible refine (bldk_WriteString gb gb (Lib.byteCells (a ++ symLine (l0_5.take m) n)) (nm ++ (⟨#[58, 10]⟩ : ByteArray)) _ ?wbI ?wl ?wb).mono ?_); (case wbI => exact bl_below BI.out (by repeat (first | exact HBS.out | refine below_set ?_ GS.out))); (case wl => have h1_ := HA.out; have h2_ := HSS.out; have h3_ := HLT.out; have h4_ := HL.out.1; simp only [Lib.byteCells_length, List.length_append, ByteArray.size_append]; show _ + (nm.size + 2) ≤ _; omega); (case wb => exact Nat.le_trans (Nat.le_of_lt BS.out) (show Below _ _ _ from (by repeat (first | exact HBS.out | refine below_set ?_ GS.out))).size); rintro e w6 ⟨rfl, hat, hb, hkk⟩; have n0_ := Aside0.mk ((below_step HB.out (by repeat (first | exact HBS.out | refine below_set ?_ GS.out))).trans (hb.mono GB.out)); have n1_ := Aside0.mk ((hb.block gx LT.out).trans (blk_below BX.out (by repeat (first | exact HBS.out | refine below_set ?_ GS.out)))); have n2_ := Aside0.mk (bl_app hat rfl); have n3_ := Aside0.mk (Nat.lt_of_lt_of_le (Nat.lt_of_lt_of_le BS.out (show Below _ _ _ from (by repeat (first | exact HBS.out | refine below_set ?_ GS.out))).size) hb.size); clear HB BX BI BS hb hat hkk; have HB := n0_; have BX := n1_; have BI := n2_; have BS := n3_; clear n0_ n1_ n2_ n3_))
           go_roundw
           case measure => exact dis_measure _ _ HM.out (by have := HSL.out; omega)
           case rel => exact ⟨m + 1, HM.out, by (have := HM.out; have := HSL.out; refine congrArg _ ?_; unfold wrap64; omega), ⟨by have h1_ := BI.out; rw [HSU.out, if_pos (by simp), ← List.append_assoc]; exact h1_⟩, BS, HB, BX⟩
         · have k3 : (v2 == (n : Int)) = false := beq_eq_false_iff_ne.mpr k2
           have K2 := Aside0.mk k2
           clear k2
           go_wp2_with (first | ((with_reducible refine gate_dst (N := 6) rfl ?_); refine box_event ?hg (N := 6) ?hd (cs := #[.string ⟨#[]⟩, .bool false, .int .i64 0]) (t := 109) ?hr ?_; (case hd => rfl); (case hg => rfl); (case hr => first | (go_simp; done) | (go_simp; rfl)); intro gs hg w5 hbox hb; have HBS := Aside0.mk hb; have GS := Aside0.mk (show wr.heap.size ≤ gs from by rw [hg]; exact Nat.le_refl _); have hne1 : gx ≠ gs := Nat.ne_of_lt (Nat.lt_of_lt_of_le (blk_lt BX.out) GS.out); have hne2 : gs ≠ gx := Ne.symm hne1; have hcs0 : w5.cell? ⟨gs, 0, none⟩ = some (.string ⟨#[]⟩) := (blk_cell hbox 0).trans rfl; have hcs1 : w5.cell? ⟨gs, 1, none⟩ = some (.bool false) := (blk_cell hbox 1).trans rfl; have hcs2 : w5.cell? ⟨gs, 2, none⟩ = some (.int .i64 0) := (blk_cell hbox 2).trans rfl; have hfs0 := blk_frozen hbox 0; have hfs1 := blk_frozen hbox 1; have hfs2 := blk_frozen hbox 2; clear hbox hb hg))
           go_roundw
           case measure => exact dis_measure _ _ HM.out (by have := HSL.out; omega)
           case rel => exact ⟨m + 1, HM.out, by (have := HM.out; have := HSL.out; refine congrArg _ ?_; unfold wrap64; omega), ⟨by rw [HSU.out, if_neg (fun h => K2.out h.2), List.append_nil]; exact bl_below BI.out (by repeat (first | exact HBS.out | refine below_set ?_ GS.out))⟩, ⟨Nat.lt_of_lt_of_le BS.out (show Below _ _ _ from (by repeat (first | exact HBS.out | refine below_set ?_ GS.out))).size⟩, ⟨below_step HB.out (by repeat (first | exact HBS.out | refine below_set ?_ GS.out))⟩, ⟨blk_below BX.out (by repeat (first | exact HBS.out | refine below_set ?_ GS.out))⟩⟩
       · have k4 := Bool.eq_false_iff.mpr k1
         subst k4
         clear k1
         go_wp2_with (first | ((with_reducible refine gate_dst (N := 6) rfl ?_); refine box_event ?hg (N := 6) ?hd (cs := #[.string ⟨#[]⟩, .bool false, .int .i64 0]) (t := 109) ?hr ?_; (case hd => rfl); (case hg => rfl); (case hr => first | (go_simp; done) | (go_simp; rfl)); intro gs hg w5 hbox hb; have HBS := Aside0.mk hb; have GS := Aside0.mk (show wr.heap.size ≤ gs from by rw [hg]; exact Nat.le_refl _); have hne1 : gx ≠ gs := Nat.ne_of_lt (Nat.lt_of_lt_of_le (blk_lt BX.out) GS.out); have hne2 : gs ≠ gx := Ne.symm hne1; have hcs0 : w5.cell? ⟨gs, 0, none⟩ = some (.string ⟨#[]⟩) := (blk_cell hbox 0).trans rfl; have hcs1 : w5.cell? ⟨gs, 1, none⟩ = some (.bool false) := (blk_cell hbox 1).trans rfl; have hcs2 : w5.cell? ⟨gs, 2, none⟩ = some (.int .i64 0) := (blk_cell hbox 2).trans rfl; have hfs0 := blk_frozen hbox 0; have hfs1 := blk_frozen hbox 1; have hfs2 := blk_frozen hbox 2; clear hbox hb hg))
         go_roundw
         case measure => exact dis_measure _ _ HM.out (by have := HSL.out; omega)
         case rel => exact ⟨m + 1, HM.out, by (have := HM.out; have := HSL.out; refine congrArg _ ?_; unfold wrap64; omega), ⟨by rw [HSU.out, if_neg (fun h => Bool.noConfusion h.1), List.append_nil]; exact bl_below BI.out (by repeat (first | exact HBS.out | refine below_set ?_ GS.out))⟩, ⟨Nat.lt_of_lt_of_le BS.out (show Below _ _ _ from (by repeat (first | exact HBS.out | refine below_set ?_ GS.out))).size⟩, ⟨below_step HB.out (by repeat (first | exact HBS.out | refine below_set ?_ GS.out))⟩, ⟨blk_below BX.out (by repeat (first | exact HBS.out | refine below_set ?_ GS.out))⟩⟩
     · have e : l0_5.take m = l0_5 := List.take_of_length_le (by omega)
       rw [e] at BI
       have hlf : decide ((m : Int) < (l0_5.length : Int)) = false := decide_eq_false (by omega)
       have hlg : decide (m < l0_5.length) = false := decide_eq_false hlm
       clear hm e
       have hnl := HLT.out
       have hll := HL.out.1
       have hcc := HC0.out
       have hf0 : 0 ≤ 8 * (n : Int) + 8 ∧ 8 * (n : Int) + 8 ≤ (c0_0 : Int) := by omega
       have hf2 : ¬ c0_0 = 8 * n := by omega
       have hln : (chunk8 l0_0 n).length = 8 := by unfold chunk8; rw [List.length_drop, List.length_take]; omega
       have hA9 := ((Kd.reads_of_C (d := (0 : Int)) (Kd.C_below H0.out HB.out)).take_ (8 * n + 8) (by omega)).drop_ (c := c0_0) (8 * n) (by omega) (by omega)
       rw [if_neg hf2] at hA9
       have hl8 : 8 * n + 8 - 8 * n = 8 := by omega
       rw [hl8] at hA9
       have HR5 := Aside0.mk (Kd.C_of_reads (h1 := fun _ => rfl) hA9)
       have HCA : ∀ W : World, Kd.C (Kd.int .u8) W (Option.map (fun x => x.add (8 * n)) A0_0) 8 (chunk8 l0_0 n) → Calls Tryd.prog 65 #[.slice (Option.map (fun x => x.add (8 * n)) A0_0) 8 (c0_0 - 8 * n)] W fun e w' => e = .returned (.agg #[.bool t1, .int .i64 t2, .int .i64 t3, .int .i64 t4, .int .i64 t5, .int .i64 t6]) ∧ Below W.heap.size W w' := by
        intro W hW
        have h1_ := impl_DecodeIns.calls k (Option.map (fun x => x.add (8 * n)) A0_0) (c0_0 - 8 * n) (chunk8 l0_0 n) t1 t2 t3 t4 t5 t6 W (by rw [hln]; exact hW) (by rw [hln]; omega) HD.out
        rw [hln] at h1_
        exact h1_
       have HCALL := Aside0.mk HCA
       clear HCA hA9 hl8 hln
       have hfd : ∀ (x1 : Bool) (x2 x3 x4 x5 x6 : Int) (W_ : World), (Instr.field 118 (.agg #[.bool x1, .int .i64 x2, .int .i64 x3, .int .i64 x4, .int .i64 x5, .int .i64 x6]) 1).run Tryd.prog W_ = .ok (.agg #[.int .i64 x2, .int .i64 x3, .int .i64 x4, .int .i64 x5, .int .i64 x6]) W_ := fun _ _ _ _ _ _ _ => by kernel_rfl
       have HN64 := Aside0.mk (show r64 (n : Int) from ⟨by omega, by omega⟩)
       have HSY := Aside0.mk (symLine_len n l0_5)
       go_wp2_with (first | (go_at_call 65; go_loud ((with_reducible refine (HCALL.out _ ?d0).mono ?_); (case d0 => exact HR5.out); rintro e w7 ⟨rfl, hb⟩; have n0_ := Aside0.mk (below_step HB.out hb); have n1_ := Aside0.mk (blk_below BX.out hb); have n2_ := Aside0.mk (bl_below BI.out hb); have n3_ := Aside0.mk (Nat.lt_of_lt_of_le BS.out hb.size); clear HB BX BI BS hb; have HB := n0_; have BX := n1_; have BI := n2_; have BS := n3_; clear n0_ n1_ n2_ n3_)) | (go_at_call 66; (with_reducible refine (itoa_c ?r6 _ ?tT).mono ?_); (case r6 => exact HN64.out); (case tT => exact HT.out.on (below_alloc HB.out _)); rintro e w8 ⟨rfl, hb⟩; have n0_ := Aside0.mk (below_step (below_alloc HB.out _) hb); have n1_ := Aside0.mk (blk_below (blk_alloc BX.out _) hb); have n2_ := Aside0.mk (bl_below (bl_below BI.out (below_alloc (Below.refl w7.heap.size w7) _)) hb); have n3_ := Aside0.mk (Nat.lt_of_lt_of_le (Nat.lt_of_lt_of_le BS.out (below_alloc (Below.refl w7.heap.size w7) _).size) hb.size); have BN := Aside0.mk (blk_below (blk_new w7 _) hb); have NL := Aside0.mk (Nat.ne_of_lt BS.out); clear HB BX BI BS hb; have HB := n0_; have BX := n1_; have BI := n2_; have BS := n3_; clear n0_ n1_ n2_ n3_; generalize w7.heap.size = gi at BN NL ⊢; obtain ⟨tx, htx⟩ : ∃ tx, tx = bsOf (Lib.itoa (n : Int)) := ⟨_, rfl⟩; rw [← htx]; have HTX := Aside0.mk htx; clear htx) | (go_at_call 40; (with_reducible refine (bldk_WriteString gb gb (Lib.byteCells (a ++ symLine l0_5 n)) (tx) _ ?wbI ?wl ?wb).mono ?_); (case wbI => exact bl_below BI.out (Below.refl w8.heap.size w8)); (case wl => have h1_ := HA.out; have h2_ := HSY.out; have h5_ := HL.out.2; have h3_ := HLT.out; have h4_ := HL.out.1; have h6_ := itoa_len64 HN64.out; rw [HTX.out, bsOf_size]; simp only [Lib.byteCells_length, List.length_append]; omega); (case wb => exact Nat.le_trans (Nat.le_of_lt BS.out) (show Below _ _ _ from (Below.refl w8.heap.size w8)).size); rintro e w9 ⟨rfl, hat, hb, hkk⟩; have n0_ := Aside0.mk ((below_step HB.out (Below.refl w8.heap.size w8)).trans (hb.mono GB.out)); have n1_ := Aside0.mk ((hb.block gx LT.out).trans (blk_below BX.out (Below.refl w8.heap.size w8))); have n2_ := Aside0.mk (bl_app hat rfl); have n3_ := Aside0.mk (Nat.lt_of_lt_of_le (Nat.lt_of_lt_of_le BS.out (show Below _ _ _ from (Below.refl w8.heap.size w8)).size) hb.size); have n4_ := Aside0.mk (hkk gi _ _ (Ne.symm NL.out) (by decide) BN.out); clear BN; have BN := n4_; clear n4_; clear HB BX BI BS hb hat hkk; have HB := n0_; have BX := n1_; have BI := n2_; have BS := n3_; clear n0_ n1_ n2_ n3_; have hcn0 : w9.cell? ⟨gi, 0, none⟩ = some (.int .i64 t2) := (blk_cell BN.out 0).trans rfl; have hcn1 : w9.cell? ⟨gi, 1, none⟩ = some (.int .i64 t3) := (blk_cell BN.out 1).trans rfl; have hcn2 : w9.cell? ⟨gi, 2, none⟩ = some (.int .i64 t4) := (blk_cell BN.out 2).trans rfl; have hcn3 : w9.cell? ⟨gi, 3, none⟩ = some (.int .i64 t5) := (blk_cell BN.out 3).trans rfl; have hcn4 : w9.cell? ⟨gi, 4, none⟩ = some (.int .i64 t6) := (blk_cell BN.out 4).trans rfl))
       have n0_ := Aside0.mk (below_alloc HB.out (.cells #[.int .i64 t2, .int .i64 t3, .int .i64 t4, .int .i64 t5, .int .i64 t6] 2 (0, 0)))
       have n1_ := Aside0.mk (blk_alloc BX.out (.cells #[.int .i64 t2, .int .i64 t3, .int .i64 t4, .int .i64 t5, .int .i64 t6] 2 (0, 0)))
       have hal := below_alloc (Below.refl w9.heap.size w9) (.cells #[.int .i64 t2, .int .i64 t3, .int .i64 t4, .int .i64 t5, .int .i64 t6] 2 (0, 0))
       have n2_ := Aside0.mk (bl_below BI.out hal)
       have n3_ := Aside0.mk (Nat.lt_of_lt_of_le BS.out hal.size)
       have n4_ := Aside0.mk (blk_new w9 (.cells #[.int .i64 t2, .int .i64 t3, .int .i64 t4, .int .i64 t5, .int .i64 t6] 2 (0, 0)))
       have NQ := Aside0.mk (Nat.ne_of_lt BS.out)
       clear HB BX BI BS hal BN NL hcn0 hcn1 hcn2 hcn3 hcn4 HCALL HR5 hnl hll hcc hf0 hf2 hfd
       generalize w9.alloc (.cells #[.int .i64 t2, .int .i64 t3, .int .i64 t4, .int .i64 t5, .int .i64 t6] 2 (0, 0)) = wq at n0_ n1_ n2_ n3_ n4_ ⊢
       generalize w9.heap.size = gq at n4_ NQ ⊢
       have HB := n0_
       have BX := n1_
       have BI := n2_
       have BS := n3_
       have BQ := n4_
       clear n0_ n1_ n2_ n3_ n4_
       go_loopw [66] (fun v66 w' => ∃ q : Nat, q ≤ 5 ∧ v66 = .int .i64 (q : Int) ∧ Aside0 (Lib.IsBuilder 87 5 gb gb (Lib.byteCells (a ++ symLine l0_5 n ++ Lib.itoa n ++ numsLine ([t2, t3, t4, t5, t6].take q))) w') ∧ Aside0 (gb < w'.heap.size) ∧ Aside0 (Below w.heap.size w w') ∧ Aside0 (w'.heap[gx]? = some (.cells #[.slice A0_0 l0_0.length c0_0, .slice A0_1 l0_1.length c0_1, .int .i64 a0_2, .slice A0_3 l0_3.length c0_3, .int .i64 a0_4, .slice A0_5 l0_5.length c0_5] 60 (0, 0))) ∧ Aside0 (w'.heap[gq]? = some (.cells #[.int .i64 t2, .int .i64 t3, .int .i64 t4, .int .i64 t5, .int .i64 t6] 2 (0, 0)))) (fun v66 _ => 5 - (intOf v66).toNat)
       case atStart => exact ⟨0, Nat.zero_le _, rfl, ⟨by have h1_ := BI.out; rw [HTX.out] at h1_; rw [show numsLine ([t2, t3, t4, t5, t6].take 0) = [] from rfl, List.append_nil]; exact h1_⟩, BS, HB, BX, BQ⟩
       case round =>
        clear BI BS HB BX BQ
        obtain ⟨q, hq, rfl, BI, BS, HB, BX, BQ⟩ := hrel
        by_cases hlq : q < 5
        · obtain ⟨v, hv, hrv, hsv⟩ : ∃ v, (#[.int .i64 t2, .int .i64 t3, .int .i64 t4, .int .i64 t5, .int .i64 t6] : Array Value)[q]? = some (.int .i64 v) ∧ r64 v ∧ numsLine ([t2, t3, t4, t5, t6].take (q + 1)) = numsLine ([t2, t3, t4, t5, t6].take q) ++ ([32] ++ Lib.itoa v) := by
           have hR := HR.out
           obtain rfl | rfl | rfl | rfl | rfl : q = 0 ∨ q = 1 ∨ q = 2 ∨ q = 3 ∨ q = 4 := by omega
           · exact ⟨t2, rfl, hR.1, by simp [numsLine]⟩
           · exact ⟨t3, rfl, hR.2.1, by simp [numsLine]⟩
           · exact ⟨t4, rfl, hR.2.2.1, by simp [numsLine]⟩
           · exact ⟨t5, rfl, hR.2.2.2.1, by simp [numsLine]⟩
           · exact ⟨t6, rfl, hR.2.2.2.2, by simp [numsLine]⟩
          have hcq : wr.cell? ⟨gq, q, none⟩ = some (.int .i64 v) := (blk_cell BQ.out q).trans hv
          obtain ⟨tv, htv⟩ : ∃ tv, tv = bsOf (Lib.itoa v) := ⟨_, rfl⟩
          have hts : tv.size ≤ 21 := by rw [htv, bsOf_size]; exact itoa_len64 hrv
          have hnl := numsLine_len ([t2, t3, t4, t5, t6].take q) (by have hR := HR.out; intro x hx; have hx2 := List.mem_of_mem_take hx; simp only [List.mem_cons, List.not_mem_nil, or_false] at hx2; rcases hx2 with rfl | rfl | rfl | rfl | rfl; exact hR.1; exact hR.2.1; exact hR.2.2.1; exact hR.2.2.2.1; exact hR.2.2.2.2)
          have HNL := Aside0.mk (show (numsLine ([t2, t3, t4, t5, t6].take q)).length ≤ 110 from by rw [List.length_take] at hnl; simp only [List.length_cons, List.length_nil] at hnl; omega)
          have HV := Aside0.mk htv
          have HZ := Aside0.mk hts
          have HRV := Aside0.mk hrv
          have HSV := Aside0.mk hsv
          have HQ := Aside0.mk hlq
          have z0 : (1 + tv.size ≤ 9223372036854775807) = True := eq_true (by omega)
          have z1 : (9223372036854775807 < 1 + tv.size) = False := eq_false (by omega)
          have c5 : decide ((q : Int) < 5) = true := decide_eq_true (by omega)
          have c6 : (0 ≤ (q : Int)) = True := eq_true (by omega)
          have c7 : ((q : Int) < 5) = True := eq_true (by omega)
          clear hv hrv hsv htv hts hnl hq
          go_wp2_with (first | (go_at_call 39; (with_reducible refine (fmt_c ?r6 _ ?tT).mono ?_); (case r6 => exact HRV.out); (case tT => exact HT.out.on HB.out); rintro e w10 ⟨rfl, hb⟩; rw [← HV.out]; have n0_ := Aside0.mk (below_step HB.out hb); have n1_ := Aside0.mk (blk_below BX.out hb); have n2_ := Aside0.mk (bl_below BI.out hb); have n3_ := Aside0.mk (Nat.lt_of_lt_of_le BS.out hb.size); have n4_ := Aside0.mk (blk_below BQ.out hb); clear HB BX BI BS BQ hb; have HB := n0_; have BX := n1_; have BI := n2_; have BS := n3_; have BQ := n4_; clear n0_ n1_ n2_ n3_ n4_) | (go_at_call 40; (with_reducible refine (bldk_WriteString gb gb (Lib.byteCells (a ++ symLine l0_5 n ++ Lib.itoa n ++ numsLine ([t2, t3, t4, t5, t6].take q))) ((⟨#[32]⟩ : ByteArray) ++ tv) _ ?wbI ?wl ?wb).mono ?_); (case wbI => exact bl_below BI.out (Below.refl w10.heap.size w10)); (case wl => have h1_ := HA.out; have h2_ := HSY.out; have h5_ := HL.out.2; have h3_ := HLT.out; have h4_ := HL.out.1; have h6_ := itoa_len64 HN64.out; have h7_ := HNL.out; have h8_ := HZ.out; simp only [Lib.byteCells_length, List.length_append, ByteArray.size_append]; show _ + (1 + tv.size) ≤ _; omega); (case wb => exact Nat.le_trans (Nat.le_of_lt BS.out) (show Below _ _ _ from (Below.refl w10.heap.size w10)).size); rintro e w11 ⟨rfl, hat, hb, hkk⟩; have n0_ := Aside0.mk ((below_step HB.out (Below.refl w10.heap.size w10)).trans (hb.mono GB.out)); have n1_ := Aside0.mk ((hb.block gx LT.out).trans (blk_below BX.out (Below.refl w10.heap.size w10))); have n2_ := Aside0.mk (bl_app hat rfl); have n3_ := Aside0.mk (Nat.lt_of_lt_of_le (Nat.lt_of_lt_of_le BS.out (show Below _ _ _ from (Below.refl w10.heap.size w10)).size) hb.size); have n4_ := Aside0.mk (hkk gq _ _ (Ne.symm NQ.out) (by decide) BQ.out); clear BQ; have BQ := n4_; clear n4_; clear HB BX BI BS hb hat hkk; have HB := n0_; have BX := n1_; have BI := n2_; have BS := n3_; clear n0_ n1_ n2_ n3_))
          go_roundw
          case measure => exact dis_measure2 _ _ HQ.out
          case rel => exact ⟨q + 1, HQ.out, rfl, ⟨by have h1_ := BI.out; rw [HV.out] at h1_; rw [HSV.out, ← sp_cells, ← List.append_assoc]; exact h1_⟩, BS, HB, BX, BQ⟩
        · have eq5 : q = 5 := by omega
          subst eq5
          clear hlq hq
          go_wp2_with (first | (go_at_call 40; (with_reducible refine (bldk_WriteString gb gb (Lib.byteCells (a ++ symLine l0_5 n ++ Lib.itoa n ++ numsLine ([t2, t3, t4, t5, t6].take 5))) ((⟨#[10]⟩ : ByteArray)) _ ?wbI ?wl ?wb).mono ?_); (case wbI => exact bl_below BI.out (Below.refl wr.heap.size wr)); (case wl => have h1_ := HA.out; have h2_ := HSY.out; have h5_ := HL.out.2; have h3_ := HLT.out; have h4_ := HL.out.1; have h6_ := itoa_len64 HN64.out; have h7_ := num5_len HR.out; simp only [Lib.byteCells_length, List.length_append]; show _ + 1 ≤ _; omega); (case wb => exact Nat.le_trans (Nat.le_of_lt BS.out) (show Below _ _ _ from (Below.refl wr.heap.size wr)).size); rintro e w12 ⟨rfl, hat, hb, hkk⟩; have n0_ := Aside0.mk ((below_step HB.out (Below.refl wr.heap.size wr)).trans (hb.mono GB.out)); have n1_ := Aside0.mk ((hb.block gx LT.out).trans (blk_below BX.out (Below.refl wr.heap.size wr))); have n2_ := Aside0.mk (bl_app hat rfl); have n3_ := Aside0.mk (Nat.lt_of_lt_of_le (Nat.lt_of_lt_of_le BS.out (show Below _ _ _ from (Below.refl wr.heap.size wr)).size) hb.size); clear HB BX BI BS hb hat hkk; have HB := n0_; have BX := n1_; have BI := n2_; have BS := n3_; clear n0_ n1_ n2_ n3_))
          go_roundw
          case measure => exact dis_measure _ _ HLT.out (by have := HL.out.1; omega)
          case rel => exact ⟨n + 1, _, HLT.out, HX.out, by (have := HLT.out; have := HL.out.1; refine congrArg _ ?_; unfold wrap64; omega), ⟨by have h1_ := BI.out; simp only [List.append_assoc] at h1_ ⊢; exact h1_⟩, BS, HB, BX⟩
  · have hna2 := hna
    have en : n = l0_0.length / 8 := by omega
    subst en
    obtain rfl : a = full := Option.some.inj (hna2.symm.trans HF.out)
    have c1 : (wrap64 ((l0_0.length : Int) / 8) ≤ ((l0_0.length / 8 : Nat) : Int)) = True := eq_true (by rw [hN]; omega)
    have c2 : decide (((l0_0.length / 8 : Nat) : Int) < wrap64 ((l0_0.length : Int) / 8)) = false := decide_eq_false (by rw [hN]; omega)
    clear hna hna2 hlt hn
    go_wp2_with (first | (go_at_call 41; (with_reducible refine (Tryd.Builder_String_any gb gb a _ BI.out ?sb).mono ?_); (case sb => exact Nat.le_of_lt BS.out); rintro e w6 ⟨rfl, hb⟩; have n0_ := Aside0.mk (HB.out.trans (hb.mono GB.out)); clear HB BX BI BS hb; have HB := n0_; clear n0_))
    go_ret
    exact ⟨rfl, HB.out⟩


end Go.Proofs.YtkohjiajbdkcbaaDoor.All


namespace Go.Proofs.YtkohjiajbdkcbaaDoor.All
open Go.RowKit Go.Proofs.YtkohjiajbdkcbaaDoorW.PrintWords Go.Proofs.YtkohjiajbdkcbaaDoorW.PrintLast Go.Proofs.YtkohjiajbdkcbaaDoorW.PrintMore
attribute [local go_sem] max2_int min2_int max_two min_two max_three min_three max_four min_four   -- for this text's walks alone
set_option linter.unusedVariables false
set_option linter.unusedSimpArgs false

/-! ### laws_eqByteS: function 67 -/
def laws_eqByteS.l0 : Nat → List Int → List Int → Int → Option (Bool)
 | 0, _, _, _ => none
 | k + 1, x0, x1, x5 => if x5 < (x0.length : Int) then (if 0 ≤ x5 then (if x5 < (x1.length : Int) then (if (rd x0 x5) = (rd x1 x5) then (laws_eqByteS.l0 k x0 x1 (wrap64 (x5 + 1))) else (some false)) else (none)) else (none)) else (some true)
def laws_eqByteS.f (k : Nat) (l0 : List Int) (l1 : List Int) : Option (Bool) := if (l0.length : Int) = (l1.length : Int) then (laws_eqByteS.l0 k l0 l1 0) else (some false)
set_option maxHeartbeats 8000000 in
set_option maxRecDepth 100000 in
theorem laws_eqByteS.calls (k : Nat) (A0 : Option Addr) (c0 : Nat) (l0 : List Int) (A1 : Option Addr) (c1 : Nat) (l1 : List Int) (r : Bool) (w : World) (hr0 : Kd.C (Kd.int .u8) w A0 l0.length l0) (hc0 : l0.length ≤ c0) (hr1 : Kd.C (Kd.int .u8) w A1 l1.length l1) (hc1 : l1.length ≤ c1) (h : laws_eqByteS.f k l0 l1 = some r) :
 Calls Tryd.prog 67 #[.slice A0 l0.length c0, .slice A1 l1.length c1] w fun e w' => e = .returned (.bool r) ∧ Drawn0 w w' := by
 have HR0 := Aside0.mk hr0
 have HC0 := Aside0.mk hc0
 clear hr0 hc0
 have HR1 := Aside0.mk hr1
 have HC1 := Aside0.mk hc1
 clear hr1 hc1
 have H : (if (l0.length : Int) = (l1.length : Int) then (laws_eqByteS.l0 k l0 l1 0) else (some false)) = some r := h
 clear h
 by_cases c3 : (l0.length : Int) = (l1.length : Int)
 · rw [if_pos c3] at H
   have c3b0 : ((l0.length : Int) == (l1.length : Int)) = true := beq_iff_eq.mpr c3
   have c3b1 : ((l0.length : Int) != (l1.length : Int)) = false := bne_eq_false_iff_eq.mpr c3
   have c3b2 : (l0.length == l1.length) = true := by first | simpa using c3 | (simp at c3 ⊢; omega)
   clear c3
   have H' := Aside0.mk H
   clear H
   go_enter Tryd.func67, Tryd.ntmps67
   go_wp2
   repeat (go_quiet (fail); try go_wp2)
   go_loopg [5] k (fun kq v5 w' => ∃ (x5_1 : Int), v5 = .int .i64 x5_1 ∧ Aside0 (laws_eqByteS.l0 kq l0 l1 x5_1 = some r) ∧ Aside0 (kq ≤ k) ∧ Drawn0 w w')
   case atStart => exact ⟨(0), (by first | rfl | (simp; done) | (simp [*]; done)), H', ⟨Nat.le_refl _⟩, by repeat (first | exact Drawn0.refl _ | apply Drawn0.step)⟩
   case round =>
    clear H'
    try clear c1
    try clear p2
    try clear c3
    try clear c3b0
    try clear c3b1
    try clear c3b2
    obtain ⟨x5_1, rfl, HA, HK1, ⟨m1, rfl⟩⟩ := hrel
    cases gk with
    | zero => exact absurd HA.out (by simp [laws_eqByteS.l0])
    | succ k1 =>
     have H := HA.out
     clear HA
     simp only [laws_eqByteS.l0] at H
     by_cases c4 : x5_1 < (l0.length : Int)
     · rw [if_pos c4] at H
       have c4b0 : decide (x5_1 < (l0.length : Int)) = true := decide_eq_true c4
       clear c4
       by_cases c5 : 0 ≤ x5_1
       · rw [if_pos c5] at H
         have c5b0 : decide (0 ≤ x5_1) = true := decide_eq_true c5
         clear c5
         by_cases c6 : x5_1 < (l1.length : Int)
         · rw [if_pos c6] at H
           have c6b0 : decide (x5_1 < (l1.length : Int)) = true := decide_eq_true c6
           clear c6
           by_cases c7 : (rd l0 x5_1) = (rd l1 x5_1)
           · rw [if_pos c7] at H
             have c7b0 : ((rd l0 x5_1) == (rd l1 x5_1)) = true := beq_iff_eq.mpr c7
             have c7b1 : ((rd l0 x5_1) != (rd l1 x5_1)) = false := bne_eq_false_iff_eq.mpr c7
             clear c7
             have H' := Aside0.mk H
             clear H
             have p359 : 0 ≤ (x5_1 : Int) := of_decide_eq_true (by first | (with_reducible assumption) | assumption)
             have q359 : x5_1 < (l0.length : Int) := of_decide_eq_true (by first | (with_reducible assumption) | assumption)
             obtain ⟨ad359, e359, hx359_0⟩ := Kd.at_int HR0.out x5_1 p359 q359
             cases e359
             replace p359 := eq_true p359
             replace q359 := eq_true q359
             have p360 : 0 ≤ (x5_1 : Int) := of_decide_eq_true (by first | (with_reducible assumption) | assumption)
             have q360 : x5_1 < (l1.length : Int) := of_decide_eq_true (by first | (with_reducible assumption) | assumption)
             obtain ⟨ad360, e360, hx360_0⟩ := Kd.at_int HR1.out x5_1 p360 q360
             cases e360
             replace p360 := eq_true p360
             replace q360 := eq_true q360
             go_wp2
             repeat (go_quiet (fail); try go_wp2)
             go_roundg k1
             case measure => have := HK1.out; omega
             case rel => exact ⟨(wrap64 (x5_1 + 1)), (by first | rfl | (simp; done) | (simp [*]; done)), H', ⟨by have := HK1.out; omega⟩, by repeat (first | exact Drawn0.refl _ | apply Drawn0.step)⟩
           · rw [if_neg c7] at H
             have c7b0 : ((rd l0 x5_1) == (rd l1 x5_1)) = false := beq_eq_false_iff_ne.mpr c7
             have c7b1 : ((rd l0 x5_1) != (rd l1 x5_1)) = true := bne_iff_ne.mpr c7
             obtain rfl := Option.some.inj H
             have p359 : 0 ≤ (x5_1 : Int) := of_decide_eq_true (by first | (with_reducible assumption) | assumption)
             have q359 : x5_1 < (l0.length : Int) := of_decide_eq_true (by first | (with_reducible assumption) | assumption)
             obtain ⟨ad359, e359, hx359_0⟩ := Kd.at_int HR0.out x5_1 p359 q359
             cases e359
             replace p359 := eq_true p359
             replace q359 := eq_true q359
             have p360 : 0 ≤ (x5_1 : Int) := of_decide_eq_true (by first | (with_reducible assumption) | assumption)
             have q360 : x5_1 < (l1.length : Int) := of_decide_eq_true (by first | (with_reducible assumption) | assumption)
             obtain ⟨ad360, e360, hx360_0⟩ := Kd.at_int HR1.out x5_1 p360 q360
             cases e360
             replace p360 := eq_true p360
             replace q360 := eq_true q360
             go_wp2
             repeat (go_quiet (fail); try go_wp2)
             go_ret
             exact ⟨by first | rfl | (simp; done) | (simp [*]; done), by repeat (first | exact Drawn0.refl _ | apply Drawn0.step)⟩
         · rw [if_neg c6] at H
           exact absurd H (by simp)
       · rw [if_neg c5] at H
         exact absurd H (by simp)
     · rw [if_neg c4] at H
       have c4b0 : decide (x5_1 < (l0.length : Int)) = false := decide_eq_false c4
       clear c4
       obtain rfl := Option.some.inj H
       go_wp2
       repeat (go_quiet (fail); try go_wp2)
       go_ret
       exact ⟨by first | rfl | (simp; done) | (simp [*]; done), by repeat (first | exact Drawn0.refl _ | apply Drawn0.step)⟩
 · rw [if_neg c3] at H
   have c3b0 : ((l0.length : Int) == (l1.length : Int)) = false := beq_eq_false_iff_ne.mpr c3
   have c3b1 : ((l0.length : Int) != (l1.length : Int)) = true := bne_iff_ne.mpr c3
   have c3b2 : (l0.length == l1.length) = false := by first | simpa using c3 | (simp at c3 ⊢; omega)
   obtain rfl := Option.some.inj H
   go_enter Tryd.func67, Tryd.ntmps67
   go_wp2
   repeat (go_quiet (fail); try go_wp2)
   go_ret
   exact ⟨by first | rfl | (simp; done) | (simp [*]; done), by repeat (first | exact Drawn0.refl _ | apply Drawn0.step)⟩

end Go.Proofs.YtkohjiajbdkcbaaDoor.All


namespace Go.Proofs.YtkohjiajbdkcbaaDoor.All
open Go.RowKit Go.Proofs.YtkohjiajbdkcbaaDoorW.PrintWords Go.Proofs.YtkohjiajbdkcbaaDoorW.PrintLast Go.Proofs.YtkohjiajbdkcbaaDoorW.PrintMore
attribute [local go_sem] max2_int min2_int max_two min_two max_three min_three max_four min_four   -- for this text's walks alone
set_option linter.unusedVariables false
set_option linter.unusedSimpArgs false

/-! ### laws_eqInt64S: function 68 -/
def laws_eqInt64S.l0 : Nat → List Int → List Int → Int → Option (Bool)
 | 0, _, _, _ => none
 | k + 1, x0, x1, x5 => if x5 < (x0.length : Int) then (if 0 ≤ x5 then (if x5 < (x1.length : Int) then (if (rd x0 x5) = (rd x1 x5) then (laws_eqInt64S.l0 k x0 x1 (wrap64 (x5 + 1))) else (some false)) else (none)) else (none)) else (some true)
def laws_eqInt64S.f (k : Nat) (l0 : List Int) (l1 : List Int) : Option (Bool) := if (l0.length : Int) = (l1.length : Int) then (laws_eqInt64S.l0 k l0 l1 0) else (some false)
set_option maxHeartbeats 8000000 in
set_option maxRecDepth 100000 in
theorem laws_eqInt64S.calls (k : Nat) (A0 : Option Addr) (c0 : Nat) (l0 : List Int) (A1 : Option Addr) (c1 : Nat) (l1 : List Int) (r : Bool) (w : World) (hr0 : Kd.C (Kd.int .i64) w A0 l0.length l0) (hc0 : l0.length ≤ c0) (hr1 : Kd.C (Kd.int .i64) w A1 l1.length l1) (hc1 : l1.length ≤ c1) (h : laws_eqInt64S.f k l0 l1 = some r) :
 Calls Tryd.prog 68 #[.slice A0 l0.length c0, .slice A1 l1.length c1] w fun e w' => e = .returned (.bool r) ∧ Drawn0 w w' := by
 have HR0 := Aside0.mk hr0
 have HC0 := Aside0.mk hc0
 clear hr0 hc0
 have HR1 := Aside0.mk hr1
 have HC1 := Aside0.mk hc1
 clear hr1 hc1
 have H : (if (l0.length : Int) = (l1.length : Int) then (laws_eqInt64S.l0 k l0 l1 0) else (some false)) = some r := h
 clear h
 by_cases c3 : (l0.length : Int) = (l1.length : Int)
 · rw [if_pos c3] at H
   have c3b0 : ((l0.length : Int) == (l1.length : Int)) = true := beq_iff_eq.mpr c3
   have c3b1 : ((l0.length : Int) != (l1.length : Int)) = false := bne_eq_false_iff_eq.mpr c3
   have c3b2 : (l0.length == l1.length) = true := by first | simpa using c3 | (simp at c3 ⊢; omega)
   clear c3
   have H' := Aside0.mk H
   clear H
   go_enter Tryd.func68, Tryd.ntmps68
   go_wp2
   repeat (go_quiet (fail); try go_wp2)
   go_loopg [5] k (fun kq v5 w' => ∃ (x5_1 : Int), v5 = .int .i64 x5_1 ∧ Aside0 (laws_eqInt64S.l0 kq l0 l1 x5_1 = some r) ∧ Aside0 (kq ≤ k) ∧ Drawn0 w w')
   case atStart => exact ⟨(0), (by first | rfl | (simp; done) | (simp [*]; done)), H', ⟨Nat.le_refl _⟩, by repeat (first | exact Drawn0.refl _ | apply Drawn0.step)⟩
   case round =>
    clear H'
    try clear c1
    try clear p2
    try clear c3
    try clear c3b0
    try clear c3b1
    try clear c3b2
    obtain ⟨x5_1, rfl, HA, HK1, ⟨m1, rfl⟩⟩ := hrel
    cases gk with
    | zero => exact absurd HA.out (by simp [laws_eqInt64S.l0])
    | succ k1 =>
     have H := HA.out
     clear HA
     simp only [laws_eqInt64S.l0] at H
     by_cases c4 : x5_1 < (l0.length : Int)
     · rw [if_pos c4] at H
       have c4b0 : decide (x5_1 < (l0.length : Int)) = true := decide_eq_true c4
       clear c4
       by_cases c5 : 0 ≤ x5_1
       · rw [if_pos c5] at H
         have c5b0 : decide (0 ≤ x5_1) = true := decide_eq_true c5
         clear c5
         by_cases c6 : x5_1 < (l1.length : Int)
         · rw [if_pos c6] at H
           have c6b0 : decide (x5_1 < (l1.length : Int)) = true := decide_eq_true c6
           clear c6
           by_cases c7 : (rd l0 x5_1) = (rd l1 x5_1)
           · rw [if_pos c7] at H
             have c7b0 : ((rd l0 x5_1) == (rd l1 x5_1)) = true := beq_iff_eq.mpr c7
             have c7b1 : ((rd l0 x5_1) != (rd l1 x5_1)) = false := bne_eq_false_iff_eq.mpr c7
             clear c7
             have H' := Aside0.mk H
             clear H
             have p361 : 0 ≤ (x5_1 : Int) := of_decide_eq_true (by first | (with_reducible assumption) | assumption)
             have q361 : x5_1 < (l0.length : Int) := of_decide_eq_true (by first | (with_reducible assumption) | assumption)
             obtain ⟨ad361, e361, hx361_0⟩ := Kd.at_int HR0.out x5_1 p361 q361
             cases e361
             replace p361 := eq_true p361
             replace q361 := eq_true q361
             have p362 : 0 ≤ (x5_1 : Int) := of_decide_eq_true (by first | (with_reducible assumption) | assumption)
             have q362 : x5_1 < (l1.length : Int) := of_decide_eq_true (by first | (with_reducible assumption) | assumption)
             obtain ⟨ad362, e362, hx362_0⟩ := Kd.at_int HR1.out x5_1 p362 q362
             cases e362
             replace p362 := eq_true p362
             replace q362 := eq_true q362
             go_wp2
             repeat (go_quiet (fail); try go_wp2)
             go_roundg k1
             case measure => have := HK1.out; omega
             case rel => exact ⟨(wrap64 (x5_1 + 1)), (by first | rfl | (simp; done) | (simp [*]; done)), H', ⟨by have := HK1.out; omega⟩, by repeat (first | exact Drawn0.refl _ | apply Drawn0.step)⟩
           · rw [if_neg c7] at H
             have c7b0 : ((rd l0 x5_1) == (rd l1 x5_1)) = false := beq_eq_false_iff_ne.mpr c7
             have c7b1 : ((rd l0 x5_1) != (rd l1 x5_1)) = true := bne_iff_ne.mpr c7
             obtain rfl := Option.some.inj H
             have p361 : 0 ≤ (x5_1 : Int) := of_decide_eq_true (by first | (with_reducible assumption) | assumption)
             have q361 : x5_1 < (l0.length : Int) := of_decide_eq_true (by first | (with_reducible assumption) | assumption)
             obtain ⟨ad361, e361, hx361_0⟩ := Kd.at_int HR0.out x5_1 p361 q361
             cases e361
             replace p361 := eq_true p361
             replace q361 := eq_true q361
             have p362 : 0 ≤ (x5_1 : Int) := of_decide_eq_true (by first | (with_reducible assumption) | assumption)
             have q362 : x5_1 < (l1.length : Int) := of_decide_eq_true (by first | (with_reducible assumption) | assumption)
             obtain ⟨ad362, e362, hx362_0⟩ := Kd.at_int HR1.out x5_1 p362 q362
             cases e362
             replace p362 := eq_true p362
             replace q362 := eq_true q362
             go_wp2
             repeat (go_quiet (fail); try go_wp2)
             go_ret
             exact ⟨by first | rfl | (simp; done) | (simp [*]; done), by repeat (first | exact Drawn0.refl _ | apply Drawn0.step)⟩
         · rw [if_neg c6] at H
           exact absurd H (by simp)
       · rw [if_neg c5] at H
         exact absurd H (by simp)
     · rw [if_neg c4] at H
       have c4b0 : decide (x5_1 < (l0.length : Int)) = false := decide_eq_false c4
       clear c4
       obtain rfl := Option.some.inj H
       go_wp2
       repeat (go_quiet (fail); try go_wp2)
       go_ret
       exact ⟨by first | rfl | (simp; done) | (simp [*]; done), by repeat (first | exact Drawn0.refl _ | apply Drawn0.step)⟩
 · rw [if_neg c3] at H
   have c3b0 : ((l0.length : Int) == (l1.length : Int)) = false := beq_eq_false_iff_ne.mpr c3
   have c3b1 : ((l0.length : Int) != (l1.length : Int)) = true := bne_iff_ne.mpr c3
   have c3b2 : (l0.length == l1.length) = false := by first | simpa using c3 | (simp at c3 ⊢; omega)
   obtain rfl := Option.some.inj H
   go_enter Tryd.func68, Tryd.ntmps68
   go_wp2
   repeat (go_quiet (fail); try go_wp2)
   go_ret
   exact ⟨by first | rfl | (simp; done) | (simp [*]; done), by repeat (first | exact Drawn0.refl _ | apply Drawn0.step)⟩

end Go.Proofs.YtkohjiajbdkcbaaDoor.All


namespace Go.Proofs.YtkohjiajbdkcbaaDoor.All
open Go.RowKit Go.Proofs.YtkohjiajbdkcbaaDoorW.PrintWords Go.Proofs.YtkohjiajbdkcbaaDoorW.PrintLast Go.Proofs.YtkohjiajbdkcbaaDoorW.PrintMore
attribute [local go_sem] max2_int min2_int max_two min_two max_three min_three max_four min_four   -- for this text's walks alone
set_option linter.unusedVariables false
set_option linter.unusedSimpArgs false

/-! ### laws_eqImageSymbol: function 90 -/
def laws_eqImageSymbol.f (a0_0 : ByteArray) (a0_1 : Bool) (a0_2 : Int) (a1_0 : ByteArray) (a1_1 : Bool) (a1_2 : Int) : Option (Bool) := if a0_0.toList = a1_0.toList then (if (a0_1 != a1_1) = true then (some false) else (if a0_2 = a1_2 then (some true) else (some false))) else (some false)
set_option maxHeartbeats 8000000 in
set_option maxRecDepth 100000 in
theorem laws_eqImageSymbol.calls (a0_0 : ByteArray) (a0_1 : Bool) (a0_2 : Int) (a1_0 : ByteArray) (a1_1 : Bool) (a1_2 : Int) (r : Bool) (w : World) (h : laws_eqImageSymbol.f a0_0 a0_1 a0_2 a1_0 a1_1 a1_2 = some r) :
 Calls Tryd.prog 90 #[.agg #[.string a0_0, .bool a0_1, .int .i64 a0_2], .agg #[.string a1_0, .bool a1_1, .int .i64 a1_2]] w fun e w' => e = .returned (.bool r) ∧ Below w.heap.size w w' := by
 have hu109 := Tryd.underlying109
 have HB := Aside0.mk (Below.refl w.heap.size w)
 have H : (if a0_0.toList = a1_0.toList then (if (a0_1 != a1_1) = true then (some false) else (if a0_2 = a1_2 then (some true) else (some false))) else (some false)) = some r := h
 clear h
 by_cases c3 : a0_0.toList = a1_0.toList
 · rw [if_pos c3] at H
   have c3b0 : (a0_0.toList == a1_0.toList) = true := beq_iff_eq.mpr c3
   have c3b1 : (a0_0.toList != a1_0.toList) = false := bne_eq_false_iff_eq.mpr c3
   clear c3
   by_cases c4 : (a0_1 != a1_1) = true
   · rw [if_pos c4] at H
     have c4b0 : (a0_1 != a1_1) = true := c4
     (try (have c4b1 : decide (a0_1 = a1_1) = false := by simpa using c4))
     (try (have c4b2 : (a0_1 == a1_1) = false := by simpa using c4))
     (try (have c4b3 : ¬ (a0_1 = a1_1) := by simpa using c4))
     clear c4
     obtain rfl := Option.some.inj H
     go_enter Tryd.func90, Tryd.ntmps90
     go_wp2_with (first | ((with_reducible refine gate_dst (N := 2) rfl ?_); refine box_event ?hg (N := 2) ?hd (cs := #[.string a0_0, .bool a0_1, .int .i64 a0_2]) (t := 109) ?hr ?_; (case hd => rfl); (case hg => rfl); (case hr => first | (go_simp; done) | (go_simp; rfl)); intro gb363 hg w5 hbox hb; have n0_ := Aside0.mk (below_step (by repeat (first | (with_reducible first | exact HB.out | apply below_alloc | apply pw_below_drewN | apply below_drew1) | exact HB.out)) hb); have n1_ := Aside0.mk (hbox); have n2_ := Aside0.mk ((by rw [hg]; exact (below_size (by repeat (first | (with_reducible first | exact HB.out | apply below_alloc | apply pw_below_drewN | apply below_drew1) | exact HB.out))) : w.heap.size ≤ gb363)); have n3_ := Aside0.mk ((by rw [hg]; exact (below_size (by repeat (first | (with_reducible first | exact HB.out | apply below_alloc | apply pw_below_drewN | apply below_drew1) | exact HB.out))) : w.heap.size ≤ gb363)); clear HB; have HB := n0_; have BK363 := n1_; have GW363 := n2_; have GE363 := n3_; clear n0_ n1_ n2_ n3_; clear hb hbox hg) | ((with_reducible refine gate_dst (N := 3) rfl ?_); refine box_event ?hg (N := 3) ?hd (cs := #[.string a1_0, .bool a1_1, .int .i64 a1_2]) (t := 109) ?hr ?_; (case hd => rfl); (case hg => rfl); (case hr => first | (go_simp; done) | (go_simp; rfl)); intro gb364 hg w6 hbox hb; have n0_ := Aside0.mk (blk_below (g := gb363) (o := .cells #[.string a0_0, .bool a0_1, .int .i64 a0_2] 109 (0, 0)) (by (with_reducible repeat (first | refine blk_drewN ?_ _ | refine blk_drew ?_ | refine blk_alloc ?_ _)); exact BK363.out) hb); have n1_ := Aside0.mk (below_step (by repeat (first | (with_reducible first | exact HB.out | apply below_alloc | apply pw_below_drewN | apply below_drew1 | refine below_set ?_ GE363.out) | exact HB.out)) hb); have n2_ := Aside0.mk (hbox); have n3_ := Aside0.mk ((by rw [hg]; exact (below_size (by repeat (first | (with_reducible first | exact HB.out | apply below_alloc | apply pw_below_drewN | apply below_drew1 | refine below_set ?_ GE363.out) | exact HB.out))) : w.heap.size ≤ gb364)); have n4_ := Aside0.mk ((by rw [hg]; exact (below_size (by repeat (first | (with_reducible first | exact HB.out | apply below_alloc | apply pw_below_drewN | apply below_drew1 | refine below_set ?_ GE363.out) | exact HB.out))) : w.heap.size ≤ gb364)); have n5_ := Aside0.mk ((by rw [hg]; exact Nat.ne_of_lt (blk_lt (g := gb363) (o := .cells #[.string a0_0, .bool a0_1, .int .i64 a0_2] 109 (0, 0)) (by (with_reducible repeat (first | refine blk_drewN ?_ _ | refine blk_drew ?_ | refine blk_alloc ?_ _)); exact BK363.out)) : gb363 ≠ gb364)); have n6_ := Aside0.mk ((by rw [hg]; exact Nat.ne_of_gt (blk_lt (g := gb363) (o := .cells #[.string a0_0, .bool a0_1, .int .i64 a0_2] 109 (0, 0)) (by (with_reducible repeat (first | refine blk_drewN ?_ _ | refine blk_drew ?_ | refine blk_alloc ?_ _)); exact BK363.out)) : gb364 ≠ gb363)); clear BK363; clear HB; have BK363 := n0_; have HB := n1_; have BK364 := n2_; have GW364 := n3_; have GE364 := n4_; have NB363_364 := n5_; have NB364_363 := n6_; clear n0_ n1_ n2_ n3_ n4_ n5_ n6_; clear hb hbox hg; have hnb7 := NB363_364.out; have hnc7 := NB364_363.out; have hcz8_0 : w6.cell? ⟨gb363, 0, none⟩ = some (.string a0_0) := (blk_cell BK363.out 0).trans rfl; have hcz8_1 : w6.cell? ⟨gb363, 1, none⟩ = some (.bool a0_1) := (blk_cell BK363.out 1).trans rfl; have hcz8_2 : w6.cell? ⟨gb363, 2, none⟩ = some (.int .i64 a0_2) := (blk_cell BK363.out 2).trans rfl; have hfz8_0 := blk_frozen BK363.out 0; have hfz8_1 := blk_frozen BK363.out 1; have hfz8_2 := blk_frozen BK363.out 2; have hcz9_0 : w6.cell? ⟨gb364, 0, none⟩ = some (.string a1_0) := (blk_cell BK364.out 0).trans rfl; have hcz9_1 : w6.cell? ⟨gb364, 1, none⟩ = some (.bool a1_1) := (blk_cell BK364.out 1).trans rfl; have hcz9_2 : w6.cell? ⟨gb364, 2, none⟩ = some (.int .i64 a1_2) := (blk_cell BK364.out 2).trans rfl; have hfz9_0 := blk_frozen BK364.out 0; have hfz9_1 := blk_frozen BK364.out 1; have hfz9_2 := blk_frozen BK364.out 2))
     go_ret
     exact ⟨by first | rfl | (simp [errW_none, errW_some] <;> rfl) | (simp [*, errW_none, errW_some] <;> rfl), by repeat (first | (with_reducible first | exact HB.out | apply below_alloc | apply pw_below_drewN | apply below_drew1 | refine below_set ?_ GE363.out | refine below_set ?_ GE364.out) | exact HB.out)⟩
   · rw [if_neg c4] at H
     have c4b0 : (a0_1 != a1_1) = false := by simpa using c4
     (try (have c4b1 : decide (a0_1 = a1_1) = true := by simpa using c4))
     (try (have c4b2 : (a0_1 == a1_1) = true := by simpa using c4))
     clear c4
     by_cases c10 : a0_2 = a1_2
     · rw [if_pos c10] at H
       have c10b0 : (a0_2 == a1_2) = true := beq_iff_eq.mpr c10
       have c10b1 : (a0_2 != a1_2) = false := bne_eq_false_iff_eq.mpr c10
       clear c10
       obtain rfl := Option.some.inj H
       go_enter Tryd.func90, Tryd.ntmps90
       go_wp2_with (first | ((with_reducible refine gate_dst (N := 2) rfl ?_); refine box_event ?hg (N := 2) ?hd (cs := #[.string a0_0, .bool a0_1, .int .i64 a0_2]) (t := 109) ?hr ?_; (case hd => rfl); (case hg => rfl); (case hr => first | (go_simp; done) | (go_simp; rfl)); intro gb363 hg w11 hbox hb; have n0_ := Aside0.mk (below_step (by repeat (first | (with_reducible first | exact HB.out | apply below_alloc | apply pw_below_drewN | apply below_drew1) | exact HB.out)) hb); have n1_ := Aside0.mk (hbox); have n2_ := Aside0.mk ((by rw [hg]; exact (below_size (by repeat (first | (with_reducible first | exact HB.out | apply below_alloc | apply pw_below_drewN | apply below_drew1) | exact HB.out))) : w.heap.size ≤ gb363)); have n3_ := Aside0.mk ((by rw [hg]; exact (below_size (by repeat (first | (with_reducible first | exact HB.out | apply below_alloc | apply pw_below_drewN | apply below_drew1) | exact HB.out))) : w.heap.size ≤ gb363)); clear HB; have HB := n0_; have BK363 := n1_; have GW363 := n2_; have GE363 := n3_; clear n0_ n1_ n2_ n3_; clear hb hbox hg) | ((with_reducible refine gate_dst (N := 3) rfl ?_); refine box_event ?hg (N := 3) ?hd (cs := #[.string a1_0, .bool a1_1, .int .i64 a1_2]) (t := 109) ?hr ?_; (case hd => rfl); (case hg => rfl); (case hr => first | (go_simp; done) | (go_simp; rfl)); intro gb364 hg w12 hbox hb; have n0_ := Aside0.mk (blk_below (g := gb363) (o := .cells #[.string a0_0, .bool a0_1, .int .i64 a0_2] 109 (0, 0)) (by (with_reducible repeat (first | refine blk_drewN ?_ _ | refine blk_drew ?_ | refine blk_alloc ?_ _)); exact BK363.out) hb); have n1_ := Aside0.mk (below_step (by repeat (first | (with_reducible first | exact HB.out | apply below_alloc | apply pw_below_drewN | apply below_drew1 | refine below_set ?_ GE363.out) | exact HB.out)) hb); have n2_ := Aside0.mk (hbox); have n3_ := Aside0.mk ((by rw [hg]; exact (below_size (by repeat (first | (with_reducible first | exact HB.out | apply below_alloc | apply pw_below_drewN | apply below_drew1 | refine below_set ?_ GE363.out) | exact HB.out))) : w.heap.size ≤ gb364)); have n4_ := Aside0.mk ((by rw [hg]; exact (below_size (by repeat (first | (with_reducible first | exact HB.out | apply below_alloc | apply pw_below_drewN | apply below_drew1 | refine below_set ?_ GE363.out) | exact HB.out))) : w.heap.size ≤ gb364)); have n5_ := Aside0.mk ((by rw [hg]; exact Nat.ne_of_lt (blk_lt (g := gb363) (o := .cells #[.string a0_0, .bool a0_1, .int .i64 a0_2] 109 (0, 0)) (by (with_reducible repeat (first | refine blk_drewN ?_ _ | refine blk_drew ?_ | refine blk_alloc ?_ _)); exact BK363.out)) : gb363 ≠ gb364)); have n6_ := Aside0.mk ((by rw [hg]; exact Nat.ne_of_gt (blk_lt (g := gb363) (o := .cells #[.string a0_0, .bool a0_1, .int .i64 a0_2] 109 (0, 0)) (by (with_reducible repeat (first | refine blk_drewN ?_ _ | refine blk_drew ?_ | refine blk_alloc ?_ _)); exact BK363.out)) : gb364 ≠ gb363)); clear BK363; clear HB; have BK363 := n0_; have HB := n1_; have BK364 := n2_; have GW364 := n3_; have GE364 := n4_; have NB363_364 := n5_; have NB364_363 := n6_; clear n0_ n1_ n2_ n3_ n4_ n5_ n6_; clear hb hbox hg; have hnb13 := NB363_364.out; have hnc13 := NB364_363.out; have hcz14_0 : w12.cell? ⟨gb363, 0, none⟩ = some (.string a0_0) := (blk_cell BK363.out 0).trans rfl; have hcz14_1 : w12.cell? ⟨gb363, 1, none⟩ = some (.bool a0_1) := (blk_cell BK363.out 1).trans rfl; have hcz14_2 : w12.cell? ⟨gb363, 2, none⟩ = some (.int .i64 a0_2) := (blk_cell BK363.out 2).trans rfl; have hfz14_0 := blk_frozen BK363.out 0; have hfz14_1 := blk_frozen BK363.out 1; have hfz14_2 := blk_frozen BK363.out 2; have hcz15_0 : w12.cell? ⟨gb364, 0, none⟩ = some (.string a1_0) := (blk_cell BK364.out 0).trans rfl; have hcz15_1 : w12.cell? ⟨gb364, 1, none⟩ = some (.bool a1_1) := (blk_cell BK364.out 1).trans rfl; have hcz15_2 : w12.cell? ⟨gb364, 2, none⟩ = some (.int .i64 a1_2) := (blk_cell BK364.out 2).trans rfl; have hfz15_0 := blk_frozen BK364.out 0; have hfz15_1 := blk_frozen BK364.out 1; have hfz15_2 := blk_frozen BK364.out 2))
       go_ret
       exact ⟨by first | rfl | (simp [errW_none, errW_some] <;> rfl) | (simp [*, errW_none, errW_some] <;> rfl), by repeat (first | (with_reducible first | exact HB.out | apply below_alloc | apply pw_below_drewN | apply below_drew1 | refine below_set ?_ GE363.out | refine below_set ?_ GE364.out) | exact HB.out)⟩
     · rw [if_neg c10] at H
       have c10b0 : (a0_2 == a1_2) = false := beq_eq_false_iff_ne.mpr c10
       have c10b1 : (a0_2 != a1_2) = true := bne_iff_ne.mpr c10
       obtain rfl := Option.some.inj H
       go_enter Tryd.func90, Tryd.ntmps90
       go_wp2_with (first | ((with_reducible refine gate_dst (N := 2) rfl ?_); refine box_event ?hg (N := 2) ?hd (cs := #[.string a0_0, .bool a0_1, .int .i64 a0_2]) (t := 109) ?hr ?_; (case hd => rfl); (case hg => rfl); (case hr => first | (go_simp; done) | (go_simp; rfl)); intro gb363 hg w16 hbox hb; have n0_ := Aside0.mk (below_step (by repeat (first | (with_reducible first | exact HB.out | apply below_alloc | apply pw_below_drewN | apply below_drew1) | exact HB.out)) hb); have n1_ := Aside0.mk (hbox); have n2_ := Aside0.mk ((by rw [hg]; exact (below_size (by repeat (first | (with_reducible first | exact HB.out | apply below_alloc | apply pw_below_drewN | apply below_drew1) | exact HB.out))) : w.heap.size ≤ gb363)); have n3_ := Aside0.mk ((by rw [hg]; exact (below_size (by repeat (first | (with_reducible first | exact HB.out | apply below_alloc | apply pw_below_drewN | apply below_drew1) | exact HB.out))) : w.heap.size ≤ gb363)); clear HB; have HB := n0_; have BK363 := n1_; have GW363 := n2_; have GE363 := n3_; clear n0_ n1_ n2_ n3_; clear hb hbox hg) | ((with_reducible refine gate_dst (N := 3) rfl ?_); refine box_event ?hg (N := 3) ?hd (cs := #[.string a1_0, .bool a1_1, .int .i64 a1_2]) (t := 109) ?hr ?_; (case hd => rfl); (case hg => rfl); (case hr => first | (go_simp; done) | (go_simp; rfl)); intro gb364 hg w17 hbox hb; have n0_ := Aside0.mk (blk_below (g := gb363) (o := .cells #[.string a0_0, .bool a0_1, .int .i64 a0_2] 109 (0, 0)) (by (with_reducible repeat (first | refine blk_drewN ?_ _ | refine blk_drew ?_ | refine blk_alloc ?_ _)); exact BK363.out) hb); have n1_ := Aside0.mk (below_step (by repeat (first | (with_reducible first | exact HB.out | apply below_alloc | apply pw_below_drewN | apply below_drew1 | refine below_set ?_ GE363.out) | exact HB.out)) hb); have n2_ := Aside0.mk (hbox); have n3_ := Aside0.mk ((by rw [hg]; exact (below_size (by repeat (first | (with_reducible first | exact HB.out | apply below_alloc | apply pw_below_drewN | apply below_drew1 | refine below_set ?_ GE363.out) | exact HB.out))) : w.heap.size ≤ gb364)); have n4_ := Aside0.mk ((by rw [hg]; exact (below_size (by repeat (first | (with_reducible first | exact HB.out | apply below_alloc | apply pw_below_drewN | apply below_drew1 | refine below_set ?_ GE363.out) | exact HB.out))) : w.heap.size ≤ gb364)); have n5_ := Aside0.mk ((by rw [hg]; exact Nat.ne_of_lt (blk_lt (g := gb363) (o := .cells #[.string a0_0, .bool a0_1, .int .i64 a0_2] 109 (0, 0)) (by (with_reducible repeat (first | refine blk_drewN ?_ _ | refine blk_drew ?_ | refine blk_alloc ?_ _)); exact BK363.out)) : gb363 ≠ gb364)); have n6_ := Aside0.mk ((by rw [hg]; exact Nat.ne_of_gt (blk_lt (g := gb363) (o := .cells #[.string a0_0, .bool a0_1, .int .i64 a0_2] 109 (0, 0)) (by (with_reducible repeat (first | refine blk_drewN ?_ _ | refine blk_drew ?_ | refine blk_alloc ?_ _)); exact BK363.out)) : gb364 ≠ gb363)); clear BK363; clear HB; have BK363 := n0_; have HB := n1_; have BK364 := n2_; have GW364 := n3_; have GE364 := n4_; have NB363_364 := n5_; have NB364_363 := n6_; clear n0_ n1_ n2_ n3_ n4_ n5_ n6_; clear hb hbox hg; have hnb18 := NB363_364.out; have hnc18 := NB364_363.out; have hcz19_0 : w17.cell? ⟨gb363, 0, none⟩ = some (.string a0_0) := (blk_cell BK363.out 0).trans rfl; have hcz19_1 : w17.cell? ⟨gb363, 1, none⟩ = some (.bool a0_1) := (blk_cell BK363.out 1).trans rfl; have hcz19_2 : w17.cell? ⟨gb363, 2, none⟩ = some (.int .i64 a0_2) := (blk_cell BK363.out 2).trans rfl; have hfz19_0 := blk_frozen BK363.out 0; have hfz19_1 := blk_frozen BK363.out 1; have hfz19_2 := blk_frozen BK363.out 2; have hcz20_0 : w17.cell? ⟨gb364, 0, none⟩ = some (.string a1_0) := (blk_cell BK364.out 0).trans rfl; have hcz20_1 : w17.cell? ⟨gb364, 1, none⟩ = some (.bool a1_1) := (blk_cell BK364.out 1).trans rfl; have hcz20_2 : w17.cell? ⟨gb364, 2, none⟩ = some (.int .i64 a1_2) := (blk_cell BK364.out 2).trans rfl; have hfz20_0 := blk_frozen BK364.out 0; have hfz20_1 := blk_frozen BK364.out 1; have hfz20_2 := blk_frozen BK364.out 2))
       go_ret
       exact ⟨by first | rfl | (simp [errW_none, errW_some] <;> rfl) | (simp [*, errW_none, errW_some] <;> rfl), by repeat (first | (with_reducible first | exact HB.out | apply below_alloc | apply pw_below_drewN | apply below_drew1 | refine below_set ?_ GE363.out | refine below_set ?_ GE364.out) | exact HB.out)⟩
 · rw [if_neg c3] at H
   have c3b0 : (a0_0.toList == a1_0.toList) = false := beq_eq_false_iff_ne.mpr c3
   have c3b1 : (a0_0.toList != a1_0.toList) = true := bne_iff_ne.mpr c3
   obtain rfl := Option.some.inj H
   go_enter Tryd.func90, Tryd.ntmps90
   go_wp2_with (first | ((with_reducible refine gate_dst (N := 2) rfl ?_); refine box_event ?hg (N := 2) ?hd (cs := #[.string a0_0, .bool a0_1, .int .i64 a0_2]) (t := 109) ?hr ?_; (case hd => rfl); (case hg => rfl); (case hr => first | (go_simp; done) | (go_simp; rfl)); intro gb363 hg w21 hbox hb; have n0_ := Aside0.mk (below_step (by repeat (first | (with_reducible first | exact HB.out | apply below_alloc | apply pw_below_drewN | apply below_drew1) | exact HB.out)) hb); have n1_ := Aside0.mk (hbox); have n2_ := Aside0.mk ((by rw [hg]; exact (below_size (by repeat (first | (with_reducible first | exact HB.out | apply below_alloc | apply pw_below_drewN | apply below_drew1) | exact HB.out))) : w.heap.size ≤ gb363)); have n3_ := Aside0.mk ((by rw [hg]; exact (below_size (by repeat (first | (with_reducible first | exact HB.out | apply below_alloc | apply pw_below_drewN | apply below_drew1) | exact HB.out))) : w.heap.size ≤ gb363)); clear HB; have HB := n0_; have BK363 := n1_; have GW363 := n2_; have GE363 := n3_; clear n0_ n1_ n2_ n3_; clear hb hbox hg) | ((with_reducible refine gate_dst (N := 3) rfl ?_); refine box_event ?hg (N := 3) ?hd (cs := #[.string a1_0, .bool a1_1, .int .i64 a1_2]) (t := 109) ?hr ?_; (case hd => rfl); (case hg => rfl); (case hr => first | (go_simp; done) | (go_simp; rfl)); intro gb364 hg w22 hbox hb; have n0_ := Aside0.mk (blk_below (g := gb363) (o := .cells #[.string a0_0, .bool a0_1, .int .i64 a0_2] 109 (0, 0)) (by (with_reducible repeat (first | refine blk_drewN ?_ _ | refine blk_drew ?_ | refine blk_alloc ?_ _)); exact BK363.out) hb); have n1_ := Aside0.mk (below_step (by repeat (first | (with_reducible first | exact HB.out | apply below_alloc | apply pw_below_drewN | apply below_drew1 | refine below_set ?_ GE363.out) | exact HB.out)) hb); have n2_ := Aside0.mk (hbox); have n3_ := Aside0.mk ((by rw [hg]; exact (below_size (by repeat (first | (with_reducible first | exact HB.out | apply below_alloc | apply pw_below_drewN | apply below_drew1 | refine below_set ?_ GE363.out) | exact HB.out))) : w.heap.size ≤ gb364)); have n4_ := Aside0.mk ((by rw [hg]; exact (below_size (by repeat (first | (with_reducible first | exact HB.out | apply below_alloc | apply pw_below_drewN | apply below_drew1 | refine below_set ?_ GE363.out) | exact HB.out))) : w.heap.size ≤ gb364)); have n5_ := Aside0.mk ((by rw [hg]; exact Nat.ne_of_lt (blk_lt (g := gb363) (o := .cells #[.string a0_0, .bool a0_1, .int .i64 a0_2] 109 (0, 0)) (by (with_reducible repeat (first | refine blk_drewN ?_ _ | refine blk_drew ?_ | refine blk_alloc ?_ _)); exact BK363.out)) : gb363 ≠ gb364)); have n6_ := Aside0.mk ((by rw [hg]; exact Nat.ne_of_gt (blk_lt (g := gb363) (o := .cells #[.string a0_0, .bool a0_1, .int .i64 a0_2] 109 (0, 0)) (by (with_reducible repeat (first | refine blk_drewN ?_ _ | refine blk_drew ?_ | refine blk_alloc ?_ _)); exact BK363.out)) : gb364 ≠ gb363)); clear BK363; clear HB; have BK363 := n0_; have HB := n1_; have BK364 := n2_; have GW364 := n3_; have GE364 := n4_; have NB363_364 := n5_; have NB364_363 := n6_; clear n0_ n1_ n2_ n3_ n4_ n5_ n6_; clear hb hbox hg; have hnb23 := NB363_364.out; have hnc23 := NB364_363.out; have hcz24_0 : w22.cell? ⟨gb363, 0, none⟩ = some (.string a0_0) := (blk_cell BK363.out 0).trans rfl; have hcz24_1 : w22.cell? ⟨gb363, 1, none⟩ = some (.bool a0_1) := (blk_cell BK363.out 1).trans rfl; have hcz24_2 : w22.cell? ⟨gb363, 2, none⟩ = some (.int .i64 a0_2) := (blk_cell BK363.out 2).trans rfl; have hfz24_0 := blk_frozen BK363.out 0; have hfz24_1 := blk_frozen BK363.out 1; have hfz24_2 := blk_frozen BK363.out 2; have hcz25_0 : w22.cell? ⟨gb364, 0, none⟩ = some (.string a1_0) := (blk_cell BK364.out 0).trans rfl; have hcz25_1 : w22.cell? ⟨gb364, 1, none⟩ = some (.bool a1_1) := (blk_cell BK364.out 1).trans rfl; have hcz25_2 : w22.cell? ⟨gb364, 2, none⟩ = some (.int .i64 a1_2) := (blk_cell BK364.out 2).trans rfl; have hfz25_0 := blk_frozen BK364.out 0; have hfz25_1 := blk_frozen BK364.out 1; have hfz25_2 := blk_frozen BK364.out 2))
   go_ret
   exact ⟨by first | rfl | (simp [errW_none, errW_some] <;> rfl) | (simp [*, errW_none, errW_some] <;> rfl), by repeat (first | (with_reducible first | exact HB.out | apply below_alloc | apply pw_below_drewN | apply below_drew1 | refine below_set ?_ GE363.out | refine below_set ?_ GE364.out) | exact HB.out)⟩

end Go.Proofs.YtkohjiajbdkcbaaDoor.All


namespace Go.Proofs.YtkohjiajbdkcbaaDoor.All
open Go.RowKit Go.Proofs.YtkohjiajbdkcbaaDoorW.PrintWords Go.Proofs.YtkohjiajbdkcbaaDoorW.PrintLast Go.Proofs.YtkohjiajbdkcbaaDoorW.PrintMore
attribute [local go_sem] max2_int min2_int max_two min_two max_three min_three max_four min_four   -- for this text's walks alone
set_option linter.unusedVariables false
set_option linter.unusedSimpArgs false

/-! ### laws_eqImageSymbolS: function 69 -/
def laws_eqImageSymbolS.l0 : Nat → List (S109) → List (S109) → Int → Option (Bool)
 | 0, _, _, _ => none
 | k + 1, x0, x1, x5 => if x5 < (x0.length : Int) then (if 0 ≤ x5 then (if x5 < (x1.length : Int) then ((laws_eqImageSymbol.f ((rd_T109 x0 x5).f0) ((rd_T109 x0 x5).f1) ((rd_T109 x0 x5).f2) ((rd_T109 x1 x5).f0) ((rd_T109 x1 x5).f1) ((rd_T109 x1 x5).f2)).bind fun t367 => (if t367 = true then (laws_eqImageSymbolS.l0 k x0 x1 (wrap64 (x5 + 1))) else (some false))) else (none)) else (none)) else (some true)
def laws_eqImageSymbolS.f (k : Nat) (l0 : List (S109)) (l1 : List (S109)) : Option (Bool) := if (l0.length : Int) = (l1.length : Int) then (laws_eqImageSymbolS.l0 k l0 l1 0) else (some false)
def laws_eqImageSymbolS.T6 : Bool × List (List Nat × List Nat) := (true, [([], []), ([], []), ([0, 1], [0, 1]), ([2], [2]), ([], []), ([], []), ([4, 5], [4, 5]), ([6], [6]), ([3, 7], [3, 7]), ([8], [8])])
def laws_eqImageSymbolS.B6 : List Nat := [0, 0, 3, 7, 0, 0, 48, 112, 255, 511]
theorem laws_eqImageSymbolS.tab6 : rtab .any (opsOf Tryd.f69 6) = laws_eqImageSymbolS.T6 := by kernel_rfl
theorem laws_eqImageSymbolS.bits6 : waitsOk laws_eqImageSymbolS.T6.2 laws_eqImageSymbolS.B6 = true := by kernel_rfl
set_option maxHeartbeats 8000000 in
set_option maxRecDepth 100000 in
theorem laws_eqImageSymbolS.calls (k : Nat) (A0 : Option Addr) (c0 : Nat) (l0 : List (S109)) (A1 : Option Addr) (c1 : Nat) (l1 : List (S109)) (r : Bool) (w : World) (hr0 : Kd.C k109 w A0 l0.length l0) (hc0 : l0.length ≤ c0) (hr1 : Kd.C k109 w A1 l1.length l1) (hc1 : l1.length ≤ c1) (h : laws_eqImageSymbolS.f k l0 l1 = some r) :
 Calls Tryd.prog 69 #[.slice A0 l0.length c0, .slice A1 l1.length c1] w fun e w' => e = .returned (.bool r) ∧ Below w.heap.size w w' := by
 have hu109 := Tryd.underlying109
 have HR0 := Aside0.mk hr0
 have HC0 := Aside0.mk hc0
 clear hr0 hc0
 have HR1 := Aside0.mk hr1
 have HC1 := Aside0.mk hc1
 clear hr1 hc1
 have HB := Aside0.mk (Below.refl w.heap.size w)
 have H : (if (l0.length : Int) = (l1.length : Int) then (laws_eqImageSymbolS.l0 k l0 l1 0) else (some false)) = some r := h
 clear h
 by_cases c3 : (l0.length : Int) = (l1.length : Int)
 · rw [if_pos c3] at H
   have c3b0 : ((l0.length : Int) == (l1.length : Int)) = true := beq_iff_eq.mpr c3
   have c3b1 : ((l0.length : Int) != (l1.length : Int)) = false := bne_eq_false_iff_eq.mpr c3
   have c3b2 : (l0.length == l1.length) = true := by first | simpa using c3 | (simp at c3 ⊢; omega)
   clear c3
   have H' := Aside0.mk H
   clear H
   go_enter Tryd.func69, Tryd.ntmps69
   go_wp2
   go_loopg [5] k (fun kq v5 w' => ∃ (x5_1 : Int), v5 = .int .i64 x5_1 ∧ Aside0 (laws_eqImageSymbolS.l0 kq l0 l1 x5_1 = some r) ∧ Aside0 (kq ≤ k) ∧ Aside0 (Below w.heap.size w w'))
   case atStart => exact ⟨(0), (by first | rfl | (simp; done) | (simp [*]; done)), H', ⟨Nat.le_refl _⟩, ⟨by repeat (first | (with_reducible first | exact HB.out | apply below_alloc | apply pw_below_drewN | apply below_drew1) | exact HB.out)⟩⟩
   case round =>
    clear H'
    try clear c1
    try clear p2
    try clear c3
    try clear c3b0
    try clear c3b1
    try clear c3b2
    obtain ⟨x5_1, rfl, HA, HK1, HB⟩ := hrel
    cases gk with
    | zero => exact absurd HA.out (by simp [laws_eqImageSymbolS.l0])
    | succ k1 =>
     have H := HA.out
     clear HA
     simp only [laws_eqImageSymbolS.l0] at H
     by_cases c4 : x5_1 < (l0.length : Int)
     · rw [if_pos c4] at H
       have c4b0 : decide (x5_1 < (l0.length : Int)) = true := decide_eq_true c4
       clear c4
       by_cases c5 : 0 ≤ x5_1
       · rw [if_pos c5] at H
         have c5b0 : decide (0 ≤ x5_1) = true := decide_eq_true c5
         clear c5
         by_cases c6 : x5_1 < (l1.length : Int)
         · rw [if_pos c6] at H
           have c6b0 : decide (x5_1 < (l1.length : Int)) = true := decide_eq_true c6
           clear c6
           replace H := Option.bind_eq_some_iff.mp H
           obtain ⟨t367, A70, H⟩ := H
           replace H : (if t367 = true then (laws_eqImageSymbolS.l0 k1 l0 l1 (wrap64 (x5_1 + 1))) else (some false)) = some r := H
           have A7 := Aside0.mk A70
           clear A70
           by_cases c8 : t367 = true
           · subst c8
             have H1 : (laws_eqImageSymbolS.l0 k1 l0 l1 (wrap64 (x5_1 + 1))) = some r := by rw [if_pos rfl] at H; exact H
             clear H
             have H := H1
             clear H1
             have H' := Aside0.mk H
             clear H
             try go_wp2
             have n0_ := Aside0.mk (below_drew1 HB.out)
             clear HB
             have HB := n0_
             clear n0_
             have p365 : 0 ≤ (x5_1 : Int) := of_decide_eq_true (by first | (with_reducible assumption) | assumption)
             have q365 : x5_1 < (l0.length : Int) := of_decide_eq_true (by first | (with_reducible assumption) | assumption)
             obtain ⟨ad365, e365, hx365_0, hx365_1, hx365_2⟩ := at_T109 HR0.out x5_1 p365 q365
             have hw365_2 := hx365_2
             have hw365_1 := hx365_1
             have hw365_0 := hx365_0
             cases e365
             replace hx365_0 := (HB.out.cell (World.block_lt_of_cell? w _ hx365_0)).trans hx365_0
             replace hx365_1 := (HB.out.cell (World.block_lt_of_cell? w _ hx365_1)).trans hx365_1
             replace hx365_2 := (HB.out.cell (World.block_lt_of_cell? w _ hx365_2)).trans hx365_2
             replace p365 := eq_true p365
             replace q365 := eq_true q365
             have p366 : 0 ≤ (x5_1 : Int) := of_decide_eq_true (by first | (with_reducible assumption) | assumption)
             have q366 : x5_1 < (l1.length : Int) := of_decide_eq_true (by first | (with_reducible assumption) | assumption)
             obtain ⟨ad366, e366, hx366_0, hx366_1, hx366_2⟩ := at_T109 HR1.out x5_1 p366 q366
             have hw366_2 := hx366_2
             have hw366_1 := hx366_1
             have hw366_0 := hx366_0
             cases e366
             replace hx366_0 := (HB.out.cell (World.block_lt_of_cell? w _ hx366_0)).trans hx366_0
             replace hx366_1 := (HB.out.cell (World.block_lt_of_cell? w _ hx366_1)).trans hx366_1
             replace hx366_2 := (HB.out.cell (World.block_lt_of_cell? w _ hx366_2)).trans hx366_2
             replace p366 := eq_true p366
             replace q366 := eq_true q366
             refine start_ (n := 10) (S := fun w' => w'.cell? (ad365.add ((x5_1).toNat * 3)) = some (.string ((rd_T109 l0 x5_1).f0)) ∧ w'.cell? ⟨(ad365.add ((x5_1).toNat * 3)).block, (ad365.add ((x5_1).toNat * 3)).off + 1, none⟩ = some (.bool ((rd_T109 l0 x5_1).f1)) ∧ w'.cell? ⟨(ad365.add ((x5_1).toNat * 3)).block, (ad365.add ((x5_1).toNat * 3)).off + 2, none⟩ = some (.int .i64 ((rd_T109 l0 x5_1).f2)) ∧ w'.cell? (ad366.add ((x5_1).toNat * 3)) = some (.string ((rd_T109 l1 x5_1).f0)) ∧ w'.cell? ⟨(ad366.add ((x5_1).toNat * 3)).block, (ad366.add ((x5_1).toNat * 3)).off + 1, none⟩ = some (.bool ((rd_T109 l1 x5_1).f1)) ∧ w'.cell? ⟨(ad366.add ((x5_1).toNat * 3)).block, (ad366.add ((x5_1).toNat * 3)).off + 2, none⟩ = some (.int .i64 ((rd_T109 l1 x5_1).f2))) (ds := []) #[false, false, false, false, false, false, false, false, false, false] (by kernel_rfl) rfl rfl ⟨((HB.out.cell (World.block_lt_of_cell? w _ hw365_0)).trans hw365_0), ((HB.out.cell (World.block_lt_of_cell? w _ hw365_1)).trans hw365_1), ((HB.out.cell (World.block_lt_of_cell? w _ hw365_2)).trans hw365_2), ((HB.out.cell (World.block_lt_of_cell? w _ hw366_0)).trans hw366_0), ((HB.out.cell (World.block_lt_of_cell? w _ hw366_1)).trans hw366_1), ((HB.out.cell (World.block_lt_of_cell? w _ hw366_2)).trans hw366_2)⟩ (fun hHeld => ?_); refine with_tabW laws_eqImageSymbolS.tab6 laws_eqImageSymbolS.bits6 (fun HT_ HW_ => ?_)
             generalize wr.drew = w9 at HB hx365_0 hx365_1 hx365_2 hx366_0 hx366_1 hx366_2 hHeld ⊢
             refine pure_ (i := 0) (N := some 17) (v := ?_) (a' := ?_) #[true, false, false, false, false, false, false, false, false, false] rfl rfl (any_of HT_.out (by kernel_rfl)) (fun _ _ _ h => h) (Or.inl ⟨by rfl, ?_⟩) ?_ ?_
             rotate_left
             · intro w'
               go_simp
               with_reducible rfl
             rotate_left
             · simp only [Act.put, List.setIfInBounds_toArray, List.set_cons_zero, List.set_cons_succ, i64_w, i32_w]
               rfl
             refine pure_ (i := 1) (N := some 18) (v := ?_) (a' := ?_) #[true, true, false, false, false, false, false, false, false, false] rfl rfl (any_of HT_.out (by kernel_rfl)) (fun _ _ _ h => h) (Or.inl ⟨by rfl, ?_⟩) ?_ ?_
             rotate_left
             · intro w'
               go_simp
               with_reducible rfl
             rotate_left
             · simp only [Act.put, List.setIfInBounds_toArray, List.set_cons_zero, List.set_cons_succ, i64_w, i32_w]
               rfl
             refine pure_ (i := 2) (N := some 19) (v := ?_) (a' := ?_) #[true, true, true, false, false, false, false, false, false, false] rfl rfl (any_of HT_.out (by kernel_rfl)) (fun _ _ _ h => h) (Or.inl ⟨by rfl, ?_⟩) ?_ ?_
             rotate_left
             · intro w'
               go_simp
               with_reducible rfl
             rotate_left
             · simp only [Act.put, List.setIfInBounds_toArray, List.set_cons_zero, List.set_cons_succ, i64_w, i32_w]
               rfl
             refine pure_ (i := 4) (N := some 21) (v := ?_) (a' := ?_) #[true, true, true, false, true, false, false, false, false, false] rfl rfl (any_of HT_.out (by kernel_rfl)) (fun _ _ _ h => h) (Or.inl ⟨by rfl, ?_⟩) ?_ ?_
             rotate_left
             · intro w'
               go_simp
               with_reducible rfl
             rotate_left
             · simp only [Act.put, List.setIfInBounds_toArray, List.set_cons_zero, List.set_cons_succ, i64_w, i32_w]
               rfl
             refine pure_ (i := 5) (N := some 22) (v := ?_) (a' := ?_) #[true, true, true, false, true, true, false, false, false, false] rfl rfl (any_of HT_.out (by kernel_rfl)) (fun _ _ _ h => h) (Or.inl ⟨by rfl, ?_⟩) ?_ ?_
             rotate_left
             · intro w'
               go_simp
               with_reducible rfl
             rotate_left
             · simp only [Act.put, List.setIfInBounds_toArray, List.set_cons_zero, List.set_cons_succ, i64_w, i32_w]
               rfl
             refine pure_ (i := 6) (N := some 23) (v := ?_) (a' := ?_) #[true, true, true, false, true, true, true, false, false, false] rfl rfl (any_of HT_.out (by kernel_rfl)) (fun _ _ _ h => h) (Or.inl ⟨by rfl, ?_⟩) ?_ ?_
             rotate_left
             · intro w'
               go_simp
               with_reducible rfl
             rotate_left
             · simp only [Act.put, List.setIfInBounds_toArray, List.set_cons_zero, List.set_cons_succ, i64_w, i32_w]
               rfl
             refine take_ (i := 3) (N := some 20) (v := ?_) (a' := ?_) #[true, true, true, true, true, true, true, false, false, false] rfl rfl (take_ofW HT_.out HW_.out (by kernel_rfl)) (fun _ _ _ h => h) (Or.inl ⟨by rfl, ?_⟩) hHeld ?_ ?_
             rotate_left
             · rintro w' ⟨s0, s1, s2, s3, s4, s5⟩
               go_simp
               with_reducible rfl
             rotate_left
             · simp only [Act.put, List.setIfInBounds_toArray, List.set_cons_zero, List.set_cons_succ, i64_w, i32_w]
               rfl
             refine take_ (i := 7) (N := some 24) (v := ?_) (a' := ?_) #[true, true, true, true, true, true, true, true, false, false] rfl rfl (take_ofW HT_.out HW_.out (by kernel_rfl)) (fun _ _ _ h => h) (Or.inl ⟨by rfl, ?_⟩) hHeld ?_ ?_
             rotate_left
             · rintro w' ⟨s0, s1, s2, s3, s4, s5⟩
               go_simp
               with_reducible rfl
             rotate_left
             · simp only [Act.put, List.setIfInBounds_toArray, List.set_cons_zero, List.set_cons_succ, i64_w, i32_w]
               rfl
             refine one_ (i := 8) (N := some 25) #[true, true, true, true, true, true, true, true, true, false] rfl rfl (one_of HT_.out (by kernel_rfl)) (by decide) (fun K hK => ?_)
             refine goes_ Tryd.func90 (by kernel_rfl) rfl #[.agg #[.string ((rd_T109 l0 x5_1).f0), .bool ((rd_T109 l0 x5_1).f1), .int .i64 ((rd_T109 l0 x5_1).f2)], .agg #[.string ((rd_T109 l1 x5_1).f0), .bool ((rd_T109 l1 x5_1).f1), .int .i64 ((rd_T109 l1 x5_1).f2)]] (by rfl) rfl rfl (by (try simp only [List.map_toArray, List.map_cons, List.map_nil]); first | done | rfl | (simp only [List.length_drop, List.length_take]; rfl)) ?_
             with_reducible refine (laws_eqImageSymbol.calls ((rd_T109 l0 x5_1).f0) ((rd_T109 l0 x5_1).f1) ((rd_T109 l0 x5_1).f2) ((rd_T109 l1 x5_1).f0) ((rd_T109 l1 x5_1).f1) ((rd_T109 l1 x5_1).f2) true _ A7.out).mono ?_
             rintro e w10 ⟨rfl, hb⟩
             refine ⟨_, rfl, ?_⟩
             have n0_ := Aside0.mk (below_step (by repeat (first | (with_reducible first | exact HB.out | apply below_alloc | apply pw_below_drewN | apply below_drew1) | exact HB.out)) hb)
             clear HB
             have HB := n0_
             clear n0_
             (try clear hb)
             (try clear hb2)
             (try clear hk)
             (try clear hi)
             refine hK.out _ _ ⟨((HB.out.cell (World.block_lt_of_cell? w _ hw365_0)).trans hw365_0), ((HB.out.cell (World.block_lt_of_cell? w _ hw365_1)).trans hw365_1), ((HB.out.cell (World.block_lt_of_cell? w _ hw365_2)).trans hw365_2), ((HB.out.cell (World.block_lt_of_cell? w _ hw366_0)).trans hw366_0), ((HB.out.cell (World.block_lt_of_cell? w _ hw366_1)).trans hw366_1), ((HB.out.cell (World.block_lt_of_cell? w _ hw366_2)).trans hw366_2)⟩ (fun hHeld => ?_)
             clear hK K
             refine norm_ (a' := ?_) ?_ ?_
             rotate_left
             · show Act.put _ (some 25) _ = _
               simp only [Act.put, List.setIfInBounds_toArray, List.set_cons_zero, List.set_cons_succ, i64_w, i32_w]
               rfl
             refine pure_ (i := 9) (N := some 26) (v := ?_) (a' := ?_) #[true, true, true, true, true, true, true, true, true, true] rfl rfl (any_of HT_.out (by kernel_rfl)) (fun _ _ _ h => h) (Or.inl ⟨by rfl, ?_⟩) ?_ ?_
             rotate_left
             · intro w'
               go_simp
               with_reducible rfl
             rotate_left
             · simp only [Act.put, List.setIfInBounds_toArray, List.set_cons_zero, List.set_cons_succ, i64_w, i32_w]
               rfl
             refine done_ (done_of HT_.out (by kernel_rfl)) ?_
             try go_wp2
             go_roundg k1
             case measure => have := HK1.out; omega
             case rel => exact ⟨(wrap64 (x5_1 + 1)), (by first | rfl | (simp; done) | (simp [*]; done)), H', ⟨by have := HK1.out; omega⟩, ⟨by repeat (first | (with_reducible first | exact HB.out | apply below_alloc | apply pw_below_drewN | apply below_drew1) | exact HB.out)⟩⟩
           · replace c8 := Bool.eq_false_iff.mpr c8
             subst c8
             have H1 : (some false) = some r := by rw [if_neg (show ¬ (false = true) by decide)] at H; exact H
             clear H
             have H := H1
             clear H1
             obtain rfl := Option.some.inj H
             try go_wp2
             have n0_ := Aside0.mk (below_drew1 HB.out)
             clear HB
             have HB := n0_
             clear n0_
             have p365 : 0 ≤ (x5_1 : Int) := of_decide_eq_true (by first | (with_reducible assumption) | assumption)
             have q365 : x5_1 < (l0.length : Int) := of_decide_eq_true (by first | (with_reducible assumption) | assumption)
             obtain ⟨ad365, e365, hx365_0, hx365_1, hx365_2⟩ := at_T109 HR0.out x5_1 p365 q365
             have hw365_2 := hx365_2
             have hw365_1 := hx365_1
             have hw365_0 := hx365_0
             cases e365
             replace hx365_0 := (HB.out.cell (World.block_lt_of_cell? w _ hx365_0)).trans hx365_0
             replace hx365_1 := (HB.out.cell (World.block_lt_of_cell? w _ hx365_1)).trans hx365_1
             replace hx365_2 := (HB.out.cell (World.block_lt_of_cell? w _ hx365_2)).trans hx365_2
             replace p365 := eq_true p365
             replace q365 := eq_true q365
             have p366 : 0 ≤ (x5_1 : Int) := of_decide_eq_true (by first | (with_reducible assumption) | assumption)
             have q366 : x5_1 < (l1.length : Int) := of_decide_eq_true (by first | (with_reducible assumption) | assumption)
             obtain ⟨ad366, e366, hx366_0, hx366_1, hx366_2⟩ := at_T109 HR1.out x5_1 p366 q366
             have hw366_2 := hx366_2
             have hw366_1 := hx366_1
             have hw366_0 := hx366_0
             cases e366
             replace hx366_0 := (HB.out.cell (World.block_lt_of_cell? w _ hx366_0)).trans hx366_0
             replace hx366_1 := (HB.out.cell (World.block_lt_of_cell? w _ hx366_1)).trans hx366_1
             replace hx366_2 := (HB.out.cell (World.block_lt_of_cell? w _ hx366_2)).trans hx366_2
             replace p366 := eq_true p366
             replace q366 := eq_true q366
             refine start_ (n := 10) (S := fun w' => w'.cell? (ad365.add ((x5_1).toNat * 3)) = some (.string ((rd_T109 l0 x5_1).f0)) ∧ w'.cell? ⟨(ad365.add ((x5_1).toNat * 3)).block, (ad365.add ((x5_1).toNat * 3)).off + 1, none⟩ = some (.bool ((rd_T109 l0 x5_1).f1)) ∧ w'.cell? ⟨(ad365.add ((x5_1).toNat * 3)).block, (ad365.add ((x5_1).toNat * 3)).off + 2, none⟩ = some (.int .i64 ((rd_T109 l0 x5_1).f2)) ∧ w'.cell? (ad366.add ((x5_1).toNat * 3)) = some (.string ((rd_T109 l1 x5_1).f0)) ∧ w'.cell? ⟨(ad366.add ((x5_1).toNat * 3)).block, (ad366.add ((x5_1).toNat * 3)).off + 1, none⟩ = some (.bool ((rd_T109 l1 x5_1).f1)) ∧ w'.cell? ⟨(ad366.add ((x5_1).toNat * 3)).block, (ad366.add ((x5_1).toNat * 3)).off + 2, none⟩ = some (.int .i64 ((rd_T109 l1 x5_1).f2))) (ds := []) #[false, false, false, false, false, false, false, false, false, false] (by kernel_rfl) rfl rfl ⟨((HB.out.cell (World.block_lt_of_cell? w _ hw365_0)).trans hw365_0), ((HB.out.cell (World.block_lt_of_cell? w _ hw365_1)).trans hw365_1), ((HB.out.cell (World.block_lt_of_cell? w _ hw365_2)).trans hw365_2), ((HB.out.cell (World.block_lt_of_cell? w _ hw366_0)).trans hw366_0), ((HB.out.cell (World.block_lt_of_cell? w _ hw366_1)).trans hw366_1), ((HB.out.cell (World.block_lt_of_cell? w _ hw366_2)).trans hw366_2)⟩ (fun hHeld => ?_); refine with_tabW laws_eqImageSymbolS.tab6 laws_eqImageSymbolS.bits6 (fun HT_ HW_ => ?_)
             generalize wr.drew = w11 at HB hx365_0 hx365_1 hx365_2 hx366_0 hx366_1 hx366_2 hHeld ⊢
             refine pure_ (i := 0) (N := some 17) (v := ?_) (a' := ?_) #[true, false, false, false, false, false, false, false, false, false] rfl rfl (any_of HT_.out (by kernel_rfl)) (fun _ _ _ h => h) (Or.inl ⟨by rfl, ?_⟩) ?_ ?_
             rotate_left
             · intro w'
               go_simp
               with_reducible rfl
             rotate_left
             · simp only [Act.put, List.setIfInBounds_toArray, List.set_cons_zero, List.set_cons_succ, i64_w, i32_w]
               rfl
             refine pure_ (i := 1) (N := some 18) (v := ?_) (a' := ?_) #[true, true, false, false, false, false, false, false, false, false] rfl rfl (any_of HT_.out (by kernel_rfl)) (fun _ _ _ h => h) (Or.inl ⟨by rfl, ?_⟩) ?_ ?_
             rotate_left
             · intro w'
               go_simp
               with_reducible rfl
             rotate_left
             · simp only [Act.put, List.setIfInBounds_toArray, List.set_cons_zero, List.set_cons_succ, i64_w, i32_w]
               rfl
             refine pure_ (i := 2) (N := some 19) (v := ?_) (a' := ?_) #[true, true, true, false, false, false, false, false, false, false] rfl rfl (any_of HT_.out (by kernel_rfl)) (fun _ _ _ h => h) (Or.inl ⟨by rfl, ?_⟩) ?_ ?_
             rotate_left
             · intro w'
               go_simp
               with_reducible rfl
             rotate_left
             · simp only [Act.put, List.setIfInBounds_toArray, List.set_cons_zero, List.set_cons_succ, i64_w, i32_w]
               rfl
             refine pure_ (i := 4) (N := some 21) (v := ?_) (a' := ?_) #[true, true, true, false, true, false, false, false, false, false] rfl rfl (any_of HT_.out (by kernel_rfl)) (fun _ _ _ h => h) (Or.inl ⟨by rfl, ?_⟩) ?_ ?_
             rotate_left
             · intro w'
               go_simp
               with_reducible rfl
             rotate_left
             · simp only [Act.put, List.setIfInBounds_toArray, List.set_cons_zero, List.set_cons_succ, i64_w, i32_w]
               rfl
             refine pure_ (i := 5) (N := some 22) (v := ?_) (a' := ?_) #[true, true, true, false, true, true, false, false, false, false] rfl rfl (any_of HT_.out (by kernel_rfl)) (fun _ _ _ h => h) (Or.inl ⟨by rfl, ?_⟩) ?_ ?_
             rotate_left
             · intro w'
               go_simp
               with_reducible rfl
             rotate_left
             · simp only [Act.put, List.setIfInBounds_toArray, List.set_cons_zero, List.set_cons_succ, i64_w, i32_w]
               rfl
             refine pure_ (i := 6) (N := some 23) (v := ?_) (a' := ?_) #[true, true, true, false, true, true, true, false, false, false] rfl rfl (any_of HT_.out (by kernel_rfl)) (fun _ _ _ h => h) (Or.inl ⟨by rfl, ?_⟩) ?_ ?_
             rotate_left
             · intro w'
               go_simp
               with_reducible rfl
             rotate_left
             · simp only [Act.put, List.setIfInBounds_toArray, List.set_cons_zero, List.set_cons_succ, i64_w, i32_w]
               rfl
             refine take_ (i := 3) (N := some 20) (v := ?_) (a' := ?_) #[true, true, true, true, true, true, true, false, false, false] rfl rfl (take_ofW HT_.out HW_.out (by kernel_rfl)) (fun _ _ _ h => h) (Or.inl ⟨by rfl, ?_⟩) hHeld ?_ ?_
             rotate_left
             · rintro w' ⟨s0, s1, s2, s3, s4, s5⟩
               go_simp
               with_reducible rfl
             rotate_left
             · simp only [Act.put, List.setIfInBounds_toArray, List.set_cons_zero, List.set_cons_succ, i64_w, i32_w]
               rfl
             refine take_ (i := 7) (N := some 24) (v := ?_) (a' := ?_) #[true, true, true, true, true, true, true, true, false, false] rfl rfl (take_ofW HT_.out HW_.out (by kernel_rfl)) (fun _ _ _ h => h) (Or.inl ⟨by rfl, ?_⟩) hHeld ?_ ?_
             rotate_left
             · rintro w' ⟨s0, s1, s2, s3, s4, s5⟩
               go_simp
               with_reducible rfl
             rotate_left
             · simp only [Act.put, List.setIfInBounds_toArray, List.set_cons_zero, List.set_cons_succ, i64_w, i32_w]
               rfl
             refine one_ (i := 8) (N := some 25) #[true, true, true, true, true, true, true, true, true, false] rfl rfl (one_of HT_.out (by kernel_rfl)) (by decide) (fun K hK => ?_)
             refine goes_ Tryd.func90 (by kernel_rfl) rfl #[.agg #[.string ((rd_T109 l0 x5_1).f0), .bool ((rd_T109 l0 x5_1).f1), .int .i64 ((rd_T109 l0 x5_1).f2)], .agg #[.string ((rd_T109 l1 x5_1).f0), .bool ((rd_T109 l1 x5_1).f1), .int .i64 ((rd_T109 l1 x5_1).f2)]] (by rfl) rfl rfl (by (try simp only [List.map_toArray, List.map_cons, List.map_nil]); first | done | rfl | (simp only [List.length_drop, List.length_take]; rfl)) ?_
             with_reducible refine (laws_eqImageSymbol.calls ((rd_T109 l0 x5_1).f0) ((rd_T109 l0 x5_1).f1) ((rd_T109 l0 x5_1).f2) ((rd_T109 l1 x5_1).f0) ((rd_T109 l1 x5_1).f1) ((rd_T109 l1 x5_1).f2) false _ A7.out).mono ?_
             rintro e w12 ⟨rfl, hb⟩
             refine ⟨_, rfl, ?_⟩
             have n0_ := Aside0.mk (below_step (by repeat (first | (with_reducible first | exact HB.out | apply below_alloc | apply pw_below_drewN | apply below_drew1) | exact HB.out)) hb)
             clear HB
             have HB := n0_
             clear n0_
             (try clear hb)
             (try clear hb2)
             (try clear hk)
             (try clear hi)
             refine hK.out _ _ ⟨((HB.out.cell (World.block_lt_of_cell? w _ hw365_0)).trans hw365_0), ((HB.out.cell (World.block_lt_of_cell? w _ hw365_1)).trans hw365_1), ((HB.out.cell (World.block_lt_of_cell? w _ hw365_2)).trans hw365_2), ((HB.out.cell (World.block_lt_of_cell? w _ hw366_0)).trans hw366_0), ((HB.out.cell (World.block_lt_of_cell? w _ hw366_1)).trans hw366_1), ((HB.out.cell (World.block_lt_of_cell? w _ hw366_2)).trans hw366_2)⟩ (fun hHeld => ?_)
             clear hK K
             refine norm_ (a' := ?_) ?_ ?_
             rotate_left
             · show Act.put _ (some 25) _ = _
               simp only [Act.put, List.setIfInBounds_toArray, List.set_cons_zero, List.set_cons_succ, i64_w, i32_w]
               rfl
             refine pure_ (i := 9) (N := some 26) (v := ?_) (a' := ?_) #[true, true, true, true, true, true, true, true, true, true] rfl rfl (any_of HT_.out (by kernel_rfl)) (fun _ _ _ h => h) (Or.inl ⟨by rfl, ?_⟩) ?_ ?_
             rotate_left
             · intro w'
               go_simp
               with_reducible rfl
             rotate_left
             · simp only [Act.put, List.setIfInBounds_toArray, List.set_cons_zero, List.set_cons_succ, i64_w, i32_w]
               rfl
             refine done_ (done_of HT_.out (by kernel_rfl)) ?_
             try go_wp2
             go_ret
             exact ⟨by first | rfl | (simp [errW_none, errW_some] <;> rfl) | (simp [*, errW_none, errW_some] <;> rfl), by repeat (first | (with_reducible first | exact HB.out | apply below_alloc | apply pw_below_drewN | apply below_drew1) | exact HB.out)⟩
         · rw [if_neg c6] at H
           exact absurd H (by simp)
       · rw [if_neg c5] at H
         exact absurd H (by simp)
     · rw [if_neg c4] at H
       have c4b0 : decide (x5_1 < (l0.length : Int)) = false := decide_eq_false c4
       clear c4
       obtain rfl := Option.some.inj H
       go_wp2
       go_ret
       exact ⟨by first | rfl | (simp [errW_none, errW_some] <;> rfl) | (simp [*, errW_none, errW_some] <;> rfl), by repeat (first | (with_reducible first | exact HB.out | apply below_alloc | apply pw_below_drewN | apply below_drew1) | exact HB.out)⟩
 · rw [if_neg c3] at H
   have c3b0 : ((l0.length : Int) == (l1.length : Int)) = false := beq_eq_false_iff_ne.mpr c3
   have c3b1 : ((l0.length : Int) != (l1.length : Int)) = true := bne_iff_ne.mpr c3
   have c3b2 : (l0.length == l1.length) = false := by first | simpa using c3 | (simp at c3 ⊢; omega)
   obtain rfl := Option.some.inj H
   go_enter Tryd.func69, Tryd.ntmps69
   go_wp2
   go_ret
   exact ⟨by first | rfl | (simp [errW_none, errW_some] <;> rfl) | (simp [*, errW_none, errW_some] <;> rfl), by repeat (first | (with_reducible first | exact HB.out | apply below_alloc | apply pw_below_drewN | apply below_drew1) | exact HB.out)⟩

end Go.Proofs.YtkohjiajbdkcbaaDoor.All


namespace Go.Proofs.YtkohjiajbdkcbaaDoor.All
open Go.RowKit Go.Proofs.YtkohjiajbdkcbaaDoorW.PrintWords Go.Proofs.YtkohjiajbdkcbaaDoorW.PrintLast Go.Proofs.YtkohjiajbdkcbaaDoorW.PrintMore
attribute [local go_sem] max2_int min2_int max_two min_two max_three min_three max_four min_four   -- for this text's walks alone
set_option linter.unusedVariables false
set_option linter.unusedSimpArgs false

/-! ### laws_eqImage: function 28 -/
def laws_eqImage.f (k : Nat) (l0_0 : List Int) (l0_1 : List Int) (a0_2 : Int) (l0_3 : List Int) (a0_4 : Int) (l0_5 : List (S109)) (l1_0 : List Int) (l1_1 : List Int) (a1_2 : Int) (l1_3 : List Int) (a1_4 : Int) (l1_5 : List (S109)) : Option (Bool) := (laws_eqByteS.f k l0_0 l1_0).bind fun t370 => (if t370 = true then ((laws_eqByteS.f k l0_1 l1_1).bind fun t371 => (if t371 = true then (if a0_2 = a1_2 then ((laws_eqInt64S.f k l0_3 l1_3).bind fun t372 => (if t372 = true then (if a0_4 = a1_4 then ((laws_eqImageSymbolS.f k l0_5 l1_5).bind fun t373 => (if t373 = true then (some true) else (some false))) else (some false)) else (some false))) else (some false)) else (some false))) else (some false))
set_option maxHeartbeats 8000000 in
set_option maxRecDepth 100000 in
theorem laws_eqImage.calls (k : Nat) (A0_0 : Option Addr) (c0_0 : Nat) (l0_0 : List Int) (A0_1 : Option Addr) (c0_1 : Nat) (l0_1 : List Int) (a0_2 : Int) (A0_3 : Option Addr) (c0_3 : Nat) (l0_3 : List Int) (a0_4 : Int) (A0_5 : Option Addr) (c0_5 : Nat) (l0_5 : List (S109)) (A1_0 : Option Addr) (c1_0 : Nat) (l1_0 : List Int) (A1_1 : Option Addr) (c1_1 : Nat) (l1_1 : List Int) (a1_2 : Int) (A1_3 : Option Addr) (c1_3 : Nat) (l1_3 : List Int) (a1_4 : Int) (A1_5 : Option Addr) (c1_5 : Nat) (l1_5 : List (S109)) (r : Bool) (w : World) (hr0_0 : Kd.C (Kd.int .u8) w A0_0 l0_0.length l0_0) (hc0_0 : l0_0.length ≤ c0_0) (hr0_1 : Kd.C (Kd.int .u8) w A0_1 l0_1.length l0_1) (hc0_1 : l0_1.length ≤ c0_1) (hr0_3 : Kd.C (Kd.int .i64) w A0_3 l0_3.length l0_3) (hc0_3 : l0_3.length ≤ c0_3) (hr0_5 : Kd.C k109 w A0_5 l0_5.length l0_5) (hc0_5 : l0_5.length ≤ c0_5) (hr1_0 : Kd.C (Kd.int .u8) w A1_0 l1_0.length l1_0) (hc1_0 : l1_0.length ≤ c1_0) (hr1_1 : Kd.C (Kd.int .u8) w A1_1 l1_1.length l1_1) (hc1_1 : l1_1.length ≤ c1_1) (hr1_3 : Kd.C (Kd.int .i64) w A1_3 l1_3.length l1_3) (hc1_3 : l1_3.length ≤ c1_3) (hr1_5 : Kd.C k109 w A1_5 l1_5.length l1_5) (hc1_5 : l1_5.length ≤ c1_5) (h : laws_eqImage.f k l0_0 l0_1 a0_2 l0_3 a0_4 l0_5 l1_0 l1_1 a1_2 l1_3 a1_4 l1_5 = some r) :
 Calls Tryd.prog 28 #[.agg #[.slice A0_0 l0_0.length c0_0, .slice A0_1 l0_1.length c0_1, .int .i64 a0_2, .slice A0_3 l0_3.length c0_3, .int .i64 a0_4, .slice A0_5 l0_5.length c0_5], .agg #[.slice A1_0 l1_0.length c1_0, .slice A1_1 l1_1.length c1_1, .int .i64 a1_2, .slice A1_3 l1_3.length c1_3, .int .i64 a1_4, .slice A1_5 l1_5.length c1_5]] w fun e w' => e = .returned (.bool r) ∧ Below w.heap.size w w' := by
 have hu60 := Tryd.underlying60
 have HR0_0 := Aside0.mk hr0_0
 have HC0_0 := Aside0.mk hc0_0
 clear hr0_0 hc0_0
 have HR0_1 := Aside0.mk hr0_1
 have HC0_1 := Aside0.mk hc0_1
 clear hr0_1 hc0_1
 have HR0_3 := Aside0.mk hr0_3
 have HC0_3 := Aside0.mk hc0_3
 clear hr0_3 hc0_3
 have HR0_5 := Aside0.mk hr0_5
 have HC0_5 := Aside0.mk hc0_5
 clear hr0_5 hc0_5
 have HR1_0 := Aside0.mk hr1_0
 have HC1_0 := Aside0.mk hc1_0
 clear hr1_0 hc1_0
 have HR1_1 := Aside0.mk hr1_1
 have HC1_1 := Aside0.mk hc1_1
 clear hr1_1 hc1_1
 have HR1_3 := Aside0.mk hr1_3
 have HC1_3 := Aside0.mk hc1_3
 clear hr1_3 hc1_3
 have HR1_5 := Aside0.mk hr1_5
 have HC1_5 := Aside0.mk hc1_5
 clear hr1_5 hc1_5
 have HB := Aside0.mk (Below.refl w.heap.size w)
 have H : ((laws_eqByteS.f k l0_0 l1_0).bind fun t370 => (if t370 = true then ((laws_eqByteS.f k l0_1 l1_1).bind fun t371 => (if t371 = true then (if a0_2 = a1_2 then ((laws_eqInt64S.f k l0_3 l1_3).bind fun t372 => (if t372 = true then (if a0_4 = a1_4 then ((laws_eqImageSymbolS.f k l0_5 l1_5).bind fun t373 => (if t373 = true then (some true) else (some false))) else (some false)) else (some false))) else (some false)) else (some false))) else (some false))) = some r := h
 clear h
 replace H := Option.bind_eq_some_iff.mp H
 obtain ⟨t370, A30, H⟩ := H
 replace H : (if t370 = true then ((laws_eqByteS.f k l0_1 l1_1).bind fun t371 => (if t371 = true then (if a0_2 = a1_2 then ((laws_eqInt64S.f k l0_3 l1_3).bind fun t372 => (if t372 = true then (if a0_4 = a1_4 then ((laws_eqImageSymbolS.f k l0_5 l1_5).bind fun t373 => (if t373 = true then (some true) else (some false))) else (some false)) else (some false))) else (some false)) else (some false))) else (some false)) = some r := H
 have A3 := Aside0.mk A30
 clear A30
 by_cases c4 : t370 = true
 · subst c4
   have H1 : ((laws_eqByteS.f k l0_1 l1_1).bind fun t371 => (if t371 = true then (if a0_2 = a1_2 then ((laws_eqInt64S.f k l0_3 l1_3).bind fun t372 => (if t372 = true then (if a0_4 = a1_4 then ((laws_eqImageSymbolS.f k l0_5 l1_5).bind fun t373 => (if t373 = true then (some true) else (some false))) else (some false)) else (some false))) else (some false)) else (some false))) = some r := by rw [if_pos rfl] at H; exact H
   clear H
   have H := H1
   clear H1
   replace H := Option.bind_eq_some_iff.mp H
   obtain ⟨t371, A50, H⟩ := H
   replace H : (if t371 = true then (if a0_2 = a1_2 then ((laws_eqInt64S.f k l0_3 l1_3).bind fun t372 => (if t372 = true then (if a0_4 = a1_4 then ((laws_eqImageSymbolS.f k l0_5 l1_5).bind fun t373 => (if t373 = true then (some true) else (some false))) else (some false)) else (some false))) else (some false)) else (some false)) = some r := H
   have A5 := Aside0.mk A50
   clear A50
   by_cases c6 : t371 = true
   · subst c6
     have H1 : (if a0_2 = a1_2 then ((laws_eqInt64S.f k l0_3 l1_3).bind fun t372 => (if t372 = true then (if a0_4 = a1_4 then ((laws_eqImageSymbolS.f k l0_5 l1_5).bind fun t373 => (if t373 = true then (some true) else (some false))) else (some false)) else (some false))) else (some false)) = some r := by rw [if_pos rfl] at H; exact H
     clear H
     have H := H1
     clear H1
     by_cases c7 : a0_2 = a1_2
     · rw [if_pos c7] at H
       have c7b0 : (a0_2 == a1_2) = true := beq_iff_eq.mpr c7
       have c7b1 : (a0_2 != a1_2) = false := bne_eq_false_iff_eq.mpr c7
       clear c7
       replace H := Option.bind_eq_some_iff.mp H
       obtain ⟨t372, A80, H⟩ := H
       replace H : (if t372 = true then (if a0_4 = a1_4 then ((laws_eqImageSymbolS.f k l0_5 l1_5).bind fun t373 => (if t373 = true then (some true) else (some false))) else (some false)) else (some false)) = some r := H
       have A8 := Aside0.mk A80
       clear A80
       by_cases c9 : t372 = true
       · subst c9
         have H1 : (if a0_4 = a1_4 then ((laws_eqImageSymbolS.f k l0_5 l1_5).bind fun t373 => (if t373 = true then (some true) else (some false))) else (some false)) = some r := by rw [if_pos rfl] at H; exact H
         clear H
         have H := H1
         clear H1
         by_cases c10 : a0_4 = a1_4
         · rw [if_pos c10] at H
           have c10b0 : (a0_4 == a1_4) = true := beq_iff_eq.mpr c10
           have c10b1 : (a0_4 != a1_4) = false := bne_eq_false_iff_eq.mpr c10
           clear c10
           replace H := Option.bind_eq_some_iff.mp H
           obtain ⟨t373, A110, H⟩ := H
           replace H : (if t373 = true then (some true) else (some false)) = some r := H
           have A11 := Aside0.mk A110
           clear A110
           by_cases c12 : t373 = true
           · subst c12
             have H1 : (some true) = some r := by rw [if_pos rfl] at H; exact H
             clear H
             have H := H1
             clear H1
             obtain rfl := Option.some.inj H
             go_enter Tryd.func28, Tryd.ntmps28
             go_wp2_with (first | ((with_reducible refine gate_dst (N := 2) rfl ?_); refine box_event ?hg (N := 2) ?hd (cs := #[.slice A0_0 l0_0.length c0_0, .slice A0_1 l0_1.length c0_1, .int .i64 a0_2, .slice A0_3 l0_3.length c0_3, .int .i64 a0_4, .slice A0_5 l0_5.length c0_5]) (t := 60) ?hr ?_; (case hd => rfl); (case hg => rfl); (case hr => first | (go_simp; done) | (go_simp; rfl)); intro gb368 hg w13 hbox hb; have n0_ := Aside0.mk (below_step (by repeat (first | (with_reducible first | exact HB.out | apply below_alloc | apply pw_below_drewN | apply below_drew1) | exact HB.out)) hb); have n1_ := Aside0.mk (hbox); have n2_ := Aside0.mk ((by rw [hg]; exact (below_size (by repeat (first | (with_reducible first | exact HB.out | apply below_alloc | apply pw_below_drewN | apply below_drew1) | exact HB.out))) : w.heap.size ≤ gb368)); have n3_ := Aside0.mk ((by rw [hg]; exact (below_size (by repeat (first | (with_reducible first | exact HB.out | apply below_alloc | apply pw_below_drewN | apply below_drew1) | exact HB.out))) : w.heap.size ≤ gb368)); clear HB; have HB := n0_; have BK368 := n1_; have GW368 := n2_; have GE368 := n3_; clear n0_ n1_ n2_ n3_; clear hb hbox hg) | ((with_reducible refine gate_dst (N := 3) rfl ?_); refine box_event ?hg (N := 3) ?hd (cs := #[.slice A1_0 l1_0.length c1_0, .slice A1_1 l1_1.length c1_1, .int .i64 a1_2, .slice A1_3 l1_3.length c1_3, .int .i64 a1_4, .slice A1_5 l1_5.length c1_5]) (t := 60) ?hr ?_; (case hd => rfl); (case hg => rfl); (case hr => first | (go_simp; done) | (go_simp; rfl)); intro gb369 hg w14 hbox hb; have n0_ := Aside0.mk (blk_below (g := gb368) (o := .cells #[.slice A0_0 l0_0.length c0_0, .slice A0_1 l0_1.length c0_1, .int .i64 a0_2, .slice A0_3 l0_3.length c0_3, .int .i64 a0_4, .slice A0_5 l0_5.length c0_5] 60 (0, 0)) (by (with_reducible repeat (first | refine blk_drewN ?_ _ | refine blk_drew ?_ | refine blk_alloc ?_ _)); exact BK368.out) hb); have n1_ := Aside0.mk (below_step (by repeat (first | (with_reducible first | exact HB.out | apply below_alloc | apply pw_below_drewN | apply below_drew1 | refine below_set ?_ GE368.out) | exact HB.out)) hb); have n2_ := Aside0.mk (hbox); have n3_ := Aside0.mk ((by rw [hg]; exact (below_size (by repeat (first | (with_reducible first | exact HB.out | apply below_alloc | apply pw_below_drewN | apply below_drew1 | refine below_set ?_ GE368.out) | exact HB.out))) : w.heap.size ≤ gb369)); have n4_ := Aside0.mk ((by rw [hg]; exact (below_size (by repeat (first | (with_reducible first | exact HB.out | apply below_alloc | apply pw_below_drewN | apply below_drew1 | refine below_set ?_ GE368.out) | exact HB.out))) : w.heap.size ≤ gb369)); have n5_ := Aside0.mk ((by rw [hg]; exact Nat.ne_of_lt (blk_lt (g := gb368) (o := .cells #[.slice A0_0 l0_0.length c0_0, .slice A0_1 l0_1.length c0_1, .int .i64 a0_2, .slice A0_3 l0_3.length c0_3, .int .i64 a0_4, .slice A0_5 l0_5.length c0_5] 60 (0, 0)) (by (with_reducible repeat (first | refine blk_drewN ?_ _ | refine blk_drew ?_ | refine blk_alloc ?_ _)); exact BK368.out)) : gb368 ≠ gb369)); have n6_ := Aside0.mk ((by rw [hg]; exact Nat.ne_of_gt (blk_lt (g := gb368) (o := .cells #[.slice A0_0 l0_0.length c0_0, .slice A0_1 l0_1.length c0_1, .int .i64 a0_2, .slice A0_3 l0_3.length c0_3, .int .i64 a0_4, .slice A0_5 l0_5.length c0_5] 60 (0, 0)) (by (with_reducible repeat (first | refine blk_drewN ?_ _ | refine blk_drew ?_ | refine blk_alloc ?_ _)); exact BK368.out)) : gb369 ≠ gb368)); clear BK368; clear HB; have BK368 := n0_; have HB := n1_; have BK369 := n2_; have GW369 := n3_; have GE369 := n4_; have NB368_369 := n5_; have NB369_368 := n6_; clear n0_ n1_ n2_ n3_ n4_ n5_ n6_; clear hb hbox hg; have hnb15 := NB368_369.out; have hnc15 := NB369_368.out; have hcz16_0 : w14.cell? ⟨gb368, 0, none⟩ = some (.slice A0_0 l0_0.length c0_0) := (blk_cell BK368.out 0).trans rfl; have hcz16_1 : w14.cell? ⟨gb368, 1, none⟩ = some (.slice A0_1 l0_1.length c0_1) := (blk_cell BK368.out 1).trans rfl; have hcz16_2 : w14.cell? ⟨gb368, 2, none⟩ = some (.int .i64 a0_2) := (blk_cell BK368.out 2).trans rfl; have hcz16_3 : w14.cell? ⟨gb368, 3, none⟩ = some (.slice A0_3 l0_3.length c0_3) := (blk_cell BK368.out 3).trans rfl; have hcz16_4 : w14.cell? ⟨gb368, 4, none⟩ = some (.int .i64 a0_4) := (blk_cell BK368.out 4).trans rfl; have hcz16_5 : w14.cell? ⟨gb368, 5, none⟩ = some (.slice A0_5 l0_5.length c0_5) := (blk_cell BK368.out 5).trans rfl; have hfz16_0 := blk_frozen BK368.out 0; have hfz16_1 := blk_frozen BK368.out 1; have hfz16_2 := blk_frozen BK368.out 2; have hfz16_3 := blk_frozen BK368.out 3; have hfz16_4 := blk_frozen BK368.out 4; have hfz16_5 := blk_frozen BK368.out 5; have hcz17_0 : w14.cell? ⟨gb369, 0, none⟩ = some (.slice A1_0 l1_0.length c1_0) := (blk_cell BK369.out 0).trans rfl; have hcz17_1 : w14.cell? ⟨gb369, 1, none⟩ = some (.slice A1_1 l1_1.length c1_1) := (blk_cell BK369.out 1).trans rfl; have hcz17_2 : w14.cell? ⟨gb369, 2, none⟩ = some (.int .i64 a1_2) := (blk_cell BK369.out 2).trans rfl; have hcz17_3 : w14.cell? ⟨gb369, 3, none⟩ = some (.slice A1_3 l1_3.length c1_3) := (blk_cell BK369.out 3).trans rfl; have hcz17_4 : w14.cell? ⟨gb369, 4, none⟩ = some (.int .i64 a1_4) := (blk_cell BK369.out 4).trans rfl; have hcz17_5 : w14.cell? ⟨gb369, 5, none⟩ = some (.slice A1_5 l1_5.length c1_5) := (blk_cell BK369.out 5).trans rfl; have hfz17_0 := blk_frozen BK369.out 0; have hfz17_1 := blk_frozen BK369.out 1; have hfz17_2 := blk_frozen BK369.out 2; have hfz17_3 := blk_frozen BK369.out 3; have hfz17_4 := blk_frozen BK369.out 4; have hfz17_5 := blk_frozen BK369.out 5) | ((with_reducible refine gate_callee (f := 67) rfl ?_); refine goesL_ (some 9) rfl rfl Tryd.func67 (by kernel_rfl) rfl #[.slice A0_0 l0_0.length c0_0, .slice A1_0 l1_0.length c1_0] rfl (by (try simp only [List.map_toArray, List.map_cons, List.map_nil]); first | done | rfl | (simp only [List.length_drop, List.length_take]; rfl)) ?_; (with_reducible refine (laws_eqByteS.calls k _ _ l0_0 _ _ l1_0 true _ ?side1 ?side2 ?side3 ?side4 A3.out).mono ?_); (case side1 => repeat (first | exact (Kd.C_below HR0_0.out HB.out) | (with_reducible refine Kd.C_alloc ?_ _) | (with_reducible refine Kd.C_drewN ?_ _) | (with_reducible refine Kd.C_drew ?_))); (case side2 => exact HC0_0.out); (case side3 => repeat (first | exact (Kd.C_below HR1_0.out HB.out) | (with_reducible refine Kd.C_alloc ?_ _) | (with_reducible refine Kd.C_drewN ?_ _) | (with_reducible refine Kd.C_drew ?_))); (case side4 => exact HC1_0.out); rintro e w' ⟨rfl, ⟨nd, rfl⟩⟩; refine ⟨_, rfl, ?_⟩) | ((with_reducible refine gate_callee (f := 67) rfl ?_); refine goesL_ (some 15) rfl rfl Tryd.func67 (by kernel_rfl) rfl #[.slice A0_1 l0_1.length c0_1, .slice A1_1 l1_1.length c1_1] rfl (by (try simp only [List.map_toArray, List.map_cons, List.map_nil]); first | done | rfl | (simp only [List.length_drop, List.length_take]; rfl)) ?_; (with_reducible refine (laws_eqByteS.calls k _ _ l0_1 _ _ l1_1 true _ ?side1 ?side2 ?side3 ?side4 A5.out).mono ?_); (case side1 => repeat (first | exact (Kd.C_below HR0_1.out (by repeat (first | (with_reducible first | exact HB.out | apply below_alloc | apply pw_below_drewN | apply below_drew1 | refine below_set ?_ GE368.out | refine below_set ?_ GE369.out) | exact HB.out))) | (with_reducible refine Kd.C_alloc ?_ _) | (with_reducible refine Kd.C_drewN ?_ _) | (with_reducible refine Kd.C_drew ?_))); (case side2 => exact HC0_1.out); (case side3 => repeat (first | exact (Kd.C_below HR1_1.out (by repeat (first | (with_reducible first | exact HB.out | apply below_alloc | apply pw_below_drewN | apply below_drew1 | refine below_set ?_ GE368.out | refine below_set ?_ GE369.out) | exact HB.out))) | (with_reducible refine Kd.C_alloc ?_ _) | (with_reducible refine Kd.C_drewN ?_ _) | (with_reducible refine Kd.C_drew ?_))); (case side4 => exact HC1_1.out); rintro e w' ⟨rfl, ⟨nd, rfl⟩⟩; refine ⟨_, rfl, ?_⟩) | ((with_reducible refine gate_callee (f := 68) rfl ?_); refine goesL_ (some 26) rfl rfl Tryd.func68 (by kernel_rfl) rfl #[.slice A0_3 l0_3.length c0_3, .slice A1_3 l1_3.length c1_3] rfl (by (try simp only [List.map_toArray, List.map_cons, List.map_nil]); first | done | rfl | (simp only [List.length_drop, List.length_take]; rfl)) ?_; (with_reducible refine (laws_eqInt64S.calls k _ _ l0_3 _ _ l1_3 true _ ?side1 ?side2 ?side3 ?side4 A8.out).mono ?_); (case side1 => repeat (first | exact (Kd.C_below HR0_3.out (by repeat (first | (with_reducible first | exact HB.out | apply below_alloc | apply pw_below_drewN | apply below_drew1 | refine below_set ?_ GE368.out | refine below_set ?_ GE369.out) | exact HB.out))) | (with_reducible refine Kd.C_alloc ?_ _) | (with_reducible refine Kd.C_drewN ?_ _) | (with_reducible refine Kd.C_drew ?_))); (case side2 => exact HC0_3.out); (case side3 => repeat (first | exact (Kd.C_below HR1_3.out (by repeat (first | (with_reducible first | exact HB.out | apply below_alloc | apply pw_below_drewN | apply below_drew1 | refine below_set ?_ GE368.out | refine below_set ?_ GE369.out) | exact HB.out))) | (with_reducible refine Kd.C_alloc ?_ _) | (with_reducible refine Kd.C_drewN ?_ _) | (with_reducible refine Kd.C_drew ?_))); (case side4 => exact HC1_3.out); rintro e w' ⟨rfl, ⟨nd, rfl⟩⟩; refine ⟨_, rfl, ?_⟩) | ((with_reducible refine gate_callee (f := 69) rfl ?_); refine goesL_ (some 37) rfl rfl Tryd.func69 (by kernel_rfl) rfl #[.slice A0_5 l0_5.length c0_5, .slice A1_5 l1_5.length c1_5] rfl (by (try simp only [List.map_toArray, List.map_cons, List.map_nil]); first | done | rfl | (simp only [List.length_drop, List.length_take]; rfl)) ?_; (with_reducible refine (laws_eqImageSymbolS.calls k _ _ l0_5 _ _ l1_5 true _ ?side1 ?side2 ?side3 ?side4 A11.out).mono ?_); (case side1 => repeat (first | exact (Kd.C_below HR0_5.out (by repeat (first | (with_reducible first | exact HB.out | apply below_alloc | apply pw_below_drewN | apply below_drew1 | refine below_set ?_ GE368.out | refine below_set ?_ GE369.out) | exact HB.out))) | (with_reducible refine Kd.C_alloc ?_ _) | (with_reducible refine Kd.C_drewN ?_ _) | (with_reducible refine Kd.C_drew ?_))); (case side2 => exact HC0_5.out); (case side3 => repeat (first | exact (Kd.C_below HR1_5.out (by repeat (first | (with_reducible first | exact HB.out | apply below_alloc | apply pw_below_drewN | apply below_drew1 | refine below_set ?_ GE368.out | refine below_set ?_ GE369.out) | exact HB.out))) | (with_reducible refine Kd.C_alloc ?_ _) | (with_reducible refine Kd.C_drewN ?_ _) | (with_reducible refine Kd.C_drew ?_))); (case side4 => exact HC1_5.out); rintro e w18 ⟨rfl, hb⟩; refine ⟨_, rfl, ?_⟩; have n0_ := Aside0.mk (blk_below (g := gb368) (o := .cells #[.slice A0_0 l0_0.length c0_0, .slice A0_1 l0_1.length c0_1, .int .i64 a0_2, .slice A0_3 l0_3.length c0_3, .int .i64 a0_4, .slice A0_5 l0_5.length c0_5] 60 (0, 0)) (by (with_reducible repeat (first | refine blk_drewN ?_ _ | refine blk_drew ?_ | refine blk_alloc ?_ _)); exact BK368.out) hb); have n1_ := Aside0.mk (blk_below (g := gb369) (o := .cells #[.slice A1_0 l1_0.length c1_0, .slice A1_1 l1_1.length c1_1, .int .i64 a1_2, .slice A1_3 l1_3.length c1_3, .int .i64 a1_4, .slice A1_5 l1_5.length c1_5] 60 (0, 0)) (by (with_reducible repeat (first | refine blk_drewN ?_ _ | refine blk_drew ?_ | refine blk_alloc ?_ _)); exact BK369.out) hb); have n2_ := Aside0.mk (below_step (by repeat (first | (with_reducible first | exact HB.out | apply below_alloc | apply pw_below_drewN | apply below_drew1 | refine below_set ?_ GE368.out | refine below_set ?_ GE369.out) | exact HB.out)) hb); clear BK368; clear BK369; clear HB; have BK368 := n0_; have BK369 := n1_; have HB := n2_; clear n0_ n1_ n2_; (try clear hb); (try clear hb2); (try clear hk); (try clear hi)))
             go_ret
             exact ⟨by first | rfl | (simp [errW_none, errW_some] <;> rfl) | (simp [*, errW_none, errW_some] <;> rfl), by repeat (first | (with_reducible first | exact HB.out | apply below_alloc | apply pw_below_drewN | apply below_drew1 | refine below_set ?_ GE368.out | refine below_set ?_ GE369.out) | exact HB.out)⟩
           · replace c12 := Bool.eq_false_iff.mpr c12
             subst c12
             have H1 : (some false) = some r := by rw [if_neg (show ¬ (false = true) by decide)] at H; exact H
             clear H
             have H := H1
             clear H1
             obtain rfl := Option.some.inj H
             go_enter Tryd.func28, Tryd.ntmps28
             go_wp2_with (first | ((with_reducible refine gate_dst (N := 2) rfl ?_); refine box_event ?hg (N := 2) ?hd (cs := #[.slice A0_0 l0_0.length c0_0, .slice A0_1 l0_1.length c0_1, .int .i64 a0_2, .slice A0_3 l0_3.length c0_3, .int .i64 a0_4, .slice A0_5 l0_5.length c0_5]) (t := 60) ?hr ?_; (case hd => rfl); (case hg => rfl); (case hr => first | (go_simp; done) | (go_simp; rfl)); intro gb368 hg w19 hbox hb; have n0_ := Aside0.mk (below_step (by repeat (first | (with_reducible first | exact HB.out | apply below_alloc | apply pw_below_drewN | apply below_drew1) | exact HB.out)) hb); have n1_ := Aside0.mk (hbox); have n2_ := Aside0.mk ((by rw [hg]; exact (below_size (by repeat (first | (with_reducible first | exact HB.out | apply below_alloc | apply pw_below_drewN | apply below_drew1) | exact HB.out))) : w.heap.size ≤ gb368)); have n3_ := Aside0.mk ((by rw [hg]; exact (below_size (by repeat (first | (with_reducible first | exact HB.out | apply below_alloc | apply pw_below_drewN | apply below_drew1) | exact HB.out))) : w.heap.size ≤ gb368)); clear HB; have HB := n0_; have BK368 := n1_; have GW368 := n2_; have GE368 := n3_; clear n0_ n1_ n2_ n3_; clear hb hbox hg) | ((with_reducible refine gate_dst (N := 3) rfl ?_); refine box_event ?hg (N := 3) ?hd (cs := #[.slice A1_0 l1_0.length c1_0, .slice A1_1 l1_1.length c1_1, .int .i64 a1_2, .slice A1_3 l1_3.length c1_3, .int .i64 a1_4, .slice A1_5 l1_5.length c1_5]) (t := 60) ?hr ?_; (case hd => rfl); (case hg => rfl); (case hr => first | (go_simp; done) | (go_simp; rfl)); intro gb369 hg w20 hbox hb; have n0_ := Aside0.mk (blk_below (g := gb368) (o := .cells #[.slice A0_0 l0_0.length c0_0, .slice A0_1 l0_1.length c0_1, .int .i64 a0_2, .slice A0_3 l0_3.length c0_3, .int .i64 a0_4, .slice A0_5 l0_5.length c0_5] 60 (0, 0)) (by (with_reducible repeat (first | refine blk_drewN ?_ _ | refine blk_drew ?_ | refine blk_alloc ?_ _)); exact BK368.out) hb); have n1_ := Aside0.mk (below_step (by repeat (first | (with_reducible first | exact HB.out | apply below_alloc | apply pw_below_drewN | apply below_drew1 | refine below_set ?_ GE368.out) | exact HB.out)) hb); have n2_ := Aside0.mk (hbox); have n3_ := Aside0.mk ((by rw [hg]; exact (below_size (by repeat (first | (with_reducible first | exact HB.out | apply below_alloc | apply pw_below_drewN | apply below_drew1 | refine below_set ?_ GE368.out) | exact HB.out))) : w.heap.size ≤ gb369)); have n4_ := Aside0.mk ((by rw [hg]; exact (below_size (by repeat (first | (with_reducible first | exact HB.out | apply below_alloc | apply pw_below_drewN | apply below_drew1 | refine below_set ?_ GE368.out) | exact HB.out))) : w.heap.size ≤ gb369)); have n5_ := Aside0.mk ((by rw [hg]; exact Nat.ne_of_lt (blk_lt (g := gb368) (o := .cells #[.slice A0_0 l0_0.length c0_0, .slice A0_1 l0_1.length c0_1, .int .i64 a0_2, .slice A0_3 l0_3.length c0_3, .int .i64 a0_4, .slice A0_5 l0_5.length c0_5] 60 (0, 0)) (by (with_reducible repeat (first | refine blk_drewN ?_ _ | refine blk_drew ?_ | refine blk_alloc ?_ _)); exact BK368.out)) : gb368 ≠ gb369)); have n6_ := Aside0.mk ((by rw [hg]; exact Nat.ne_of_gt (blk_lt (g := gb368) (o := .cells #[.slice A0_0 l0_0.length c0_0, .slice A0_1 l0_1.length c0_1, .int .i64 a0_2, .slice A0_3 l0_3.length c0_3, .int .i64 a0_4, .slice A0_5 l0_5.length c0_5] 60 (0, 0)) (by (with_reducible repeat (first | refine blk_drewN ?_ _ | refine blk_drew ?_ | refine blk_alloc ?_ _)); exact BK368.out)) : gb369 ≠ gb368)); clear BK368; clear HB; have BK368 := n0_; have HB := n1_; have BK369 := n2_; have GW369 := n3_; have GE369 := n4_; have NB368_369 := n5_; have NB369_368 := n6_; clear n0_ n1_ n2_ n3_ n4_ n5_ n6_; clear hb hbox hg; have hnb21 := NB368_369.out; have hnc21 := NB369_368.out; have hcz22_0 : w20.cell? ⟨gb368, 0, none⟩ = some (.slice A0_0 l0_0.length c0_0) := (blk_cell BK368.out 0).trans rfl; have hcz22_1 : w20.cell? ⟨gb368, 1, none⟩ = some (.slice A0_1 l0_1.length c0_1) := (blk_cell BK368.out 1).trans rfl; have hcz22_2 : w20.cell? ⟨gb368, 2, none⟩ = some (.int .i64 a0_2) := (blk_cell BK368.out 2).trans rfl; have hcz22_3 : w20.cell? ⟨gb368, 3, none⟩ = some (.slice A0_3 l0_3.length c0_3) := (blk_cell BK368.out 3).trans rfl; have hcz22_4 : w20.cell? ⟨gb368, 4, none⟩ = some (.int .i64 a0_4) := (blk_cell BK368.out 4).trans rfl; have hcz22_5 : w20.cell? ⟨gb368, 5, none⟩ = some (.slice A0_5 l0_5.length c0_5) := (blk_cell BK368.out 5).trans rfl; have hfz22_0 := blk_frozen BK368.out 0; have hfz22_1 := blk_frozen BK368.out 1; have hfz22_2 := blk_frozen BK368.out 2; have hfz22_3 := blk_frozen BK368.out 3; have hfz22_4 := blk_frozen BK368.out 4; have hfz22_5 := blk_frozen BK368.out 5; have hcz23_0 : w20.cell? ⟨gb369, 0, none⟩ = some (.slice A1_0 l1_0.length c1_0) := (blk_cell BK369.out 0).trans rfl; have hcz23_1 : w20.cell? ⟨gb369, 1, none⟩ = some (.slice A1_1 l1_1.length c1_1) := (blk_cell BK369.out 1).trans rfl; have hcz23_2 : w20.cell? ⟨gb369, 2, none⟩ = some (.int .i64 a1_2) := (blk_cell BK369.out 2).trans rfl; have hcz23_3 : w20.cell? ⟨gb369, 3, none⟩ = some (.slice A1_3 l1_3.length c1_3) := (blk_cell BK369.out 3).trans rfl; have hcz23_4 : w20.cell? ⟨gb369, 4, none⟩ = some (.int .i64 a1_4) := (blk_cell BK369.out 4).trans rfl; have hcz23_5 : w20.cell? ⟨gb369, 5, none⟩ = some (.slice A1_5 l1_5.length c1_5) := (blk_cell BK369.out 5).trans rfl; have hfz23_0 := blk_frozen BK369.out 0; have hfz23_1 := blk_frozen BK369.out 1; have hfz23_2 := blk_frozen BK369.out 2; have hfz23_3 := blk_frozen BK369.out 3; have hfz23_4 := blk_frozen BK369.out 4; have hfz23_5 := blk_frozen BK369.out 5) | ((with_reducible refine gate_callee (f := 67) rfl ?_); refine goesL_ (some 9) rfl rfl Tryd.func67 (by kernel_rfl) rfl #[.slice A0_0 l0_0.length c0_0, .slice A1_0 l1_0.length c1_0] rfl (by (try simp only [List.map_toArray, List.map_cons, List.map_nil]); first | done | rfl | (simp only [List.length_drop, List.length_take]; rfl)) ?_; (with_reducible refine (laws_eqByteS.calls k _ _ l0_0 _ _ l1_0 true _ ?side1 ?side2 ?side3 ?side4 A3.out).mono ?_); (case side1 => repeat (first | exact (Kd.C_below HR0_0.out HB.out) | (with_reducible refine Kd.C_alloc ?_ _) | (with_reducible refine Kd.C_drewN ?_ _) | (with_reducible refine Kd.C_drew ?_))); (case side2 => exact HC0_0.out); (case side3 => repeat (first | exact (Kd.C_below HR1_0.out HB.out) | (with_reducible refine Kd.C_alloc ?_ _) | (with_reducible refine Kd.C_drewN ?_ _) | (with_reducible refine Kd.C_drew ?_))); (case side4 => exact HC1_0.out); rintro e w' ⟨rfl, ⟨nd, rfl⟩⟩; refine ⟨_, rfl, ?_⟩) | ((with_reducible refine gate_callee (f := 67) rfl ?_); refine goesL_ (some 15) rfl rfl Tryd.func67 (by kernel_rfl) rfl #[.slice A0_1 l0_1.length c0_1, .slice A1_1 l1_1.length c1_1] rfl (by (try simp only [List.map_toArray, List.map_cons, List.map_nil]); first | done | rfl | (simp only [List.length_drop, List.length_take]; rfl)) ?_; (with_reducible refine (laws_eqByteS.calls k _ _ l0_1 _ _ l1_1 true _ ?side1 ?side2 ?side3 ?side4 A5.out).mono ?_); (case side1 => repeat (first | exact (Kd.C_below HR0_1.out (by repeat (first | (with_reducible first | exact HB.out | apply below_alloc | apply pw_below_drewN | apply below_drew1 | refine below_set ?_ GE368.out | refine below_set ?_ GE369.out) | exact HB.out))) | (with_reducible refine Kd.C_alloc ?_ _) | (with_reducible refine Kd.C_drewN ?_ _) | (with_reducible refine Kd.C_drew ?_))); (case side2 => exact HC0_1.out); (case side3 => repeat (first | exact (Kd.C_below HR1_1.out (by repeat (first | (with_reducible first | exact HB.out | apply below_alloc | apply pw_below_drewN | apply below_drew1 | refine below_set ?_ GE368.out | refine below_set ?_ GE369.out) | exact HB.out))) | (with_reducible refine Kd.C_alloc ?_ _) | (with_reducible refine Kd.C_drewN ?_ _) | (with_reducible refine Kd.C_drew ?_))); (case side4 => exact HC1_1.out); rintro e w' ⟨rfl, ⟨nd, rfl⟩⟩; refine ⟨_, rfl, ?_⟩) | ((with_reducible refine gate_callee (f := 68) rfl ?_); refine goesL_ (some 26) rfl rfl Tryd.func68 (by kernel_rfl) rfl #[.slice A0_3 l0_3.length c0_3, .slice A1_3 l1_3.length c1_3] rfl (by (try simp only [List.map_toArray, List.map_cons, List.map_nil]); first | done | rfl | (simp only [List.length_drop, List.length_take]; rfl)) ?_; (with_reducible refine (laws_eqInt64S.calls k _ _ l0_3 _ _ l1_3 true _ ?side1 ?side2 ?side3 ?side4 A8.out).mono ?_); (case side1 => repeat (first | exact (Kd.C_below HR0_3.out (by repeat (first | (with_reducible first | exact HB.out | apply below_alloc | apply pw_below_drewN | apply below_drew1 | refine below_set ?_ GE368.out | refine below_set ?_ GE369.out) | exact HB.out))) | (with_reducible refine Kd.C_alloc ?_ _) | (with_reducible refine Kd.C_drewN ?_ _) | (with_reducible refine Kd.C_drew ?_))); (case side2 => exact HC0_3.out); (case side3 => repeat (first | exact (Kd.C_below HR1_3.out (by repeat (first | (with_reducible first | exact HB.out | apply below_alloc | apply pw_below_drewN | apply below_drew1 | refine below_set ?_ GE368.out | refine below_set ?_ GE369.out) | exact HB.out))) | (with_reducible refine Kd.C_alloc ?_ _) | (with_reducible refine Kd.C_drewN ?_ _) | (with_reducible refine Kd.C_drew ?_))); (case side4 => exact HC1_3.out); rintro e w' ⟨rfl, ⟨nd, rfl⟩⟩; refine ⟨_, rfl, ?_⟩) | ((with_reducible refine gate_callee (f := 69) rfl ?_); refine goesL_ (some 37) rfl rfl Tryd.func69 (by kernel_rfl) rfl #[.slice A0_5 l0_5.length c0_5, .slice A1_5 l1_5.length c1_5] rfl (by (try simp only [List.map_toArray, List.map_cons, List.map_nil]); first | done | rfl | (simp only [List.length_drop, List.length_take]; rfl)) ?_; (with_reducible refine (laws_eqImageSymbolS.calls k _ _ l0_5 _ _ l1_5 false _ ?side1 ?side2 ?side3 ?side4 A11.out).mono ?_); (case side1 => repeat (first | exact (Kd.C_below HR0_5.out (by repeat (first | (with_reducible first | exact HB.out | apply below_alloc | apply pw_below_drewN | apply below_drew1 | refine below_set ?_ GE368.out | refine below_set ?_ GE369.out) | exact HB.out))) | (with_reducible refine Kd.C_alloc ?_ _) | (with_reducible refine Kd.C_drewN ?_ _) | (with_reducible refine Kd.C_drew ?_))); (case side2 => exact HC0_5.out); (case side3 => repeat (first | exact (Kd.C_below HR1_5.out (by repeat (first | (with_reducible first | exact HB.out | apply below_alloc | apply pw_below_drewN | apply below_drew1 | refine below_set ?_ GE368.out | refine below_set ?_ GE369.out) | exact HB.out))) | (with_reducible refine Kd.C_alloc ?_ _) | (with_reducible refine Kd.C_drewN ?_ _) | (with_reducible refine Kd.C_drew ?_))); (case side4 => exact HC1_5.out); rintro e w24 ⟨rfl, hb⟩; refine ⟨_, rfl, ?_⟩; have n0_ := Aside0.mk (blk_below (g := gb368) (o := .cells #[.slice A0_0 l0_0.length c0_0, .slice A0_1 l0_1.length c0_1, .int .i64 a0_2, .slice A0_3 l0_3.length c0_3, .int .i64 a0_4, .slice A0_5 l0_5.length c0_5] 60 (0, 0)) (by (with_reducible repeat (first | refine blk_drewN ?_ _ | refine blk_drew ?_ | refine blk_alloc ?_ _)); exact BK368.out) hb); have n1_ := Aside0.mk (blk_below (g := gb369) (o := .cells #[.slice A1_0 l1_0.length c1_0, .slice A1_1 l1_1.length c1_1, .int .i64 a1_2, .slice A1_3 l1_3.length c1_3, .int .i64 a1_4, .slice A1_5 l1_5.length c1_5] 60 (0, 0)) (by (with_reducible repeat (first | refine blk_drewN ?_ _ | refine blk_drew ?_ | refine blk_alloc ?_ _)); exact BK369.out) hb); have n2_ := Aside0.mk (below_step (by repeat (first | (with_reducible first | exact HB.out | apply below_alloc | apply pw_below_drewN | apply below_drew1 | refine below_set ?_ GE368.out | refine below_set ?_ GE369.out) | exact HB.out)) hb); clear BK368; clear BK369; clear HB; have BK368 := n0_; have BK369 := n1_; have HB := n2_; clear n0_ n1_ n2_; (try clear hb); (try clear hb2); (try clear hk); (try clear hi)))
             go_ret
             exact ⟨by first | rfl | (simp [errW_none, errW_some] <;> rfl) | (simp [*, errW_none, errW_some] <;> rfl), by repeat (first | (with_reducible first | exact HB.out | apply below_alloc | apply pw_below_drewN | apply below_drew1 | refine below_set ?_ GE368.out | refine below_set ?_ GE369.out) | exact HB.out)⟩
         · rw [if_neg c10] at H
           have c10b0 : (a0_4 == a1_4) = false := beq_eq_false_iff_ne.mpr c10
           have c10b1 : (a0_4 != a1_4) = true := bne_iff_ne.mpr c10
           obtain rfl := Option.some.inj H
           go_enter Tryd.func28, Tryd.ntmps28
           go_wp2_with (first | ((with_reducible refine gate_dst (N := 2) rfl ?_); refine box_event ?hg (N := 2) ?hd (cs := #[.slice A0_0 l0_0.length c0_0, .slice A0_1 l0_1.length c0_1, .int .i64 a0_2, .slice A0_3 l0_3.length c0_3, .int .i64 a0_4, .slice A0_5 l0_5.length c0_5]) (t := 60) ?hr ?_; (case hd => rfl); (case hg => rfl); (case hr => first | (go_simp; done) | (go_simp; rfl)); intro gb368 hg w25 hbox hb; have n0_ := Aside0.mk (below_step (by repeat (first | (with_reducible first | exact HB.out | apply below_alloc | apply pw_below_drewN | apply below_drew1) | exact HB.out)) hb); have n1_ := Aside0.mk (hbox); have n2_ := Aside0.mk ((by rw [hg]; exact (below_size (by repeat (first | (with_reducible first | exact HB.out | apply below_alloc | apply pw_below_drewN | apply below_drew1) | exact HB.out))) : w.heap.size ≤ gb368)); have n3_ := Aside0.mk ((by rw [hg]; exact (below_size (by repeat (first | (with_reducible first | exact HB.out | apply below_alloc | apply pw_below_drewN | apply below_drew1) | exact HB.out))) : w.heap.size ≤ gb368)); clear HB; have HB := n0_; have BK368 := n1_; have GW368 := n2_; have GE368 := n3_; clear n0_ n1_ n2_ n3_; clear hb hbox hg) | ((with_reducible refine gate_dst (N := 3) rfl ?_); refine box_event ?hg (N := 3) ?hd (cs := #[.slice A1_0 l1_0.length c1_0, .slice A1_1 l1_1.length c1_1, .int .i64 a1_2, .slice A1_3 l1_3.length c1_3, .int .i64 a1_4, .slice A1_5 l1_5.length c1_5]) (t := 60) ?hr ?_; (case hd => rfl); (case hg => rfl); (case hr => first | (go_simp; done) | (go_simp; rfl)); intro gb369 hg w26 hbox hb; have n0_ := Aside0.mk (blk_below (g := gb368) (o := .cells #[.slice A0_0 l0_0.length c0_0, .slice A0_1 l0_1.length c0_1, .int .i64 a0_2, .slice A0_3 l0_3.length c0_3, .int .i64 a0_4, .slice A0_5 l0_5.length c0_5] 60 (0, 0)) (by (with_reducible repeat (first | refine blk_drewN ?_ _ | refine blk_drew ?_ | refine blk_alloc ?_ _)); exact BK368.out) hb); have n1_ := Aside0.mk (below_step (by repeat (first | (with_reducible first | exact HB.out | apply below_alloc | apply pw_below_drewN | apply below_drew1 | refine below_set ?_ GE368.out) | exact HB.out)) hb); have n2_ := Aside0.mk (hbox); have n3_ := Aside0.mk ((by rw [hg]; exact (below_size (by repeat (first | (with_reducible first | exact HB.out | apply below_alloc | apply pw_below_drewN | apply below_drew1 | refine below_set ?_ GE368.out) | exact HB.out))) : w.heap.size ≤ gb369)); have n4_ := Aside0.mk ((by rw [hg]; exact (below_size (by repeat (first | (with_reducible first | exact HB.out | apply below_alloc | apply pw_below_drewN | apply below_drew1 | refine below_set ?_ GE368.out) | exact HB.out))) : w.heap.size ≤ gb369)); have n5_ := Aside0.mk ((by rw [hg]; exact Nat.ne_of_lt (blk_lt (g := gb368) (o := .cells #[.slice A0_0 l0_0.length c0_0, .slice A0_1 l0_1.length c0_1, .int .i64 a0_2, .slice A0_3 l0_3.length c0_3, .int .i64 a0_4, .slice A0_5 l0_5.length c0_5] 60 (0, 0)) (by (with_reducible repeat (first | refine blk_drewN ?_ _ | refine blk_drew ?_ | refine blk_alloc ?_ _)); exact BK368.out)) : gb368 ≠ gb369)); have n6_ := Aside0.mk ((by rw [hg]; exact Nat.ne_of_gt (blk_lt (g := gb368) (o := .cells #[.slice A0_0 l0_0.length c0_0, .slice A0_1 l0_1.length c0_1, .int .i64 a0_2, .slice A0_3 l0_3.length c0_3, .int .i64 a0_4, .slice A0_5 l0_5.length c0_5] 60 (0, 0)) (by (with_reducible repeat (first | refine blk_drewN ?_ _ | refine blk_drew ?_ | refine blk_alloc ?_ _)); exact BK368.out)) : gb369 ≠ gb368)); clear BK368; clear HB; have BK368 := n0_; have HB := n1_; have BK369 := n2_; have GW369 := n3_; have GE369 := n4_; have NB368_369 := n5_; have NB369_368 := n6_; clear n0_ n1_ n2_ n3_ n4_ n5_ n6_; clear hb hbox hg; have hnb27 := NB368_369.out; have hnc27 := NB369_368.out; have hcz28_0 : w26.cell? ⟨gb368, 0, none⟩ = some (.slice A0_0 l0_0.length c0_0) := (blk_cell BK368.out 0).trans rfl; have hcz28_1 : w26.cell? ⟨gb368, 1, none⟩ = some (.slice A0_1 l0_1.length c0_1) := (blk_cell BK368.out 1).trans rfl; have hcz28_2 : w26.cell? ⟨gb368, 2, none⟩ = some (.int .i64 a0_2) := (blk_cell BK368.out 2).trans rfl; have hcz28_3 : w26.cell? ⟨gb368, 3, none⟩ = some (.slice A0_3 l0_3.length c0_3) := (blk_cell BK368.out 3).trans rfl; have hcz28_4 : w26.cell? ⟨gb368, 4, none⟩ = some (.int .i64 a0_4) := (blk_cell BK368.out 4).trans rfl; have hcz28_5 : w26.cell? ⟨gb368, 5, none⟩ = some (.slice A0_5 l0_5.length c0_5) := (blk_cell BK368.out 5).trans rfl; have hfz28_0 := blk_frozen BK368.out 0; have hfz28_1 := blk_frozen BK368.out 1; have hfz28_2 := blk_frozen BK368.out 2; have hfz28_3 := blk_frozen BK368.out 3; have hfz28_4 := blk_frozen BK368.out 4; have hfz28_5 := blk_frozen BK368.out 5; have hcz29_0 : w26.cell? ⟨gb369, 0, none⟩ = some (.slice A1_0 l1_0.length c1_0) := (blk_cell BK369.out 0).trans rfl; have hcz29_1 : w26.cell? ⟨gb369, 1, none⟩ = some (.slice A1_1 l1_1.length c1_1) := (blk_cell BK369.out 1).trans rfl; have hcz29_2 : w26.cell? ⟨gb369, 2, none⟩ = some (.int .i64 a1_2) := (blk_cell BK369.out 2).trans rfl; have hcz29_3 : w26.cell? ⟨gb369, 3, none⟩ = some (.slice A1_3 l1_3.length c1_3) := (blk_cell BK369.out 3).trans rfl; have hcz29_4 : w26.cell? ⟨gb369, 4, none⟩ = some (.int .i64 a1_4) := (blk_cell BK369.out 4).trans rfl; have hcz29_5 : w26.cell? ⟨gb369, 5, none⟩ = some (.slice A1_5 l1_5.length c1_5) := (blk_cell BK369.out 5).trans rfl; have hfz29_0 := blk_frozen BK369.out 0; have hfz29_1 := blk_frozen BK369.out 1; have hfz29_2 := blk_frozen BK369.out 2; have hfz29_3 := blk_frozen BK369.out 3; have hfz29_4 := blk_frozen BK369.out 4; have hfz29_5 := blk_frozen BK369.out 5) | ((with_reducible refine gate_callee (f := 67) rfl ?_); refine goesL_ (some 9) rfl rfl Tryd.func67 (by kernel_rfl) rfl #[.slice A0_0 l0_0.length c0_0, .slice A1_0 l1_0.length c1_0] rfl (by (try simp only [List.map_toArray, List.map_cons, List.map_nil]); first | done | rfl | (simp only [List.length_drop, List.length_take]; rfl)) ?_; (with_reducible refine (laws_eqByteS.calls k _ _ l0_0 _ _ l1_0 true _ ?side1 ?side2 ?side3 ?side4 A3.out).mono ?_); (case side1 => repeat (first | exact (Kd.C_below HR0_0.out HB.out) | (with_reducible refine Kd.C_alloc ?_ _) | (with_reducible refine Kd.C_drewN ?_ _) | (with_reducible refine Kd.C_drew ?_))); (case side2 => exact HC0_0.out); (case side3 => repeat (first | exact (Kd.C_below HR1_0.out HB.out) | (with_reducible refine Kd.C_alloc ?_ _) | (with_reducible refine Kd.C_drewN ?_ _) | (with_reducible refine Kd.C_drew ?_))); (case side4 => exact HC1_0.out); rintro e w' ⟨rfl, ⟨nd, rfl⟩⟩; refine ⟨_, rfl, ?_⟩) | ((with_reducible refine gate_callee (f := 67) rfl ?_); refine goesL_ (some 15) rfl rfl Tryd.func67 (by kernel_rfl) rfl #[.slice A0_1 l0_1.length c0_1, .slice A1_1 l1_1.length c1_1] rfl (by (try simp only [List.map_toArray, List.map_cons, List.map_nil]); first | done | rfl | (simp only [List.length_drop, List.length_take]; rfl)) ?_; (with_reducible refine (laws_eqByteS.calls k _ _ l0_1 _ _ l1_1 true _ ?side1 ?side2 ?side3 ?side4 A5.out).mono ?_); (case side1 => repeat (first | exact (Kd.C_below HR0_1.out (by repeat (first | (with_reducible first | exact HB.out | apply below_alloc | apply pw_below_drewN | apply below_drew1 | refine below_set ?_ GE368.out | refine below_set ?_ GE369.out) | exact HB.out))) | (with_reducible refine Kd.C_alloc ?_ _) | (with_reducible refine Kd.C_drewN ?_ _) | (with_reducible refine Kd.C_drew ?_))); (case side2 => exact HC0_1.out); (case side3 => repeat (first | exact (Kd.C_below HR1_1.out (by repeat (first | (with_reducible first | exact HB.out | apply below_alloc | apply pw_below_drewN | apply below_drew1 | refine below_set ?_ GE368.out | refine below_set ?_ GE369.out) | exact HB.out))) | (with_reducible refine Kd.C_alloc ?_ _) | (with_reducible refine Kd.C_drewN ?_ _) | (with_reducible refine Kd.C_drew ?_))); (case side4 => exact HC1_1.out); rintro e w' ⟨rfl, ⟨nd, rfl⟩⟩; refine ⟨_, rfl, ?_⟩) | ((with_reducible refine gate_callee (f := 68) rfl ?_); refine goesL_ (some 26) rfl rfl Tryd.func68 (by kernel_rfl) rfl #[.slice A0_3 l0_3.length c0_3, .slice A1_3 l1_3.length c1_3] rfl (by (try simp only [List.map_toArray, List.map_cons, List.map_nil]); first | done | rfl | (simp only [List.length_drop, List.length_take]; rfl)) ?_; (with_reducible refine (laws_eqInt64S.calls k _ _ l0_3 _ _ l1_3 true _ ?side1 ?side2 ?side3 ?side4 A8.out).mono ?_); (case side1 => repeat (first | exact (Kd.C_below HR0_3.out (by repeat (first | (with_reducible first | exact HB.out | apply below_alloc | apply pw_below_drewN | apply below_drew1 | refine below_set ?_ GE368.out | refine below_set ?_ GE369.out) | exact HB.out))) | (with_reducible refine Kd.C_alloc ?_ _) | (with_reducible refine Kd.C_drewN ?_ _) | (with_reducible refine Kd.C_drew ?_))); (case side2 => exact HC0_3.out); (case side3 => repeat (first | exact (Kd.C_below HR1_3.out (by repeat (first | (with_reducible first | exact HB.out | apply below_alloc | apply pw_below_drewN | apply below_drew1 | refine below_set ?_ GE368.out | refine below_set ?_ GE369.out) | exact HB.out))) | (with_reducible refine Kd.C_alloc ?_ _) | (with_reducible refine Kd.C_drewN ?_ _) | (with_reducible refine Kd.C_drew ?_))); (case side4 => exact HC1_3.out); rintro e w' ⟨rfl, ⟨nd, rfl⟩⟩; refine ⟨_, rfl, ?_⟩))
           go_ret
           exact ⟨by first | rfl | (simp [errW_none, errW_some] <;> rfl) | (simp [*, errW_none, errW_some] <;> rfl), by repeat (first | (with_reducible first | exact HB.out | apply below_alloc | apply pw_below_drewN | apply below_drew1 | refine below_set ?_ GE368.out | refine below_set ?_ GE369.out) | exact HB.out)⟩
       · replace c9 := Bool.eq_false_iff.mpr c9
         subst c9
         have H1 : (some false) = some r := by rw [if_neg (show ¬ (false = true) by decide)] at H; exact H
         clear H
         have H := H1
         clear H1
         obtain rfl := Option.some.inj H
         go_enter Tryd.func28, Tryd.ntmps28
         go_wp2_with (first | ((with_reducible refine gate_dst (N := 2) rfl ?_); refine box_event ?hg (N := 2) ?hd (cs := #[.slice A0_0 l0_0.length c0_0, .slice A0_1 l0_1.length c0_1, .int .i64 a0_2, .slice A0_3 l0_3.length c0_3, .int .i64 a0_4, .slice A0_5 l0_5.length c0_5]) (t := 60) ?hr ?_; (case hd => rfl); (case hg => rfl); (case hr => first | (go_simp; done) | (go_simp; rfl)); intro gb368 hg w30 hbox hb; have n0_ := Aside0.mk (below_step (by repeat (first | (with_reducible first | exact HB.out | apply below_alloc | apply pw_below_drewN | apply below_drew1) | exact HB.out)) hb); have n1_ := Aside0.mk (hbox); have n2_ := Aside0.mk ((by rw [hg]; exact (below_size (by repeat (first | (with_reducible first | exact HB.out | apply below_alloc | apply pw_below_drewN | apply below_drew1) | exact HB.out))) : w.heap.size ≤ gb368)); have n3_ := Aside0.mk ((by rw [hg]; exact (below_size (by repeat (first | (with_reducible first | exact HB.out | apply below_alloc | apply pw_below_drewN | apply below_drew1) | exact HB.out))) : w.heap.size ≤ gb368)); clear HB; have HB := n0_; have BK368 := n1_; have GW368 := n2_; have GE368 := n3_; clear n0_ n1_ n2_ n3_; clear hb hbox hg) | ((with_reducible refine gate_dst (N := 3) rfl ?_); refine box_event ?hg (N := 3) ?hd (cs := #[.slice A1_0 l1_0.length c1_0, .slice A1_1 l1_1.length c1_1, .int .i64 a1_2, .slice A1_3 l1_3.length c1_3, .int .i64 a1_4, .slice A1_5 l1_5.length c1_5]) (t := 60) ?hr ?_; (case hd => rfl); (case hg => rfl); (case hr => first | (go_simp; done) | (go_simp; rfl)); intro gb369 hg w31 hbox hb; have n0_ := Aside0.mk (blk_below (g := gb368) (o := .cells #[.slice A0_0 l0_0.length c0_0, .slice A0_1 l0_1.length c0_1, .int .i64 a0_2, .slice A0_3 l0_3.length c0_3, .int .i64 a0_4, .slice A0_5 l0_5.length c0_5] 60 (0, 0)) (by (with_reducible repeat (first | refine blk_drewN ?_ _ | refine blk_drew ?_ | refine blk_alloc ?_ _)); exact BK368.out) hb); have n1_ := Aside0.mk (below_step (by repeat (first | (with_reducible first | exact HB.out | apply below_alloc | apply pw_below_drewN | apply below_drew1 | refine below_set ?_ GE368.out) | exact HB.out)) hb); have n2_ := Aside0.mk (hbox); have n3_ := Aside0.mk ((by rw [hg]; exact (below_size (by repeat (first | (with_reducible first | exact HB.out | apply below_alloc | apply pw_below_drewN | apply below_drew1 | refine below_set ?_ GE368.out) | exact HB.out))) : w.heap.size ≤ gb369)); have n4_ := Aside0.mk ((by rw [hg]; exact (below_size (by repeat (first | (with_reducible first | exact HB.out | apply below_alloc | apply pw_below_drewN | apply below_drew1 | refine below_set ?_ GE368.out) | exact HB.out))) : w.heap.size ≤ gb369)); have n5_ := Aside0.mk ((by rw [hg]; exact Nat.ne_of_lt (blk_lt (g := gb368) (o := .cells #[.slice A0_0 l0_0.length c0_0, .slice A0_1 l0_1.length c0_1, .int .i64 a0_2, .slice A0_3 l0_3.length c0_3, .int .i64 a0_4, .slice A0_5 l0_5.length c0_5] 60 (0, 0)) (by (with_reducible repeat (first | refine blk_drewN ?_ _ | refine blk_drew ?_ | refine blk_alloc ?_ _)); exact BK368.out)) : gb368 ≠ gb369)); have n6_ := Aside0.mk ((by rw [hg]; exact Nat.ne_of_gt (blk_lt (g := gb368) (o := .cells #[.slice A0_0 l0_0.length c0_0, .slice A0_1 l0_1.length c0_1, .int .i64 a0_2, .slice A0_3 l0_3.length c0_3, .int .i64 a0_4, .slice A0_5 l0_5.length c0_5] 60 (0, 0)) (by (with_reducible repeat (first | refine blk_drewN ?_ _ | refine blk_drew ?_ | refine blk_alloc ?_ _)); exact BK368.out)) : gb369 ≠ gb368)); clear BK368; clear HB; have BK368 := n0_; have HB := n1_; have BK369 := n2_; have GW369 := n3_; have GE369 := n4_; have NB368_369 := n5_; have NB369_368 := n6_; clear n0_ n1_ n2_ n3_ n4_ n5_ n6_; clear hb hbox hg; have hnb32 := NB368_369.out; have hnc32 := NB369_368.out; have hcz33_0 : w31.cell? ⟨gb368, 0, none⟩ = some (.slice A0_0 l0_0.length c0_0) := (blk_cell BK368.out 0).trans rfl; have hcz33_1 : w31.cell? ⟨gb368, 1, none⟩ = some (.slice A0_1 l0_1.length c0_1) := (blk_cell BK368.out 1).trans rfl; have hcz33_2 : w31.cell? ⟨gb368, 2, none⟩ = some (.int .i64 a0_2) := (blk_cell BK368.out 2).trans rfl; have hcz33_3 : w31.cell? ⟨gb368, 3, none⟩ = some (.slice A0_3 l0_3.length c0_3) := (blk_cell BK368.out 3).trans rfl; have hcz33_4 : w31.cell? ⟨gb368, 4, none⟩ = some (.int .i64 a0_4) := (blk_cell BK368.out 4).trans rfl; have hcz33_5 : w31.cell? ⟨gb368, 5, none⟩ = some (.slice A0_5 l0_5.length c0_5) := (blk_cell BK368.out 5).trans rfl; have hfz33_0 := blk_frozen BK368.out 0; have hfz33_1 := blk_frozen BK368.out 1; have hfz33_2 := blk_frozen BK368.out 2; have hfz33_3 := blk_frozen BK368.out 3; have hfz33_4 := blk_frozen BK368.out 4; have hfz33_5 := blk_frozen BK368.out 5; have hcz34_0 : w31.cell? ⟨gb369, 0, none⟩ = some (.slice A1_0 l1_0.length c1_0) := (blk_cell BK369.out 0).trans rfl; have hcz34_1 : w31.cell? ⟨gb369, 1, none⟩ = some (.slice A1_1 l1_1.length c1_1) := (blk_cell BK369.out 1).trans rfl; have hcz34_2 : w31.cell? ⟨gb369, 2, none⟩ = some (.int .i64 a1_2) := (blk_cell BK369.out 2).trans rfl; have hcz34_3 : w31.cell? ⟨gb369, 3, none⟩ = some (.slice A1_3 l1_3.length c1_3) := (blk_cell BK369.out 3).trans rfl; have hcz34_4 : w31.cell? ⟨gb369, 4, none⟩ = some (.int .i64 a1_4) := (blk_cell BK369.out 4).trans rfl; have hcz34_5 : w31.cell? ⟨gb369, 5, none⟩ = some (.slice A1_5 l1_5.length c1_5) := (blk_cell BK369.out 5).trans rfl; have hfz34_0 := blk_frozen BK369.out 0; have hfz34_1 := blk_frozen BK369.out 1; have hfz34_2 := blk_frozen BK369.out 2; have hfz34_3 := blk_frozen BK369.out 3; have hfz34_4 := blk_frozen BK369.out 4; have hfz34_5 := blk_frozen BK369.out 5) | ((with_reducible refine gate_callee (f := 67) rfl ?_); refine goesL_ (some 9) rfl rfl Tryd.func67 (by kernel_rfl) rfl #[.slice A0_0 l0_0.length c0_0, .slice A1_0 l1_0.length c1_0] rfl (by (try simp only [List.map_toArray, List.map_cons, List.map_nil]); first | done | rfl | (simp only [List.length_drop, List.length_take]; rfl)) ?_; (with_reducible refine (laws_eqByteS.calls k _ _ l0_0 _ _ l1_0 true _ ?side1 ?side2 ?side3 ?side4 A3.out).mono ?_); (case side1 => repeat (first | exact (Kd.C_below HR0_0.out HB.out) | (with_reducible refine Kd.C_alloc ?_ _) | (with_reducible refine Kd.C_drewN ?_ _) | (with_reducible refine Kd.C_drew ?_))); (case side2 => exact HC0_0.out); (case side3 => repeat (first | exact (Kd.C_below HR1_0.out HB.out) | (with_reducible refine Kd.C_alloc ?_ _) | (with_reducible refine Kd.C_drewN ?_ _) | (with_reducible refine Kd.C_drew ?_))); (case side4 => exact HC1_0.out); rintro e w' ⟨rfl, ⟨nd, rfl⟩⟩; refine ⟨_, rfl, ?_⟩) | ((with_reducible refine gate_callee (f := 67) rfl ?_); refine goesL_ (some 15) rfl rfl Tryd.func67 (by kernel_rfl) rfl #[.slice A0_1 l0_1.length c0_1, .slice A1_1 l1_1.length c1_1] rfl (by (try simp only [List.map_toArray, List.map_cons, List.map_nil]); first | done | rfl | (simp only [List.length_drop, List.length_take]; rfl)) ?_; (with_reducible refine (laws_eqByteS.calls k _ _ l0_1 _ _ l1_1 true _ ?side1 ?side2 ?side3 ?side4 A5.out).mono ?_); (case side1 => repeat (first | exact (Kd.C_below HR0_1.out (by repeat (first | (with_reducible first | exact HB.out | apply below_alloc | apply pw_below_drewN | apply below_drew1 | refine below_set ?_ GE368.out | refine below_set ?_ GE369.out) | exact HB.out))) | (with_reducible refine Kd.C_alloc ?_ _) | (with_reducible refine Kd.C_drewN ?_ _) | (with_reducible refine Kd.C_drew ?_))); (case side2 => exact HC0_1.out); (case side3 => repeat (first | exact (Kd.C_below HR1_1.out (by repeat (first | (with_reducible first | exact HB.out | apply below_alloc | apply pw_below_drewN | apply below_drew1 | refine below_set ?_ GE368.out | refine below_set ?_ GE369.out) | exact HB.out))) | (with_reducible refine Kd.C_alloc ?_ _) | (with_reducible refine Kd.C_drewN ?_ _) | (with_reducible refine Kd.C_drew ?_))); (case side4 => exact HC1_1.out); rintro e w' ⟨rfl, ⟨nd, rfl⟩⟩; refine ⟨_, rfl, ?_⟩) | ((with_reducible refine gate_callee (f := 68) rfl ?_); refine goesL_ (some 26) rfl rfl Tryd.func68 (by kernel_rfl) rfl #[.slice A0_3 l0_3.length c0_3, .slice A1_3 l1_3.length c1_3] rfl (by (try simp only [List.map_toArray, List.map_cons, List.map_nil]); first | done | rfl | (simp only [List.length_drop, List.length_take]; rfl)) ?_; (with_reducible refine (laws_eqInt64S.calls k _ _ l0_3 _ _ l1_3 false _ ?side1 ?side2 ?side3 ?side4 A8.out).mono ?_); (case side1 => repeat (first | exact (Kd.C_below HR0_3.out (by repeat (first | (with_reducible first | exact HB.out | apply below_alloc | apply pw_below_drewN | apply below_drew1 | refine below_set ?_ GE368.out | refine below_set ?_ GE369.out) | exact HB.out))) | (with_reducible refine Kd.C_alloc ?_ _) | (with_reducible refine Kd.C_drewN ?_ _) | (with_reducible refine Kd.C_drew ?_))); (case side2 => exact HC0_3.out); (case side3 => repeat (first | exact (Kd.C_below HR1_3.out (by repeat (first | (with_reducible first | exact HB.out | apply below_alloc | apply pw_below_drewN | apply below_drew1 | refine below_set ?_ GE368.out | refine below_set ?_ GE369.out) | exact HB.out))) | (with_reducible refine Kd.C_alloc ?_ _) | (with_reducible refine Kd.C_drewN ?_ _) | (with_reducible refine Kd.C_drew ?_))); (case side4 => exact HC1_3.out); rintro e w' ⟨rfl, ⟨nd, rfl⟩⟩; refine ⟨_, rfl, ?_⟩))
         go_ret
         exact ⟨by first | rfl | (simp [errW_none, errW_some] <;> rfl) | (simp [*, errW_none, errW_some] <;> rfl), by repeat (first | (with_reducible first | exact HB.out | apply below_alloc | apply pw_below_drewN | apply below_drew1 | refine below_set ?_ GE368.out | refine below_set ?_ GE369.out) | exact HB.out)⟩
     · rw [if_neg c7] at H
       have c7b0 : (a0_2 == a1_2) = false := beq_eq_false_iff_ne.mpr c7
       have c7b1 : (a0_2 != a1_2) = true := bne_iff_ne.mpr c7
       obtain rfl := Option.some.inj H
       go_enter Tryd.func28, Tryd.ntmps28
       go_wp2_with (first | ((with_reducible refine gate_dst (N := 2) rfl ?_); refine box_event ?hg (N := 2) ?hd (cs := #[.slice A0_0 l0_0.length c0_0, .slice A0_1 l0_1.length c0_1, .int .i64 a0_2, .slice A0_3 l0_3.length c0_3, .int .i64 a0_4, .slice A0_5 l0_5.length c0_5]) (t := 60) ?hr ?_; (case hd => rfl); (case hg => rfl); (case hr => first | (go_simp; done) | (go_simp; rfl)); intro gb368 hg w35 hbox hb; have n0_ := Aside0.mk (below_step (by repeat (first | (with_reducible first | exact HB.out | apply below_alloc | apply pw_below_drewN | apply below_drew1) | exact HB.out)) hb); have n1_ := Aside0.mk (hbox); have n2_ := Aside0.mk ((by rw [hg]; exact (below_size (by repeat (first | (with_reducible first | exact HB.out | apply below_alloc | apply pw_below_drewN | apply below_drew1) | exact HB.out))) : w.heap.size ≤ gb368)); have n3_ := Aside0.mk ((by rw [hg]; exact (below_size (by repeat (first | (with_reducible first | exact HB.out | apply below_alloc | apply pw_below_drewN | apply below_drew1) | exact HB.out))) : w.heap.size ≤ gb368)); clear HB; have HB := n0_; have BK368 := n1_; have GW368 := n2_; have GE368 := n3_; clear n0_ n1_ n2_ n3_; clear hb hbox hg) | ((with_reducible refine gate_dst (N := 3) rfl ?_); refine box_event ?hg (N := 3) ?hd (cs := #[.slice A1_0 l1_0.length c1_0, .slice A1_1 l1_1.length c1_1, .int .i64 a1_2, .slice A1_3 l1_3.length c1_3, .int .i64 a1_4, .slice A1_5 l1_5.length c1_5]) (t := 60) ?hr ?_; (case hd => rfl); (case hg => rfl); (case hr => first | (go_simp; done) | (go_simp; rfl)); intro gb369 hg w36 hbox hb; have n0_ := Aside0.mk (blk_below (g := gb368) (o := .cells #[.slice A0_0 l0_0.length c0_0, .slice A0_1 l0_1.length c0_1, .int .i64 a0_2, .slice A0_3 l0_3.length c0_3, .int .i64 a0_4, .slice A0_5 l0_5.length c0_5] 60 (0, 0)) (by (with_reducible repeat (first | refine blk_drewN ?_ _ | refine blk_drew ?_ | refine blk_alloc ?_ _)); exact BK368.out) hb); have n1_ := Aside0.mk (below_step (by repeat (first | (with_reducible first | exact HB.out | apply below_alloc | apply pw_below_drewN | apply below_drew1 | refine below_set ?_ GE368.out) | exact HB.out)) hb); have n2_ := Aside0.mk (hbox); have n3_ := Aside0.mk ((by rw [hg]; exact (below_size (by repeat (first | (with_reducible first | exact HB.out | apply below_alloc | apply pw_below_drewN | apply below_drew1 | refine below_set ?_ GE368.out) | exact HB.out))) : w.heap.size ≤ gb369)); have n4_ := Aside0.mk ((by rw [hg]; exact (below_size (by repeat (first | (with_reducible first | exact HB.out | apply below_alloc | apply pw_below_drewN | apply below_drew1 | refine below_set ?_ GE368.out) | exact HB.out))) : w.heap.size ≤ gb369)); have n5_ := Aside0.mk ((by rw [hg]; exact Nat.ne_of_lt (blk_lt (g := gb368) (o := .cells #[.slice A0_0 l0_0.length c0_0, .slice A0_1 l0_1.length c0_1, .int .i64 a0_2, .slice A0_3 l0_3.length c0_3, .int .i64 a0_4, .slice A0_5 l0_5.length c0_5] 60 (0, 0)) (by (with_reducible repeat (first | refine blk_drewN ?_ _ | refine blk_drew ?_ | refine blk_alloc ?_ _)); exact BK368.out)) : gb368 ≠ gb369)); have n6_ := Aside0.mk ((by rw [hg]; exact Nat.ne_of_gt (blk_lt (g := gb368) (o := .cells #[.slice A0_0 l0_0.length c0_0, .slice A0_1 l0_1.length c0_1, .int .i64 a0_2, .slice A0_3 l0_3.length c0_3, .int .i64 a0_4, .slice A0_5 l0_5.length c0_5] 60 (0, 0)) (by (with_reducible repeat (first | refine blk_drewN ?_ _ | refine blk_drew ?_ | refine blk_alloc ?_ _)); exact BK368.out)) : gb369 ≠ gb368)); clear BK368; clear HB; have BK368 := n0_; have HB := n1_; have BK369 := n2_; have GW369 := n3_; have GE369 := n4_; have NB368_369 := n5_; have NB369_368 := n6_; clear n0_ n1_ n2_ n3_ n4_ n5_ n6_; clear hb hbox hg; have hnb37 := NB368_369.out; have hnc37 := NB369_368.out; have hcz38_0 : w36.cell? ⟨gb368, 0, none⟩ = some (.slice A0_0 l0_0.length c0_0) := (blk_cell BK368.out 0).trans rfl; have hcz38_1 : w36.cell? ⟨gb368, 1, none⟩ = some (.slice A0_1 l0_1.length c0_1) := (blk_cell BK368.out 1).trans rfl; have hcz38_2 : w36.cell? ⟨gb368, 2, none⟩ = some (.int .i64 a0_2) := (blk_cell BK368.out 2).trans rfl; have hcz38_3 : w36.cell? ⟨gb368, 3, none⟩ = some (.slice A0_3 l0_3.length c0_3) := (blk_cell BK368.out 3).trans rfl; have hcz38_4 : w36.cell? ⟨gb368, 4, none⟩ = some (.int .i64 a0_4) := (blk_cell BK368.out 4).trans rfl; have hcz38_5 : w36.cell? ⟨gb368, 5, none⟩ = some (.slice A0_5 l0_5.length c0_5) := (blk_cell BK368.out 5).trans rfl; have hfz38_0 := blk_frozen BK368.out 0; have hfz38_1 := blk_frozen BK368.out 1; have hfz38_2 := blk_frozen BK368.out 2; have hfz38_3 := blk_frozen BK368.out 3; have hfz38_4 := blk_frozen BK368.out 4; have hfz38_5 := blk_frozen BK368.out 5; have hcz39_0 : w36.cell? ⟨gb369, 0, none⟩ = some (.slice A1_0 l1_0.length c1_0) := (blk_cell BK369.out 0).trans rfl; have hcz39_1 : w36.cell? ⟨gb369, 1, none⟩ = some (.slice A1_1 l1_1.length c1_1) := (blk_cell BK369.out 1).trans rfl; have hcz39_2 : w36.cell? ⟨gb369, 2, none⟩ = some (.int .i64 a1_2) := (blk_cell BK369.out 2).trans rfl; have hcz39_3 : w36.cell? ⟨gb369, 3, none⟩ = some (.slice A1_3 l1_3.length c1_3) := (blk_cell BK369.out 3).trans rfl; have hcz39_4 : w36.cell? ⟨gb369, 4, none⟩ = some (.int .i64 a1_4) := (blk_cell BK369.out 4).trans rfl; have hcz39_5 : w36.cell? ⟨gb369, 5, none⟩ = some (.slice A1_5 l1_5.length c1_5) := (blk_cell BK369.out 5).trans rfl; have hfz39_0 := blk_frozen BK369.out 0; have hfz39_1 := blk_frozen BK369.out 1; have hfz39_2 := blk_frozen BK369.out 2; have hfz39_3 := blk_frozen BK369.out 3; have hfz39_4 := blk_frozen BK369.out 4; have hfz39_5 := blk_frozen BK369.out 5) | ((with_reducible refine gate_callee (f := 67) rfl ?_); refine goesL_ (some 9) rfl rfl Tryd.func67 (by kernel_rfl) rfl #[.slice A0_0 l0_0.length c0_0, .slice A1_0 l1_0.length c1_0] rfl (by (try simp only [List.map_toArray, List.map_cons, List.map_nil]); first | done | rfl | (simp only [List.length_drop, List.length_take]; rfl)) ?_; (with_reducible refine (laws_eqByteS.calls k _ _ l0_0 _ _ l1_0 true _ ?side1 ?side2 ?side3 ?side4 A3.out).mono ?_); (case side1 => repeat (first | exact (Kd.C_below HR0_0.out HB.out) | (with_reducible refine Kd.C_alloc ?_ _) | (with_reducible refine Kd.C_drewN ?_ _) | (with_reducible refine Kd.C_drew ?_))); (case side2 => exact HC0_0.out); (case side3 => repeat (first | exact (Kd.C_below HR1_0.out HB.out) | (with_reducible refine Kd.C_alloc ?_ _) | (with_reducible refine Kd.C_drewN ?_ _) | (with_reducible refine Kd.C_drew ?_))); (case side4 => exact HC1_0.out); rintro e w' ⟨rfl, ⟨nd, rfl⟩⟩; refine ⟨_, rfl, ?_⟩) | ((with_reducible refine gate_callee (f := 67) rfl ?_); refine goesL_ (some 15) rfl rfl Tryd.func67 (by kernel_rfl) rfl #[.slice A0_1 l0_1.length c0_1, .slice A1_1 l1_1.length c1_1] rfl (by (try simp only [List.map_toArray, List.map_cons, List.map_nil]); first | done | rfl | (simp only [List.length_drop, List.length_take]; rfl)) ?_; (with_reducible refine (laws_eqByteS.calls k _ _ l0_1 _ _ l1_1 true _ ?side1 ?side2 ?side3 ?side4 A5.out).mono ?_); (case side1 => repeat (first | exact (Kd.C_below HR0_1.out (by repeat (first | (with_reducible first | exact HB.out | apply below_alloc | apply pw_below_drewN | apply below_drew1 | refine below_set ?_ GE368.out | refine below_set ?_ GE369.out) | exact HB.out))) | (with_reducible refine Kd.C_alloc ?_ _) | (with_reducible refine Kd.C_drewN ?_ _) | (with_reducible refine Kd.C_drew ?_))); (case side2 => exact HC0_1.out); (case side3 => repeat (first | exact (Kd.C_below HR1_1.out (by repeat (first | (with_reducible first | exact HB.out | apply below_alloc | apply pw_below_drewN | apply below_drew1 | refine below_set ?_ GE368.out | refine below_set ?_ GE369.out) | exact HB.out))) | (with_reducible refine Kd.C_alloc ?_ _) | (with_reducible refine Kd.C_drewN ?_ _) | (with_reducible refine Kd.C_drew ?_))); (case side4 => exact HC1_1.out); rintro e w' ⟨rfl, ⟨nd, rfl⟩⟩; refine ⟨_, rfl, ?_⟩))
       go_ret
       exact ⟨by first | rfl | (simp [errW_none, errW_some] <;> rfl) | (simp [*, errW_none, errW_some] <;> rfl), by repeat (first | (with_reducible first | exact HB.out | apply below_alloc | apply pw_below_drewN | apply below_drew1 | refine below_set ?_ GE368.out | refine below_set ?_ GE369.out) | exact HB.out)⟩
   · replace c6 := Bool.eq_false_iff.mpr c6
     subst c6
     have H1 : (some false) = some r := by rw [if_neg (show ¬ (false = true) by decide)] at H; exact H
     clear H
     have H := H1
     clear H1
     obtain rfl := Option.some.inj H
     go_enter Tryd.func28, Tryd.ntmps28
     go_wp2_with (first | ((with_reducible refine gate_dst (N := 2) rfl ?_); refine box_event ?hg (N := 2) ?hd (cs := #[.slice A0_0 l0_0.length c0_0, .slice A0_1 l0_1.length c0_1, .int .i64 a0_2, .slice A0_3 l0_3.length c0_3, .int .i64 a0_4, .slice A0_5 l0_5.length c0_5]) (t := 60) ?hr ?_; (case hd => rfl); (case hg => rfl); (case hr => first | (go_simp; done) | (go_simp; rfl)); intro gb368 hg w40 hbox hb; have n0_ := Aside0.mk (below_step (by repeat (first | (with_reducible first | exact HB.out | apply below_alloc | apply pw_below_drewN | apply below_drew1) | exact HB.out)) hb); have n1_ := Aside0.mk (hbox); have n2_ := Aside0.mk ((by rw [hg]; exact (below_size (by repeat (first | (with_reducible first | exact HB.out | apply below_alloc | apply pw_below_drewN | apply below_drew1) | exact HB.out))) : w.heap.size ≤ gb368)); have n3_ := Aside0.mk ((by rw [hg]; exact (below_size (by repeat (first | (with_reducible first | exact HB.out | apply below_alloc | apply pw_below_drewN | apply below_drew1) | exact HB.out))) : w.heap.size ≤ gb368)); clear HB; have HB := n0_; have BK368 := n1_; have GW368 := n2_; have GE368 := n3_; clear n0_ n1_ n2_ n3_; clear hb hbox hg) | ((with_reducible refine gate_dst (N := 3) rfl ?_); refine box_event ?hg (N := 3) ?hd (cs := #[.slice A1_0 l1_0.length c1_0, .slice A1_1 l1_1.length c1_1, .int .i64 a1_2, .slice A1_3 l1_3.length c1_3, .int .i64 a1_4, .slice A1_5 l1_5.length c1_5]) (t := 60) ?hr ?_; (case hd => rfl); (case hg => rfl); (case hr => first | (go_simp; done) | (go_simp; rfl)); intro gb369 hg w41 hbox hb; have n0_ := Aside0.mk (blk_below (g := gb368) (o := .cells #[.slice A0_0 l0_0.length c0_0, .slice A0_1 l0_1.length c0_1, .int .i64 a0_2, .slice A0_3 l0_3.length c0_3, .int .i64 a0_4, .slice A0_5 l0_5.length c0_5] 60 (0, 0)) (by (with_reducible repeat (first | refine blk_drewN ?_ _ | refine blk_drew ?_ | refine blk_alloc ?_ _)); exact BK368.out) hb); have n1_ := Aside0.mk (below_step (by repeat (first | (with_reducible first | exact HB.out | apply below_alloc | apply pw_below_drewN | apply below_drew1 | refine below_set ?_ GE368.out) | exact HB.out)) hb); have n2_ := Aside0.mk (hbox); have n3_ := Aside0.mk ((by rw [hg]; exact (below_size (by repeat (first | (with_reducible first | exact HB.out | apply below_alloc | apply pw_below_drewN | apply below_drew1 | refine below_set ?_ GE368.out) | exact HB.out))) : w.heap.size ≤ gb369)); have n4_ := Aside0.mk ((by rw [hg]; exact (below_size (by repeat (first | (with_reducible first | exact HB.out | apply below_alloc | apply pw_below_drewN | apply below_drew1 | refine below_set ?_ GE368.out) | exact HB.out))) : w.heap.size ≤ gb369)); have n5_ := Aside0.mk ((by rw [hg]; exact Nat.ne_of_lt (blk_lt (g := gb368) (o := .cells #[.slice A0_0 l0_0.length c0_0, .slice A0_1 l0_1.length c0_1, .int .i64 a0_2, .slice A0_3 l0_3.length c0_3, .int .i64 a0_4, .slice A0_5 l0_5.length c0_5] 60 (0, 0)) (by (with_reducible repeat (first | refine blk_drewN ?_ _ | refine blk_drew ?_ | refine blk_alloc ?_ _)); exact BK368.out)) : gb368 ≠ gb369)); have n6_ := Aside0.mk ((by rw [hg]; exact Nat.ne_of_gt (blk_lt (g := gb368) (o := .cells #[.slice A0_0 l0_0.length c0_0, .slice A0_1 l0_1.length c0_1, .int .i64 a0_2, .slice A0_3 l0_3.length c0_3, .int .i64 a0_4, .slice A0_5 l0_5.length c0_5] 60 (0, 0)) (by (with_reducible repeat (first | refine blk_drewN ?_ _ | refine blk_drew ?_ | refine blk_alloc ?_ _)); exact BK368.out)) : gb369 ≠ gb368)); clear BK368; clear HB; have BK368 := n0_; have HB := n1_; have BK369 := n2_; have GW369 := n3_; have GE369 := n4_; have NB368_369 := n5_; have NB369_368 := n6_; clear n0_ n1_ n2_ n3_ n4_ n5_ n6_; clear hb hbox hg; have hnb42 := NB368_369.out; have hnc42 := NB369_368.out; have hcz43_0 : w41.cell? ⟨gb368, 0, none⟩ = some (.slice A0_0 l0_0.length c0_0) := (blk_cell BK368.out 0).trans rfl; have hcz43_1 : w41.cell? ⟨gb368, 1, none⟩ = some (.slice A0_1 l0_1.length c0_1) := (blk_cell BK368.out 1).trans rfl; have hcz43_2 : w41.cell? ⟨gb368, 2, none⟩ = some (.int .i64 a0_2) := (blk_cell BK368.out 2).trans rfl; have hcz43_3 : w41.cell? ⟨gb368, 3, none⟩ = some (.slice A0_3 l0_3.length c0_3) := (blk_cell BK368.out 3).trans rfl; have hcz43_4 : w41.cell? ⟨gb368, 4, none⟩ = some (.int .i64 a0_4) := (blk_cell BK368.out 4).trans rfl; have hcz43_5 : w41.cell? ⟨gb368, 5, none⟩ = some (.slice A0_5 l0_5.length c0_5) := (blk_cell BK368.out 5).trans rfl; have hfz43_0 := blk_frozen BK368.out 0; have hfz43_1 := blk_frozen BK368.out 1; have hfz43_2 := blk_frozen BK368.out 2; have hfz43_3 := blk_frozen BK368.out 3; have hfz43_4 := blk_frozen BK368.out 4; have hfz43_5 := blk_frozen BK368.out 5; have hcz44_0 : w41.cell? ⟨gb369, 0, none⟩ = some (.slice A1_0 l1_0.length c1_0) := (blk_cell BK369.out 0).trans rfl; have hcz44_1 : w41.cell? ⟨gb369, 1, none⟩ = some (.slice A1_1 l1_1.length c1_1) := (blk_cell BK369.out 1).trans rfl; have hcz44_2 : w41.cell? ⟨gb369, 2, none⟩ = some (.int .i64 a1_2) := (blk_cell BK369.out 2).trans rfl; have hcz44_3 : w41.cell? ⟨gb369, 3, none⟩ = some (.slice A1_3 l1_3.length c1_3) := (blk_cell BK369.out 3).trans rfl; have hcz44_4 : w41.cell? ⟨gb369, 4, none⟩ = some (.int .i64 a1_4) := (blk_cell BK369.out 4).trans rfl; have hcz44_5 : w41.cell? ⟨gb369, 5, none⟩ = some (.slice A1_5 l1_5.length c1_5) := (blk_cell BK369.out 5).trans rfl; have hfz44_0 := blk_frozen BK369.out 0; have hfz44_1 := blk_frozen BK369.out 1; have hfz44_2 := blk_frozen BK369.out 2; have hfz44_3 := blk_frozen BK369.out 3; have hfz44_4 := blk_frozen BK369.out 4; have hfz44_5 := blk_frozen BK369.out 5) | ((with_reducible refine gate_callee (f := 67) rfl ?_); refine goesL_ (some 9) rfl rfl Tryd.func67 (by kernel_rfl) rfl #[.slice A0_0 l0_0.length c0_0, .slice A1_0 l1_0.length c1_0] rfl (by (try simp only [List.map_toArray, List.map_cons, List.map_nil]); first | done | rfl | (simp only [List.length_drop, List.length_take]; rfl)) ?_; (with_reducible refine (laws_eqByteS.calls k _ _ l0_0 _ _ l1_0 true _ ?side1 ?side2 ?side3 ?side4 A3.out).mono ?_); (case side1 => repeat (first | exact (Kd.C_below HR0_0.out HB.out) | (with_reducible refine Kd.C_alloc ?_ _) | (with_reducible refine Kd.C_drewN ?_ _) | (with_reducible refine Kd.C_drew ?_))); (case side2 => exact HC0_0.out); (case side3 => repeat (first | exact (Kd.C_below HR1_0.out HB.out) | (with_reducible refine Kd.C_alloc ?_ _) | (with_reducible refine Kd.C_drewN ?_ _) | (with_reducible refine Kd.C_drew ?_))); (case side4 => exact HC1_0.out); rintro e w' ⟨rfl, ⟨nd, rfl⟩⟩; refine ⟨_, rfl, ?_⟩) | ((with_reducible refine gate_callee (f := 67) rfl ?_); refine goesL_ (some 15) rfl rfl Tryd.func67 (by kernel_rfl) rfl #[.slice A0_1 l0_1.length c0_1, .slice A1_1 l1_1.length c1_1] rfl (by (try simp only [List.map_toArray, List.map_cons, List.map_nil]); first | done | rfl | (simp only [List.length_drop, List.length_take]; rfl)) ?_; (with_reducible refine (laws_eqByteS.calls k _ _ l0_1 _ _ l1_1 false _ ?side1 ?side2 ?side3 ?side4 A5.out).mono ?_); (case side1 => repeat (first | exact (Kd.C_below HR0_1.out (by repeat (first | (with_reducible first | exact HB.out | apply below_alloc | apply pw_below_drewN | apply below_drew1 | refine below_set ?_ GE368.out | refine below_set ?_ GE369.out) | exact HB.out))) | (with_reducible refine Kd.C_alloc ?_ _) | (with_reducible refine Kd.C_drewN ?_ _) | (with_reducible refine Kd.C_drew ?_))); (case side2 => exact HC0_1.out); (case side3 => repeat (first | exact (Kd.C_below HR1_1.out (by repeat (first | (with_reducible first | exact HB.out | apply below_alloc | apply pw_below_drewN | apply below_drew1 | refine below_set ?_ GE368.out | refine below_set ?_ GE369.out) | exact HB.out))) | (with_reducible refine Kd.C_alloc ?_ _) | (with_reducible refine Kd.C_drewN ?_ _) | (with_reducible refine Kd.C_drew ?_))); (case side4 => exact HC1_1.out); rintro e w' ⟨rfl, ⟨nd, rfl⟩⟩; refine ⟨_, rfl, ?_⟩))
     go_ret
     exact ⟨by first | rfl | (simp [errW_none, errW_some] <;> rfl) | (simp [*, errW_none, errW_some] <;> rfl), by repeat (first | (with_reducible first | exact HB.out | apply below_alloc | apply pw_below_drewN | apply below_drew1 | refine below_set ?_ GE368.out | refine below_set ?_ GE369.out) | exact HB.out)⟩
 · replace c4 := Bool.eq_false_iff.mpr c4
   subst c4
   have H1 : (some false) = some r := by rw [if_neg (show ¬ (false = true) by decide)] at H; exact H
   clear H
   have H := H1
   clear H1
   obtain rfl := Option.some.inj H
   go_enter Tryd.func28, Tryd.ntmps28
   go_wp2_with (first | ((with_reducible refine gate_dst (N := 2) rfl ?_); refine box_event ?hg (N := 2) ?hd (cs := #[.slice A0_0 l0_0.length c0_0, .slice A0_1 l0_1.length c0_1, .int .i64 a0_2, .slice A0_3 l0_3.length c0_3, .int .i64 a0_4, .slice A0_5 l0_5.length c0_5]) (t := 60) ?hr ?_; (case hd => rfl); (case hg => rfl); (case hr => first | (go_simp; done) | (go_simp; rfl)); intro gb368 hg w45 hbox hb; have n0_ := Aside0.mk (below_step (by repeat (first | (with_reducible first | exact HB.out | apply below_alloc | apply pw_below_drewN | apply below_drew1) | exact HB.out)) hb); have n1_ := Aside0.mk (hbox); have n2_ := Aside0.mk ((by rw [hg]; exact (below_size (by repeat (first | (with_reducible first | exact HB.out | apply below_alloc | apply pw_below_drewN | apply below_drew1) | exact HB.out))) : w.heap.size ≤ gb368)); have n3_ := Aside0.mk ((by rw [hg]; exact (below_size (by repeat (first | (with_reducible first | exact HB.out | apply below_alloc | apply pw_below_drewN | apply below_drew1) | exact HB.out))) : w.heap.size ≤ gb368)); clear HB; have HB := n0_; have BK368 := n1_; have GW368 := n2_; have GE368 := n3_; clear n0_ n1_ n2_ n3_; clear hb hbox hg) | ((with_reducible refine gate_dst (N := 3) rfl ?_); refine box_event ?hg (N := 3) ?hd (cs := #[.slice A1_0 l1_0.length c1_0, .slice A1_1 l1_1.length c1_1, .int .i64 a1_2, .slice A1_3 l1_3.length c1_3, .int .i64 a1_4, .slice A1_5 l1_5.length c1_5]) (t := 60) ?hr ?_; (case hd => rfl); (case hg => rfl); (case hr => first | (go_simp; done) | (go_simp; rfl)); intro gb369 hg w46 hbox hb; have n0_ := Aside0.mk (blk_below (g := gb368) (o := .cells #[.slice A0_0 l0_0.length c0_0, .slice A0_1 l0_1.length c0_1, .int .i64 a0_2, .slice A0_3 l0_3.length c0_3, .int .i64 a0_4, .slice A0_5 l0_5.length c0_5] 60 (0, 0)) (by (with_reducible repeat (first | refine blk_drewN ?_ _ | refine blk_drew ?_ | refine blk_alloc ?_ _)); exact BK368.out) hb); have n1_ := Aside0.mk (below_step (by repeat (first | (with_reducible first | exact HB.out | apply below_alloc | apply pw_below_drewN | apply below_drew1 | refine below_set ?_ GE368.out) | exact HB.out)) hb); have n2_ := Aside0.mk (hbox); have n3_ := Aside0.mk ((by rw [hg]; exact (below_size (by repeat (first | (with_reducible first | exact HB.out | apply below_alloc | apply pw_below_drewN | apply below_drew1 | refine below_set ?_ GE368.out) | exact HB.out))) : w.heap.size ≤ gb369)); have n4_ := Aside0.mk ((by rw [hg]; exact (below_size (by repeat (first | (with_reducible first | exact HB.out | apply below_alloc | apply pw_below_drewN | apply below_drew1 | refine below_set ?_ GE368.out) | exact HB.out))) : w.heap.size ≤ gb369)); have n5_ := Aside0.mk ((by rw [hg]; exact Nat.ne_of_lt (blk_lt (g := gb368) (o := .cells #[.slice A0_0 l0_0.length c0_0, .slice A0_1 l0_1.length c0_1, .int .i64 a0_2, .slice A0_3 l0_3.length c0_3, .int .i64 a0_4, .slice A0_5 l0_5.length c0_5] 60 (0, 0)) (by (with_reducible repeat (first | refine blk_drewN ?_ _ | refine blk_drew ?_ | refine blk_alloc ?_ _)); exact BK368.out)) : gb368 ≠ gb369)); have n6_ := Aside0.mk ((by rw [hg]; exact Nat.ne_of_gt (blk_lt (g := gb368) (o := .cells #[.slice A0_0 l0_0.length c0_0, .slice A0_1 l0_1.length c0_1, .int .i64 a0_2, .slice A0_3 l0_3.length c0_3, .int .i64 a0_4, .slice A0_5 l0_5.length c0_5] 60 (0, 0)) (by (with_reducible repeat (first | refine blk_drewN ?_ _ | refine blk_drew ?_ | refine blk_alloc ?_ _)); exact BK368.out)) : gb369 ≠ gb368)); clear BK368; clear HB; have BK368 := n0_; have HB := n1_; have BK369 := n2_; have GW369 := n3_; have GE369 := n4_; have NB368_369 := n5_; have NB369_368 := n6_; clear n0_ n1_ n2_ n3_ n4_ n5_ n6_; clear hb hbox hg; have hnb47 := NB368_369.out; have hnc47 := NB369_368.out; have hcz48_0 : w46.cell? ⟨gb368, 0, none⟩ = some (.slice A0_0 l0_0.length c0_0) := (blk_cell BK368.out 0).trans rfl; have hcz48_1 : w46.cell? ⟨gb368, 1, none⟩ = some (.slice A0_1 l0_1.length c0_1) := (blk_cell BK368.out 1).trans rfl; have hcz48_2 : w46.cell? ⟨gb368, 2, none⟩ = some (.int .i64 a0_2) := (blk_cell BK368.out 2).trans rfl; have hcz48_3 : w46.cell? ⟨gb368, 3, none⟩ = some (.slice A0_3 l0_3.length c0_3) := (blk_cell BK368.out 3).trans rfl; have hcz48_4 : w46.cell? ⟨gb368, 4, none⟩ = some (.int .i64 a0_4) := (blk_cell BK368.out 4).trans rfl; have hcz48_5 : w46.cell? ⟨gb368, 5, none⟩ = some (.slice A0_5 l0_5.length c0_5) := (blk_cell BK368.out 5).trans rfl; have hfz48_0 := blk_frozen BK368.out 0; have hfz48_1 := blk_frozen BK368.out 1; have hfz48_2 := blk_frozen BK368.out 2; have hfz48_3 := blk_frozen BK368.out 3; have hfz48_4 := blk_frozen BK368.out 4; have hfz48_5 := blk_frozen BK368.out 5; have hcz49_0 : w46.cell? ⟨gb369, 0, none⟩ = some (.slice A1_0 l1_0.length c1_0) := (blk_cell BK369.out 0).trans rfl; have hcz49_1 : w46.cell? ⟨gb369, 1, none⟩ = some (.slice A1_1 l1_1.length c1_1) := (blk_cell BK369.out 1).trans rfl; have hcz49_2 : w46.cell? ⟨gb369, 2, none⟩ = some (.int .i64 a1_2) := (blk_cell BK369.out 2).trans rfl; have hcz49_3 : w46.cell? ⟨gb369, 3, none⟩ = some (.slice A1_3 l1_3.length c1_3) := (blk_cell BK369.out 3).trans rfl; have hcz49_4 : w46.cell? ⟨gb369, 4, none⟩ = some (.int .i64 a1_4) := (blk_cell BK369.out 4).trans rfl; have hcz49_5 : w46.cell? ⟨gb369, 5, none⟩ = some (.slice A1_5 l1_5.length c1_5) := (blk_cell BK369.out 5).trans rfl; have hfz49_0 := blk_frozen BK369.out 0; have hfz49_1 := blk_frozen BK369.out 1; have hfz49_2 := blk_frozen BK369.out 2; have hfz49_3 := blk_frozen BK369.out 3; have hfz49_4 := blk_frozen BK369.out 4; have hfz49_5 := blk_frozen BK369.out 5) | ((with_reducible refine gate_callee (f := 67) rfl ?_); refine goesL_ (some 9) rfl rfl Tryd.func67 (by kernel_rfl) rfl #[.slice A0_0 l0_0.length c0_0, .slice A1_0 l1_0.length c1_0] rfl (by (try simp only [List.map_toArray, List.map_cons, List.map_nil]); first | done | rfl | (simp only [List.length_drop, List.length_take]; rfl)) ?_; (with_reducible refine (laws_eqByteS.calls k _ _ l0_0 _ _ l1_0 false _ ?side1 ?side2 ?side3 ?side4 A3.out).mono ?_); (case side1 => repeat (first | exact (Kd.C_below HR0_0.out HB.out) | (with_reducible refine Kd.C_alloc ?_ _) | (with_reducible refine Kd.C_drewN ?_ _) | (with_reducible refine Kd.C_drew ?_))); (case side2 => exact HC0_0.out); (case side3 => repeat (first | exact (Kd.C_below HR1_0.out HB.out) | (with_reducible refine Kd.C_alloc ?_ _) | (with_reducible refine Kd.C_drewN ?_ _) | (with_reducible refine Kd.C_drew ?_))); (case side4 => exact HC1_0.out); rintro e w' ⟨rfl, ⟨nd, rfl⟩⟩; refine ⟨_, rfl, ?_⟩))
   go_ret
   exact ⟨by first | rfl | (simp [errW_none, errW_some] <;> rfl) | (simp [*, errW_none, errW_some] <;> rfl), by repeat (first | (with_reducible first | exact HB.out | apply below_alloc | apply pw_below_drewN | apply below_drew1 | refine below_set ?_ GE368.out | refine below_set ?_ GE369.out) | exact HB.out)⟩

end Go.Proofs.YtkohjiajbdkcbaaDoor.All

