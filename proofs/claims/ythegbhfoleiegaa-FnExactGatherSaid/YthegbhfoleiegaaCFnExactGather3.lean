/- Part 3 of the proof of FnExactGather: functions of the translation with what they return, and plain laws of these. Written by programs of this session over the kit's print, and by hand. -/
import Derived.Test.YthegbhfoleiegaaProg
import Derived.Test.YthegbhfoleiegaaCFnExactGatherWApart
import Derived.Test.YthegbhfoleiegaaCFnExactGatherWArr
import Derived.Test.YthegbhfoleiegaaCFnExactGatherWFoot
import Derived.Test.YthegbhfoleiegaaCFnExactGatherWGuard
import Derived.Test.YthegbhfoleiegaaCFnExactGatherWKept
import Derived.Test.YthegbhfoleiegaaCFnExactGatherWLast
import Derived.Test.YthegbhfoleiegaaCFnExactGatherWMore
import Derived.Test.YthegbhfoleiegaaCFnExactGatherWN
import Derived.Test.YthegbhfoleiegaaCFnExactGatherWNEv
import Derived.Test.YthegbhfoleiegaaCFnExactGatherWQPut
import Derived.Test.YthegbhfoleiegaaCFnExactGatherWRepsOne
import Derived.Test.YthegbhfoleiegaaCFnExactGatherWShare
import Derived.Test.YthegbhfoleiegaaCFnExactGatherWTab
import Derived.Test.YthegbhfoleiegaaCFnExactGatherWWords
import Derived.Test.YthegbhfoleiegaaCFnExactGatherWZeros
import Derived.Below
import Derived.Deep.Draws
import Derived.Deep.AppendLies
import Derived.Maps.AppendAt
import Derived.OwnWalk
import Derived.Laws.BytesArg
import Derived.Laws.MakeOwn
import Derived.Laws.OwnMore
import Derived.Deep.OwnRows
import Derived.Tactics
import Derived.Lib.ConvBytes
import Derived.Laws.Slices
import Derived.WalkKit
import Derived.KernelRfl
import Derived.RowKit3
import Derived.Deep.LoopGhost
import Derived.Deep.QuietTactic
import Derived.BigQuiet
import Derived.WideLaws
import Derived.Deep.DeepCutAuto
import Derived.Deep.CutBlock
import Derived.Deep.RegionHeld3
import Derived.Laws.Rows
import Derived.Lib.AppendStr
import Derived.ArgAppend
import Derived.Laws.IdiomCopy
import Derived.OrdersHeld
import Derived.Laws.BitsLemmas
import Derived.RowKit
import Derived.Maps.OwnSet
import Derived.Maps.OwnOps
import Derived.Maps.RangeWalk
import Derived.StringKeys
import Derived.Sort.KeysCollected
import Derived.Shelf.GgSortFunc.Whole
import Derived.Shelf.GgSortFunc.Tiny
import Derived.Sort.OwnSortedInts
import Derived.Lib.RowBridge
import Derived.Lib.SortBridge
import Derived.Sort.LotA
import Derived.Deep.RegionWith
import Derived.Deep.Slices
import Derived.ChangeArms
import Derived.Laws.ResultCell
import Derived.DeepKeys4
import Derived.ProofKit
import Derived.OpenShut
import Derived.ShutString
import Derived.ChangeOld
import Derived.SizedLaws
import Derived.Test.YthegbhfoleiegaaCFnExactGather1
import Derived.Test.YthegbhfoleiegaaCFnExactGather2
namespace Go.Proofs.Ythegbhfoleiegaa.All
open Go.RowKit Go.Proofs.YthegbhfoleiegaaW.PrintWords Go.Proofs.YthegbhfoleiegaaW.PrintLast Go.Proofs.YthegbhfoleiegaaW.PrintMore
attribute [local go_sem] max2_int min2_int max_two min_two max_three min_three max_four min_four   -- for this text's walks alone
set_option linter.unusedVariables false
set_option linter.unusedSimpArgs false

mutual
def spec_l20Of.j1 : Nat → List (S68) → ByteArray → Int → Int → Option (Int × Int)
 | 0, _, _, _, _ => none
 | k + 1, x0, x2, x681000, x681001 => spec_l20Of.l1 k x0 x2 1 x681000 x681001
def spec_l20Of.l1 : Nat → List (S68) → ByteArray → Int → Int → Int → Option (Int × Int)
 | 0, _, _, _, _, _ => none
 | k + 1, x0, x2, x10, x681000, x681001 => if x10 ≤ 2 then (spec_l20Of.l2 k x0 x2 x10 0 x681000 x681001) else (some (x681000, x681001))
def spec_l20Of.l2 : Nat → List (S68) → ByteArray → Int → Int → Int → Int → Option (Int × Int)
 | 0, _, _, _, _, _, _ => none
 | k + 1, x0, x2, x10, x11, x681000, x681001 => if x11 < (x0.length : Int) then (spec_l20Of.l3 k x0 x2 x10 x11 0 x681000 x681001) else (spec_l20Of.l1 k x0 x2 (wrap64 (x10 + 1)) x681000 x681001)
def spec_l20Of.l3 : Nat → List (S68) → ByteArray → Int → Int → Int → Int → Int → Option (Int × Int)
 | 0, _, _, _, _, _, _, _ => none
 | k + 1, x0, x2, x10, x11, x12, x681000, x681001 => if 0 ≤ x11 then (if x11 < (x0.length : Int) then (if x12 < (((rd_T68 x0 x11).f0).length : Int) then (if 0 ≤ x12 then (if ((rd_T130 ((rd_T68 x0 x11).f0) x12).f0).toList = x2.toList then (if ((rd_T130 ((rd_T68 x0 x11).f0) x12).f2) = x10 then (some (x11, x12)) else (spec_l20Of.l3 k x0 x2 x10 x11 (wrap64 (x12 + 1)) x681000 x681001)) else (spec_l20Of.l3 k x0 x2 x10 x11 (wrap64 (x12 + 1)) x681000 x681001)) else (none)) else (spec_l20Of.l2 k x0 x2 x10 (wrap64 (x11 + 1)) x681000 x681001)) else (none)) else (none)
def spec_l20Of.l0 : Nat → List (S68) → Int → ByteArray → Int → Int → Int → Option (Int × Int)
 | 0, _, _, _, _, _, _ => none
 | k + 1, x0, x1, x2, x8, x681000, x681001 => if 0 ≤ x1 then (if x1 < (x0.length : Int) then (if x8 < (((rd_T68 x0 x1).f0).length : Int) then (if 0 ≤ x8 then (if ((rd_T130 ((rd_T68 x0 x1).f0) x8).f0).toList = x2.toList then (if ((rd_T130 ((rd_T68 x0 x1).f0) x8).f2) = 3 then (some (x1, x8)) else (spec_l20Of.l0 k x0 x1 x2 (wrap64 (x8 + 1)) x681000 x681001)) else (spec_l20Of.l0 k x0 x1 x2 (wrap64 (x8 + 1)) x681000 x681001)) else (none)) else (spec_l20Of.j1 k x0 x2 x681000 x681001)) else (none)) else (none)
end
def spec_l20Of.f (k : Nat) (l0 : List (S68)) (a1 : Int) (a2 : ByteArray) : Option (Int × Int) := if a1 ≥ 0 then (spec_l20Of.l0 k l0 a1 a2 0 (-1) (-1)) else (spec_l20Of.j1 k l0 a2 (-1) (-1))
set_option maxHeartbeats 8000000 in
set_option maxRecDepth 100000 in
theorem spec_l20Of.calls (k : Nat) (P0_ : Nat → Prop) (A0 : Option Addr) (c0 : Nat) (l0 : List (S68)) (a1 : Int) (a2 : ByteArray) (r1 : Int) (r2 : Int) (w : World) (hs0 : Kd.V k68 68 w w.heap.size (fun k_ => P0_ k_) (.slice A0 l0.length c0) l0) (h : spec_l20Of.f k l0 a1 a2 = some (r1, r2)) :
 Calls Try.prog 85 #[.slice A0 l0.length c0, .int .i64 a1, .string a2] w fun e w' => e = .returned (.agg #[.int .i64 r1, .int .i64 r2]) ∧ Below w.heap.size w w' := by
 have hu125 := Try.underlying125
 have hu130 := Try.underlying130
 have HO0 := Aside0.mk (show Kd.V k68 68 w w.heap.size (fun k_ => (P0_ k_ ∨ w.heap.size ≤ k_)) (.slice A0 l0.length c0) l0 from Kd.V_mono hs0 (fun k_ hk => .inl hk))
 have HB := Aside0.mk (Below.refl w.heap.size w)
 have H : (if a1 ≥ 0 then (spec_l20Of.l0 k l0 a1 a2 0 (-1) (-1)) else (spec_l20Of.j1 k l0 a2 (-1) (-1))) = some (r1, r2) := h
 clear h
 have HC4 := Aside0.mk H
 clear H
 go_enter Try.func85, Try.ntmps85
 go_upto_if 16 with (first | ((with_reducible refine gate_dst (N := 6) rfl ?_); refine box_event ?hg (N := 6) ?hd (cs := #[.int .i64 0, .int .i64 0]) (t := 125) ?hr ?_; (case hd => rfl); (case hg => rfl); (case hr => first | (go_simp; done) | (go_simp; rfl)); intro gb679 hg w5 hbox hb; have n0_ := Aside0.mk (Kd.V_below (Kd.V_elderB (by (with_reducible repeat (first | apply Kd.V_alloc | apply Kd.V_drewN | apply Kd.V_drew)); exact HO0.out) gb679 (Nat.le_of_eq hg.symm)) hb); have n1_ := Aside0.mk (below_step bz hb); have n2_ := Aside0.mk (hbox); have n3_ := Aside0.mk ((by rw [hg]; exact (below_size bz) : w.heap.size ≤ gb679)); have n4_ := Aside0.mk ((by rw [hg]; exact (below_size bz) : w.heap.size ≤ gb679)); clear HO0; clear HB; have HO0 := n0_; have HB := n1_; have BK679 := n2_; have GW679 := n3_; have GE679 := n4_; clear n0_ n1_ n2_ n3_ n4_; clear hb hbox hg) | ((with_reducible refine gate_dst (N := 7) rfl ?_); refine box_event ?hg (N := 7) ?hd (cs := #[.int .i64 0, .int .i64 0]) (t := 125) ?hr ?_; (case hd => rfl); (case hg => rfl); (case hr => first | (go_simp; done) | (go_simp; rfl)); intro gb680 hg w6 hbox hb; have n0_ := Aside0.mk (Kd.V_below (Kd.V_elderB (by (with_reducible repeat (first | apply Kd.V_alloc | apply Kd.V_drewN | apply Kd.V_drew)); exact HO0.out) gb680 (Nat.le_of_eq hg.symm)) hb); have n1_ := Aside0.mk (blk_below (g := gb679) (o := .cells #[.int .i64 0, .int .i64 0] 125 (0, 0)) kz hb); have n2_ := Aside0.mk (below_step bz hb); have n3_ := Aside0.mk (hbox); have n4_ := Aside0.mk ((by rw [hg]; exact (below_size bz) : w.heap.size ≤ gb680)); have n5_ := Aside0.mk ((by rw [hg]; exact (below_size bz) : w.heap.size ≤ gb680)); have n6_ := Aside0.mk ((by rw [hg]; exact Nat.ne_of_lt (blk_lt (g := gb679) (o := .cells #[.int .i64 0, .int .i64 0] 125 (0, 0)) kz) : gb679 ≠ gb680)); have n7_ := Aside0.mk ((by rw [hg]; exact Nat.ne_of_gt (blk_lt (g := gb679) (o := .cells #[.int .i64 0, .int .i64 0] 125 (0, 0)) kz) : gb680 ≠ gb679)); clear HO0; clear BK679; clear HB; have HO0 := n0_; have BK679 := n1_; have HB := n2_; have BK680 := n3_; have GW680 := n4_; have GE680 := n5_; have NB679_680 := n6_; have NB680_679 := n7_; clear n0_ n1_ n2_ n3_ n4_ n5_ n6_ n7_; clear hb hbox hg; have hnb7 := NB680_679.out; have hnc7 := NB679_680.out; have hcz8_0 : w6.cell? ⟨gb680, 0, none⟩ = some (.int .i64 0) := (blk_cell BK680.out 0).trans rfl; have hcz8_1 : w6.cell? ⟨gb680, 1, none⟩ = some (.int .i64 0) := (blk_cell BK680.out 1).trans rfl; have hfz8_0 := blk_frozen BK680.out 0; have hfz8_1 := blk_frozen BK680.out 1))
 (try simp only [Act.put, sx1, sx2, sx3])
 go_cut [] (fun wc => ∃ (kq : Nat) (x680000_3 : Int) (x680001_3 : Int), Aside0 (spec_l20Of.j1 kq l0 a2 (-1) (-1) = some (r1, r2)) ∧ Aside0 (kq ≤ k) ∧ Aside0 (Kd.V k68 68 wc w.heap.size (fun k_ => (P0_ k_ ∨ w.heap.size ≤ k_) ∧ k_ ≠ gb679 ∧ k_ ≠ gb680) (.slice A0 l0.length c0) l0) ∧ Aside0 (wc.heap[gb679]? = some (.cells #[.int .i64 x680000_3, .int .i64 x680001_3] 125 (0, 0))) ∧ Aside0 (wc.heap[gb680]? = some (.cells #[.int .i64 (-1), .int .i64 (-1)] 125 (0, 0))) ∧ Aside0 (Below w.heap.size w wc))
 case first =>
  have H := HC4.out
  clear HC4
  by_cases c9 : a1 ≥ 0
  · rw [if_pos c9] at H
    have c9b0 : decide (0 ≤ a1) = true := decide_eq_true c9
    clear c9
    (first | rw [c9b0] | (simp only [i64_w, i32_w]; rw [c9b0]) | skip)
    have H' := Aside0.mk H
    clear H
    go_wp2
    go_loopg [8] k (fun kq v8 w' => ∃ (x8_1 : Int) (x680000_1 : Int) (x680001_1 : Int), v8 = .int .i64 x8_1 ∧ Aside0 (spec_l20Of.l0 kq l0 a1 a2 x8_1 (-1) (-1) = some (r1, r2)) ∧ Aside0 (kq ≤ k) ∧ Aside0 (Kd.V k68 68 w' w.heap.size (fun k_ => (P0_ k_ ∨ w.heap.size ≤ k_) ∧ k_ ≠ gb679 ∧ k_ ≠ gb680) (.slice A0 l0.length c0) l0) ∧ Aside0 (w'.heap[gb679]? = some (.cells #[.int .i64 x680000_1, .int .i64 x680001_1] 125 (0, 0))) ∧ Aside0 (w'.heap[gb680]? = some (.cells #[.int .i64 (-1), .int .i64 (-1)] 125 (0, 0))) ∧ Aside0 (Below w.heap.size w w'))
    case atStart => exact ⟨(0), (0), (0), sz_, H', ⟨Nat.le_refl _⟩, ⟨by (with_reducible repeat (first | apply Kd.V_alloc | apply Kd.V_drewN | apply Kd.V_drew)); exact Kd.V_mono (Kd.V_far (p := ⟨gb680, 1, none⟩) (Kd.V_far (p := ⟨gb680, 0, none⟩) (Kd.V_mono HO0.out (fun k_ hk => (⟨hk, hk.2⟩ : _ ∧ k_ ≠ gb680))) (fun _ hk => hk.2) (.int .i64 (-1))) (fun _ hk => hk.2) (.int .i64 (-1))) (fun _ hk => ⟨hk.1.1.1, ⟨hk.1.1.2, hk.1.2⟩⟩)⟩, ⟨by (with_reducible repeat (first | refine blk_drewN ?_ _ | refine blk_drew ?_ | refine blk_alloc ?_ _)); refine blk_far ?_ NB679_680.out _; (with_reducible repeat (first | refine blk_drewN ?_ _ | refine blk_drew ?_ | refine blk_alloc ?_ _)); refine blk_far ?_ NB679_680.out _; (with_reducible repeat (first | refine blk_drewN ?_ _ | refine blk_drew ?_ | refine blk_alloc ?_ _)); exact BK679.out⟩, ⟨by (with_reducible repeat (first | refine blk_drewN ?_ _ | refine blk_drew ?_ | refine blk_alloc ?_ _)); refine blk_put (cs := #[.int .i64 (-1), .int .i64 0]) ?_ 1 _ rfl; (with_reducible repeat (first | refine blk_drewN ?_ _ | refine blk_drew ?_ | refine blk_alloc ?_ _)); refine blk_put (cs := #[.int .i64 0, .int .i64 0]) ?_ 0 _ rfl; (with_reducible repeat (first | refine blk_drewN ?_ _ | refine blk_drew ?_ | refine blk_alloc ?_ _)); exact BK680.out⟩, ⟨ bz⟩⟩
    case round =>
     clear H'
     try clear p2
     try clear c7
     try clear c8
     try clear c9
     try clear c9b0
     try clear hcz8_0
     try clear hcz8_1
     try clear hfz8_0
     try clear hfz8_1
     obtain ⟨x8_1, x680000_1, x680001_1, rfl, HA, HK1, HO_0, BK679, BK680, HB⟩ := hrel
     cases gk with
     | zero => exact absurd HA.out (by simp [spec_l20Of.l0])
     | succ k1 =>
      have H := HA.out
      clear HA
      simp only [spec_l20Of.l0] at H
      by_cases c10 : 0 ≤ a1
      · rw [if_pos c10] at H
        have c10b0 : decide (0 ≤ a1) = true := decide_eq_true c10
        clear c10
        by_cases c11 : a1 < (l0.length : Int)
        · rw [if_pos c11] at H
          have c11b0 : decide (a1 < (l0.length : Int)) = true := decide_eq_true c11
          clear c11
          by_cases c12 : x8_1 < (((rd_T68 l0 a1).f0).length : Int)
          · rw [if_pos c12] at H
            have c12b0 : decide (x8_1 < (((rd_T68 l0 a1).f0).length : Int)) = true := decide_eq_true c12
            clear c12
            by_cases c13 : 0 ≤ x8_1
            · rw [if_pos c13] at H
              have c13b0 : decide (0 ≤ x8_1) = true := decide_eq_true c13
              clear c13
              by_cases c14 : ((rd_T130 ((rd_T68 l0 a1).f0) x8_1).f0).toList = a2.toList
              · rw [if_pos c14] at H
                have c14b0 : (((rd_T130 ((rd_T68 l0 a1).f0) x8_1).f0).toList == a2.toList) = true := beq_iff_eq.mpr c14
                have c14b1 : (((rd_T130 ((rd_T68 l0 a1).f0) x8_1).f0).toList != a2.toList) = false := bne_eq_false_iff_eq.mpr c14
                clear c14
                by_cases c15 : ((rd_T130 ((rd_T68 l0 a1).f0) x8_1).f2) = 3
                · rw [if_pos c15] at H
                  have c15b0 : (((rd_T130 ((rd_T68 l0 a1).f0) x8_1).f2) == 3) = true := beq_iff_eq.mpr c15
                  have c15b1 : (((rd_T130 ((rd_T68 l0 a1).f0) x8_1).f2) != 3) = false := bne_eq_false_iff_eq.mpr c15
                  clear c15
                  simp only [Option.some.injEq, Prod.mk.injEq] at H
                  obtain ⟨rfl, rfl⟩ := H
                  have p681 : 0 ≤ (a1 : Int) := of_decide_eq_true az
                  have q681 : a1 < (l0.length : Int) := of_decide_eq_true az
                  obtain ⟨ad681, A681_0, c681_0, e681, hx681_0, hl681_0, hi681_0⟩ := at_T68 (Kd.V_reads' HO_0.out).2.2 a1 p681 q681
                  cases e681
                  obtain ⟨ce681, hce681, hMe681, hcc681⟩ := Kd.V_get HO_0.out z68 a1 p681 (by first | exact q681 | exact of_decide_eq_true az | (have e_ := (Kd.V_reads' HO_0.out).1; omega))
                  obtain ⟨ua681_0, uc681_0, rfl, ul681_0, ge681_0⟩ := k68_openF hMe681
                  have hv681_0 := hcc681 0 _ rfl
                  rw [Nat.add_zero, show (k68).sz = 1 from rfl, Nat.mul_one] at hv681_0
                  replace hv681_0 := Option.some.inj (hv681_0.symm.trans hx681_0)
                  injection hv681_0 with hva_ hvn_ hvc_
                  rw [hva_] at ge681_0
                  rw [hvc_] at ul681_0
                  have HL681_0 := Aside0.mk (show Kd.V k130 130 _ w.heap.size _ _ ((rd_T68 l0 a1).f0) from Kd.V_mk ul681_0 ge681_0)
                  clear hva_ hvn_ hvc_ ge681_0 ul681_0
                  clear hcc681 hce681
                  have HR681_0 := Aside0.mk hi681_0
                  have HC681_0 := Aside0.mk hl681_0
                  clear hi681_0 hl681_0
                  replace p681 := eq_true p681
                  replace q681 := eq_true q681
                  have p682 : 0 ≤ (a1 : Int) := of_decide_eq_true az
                  have q682 : a1 < (l0.length : Int) := of_decide_eq_true az
                  obtain ⟨ad682, A682_0, c682_0, e682, hx682_0, hl682_0, hi682_0⟩ := at_T68 (Kd.V_reads' HO_0.out).2.2 a1 p682 q682
                  obtain rfl : ad681 = ad682 := (by injection e682)
                  obtain ⟨ce682, hce682, hMe682, hcc682⟩ := Kd.V_get HO_0.out z68 a1 p682 (by first | exact q682 | exact of_decide_eq_true az | (have e_ := (Kd.V_reads' HO_0.out).1; omega))
                  obtain ⟨ua682_0, uc682_0, rfl, ul682_0, ge682_0⟩ := k68_openF hMe682
                  have hv682_0 := hcc682 0 _ rfl
                  rw [Nat.add_zero, show (k68).sz = 1 from rfl, Nat.mul_one] at hv682_0
                  replace hv682_0 := Option.some.inj (hv682_0.symm.trans hx682_0)
                  injection hv682_0 with hva_ hvn_ hvc_
                  rw [hva_] at ge682_0
                  rw [hvc_] at ul682_0
                  have HL682_0 := Aside0.mk (show Kd.V k130 130 _ w.heap.size _ _ ((rd_T68 l0 a1).f0) from Kd.V_mk ul682_0 ge682_0)
                  clear hva_ hvn_ hvc_ ge682_0 ul682_0
                  clear hcc682 hce682
                  have HR682_0 := Aside0.mk hi682_0
                  have HC682_0 := Aside0.mk hl682_0
                  clear hi682_0 hl682_0
                  replace p682 := eq_true p682
                  replace q682 := eq_true q682
                  have ea_ := Option.some.inj (hx681_0.symm.trans hx682_0)
                  injection ea_ with ea_ en_ ec_
                  subst ea_
                  subst ec_
                  clear en_
                  have p683 : 0 ≤ (x8_1 : Int) := of_decide_eq_true az
                  have q683 : x8_1 < (((rd_T68 l0 a1).f0).length : Int) := of_decide_eq_true az
                  obtain ⟨ad683, A683_4, c683_4, A683_6, c683_6, A683_7, c683_7, e683, hx683_0, hx683_1, hx683_2, hx683_3, hx683_4, hx683_5, hx683_6, hx683_7, hl683_4, hi683_4, hl683_6, hi683_6, hl683_7, hi683_7⟩ := at_T130 (by repeat (first | (with_reducible exact HR682_0.out) | (with_reducible refine Kd.C_alloc ?_ _) | (with_reducible refine Kd.C_drewN ?_ _) | (with_reducible refine Kd.C_drew ?_) | exact HR682_0.out)) x8_1 p683 q683
                  cases e683
                  obtain ⟨ce683, hce683, hMe683, hcc683⟩ := Kd.V_get HL682_0.out z130 x8_1 p683 (by first | exact q683 | exact of_decide_eq_true az | (have e_ := (Kd.V_reads' HL682_0.out).1; omega))
                  obtain ⟨ua683_4, uc683_4, ua683_6, uc683_6, ua683_7, uc683_7, rfl, ul683_4, ge683_4, ul683_6, ge683_6, ul683_7, ge683_7⟩ := k130_openF hMe683
                  have hv683_4 := hcc683 4 _ rfl
                  rw [add_field _ _ 4 (by omega)] at hv683_4
                  replace hv683_4 := Option.some.inj (hv683_4.symm.trans hx683_4)
                  injection hv683_4 with hva_ hvn_ hvc_
                  rw [hva_] at ge683_4
                  rw [hvc_] at ul683_4
                  have HL683_4 := Aside0.mk (show Kd.V (Kd.int .i64) 2 _ w.heap.size _ _ ((rd_T130 ((rd_T68 l0 a1).f0) x8_1).f4) from Kd.V_mk ul683_4 ge683_4)
                  clear hva_ hvn_ hvc_ ge683_4 ul683_4
                  have hv683_6 := hcc683 6 _ rfl
                  rw [add_field _ _ 6 (by omega)] at hv683_6
                  replace hv683_6 := Option.some.inj (hv683_6.symm.trans hx683_6)
                  injection hv683_6 with hva_ hvn_ hvc_
                  rw [hva_] at ge683_6
                  rw [hvc_] at ul683_6
                  have HL683_6 := Aside0.mk (show Kd.V (Kd.int .u8) 5 _ w.heap.size _ _ ((rd_T130 ((rd_T68 l0 a1).f0) x8_1).f6) from Kd.V_mk ul683_6 ge683_6)
                  clear hva_ hvn_ hvc_ ge683_6 ul683_6
                  have hv683_7 := hcc683 7 _ rfl
                  rw [add_field _ _ 7 (by omega)] at hv683_7
                  replace hv683_7 := Option.some.inj (hv683_7.symm.trans hx683_7)
                  injection hv683_7 with hva_ hvn_ hvc_
                  rw [hva_] at ge683_7
                  rw [hvc_] at ul683_7
                  have HL683_7 := Aside0.mk (show Kd.V k132 132 _ w.heap.size _ _ ((rd_T130 ((rd_T68 l0 a1).f0) x8_1).f7) from Kd.V_mk ul683_7 ge683_7)
                  clear hva_ hvn_ hvc_ ge683_7 ul683_7
                  clear hcc683 hce683
                  have HR683_4 := Aside0.mk hi683_4
                  have HC683_4 := Aside0.mk hl683_4
                  clear hi683_4 hl683_4
                  have HR683_6 := Aside0.mk hi683_6
                  have HC683_6 := Aside0.mk hl683_6
                  clear hi683_6 hl683_6
                  have HR683_7 := Aside0.mk hi683_7
                  have HC683_7 := Aside0.mk hl683_7
                  clear hi683_7 hl683_7
                  replace p683 := eq_true p683
                  replace q683 := eq_true q683
                  go_wp2_with (first | ((with_reducible refine gate_dst (N := 9) rfl ?_); refine box_event ?hg (N := 9) ?hd (cs := #[.string (⟨#[]⟩ : ByteArray), .int .i64 0, .int .i64 0, .int .i64 0, .slice none 0 0, .int .i64 0, .slice none 0 0, .slice none 0 0]) (t := 130) ?hr ?_; (case hd => rfl); (case hg => rfl); (case hr => first | (go_simp; done) | (go_simp; rfl)); intro gb684 hg w16 hbox hb; have n0_ := Aside0.mk (Kd.V_below (Kd.V_elderB (by (with_reducible repeat (first | apply Kd.V_alloc | apply Kd.V_drewN | apply Kd.V_drew)); exact HO_0.out) gb684 (Nat.le_of_eq hg.symm)) hb); have n1_ := Aside0.mk (Kd.V_below (Kd.V_elderB (by (with_reducible repeat (first | apply Kd.V_alloc | apply Kd.V_drewN | apply Kd.V_drew)); exact HL681_0.out) gb684 (Nat.le_of_eq hg.symm)) hb); have n2_ := Aside0.mk (Kd.V_below (Kd.V_elderB (by (with_reducible repeat (first | apply Kd.V_alloc | apply Kd.V_drewN | apply Kd.V_drew)); exact HL682_0.out) gb684 (Nat.le_of_eq hg.symm)) hb); have n3_ := Aside0.mk (Kd.V_below (Kd.V_elderB (by (with_reducible repeat (first | apply Kd.V_alloc | apply Kd.V_drewN | apply Kd.V_drew)); exact HL683_4.out) gb684 (Nat.le_of_eq hg.symm)) hb); have n4_ := Aside0.mk (Kd.V_below (Kd.V_elderB (by (with_reducible repeat (first | apply Kd.V_alloc | apply Kd.V_drewN | apply Kd.V_drew)); exact HL683_6.out) gb684 (Nat.le_of_eq hg.symm)) hb); have n5_ := Aside0.mk (Kd.V_below (Kd.V_elderB (by (with_reducible repeat (first | apply Kd.V_alloc | apply Kd.V_drewN | apply Kd.V_drew)); exact HL683_7.out) gb684 (Nat.le_of_eq hg.symm)) hb); have n6_ := Aside0.mk (blk_below (g := gb679) (o := .cells #[.int .i64 x680000_1, .int .i64 x680001_1] 125 (0, 0)) kz hb); have n7_ := Aside0.mk (blk_below (g := gb680) (o := .cells #[.int .i64 (-1), .int .i64 (-1)] 125 (0, 0)) kz hb); have n8_ := Aside0.mk (Kd.C_below (by repeat (first | (with_reducible exact HR681_0.out) | (with_reducible refine Kd.C_alloc ?_ _) | (with_reducible refine Kd.C_drewN ?_ _) | (with_reducible refine Kd.C_drew ?_) | exact HR681_0.out)) hb); have n9_ := Aside0.mk (Kd.C_below (by repeat (first | (with_reducible exact HR682_0.out) | (with_reducible refine Kd.C_alloc ?_ _) | (with_reducible refine Kd.C_drewN ?_ _) | (with_reducible refine Kd.C_drew ?_) | exact HR682_0.out)) hb); have n10_ := Aside0.mk (Kd.C_below (by repeat (first | (with_reducible exact HR683_4.out) | (with_reducible refine Kd.C_alloc ?_ _) | (with_reducible refine Kd.C_drewN ?_ _) | (with_reducible refine Kd.C_drew ?_) | exact HR683_4.out)) hb); have n11_ := Aside0.mk (Kd.C_below (by repeat (first | (with_reducible exact HR683_6.out) | (with_reducible refine Kd.C_alloc ?_ _) | (with_reducible refine Kd.C_drewN ?_ _) | (with_reducible refine Kd.C_drew ?_) | exact HR683_6.out)) hb); have n12_ := Aside0.mk (Kd.C_below (by repeat (first | (with_reducible exact HR683_7.out) | (with_reducible refine Kd.C_alloc ?_ _) | (with_reducible refine Kd.C_drewN ?_ _) | (with_reducible refine Kd.C_drew ?_) | exact HR683_7.out)) hb); have n13_ := Aside0.mk (below_step bz hb); have n14_ := Aside0.mk (hbox); have n15_ := Aside0.mk ((by rw [hg]; exact (below_size bz) : w.heap.size ≤ gb684)); have n16_ := Aside0.mk ((by rw [hg]; exact (below_size bz) : w.heap.size ≤ gb684)); have n17_ := Aside0.mk ((by rw [hg]; exact Nat.ne_of_lt (blk_lt (g := gb679) (o := .cells #[.int .i64 x680000_1, .int .i64 x680001_1] 125 (0, 0)) kz) : gb679 ≠ gb684)); have n18_ := Aside0.mk ((by rw [hg]; exact Nat.ne_of_gt (blk_lt (g := gb679) (o := .cells #[.int .i64 x680000_1, .int .i64 x680001_1] 125 (0, 0)) kz) : gb684 ≠ gb679)); have n19_ := Aside0.mk ((by rw [hg]; exact Nat.ne_of_lt (blk_lt (g := gb680) (o := .cells #[.int .i64 (-1), .int .i64 (-1)] 125 (0, 0)) kz) : gb680 ≠ gb684)); have n20_ := Aside0.mk ((by rw [hg]; exact Nat.ne_of_gt (blk_lt (g := gb680) (o := .cells #[.int .i64 (-1), .int .i64 (-1)] 125 (0, 0)) kz) : gb684 ≠ gb680)); clear HO_0; clear HL681_0; clear HL682_0; clear HL683_4; clear HL683_6; clear HL683_7; clear BK679; clear BK680; clear HR681_0; clear HR682_0; clear HR683_4; clear HR683_6; clear HR683_7; clear HB; have HO_0 := n0_; have HL681_0 := n1_; have HL682_0 := n2_; have HL683_4 := n3_; have HL683_6 := n4_; have HL683_7 := n5_; have BK679 := n6_; have BK680 := n7_; have HR681_0 := n8_; have HR682_0 := n9_; have HR683_4 := n10_; have HR683_6 := n11_; have HR683_7 := n12_; have HB := n13_; have BK684 := n14_; have GW684 := n15_; have GE684 := n16_; have NB679_684 := n17_; have NB684_679 := n18_; have NB680_684 := n19_; have NB684_680 := n20_; clear n0_ n1_ n2_ n3_ n4_ n5_ n6_ n7_ n8_ n9_ n10_ n11_ n12_ n13_ n14_ n15_ n16_ n17_ n18_ n19_ n20_; clear hb hbox hg; have hnb17 := NB684_679.out; have hnc17 := NB679_684.out; have hnb18 := NB684_680.out; have hnc18 := NB680_684.out; have hcz19_0 : w16.cell? ⟨gb684, 0, none⟩ = some (.string (⟨#[]⟩ : ByteArray)) := (blk_cell BK684.out 0).trans rfl; have hcz19_1 : w16.cell? ⟨gb684, 1, none⟩ = some (.int .i64 0) := (blk_cell BK684.out 1).trans rfl; have hcz19_2 : w16.cell? ⟨gb684, 2, none⟩ = some (.int .i64 0) := (blk_cell BK684.out 2).trans rfl; have hcz19_3 : w16.cell? ⟨gb684, 3, none⟩ = some (.int .i64 0) := (blk_cell BK684.out 3).trans rfl; have hcz19_4 : w16.cell? ⟨gb684, 4, none⟩ = some (.slice none 0 0) := (blk_cell BK684.out 4).trans rfl; have hcz19_5 : w16.cell? ⟨gb684, 5, none⟩ = some (.int .i64 0) := (blk_cell BK684.out 5).trans rfl; have hcz19_6 : w16.cell? ⟨gb684, 6, none⟩ = some (.slice none 0 0) := (blk_cell BK684.out 6).trans rfl; have hcz19_7 : w16.cell? ⟨gb684, 7, none⟩ = some (.slice none 0 0) := (blk_cell BK684.out 7).trans rfl; have hfz19_0 := blk_frozen BK684.out 0; have hfz19_1 := blk_frozen BK684.out 1; have hfz19_2 := blk_frozen BK684.out 2; have hfz19_3 := blk_frozen BK684.out 3; have hfz19_4 := blk_frozen BK684.out 4; have hfz19_5 := blk_frozen BK684.out 5; have hfz19_6 := blk_frozen BK684.out 6; have hfz19_7 := blk_frozen BK684.out 7; have hnb20 := NB679_680.out; have hnc20 := NB680_679.out; have hcz21_0 : w16.cell? ⟨gb679, 0, none⟩ = some (.int .i64 x680000_1) := (blk_cell BK679.out 0).trans rfl; have hcz21_1 : w16.cell? ⟨gb679, 1, none⟩ = some (.int .i64 x680001_1) := (blk_cell BK679.out 1).trans rfl; have hfz21_0 := blk_frozen BK679.out 0; have hfz21_1 := blk_frozen BK679.out 1))
                  refine bodyPost_ret (results_cell_row rfl _ _ gb679 125 #[.int .i64 a1, .int .i64 x8_1] (0, 0) _ rfl (by (with_reducible repeat (first | refine blk_drewN ?_ _ | refine blk_drew ?_ | refine blk_alloc ?_ _)); refine blk_put (cs := #[.int .i64 a1, .int .i64 x680001_1]) ?_ 1 _ rfl; (with_reducible repeat (first | refine blk_drewN ?_ _ | refine blk_drew ?_ | refine blk_alloc ?_ _)); refine blk_put (cs := #[.int .i64 x680000_1, .int .i64 x680001_1]) ?_ 0 _ rfl; (with_reducible repeat (first | refine blk_drewN ?_ _ | refine blk_drew ?_ | refine blk_alloc ?_ _)); refine blk_far ?_ NB679_684.out _; (with_reducible repeat (first | refine blk_drewN ?_ _ | refine blk_drew ?_ | refine blk_alloc ?_ _)); refine blk_far ?_ NB679_684.out _; (with_reducible repeat (first | refine blk_drewN ?_ _ | refine blk_drew ?_ | refine blk_alloc ?_ _)); refine blk_far ?_ NB679_684.out _; (with_reducible repeat (first | refine blk_drewN ?_ _ | refine blk_drew ?_ | refine blk_alloc ?_ _)); refine blk_far ?_ NB679_684.out _; (with_reducible repeat (first | refine blk_drewN ?_ _ | refine blk_drew ?_ | refine blk_alloc ?_ _)); refine blk_far ?_ NB679_684.out _; (with_reducible repeat (first | refine blk_drewN ?_ _ | refine blk_drew ?_ | refine blk_alloc ?_ _)); refine blk_far ?_ NB679_684.out _; (with_reducible repeat (first | refine blk_drewN ?_ _ | refine blk_drew ?_ | refine blk_alloc ?_ _)); refine blk_far ?_ NB679_684.out _; (with_reducible repeat (first | refine blk_drewN ?_ _ | refine blk_drew ?_ | refine blk_alloc ?_ _)); refine blk_far ?_ NB679_684.out _; (with_reducible repeat (first | refine blk_drewN ?_ _ | refine blk_drew ?_ | refine blk_alloc ?_ _)); exact BK679.out) Try.underlying125 rfl (by kernel_rfl)) rfl ?_
                  exact ⟨by first | rfl | (simp [errW_none, errW_some] <;> rfl) | (simp [*, errW_none, errW_some] <;> rfl), bz⟩
                · rw [if_neg c15] at H
                  have c15b0 : (((rd_T130 ((rd_T68 l0 a1).f0) x8_1).f2) == 3) = false := beq_eq_false_iff_ne.mpr c15
                  have c15b1 : (((rd_T130 ((rd_T68 l0 a1).f0) x8_1).f2) != 3) = true := bne_iff_ne.mpr c15
                  have H' := Aside0.mk H
                  clear H
                  have p681 : 0 ≤ (a1 : Int) := of_decide_eq_true az
                  have q681 : a1 < (l0.length : Int) := of_decide_eq_true az
                  obtain ⟨ad681, A681_0, c681_0, e681, hx681_0, hl681_0, hi681_0⟩ := at_T68 (Kd.V_reads' HO_0.out).2.2 a1 p681 q681
                  cases e681
                  obtain ⟨ce681, hce681, hMe681, hcc681⟩ := Kd.V_get HO_0.out z68 a1 p681 (by first | exact q681 | exact of_decide_eq_true az | (have e_ := (Kd.V_reads' HO_0.out).1; omega))
                  obtain ⟨ua681_0, uc681_0, rfl, ul681_0, ge681_0⟩ := k68_openF hMe681
                  have hv681_0 := hcc681 0 _ rfl
                  rw [Nat.add_zero, show (k68).sz = 1 from rfl, Nat.mul_one] at hv681_0
                  replace hv681_0 := Option.some.inj (hv681_0.symm.trans hx681_0)
                  injection hv681_0 with hva_ hvn_ hvc_
                  rw [hva_] at ge681_0
                  rw [hvc_] at ul681_0
                  have HL681_0 := Aside0.mk (show Kd.V k130 130 _ w.heap.size _ _ ((rd_T68 l0 a1).f0) from Kd.V_mk ul681_0 ge681_0)
                  clear hva_ hvn_ hvc_ ge681_0 ul681_0
                  clear hcc681 hce681
                  have HR681_0 := Aside0.mk hi681_0
                  have HC681_0 := Aside0.mk hl681_0
                  clear hi681_0 hl681_0
                  replace p681 := eq_true p681
                  replace q681 := eq_true q681
                  have p682 : 0 ≤ (a1 : Int) := of_decide_eq_true az
                  have q682 : a1 < (l0.length : Int) := of_decide_eq_true az
                  obtain ⟨ad682, A682_0, c682_0, e682, hx682_0, hl682_0, hi682_0⟩ := at_T68 (Kd.V_reads' HO_0.out).2.2 a1 p682 q682
                  obtain rfl : ad681 = ad682 := (by injection e682)
                  obtain ⟨ce682, hce682, hMe682, hcc682⟩ := Kd.V_get HO_0.out z68 a1 p682 (by first | exact q682 | exact of_decide_eq_true az | (have e_ := (Kd.V_reads' HO_0.out).1; omega))
                  obtain ⟨ua682_0, uc682_0, rfl, ul682_0, ge682_0⟩ := k68_openF hMe682
                  have hv682_0 := hcc682 0 _ rfl
                  rw [Nat.add_zero, show (k68).sz = 1 from rfl, Nat.mul_one] at hv682_0
                  replace hv682_0 := Option.some.inj (hv682_0.symm.trans hx682_0)
                  injection hv682_0 with hva_ hvn_ hvc_
                  rw [hva_] at ge682_0
                  rw [hvc_] at ul682_0
                  have HL682_0 := Aside0.mk (show Kd.V k130 130 _ w.heap.size _ _ ((rd_T68 l0 a1).f0) from Kd.V_mk ul682_0 ge682_0)
                  clear hva_ hvn_ hvc_ ge682_0 ul682_0
                  clear hcc682 hce682
                  have HR682_0 := Aside0.mk hi682_0
                  have HC682_0 := Aside0.mk hl682_0
                  clear hi682_0 hl682_0
                  replace p682 := eq_true p682
                  replace q682 := eq_true q682
                  have ea_ := Option.some.inj (hx681_0.symm.trans hx682_0)
                  injection ea_ with ea_ en_ ec_
                  subst ea_
                  subst ec_
                  clear en_
                  have p683 : 0 ≤ (x8_1 : Int) := of_decide_eq_true az
                  have q683 : x8_1 < (((rd_T68 l0 a1).f0).length : Int) := of_decide_eq_true az
                  obtain ⟨ad683, A683_4, c683_4, A683_6, c683_6, A683_7, c683_7, e683, hx683_0, hx683_1, hx683_2, hx683_3, hx683_4, hx683_5, hx683_6, hx683_7, hl683_4, hi683_4, hl683_6, hi683_6, hl683_7, hi683_7⟩ := at_T130 (by repeat (first | (with_reducible exact HR682_0.out) | (with_reducible refine Kd.C_alloc ?_ _) | (with_reducible refine Kd.C_drewN ?_ _) | (with_reducible refine Kd.C_drew ?_) | exact HR682_0.out)) x8_1 p683 q683
                  cases e683
                  obtain ⟨ce683, hce683, hMe683, hcc683⟩ := Kd.V_get HL682_0.out z130 x8_1 p683 (by first | exact q683 | exact of_decide_eq_true az | (have e_ := (Kd.V_reads' HL682_0.out).1; omega))
                  obtain ⟨ua683_4, uc683_4, ua683_6, uc683_6, ua683_7, uc683_7, rfl, ul683_4, ge683_4, ul683_6, ge683_6, ul683_7, ge683_7⟩ := k130_openF hMe683
                  have hv683_4 := hcc683 4 _ rfl
                  rw [add_field _ _ 4 (by omega)] at hv683_4
                  replace hv683_4 := Option.some.inj (hv683_4.symm.trans hx683_4)
                  injection hv683_4 with hva_ hvn_ hvc_
                  rw [hva_] at ge683_4
                  rw [hvc_] at ul683_4
                  have HL683_4 := Aside0.mk (show Kd.V (Kd.int .i64) 2 _ w.heap.size _ _ ((rd_T130 ((rd_T68 l0 a1).f0) x8_1).f4) from Kd.V_mk ul683_4 ge683_4)
                  clear hva_ hvn_ hvc_ ge683_4 ul683_4
                  have hv683_6 := hcc683 6 _ rfl
                  rw [add_field _ _ 6 (by omega)] at hv683_6
                  replace hv683_6 := Option.some.inj (hv683_6.symm.trans hx683_6)
                  injection hv683_6 with hva_ hvn_ hvc_
                  rw [hva_] at ge683_6
                  rw [hvc_] at ul683_6
                  have HL683_6 := Aside0.mk (show Kd.V (Kd.int .u8) 5 _ w.heap.size _ _ ((rd_T130 ((rd_T68 l0 a1).f0) x8_1).f6) from Kd.V_mk ul683_6 ge683_6)
                  clear hva_ hvn_ hvc_ ge683_6 ul683_6
                  have hv683_7 := hcc683 7 _ rfl
                  rw [add_field _ _ 7 (by omega)] at hv683_7
                  replace hv683_7 := Option.some.inj (hv683_7.symm.trans hx683_7)
                  injection hv683_7 with hva_ hvn_ hvc_
                  rw [hva_] at ge683_7
                  rw [hvc_] at ul683_7
                  have HL683_7 := Aside0.mk (show Kd.V k132 132 _ w.heap.size _ _ ((rd_T130 ((rd_T68 l0 a1).f0) x8_1).f7) from Kd.V_mk ul683_7 ge683_7)
                  clear hva_ hvn_ hvc_ ge683_7 ul683_7
                  clear hcc683 hce683
                  have HR683_4 := Aside0.mk hi683_4
                  have HC683_4 := Aside0.mk hl683_4
                  clear hi683_4 hl683_4
                  have HR683_6 := Aside0.mk hi683_6
                  have HC683_6 := Aside0.mk hl683_6
                  clear hi683_6 hl683_6
                  have HR683_7 := Aside0.mk hi683_7
                  have HC683_7 := Aside0.mk hl683_7
                  clear hi683_7 hl683_7
                  replace p683 := eq_true p683
                  replace q683 := eq_true q683
                  go_wp2_with (first | ((with_reducible refine gate_dst (N := 9) rfl ?_); refine box_event ?hg (N := 9) ?hd (cs := #[.string (⟨#[]⟩ : ByteArray), .int .i64 0, .int .i64 0, .int .i64 0, .slice none 0 0, .int .i64 0, .slice none 0 0, .slice none 0 0]) (t := 130) ?hr ?_; (case hd => rfl); (case hg => rfl); (case hr => first | (go_simp; done) | (go_simp; rfl)); intro gb684 hg w22 hbox hb; have n0_ := Aside0.mk (Kd.V_below (Kd.V_elderB (by (with_reducible repeat (first | apply Kd.V_alloc | apply Kd.V_drewN | apply Kd.V_drew)); exact HO_0.out) gb684 (Nat.le_of_eq hg.symm)) hb); have n1_ := Aside0.mk (Kd.V_below (Kd.V_elderB (by (with_reducible repeat (first | apply Kd.V_alloc | apply Kd.V_drewN | apply Kd.V_drew)); exact HL681_0.out) gb684 (Nat.le_of_eq hg.symm)) hb); have n2_ := Aside0.mk (Kd.V_below (Kd.V_elderB (by (with_reducible repeat (first | apply Kd.V_alloc | apply Kd.V_drewN | apply Kd.V_drew)); exact HL682_0.out) gb684 (Nat.le_of_eq hg.symm)) hb); have n3_ := Aside0.mk (Kd.V_below (Kd.V_elderB (by (with_reducible repeat (first | apply Kd.V_alloc | apply Kd.V_drewN | apply Kd.V_drew)); exact HL683_4.out) gb684 (Nat.le_of_eq hg.symm)) hb); have n4_ := Aside0.mk (Kd.V_below (Kd.V_elderB (by (with_reducible repeat (first | apply Kd.V_alloc | apply Kd.V_drewN | apply Kd.V_drew)); exact HL683_6.out) gb684 (Nat.le_of_eq hg.symm)) hb); have n5_ := Aside0.mk (Kd.V_below (Kd.V_elderB (by (with_reducible repeat (first | apply Kd.V_alloc | apply Kd.V_drewN | apply Kd.V_drew)); exact HL683_7.out) gb684 (Nat.le_of_eq hg.symm)) hb); have n6_ := Aside0.mk (blk_below (g := gb679) (o := .cells #[.int .i64 x680000_1, .int .i64 x680001_1] 125 (0, 0)) kz hb); have n7_ := Aside0.mk (blk_below (g := gb680) (o := .cells #[.int .i64 (-1), .int .i64 (-1)] 125 (0, 0)) kz hb); have n8_ := Aside0.mk (Kd.C_below (by repeat (first | (with_reducible exact HR681_0.out) | (with_reducible refine Kd.C_alloc ?_ _) | (with_reducible refine Kd.C_drewN ?_ _) | (with_reducible refine Kd.C_drew ?_) | exact HR681_0.out)) hb); have n9_ := Aside0.mk (Kd.C_below (by repeat (first | (with_reducible exact HR682_0.out) | (with_reducible refine Kd.C_alloc ?_ _) | (with_reducible refine Kd.C_drewN ?_ _) | (with_reducible refine Kd.C_drew ?_) | exact HR682_0.out)) hb); have n10_ := Aside0.mk (Kd.C_below (by repeat (first | (with_reducible exact HR683_4.out) | (with_reducible refine Kd.C_alloc ?_ _) | (with_reducible refine Kd.C_drewN ?_ _) | (with_reducible refine Kd.C_drew ?_) | exact HR683_4.out)) hb); have n11_ := Aside0.mk (Kd.C_below (by repeat (first | (with_reducible exact HR683_6.out) | (with_reducible refine Kd.C_alloc ?_ _) | (with_reducible refine Kd.C_drewN ?_ _) | (with_reducible refine Kd.C_drew ?_) | exact HR683_6.out)) hb); have n12_ := Aside0.mk (Kd.C_below (by repeat (first | (with_reducible exact HR683_7.out) | (with_reducible refine Kd.C_alloc ?_ _) | (with_reducible refine Kd.C_drewN ?_ _) | (with_reducible refine Kd.C_drew ?_) | exact HR683_7.out)) hb); have n13_ := Aside0.mk (below_step bz hb); have n14_ := Aside0.mk (hbox); have n15_ := Aside0.mk ((by rw [hg]; exact (below_size bz) : w.heap.size ≤ gb684)); have n16_ := Aside0.mk ((by rw [hg]; exact (below_size bz) : w.heap.size ≤ gb684)); have n17_ := Aside0.mk ((by rw [hg]; exact Nat.ne_of_lt (blk_lt (g := gb679) (o := .cells #[.int .i64 x680000_1, .int .i64 x680001_1] 125 (0, 0)) kz) : gb679 ≠ gb684)); have n18_ := Aside0.mk ((by rw [hg]; exact Nat.ne_of_gt (blk_lt (g := gb679) (o := .cells #[.int .i64 x680000_1, .int .i64 x680001_1] 125 (0, 0)) kz) : gb684 ≠ gb679)); have n19_ := Aside0.mk ((by rw [hg]; exact Nat.ne_of_lt (blk_lt (g := gb680) (o := .cells #[.int .i64 (-1), .int .i64 (-1)] 125 (0, 0)) kz) : gb680 ≠ gb684)); have n20_ := Aside0.mk ((by rw [hg]; exact Nat.ne_of_gt (blk_lt (g := gb680) (o := .cells #[.int .i64 (-1), .int .i64 (-1)] 125 (0, 0)) kz) : gb684 ≠ gb680)); clear HO_0; clear HL681_0; clear HL682_0; clear HL683_4; clear HL683_6; clear HL683_7; clear BK679; clear BK680; clear HR681_0; clear HR682_0; clear HR683_4; clear HR683_6; clear HR683_7; clear HB; have HO_0 := n0_; have HL681_0 := n1_; have HL682_0 := n2_; have HL683_4 := n3_; have HL683_6 := n4_; have HL683_7 := n5_; have BK679 := n6_; have BK680 := n7_; have HR681_0 := n8_; have HR682_0 := n9_; have HR683_4 := n10_; have HR683_6 := n11_; have HR683_7 := n12_; have HB := n13_; have BK684 := n14_; have GW684 := n15_; have GE684 := n16_; have NB679_684 := n17_; have NB684_679 := n18_; have NB680_684 := n19_; have NB684_680 := n20_; clear n0_ n1_ n2_ n3_ n4_ n5_ n6_ n7_ n8_ n9_ n10_ n11_ n12_ n13_ n14_ n15_ n16_ n17_ n18_ n19_ n20_; clear hb hbox hg; have hnb23 := NB684_679.out; have hnc23 := NB679_684.out; have hnb24 := NB684_680.out; have hnc24 := NB680_684.out; have hcz25_0 : w22.cell? ⟨gb684, 0, none⟩ = some (.string (⟨#[]⟩ : ByteArray)) := (blk_cell BK684.out 0).trans rfl; have hcz25_1 : w22.cell? ⟨gb684, 1, none⟩ = some (.int .i64 0) := (blk_cell BK684.out 1).trans rfl; have hcz25_2 : w22.cell? ⟨gb684, 2, none⟩ = some (.int .i64 0) := (blk_cell BK684.out 2).trans rfl; have hcz25_3 : w22.cell? ⟨gb684, 3, none⟩ = some (.int .i64 0) := (blk_cell BK684.out 3).trans rfl; have hcz25_4 : w22.cell? ⟨gb684, 4, none⟩ = some (.slice none 0 0) := (blk_cell BK684.out 4).trans rfl; have hcz25_5 : w22.cell? ⟨gb684, 5, none⟩ = some (.int .i64 0) := (blk_cell BK684.out 5).trans rfl; have hcz25_6 : w22.cell? ⟨gb684, 6, none⟩ = some (.slice none 0 0) := (blk_cell BK684.out 6).trans rfl; have hcz25_7 : w22.cell? ⟨gb684, 7, none⟩ = some (.slice none 0 0) := (blk_cell BK684.out 7).trans rfl; have hfz25_0 := blk_frozen BK684.out 0; have hfz25_1 := blk_frozen BK684.out 1; have hfz25_2 := blk_frozen BK684.out 2; have hfz25_3 := blk_frozen BK684.out 3; have hfz25_4 := blk_frozen BK684.out 4; have hfz25_5 := blk_frozen BK684.out 5; have hfz25_6 := blk_frozen BK684.out 6; have hfz25_7 := blk_frozen BK684.out 7))
                  go_roundg k1
                  case measure => have := HK1.out; omega
                  case rel => exact ⟨(wrap64 (x8_1 + 1)), (x680000_1), (x680001_1), sz_, H', ⟨by have := HK1.out; omega⟩, ⟨by (with_reducible repeat (first | apply Kd.V_alloc | apply Kd.V_drewN | apply Kd.V_drew)); exact Kd.V_mono (Kd.V_far (p := ⟨gb684, 7, none⟩) (Kd.V_far (p := ⟨gb684, 6, none⟩) (Kd.V_far (p := ⟨gb684, 5, none⟩) (Kd.V_far (p := ⟨gb684, 4, none⟩) (Kd.V_far (p := ⟨gb684, 3, none⟩) (Kd.V_far (p := ⟨gb684, 2, none⟩) (Kd.V_far (p := ⟨gb684, 1, none⟩) (Kd.V_far (p := ⟨gb684, 0, none⟩) (Kd.V_mono HO_0.out (fun k_ hk => (⟨hk, hk.2⟩ : _ ∧ k_ ≠ gb684))) (fun _ hk => hk.2) (.string ((rd_T130 ((rd_T68 l0 a1).f0) x8_1).f0))) (fun _ hk => hk.2) (.int .i64 ((rd_T130 ((rd_T68 l0 a1).f0) x8_1).f1))) (fun _ hk => hk.2) (.int .i64 ((rd_T130 ((rd_T68 l0 a1).f0) x8_1).f2))) (fun _ hk => hk.2) (.int .i64 ((rd_T130 ((rd_T68 l0 a1).f0) x8_1).f3))) (fun _ hk => hk.2) (.slice A683_4 ((rd_T130 ((rd_T68 l0 a1).f0) x8_1).f4).length c683_4)) (fun _ hk => hk.2) (.int .i64 ((rd_T130 ((rd_T68 l0 a1).f0) x8_1).f5))) (fun _ hk => hk.2) (.slice A683_6 ((rd_T130 ((rd_T68 l0 a1).f0) x8_1).f6).length c683_6)) (fun _ hk => hk.2) (.slice A683_7 ((rd_T130 ((rd_T68 l0 a1).f0) x8_1).f7).length c683_7)) (fun _ hk => ⟨hk.1.1.1, ⟨hk.1.1.2.1, hk.1.1.2.2⟩⟩)⟩, ⟨by (with_reducible repeat (first | refine blk_drewN ?_ _ | refine blk_drew ?_ | refine blk_alloc ?_ _)); refine blk_far ?_ NB679_684.out _; (with_reducible repeat (first | refine blk_drewN ?_ _ | refine blk_drew ?_ | refine blk_alloc ?_ _)); refine blk_far ?_ NB679_684.out _; (with_reducible repeat (first | refine blk_drewN ?_ _ | refine blk_drew ?_ | refine blk_alloc ?_ _)); refine blk_far ?_ NB679_684.out _; (with_reducible repeat (first | refine blk_drewN ?_ _ | refine blk_drew ?_ | refine blk_alloc ?_ _)); refine blk_far ?_ NB679_684.out _; (with_reducible repeat (first | refine blk_drewN ?_ _ | refine blk_drew ?_ | refine blk_alloc ?_ _)); refine blk_far ?_ NB679_684.out _; (with_reducible repeat (first | refine blk_drewN ?_ _ | refine blk_drew ?_ | refine blk_alloc ?_ _)); refine blk_far ?_ NB679_684.out _; (with_reducible repeat (first | refine blk_drewN ?_ _ | refine blk_drew ?_ | refine blk_alloc ?_ _)); refine blk_far ?_ NB679_684.out _; (with_reducible repeat (first | refine blk_drewN ?_ _ | refine blk_drew ?_ | refine blk_alloc ?_ _)); refine blk_far ?_ NB679_684.out _; (with_reducible repeat (first | refine blk_drewN ?_ _ | refine blk_drew ?_ | refine blk_alloc ?_ _)); exact BK679.out⟩, ⟨by (with_reducible repeat (first | refine blk_drewN ?_ _ | refine blk_drew ?_ | refine blk_alloc ?_ _)); refine blk_far ?_ NB680_684.out _; (with_reducible repeat (first | refine blk_drewN ?_ _ | refine blk_drew ?_ | refine blk_alloc ?_ _)); refine blk_far ?_ NB680_684.out _; (with_reducible repeat (first | refine blk_drewN ?_ _ | refine blk_drew ?_ | refine blk_alloc ?_ _)); refine blk_far ?_ NB680_684.out _; (with_reducible repeat (first | refine blk_drewN ?_ _ | refine blk_drew ?_ | refine blk_alloc ?_ _)); refine blk_far ?_ NB680_684.out _; (with_reducible repeat (first | refine blk_drewN ?_ _ | refine blk_drew ?_ | refine blk_alloc ?_ _)); refine blk_far ?_ NB680_684.out _; (with_reducible repeat (first | refine blk_drewN ?_ _ | refine blk_drew ?_ | refine blk_alloc ?_ _)); refine blk_far ?_ NB680_684.out _; (with_reducible repeat (first | refine blk_drewN ?_ _ | refine blk_drew ?_ | refine blk_alloc ?_ _)); refine blk_far ?_ NB680_684.out _; (with_reducible repeat (first | refine blk_drewN ?_ _ | refine blk_drew ?_ | refine blk_alloc ?_ _)); refine blk_far ?_ NB680_684.out _; (with_reducible repeat (first | refine blk_drewN ?_ _ | refine blk_drew ?_ | refine blk_alloc ?_ _)); exact BK680.out⟩, ⟨ bz⟩⟩
              · rw [if_neg c14] at H
                have c14b0 : (((rd_T130 ((rd_T68 l0 a1).f0) x8_1).f0).toList == a2.toList) = false := beq_eq_false_iff_ne.mpr c14
                have c14b1 : (((rd_T130 ((rd_T68 l0 a1).f0) x8_1).f0).toList != a2.toList) = true := bne_iff_ne.mpr c14
                have H' := Aside0.mk H
                clear H
                have p681 : 0 ≤ (a1 : Int) := of_decide_eq_true az
                have q681 : a1 < (l0.length : Int) := of_decide_eq_true az
                obtain ⟨ad681, A681_0, c681_0, e681, hx681_0, hl681_0, hi681_0⟩ := at_T68 (Kd.V_reads' HO_0.out).2.2 a1 p681 q681
                cases e681
                obtain ⟨ce681, hce681, hMe681, hcc681⟩ := Kd.V_get HO_0.out z68 a1 p681 (by first | exact q681 | exact of_decide_eq_true az | (have e_ := (Kd.V_reads' HO_0.out).1; omega))
                obtain ⟨ua681_0, uc681_0, rfl, ul681_0, ge681_0⟩ := k68_openF hMe681
                have hv681_0 := hcc681 0 _ rfl
                rw [Nat.add_zero, show (k68).sz = 1 from rfl, Nat.mul_one] at hv681_0
                replace hv681_0 := Option.some.inj (hv681_0.symm.trans hx681_0)
                injection hv681_0 with hva_ hvn_ hvc_
                rw [hva_] at ge681_0
                rw [hvc_] at ul681_0
                have HL681_0 := Aside0.mk (show Kd.V k130 130 _ w.heap.size _ _ ((rd_T68 l0 a1).f0) from Kd.V_mk ul681_0 ge681_0)
                clear hva_ hvn_ hvc_ ge681_0 ul681_0
                clear hcc681 hce681
                have HR681_0 := Aside0.mk hi681_0
                have HC681_0 := Aside0.mk hl681_0
                clear hi681_0 hl681_0
                replace p681 := eq_true p681
                replace q681 := eq_true q681
                have p682 : 0 ≤ (a1 : Int) := of_decide_eq_true az
                have q682 : a1 < (l0.length : Int) := of_decide_eq_true az
                obtain ⟨ad682, A682_0, c682_0, e682, hx682_0, hl682_0, hi682_0⟩ := at_T68 (Kd.V_reads' HO_0.out).2.2 a1 p682 q682
                obtain rfl : ad681 = ad682 := (by injection e682)
                obtain ⟨ce682, hce682, hMe682, hcc682⟩ := Kd.V_get HO_0.out z68 a1 p682 (by first | exact q682 | exact of_decide_eq_true az | (have e_ := (Kd.V_reads' HO_0.out).1; omega))
                obtain ⟨ua682_0, uc682_0, rfl, ul682_0, ge682_0⟩ := k68_openF hMe682
                have hv682_0 := hcc682 0 _ rfl
                rw [Nat.add_zero, show (k68).sz = 1 from rfl, Nat.mul_one] at hv682_0
                replace hv682_0 := Option.some.inj (hv682_0.symm.trans hx682_0)
                injection hv682_0 with hva_ hvn_ hvc_
                rw [hva_] at ge682_0
                rw [hvc_] at ul682_0
                have HL682_0 := Aside0.mk (show Kd.V k130 130 _ w.heap.size _ _ ((rd_T68 l0 a1).f0) from Kd.V_mk ul682_0 ge682_0)
                clear hva_ hvn_ hvc_ ge682_0 ul682_0
                clear hcc682 hce682
                have HR682_0 := Aside0.mk hi682_0
                have HC682_0 := Aside0.mk hl682_0
                clear hi682_0 hl682_0
                replace p682 := eq_true p682
                replace q682 := eq_true q682
                have ea_ := Option.some.inj (hx681_0.symm.trans hx682_0)
                injection ea_ with ea_ en_ ec_
                subst ea_
                subst ec_
                clear en_
                have p683 : 0 ≤ (x8_1 : Int) := of_decide_eq_true az
                have q683 : x8_1 < (((rd_T68 l0 a1).f0).length : Int) := of_decide_eq_true az
                obtain ⟨ad683, A683_4, c683_4, A683_6, c683_6, A683_7, c683_7, e683, hx683_0, hx683_1, hx683_2, hx683_3, hx683_4, hx683_5, hx683_6, hx683_7, hl683_4, hi683_4, hl683_6, hi683_6, hl683_7, hi683_7⟩ := at_T130 (by repeat (first | (with_reducible exact HR682_0.out) | (with_reducible refine Kd.C_alloc ?_ _) | (with_reducible refine Kd.C_drewN ?_ _) | (with_reducible refine Kd.C_drew ?_) | exact HR682_0.out)) x8_1 p683 q683
                cases e683
                obtain ⟨ce683, hce683, hMe683, hcc683⟩ := Kd.V_get HL682_0.out z130 x8_1 p683 (by first | exact q683 | exact of_decide_eq_true az | (have e_ := (Kd.V_reads' HL682_0.out).1; omega))
                obtain ⟨ua683_4, uc683_4, ua683_6, uc683_6, ua683_7, uc683_7, rfl, ul683_4, ge683_4, ul683_6, ge683_6, ul683_7, ge683_7⟩ := k130_openF hMe683
                have hv683_4 := hcc683 4 _ rfl
                rw [add_field _ _ 4 (by omega)] at hv683_4
                replace hv683_4 := Option.some.inj (hv683_4.symm.trans hx683_4)
                injection hv683_4 with hva_ hvn_ hvc_
                rw [hva_] at ge683_4
                rw [hvc_] at ul683_4
                have HL683_4 := Aside0.mk (show Kd.V (Kd.int .i64) 2 _ w.heap.size _ _ ((rd_T130 ((rd_T68 l0 a1).f0) x8_1).f4) from Kd.V_mk ul683_4 ge683_4)
                clear hva_ hvn_ hvc_ ge683_4 ul683_4
                have hv683_6 := hcc683 6 _ rfl
                rw [add_field _ _ 6 (by omega)] at hv683_6
                replace hv683_6 := Option.some.inj (hv683_6.symm.trans hx683_6)
                injection hv683_6 with hva_ hvn_ hvc_
                rw [hva_] at ge683_6
                rw [hvc_] at ul683_6
                have HL683_6 := Aside0.mk (show Kd.V (Kd.int .u8) 5 _ w.heap.size _ _ ((rd_T130 ((rd_T68 l0 a1).f0) x8_1).f6) from Kd.V_mk ul683_6 ge683_6)
                clear hva_ hvn_ hvc_ ge683_6 ul683_6
                have hv683_7 := hcc683 7 _ rfl
                rw [add_field _ _ 7 (by omega)] at hv683_7
                replace hv683_7 := Option.some.inj (hv683_7.symm.trans hx683_7)
                injection hv683_7 with hva_ hvn_ hvc_
                rw [hva_] at ge683_7
                rw [hvc_] at ul683_7
                have HL683_7 := Aside0.mk (show Kd.V k132 132 _ w.heap.size _ _ ((rd_T130 ((rd_T68 l0 a1).f0) x8_1).f7) from Kd.V_mk ul683_7 ge683_7)
                clear hva_ hvn_ hvc_ ge683_7 ul683_7
                clear hcc683 hce683
                have HR683_4 := Aside0.mk hi683_4
                have HC683_4 := Aside0.mk hl683_4
                clear hi683_4 hl683_4
                have HR683_6 := Aside0.mk hi683_6
                have HC683_6 := Aside0.mk hl683_6
                clear hi683_6 hl683_6
                have HR683_7 := Aside0.mk hi683_7
                have HC683_7 := Aside0.mk hl683_7
                clear hi683_7 hl683_7
                replace p683 := eq_true p683
                replace q683 := eq_true q683
                go_wp2_with (first | ((with_reducible refine gate_dst (N := 9) rfl ?_); refine box_event ?hg (N := 9) ?hd (cs := #[.string (⟨#[]⟩ : ByteArray), .int .i64 0, .int .i64 0, .int .i64 0, .slice none 0 0, .int .i64 0, .slice none 0 0, .slice none 0 0]) (t := 130) ?hr ?_; (case hd => rfl); (case hg => rfl); (case hr => first | (go_simp; done) | (go_simp; rfl)); intro gb684 hg w26 hbox hb; have n0_ := Aside0.mk (Kd.V_below (Kd.V_elderB (by (with_reducible repeat (first | apply Kd.V_alloc | apply Kd.V_drewN | apply Kd.V_drew)); exact HO_0.out) gb684 (Nat.le_of_eq hg.symm)) hb); have n1_ := Aside0.mk (Kd.V_below (Kd.V_elderB (by (with_reducible repeat (first | apply Kd.V_alloc | apply Kd.V_drewN | apply Kd.V_drew)); exact HL681_0.out) gb684 (Nat.le_of_eq hg.symm)) hb); have n2_ := Aside0.mk (Kd.V_below (Kd.V_elderB (by (with_reducible repeat (first | apply Kd.V_alloc | apply Kd.V_drewN | apply Kd.V_drew)); exact HL682_0.out) gb684 (Nat.le_of_eq hg.symm)) hb); have n3_ := Aside0.mk (Kd.V_below (Kd.V_elderB (by (with_reducible repeat (first | apply Kd.V_alloc | apply Kd.V_drewN | apply Kd.V_drew)); exact HL683_4.out) gb684 (Nat.le_of_eq hg.symm)) hb); have n4_ := Aside0.mk (Kd.V_below (Kd.V_elderB (by (with_reducible repeat (first | apply Kd.V_alloc | apply Kd.V_drewN | apply Kd.V_drew)); exact HL683_6.out) gb684 (Nat.le_of_eq hg.symm)) hb); have n5_ := Aside0.mk (Kd.V_below (Kd.V_elderB (by (with_reducible repeat (first | apply Kd.V_alloc | apply Kd.V_drewN | apply Kd.V_drew)); exact HL683_7.out) gb684 (Nat.le_of_eq hg.symm)) hb); have n6_ := Aside0.mk (blk_below (g := gb679) (o := .cells #[.int .i64 x680000_1, .int .i64 x680001_1] 125 (0, 0)) kz hb); have n7_ := Aside0.mk (blk_below (g := gb680) (o := .cells #[.int .i64 (-1), .int .i64 (-1)] 125 (0, 0)) kz hb); have n8_ := Aside0.mk (Kd.C_below (by repeat (first | (with_reducible exact HR681_0.out) | (with_reducible refine Kd.C_alloc ?_ _) | (with_reducible refine Kd.C_drewN ?_ _) | (with_reducible refine Kd.C_drew ?_) | exact HR681_0.out)) hb); have n9_ := Aside0.mk (Kd.C_below (by repeat (first | (with_reducible exact HR682_0.out) | (with_reducible refine Kd.C_alloc ?_ _) | (with_reducible refine Kd.C_drewN ?_ _) | (with_reducible refine Kd.C_drew ?_) | exact HR682_0.out)) hb); have n10_ := Aside0.mk (Kd.C_below (by repeat (first | (with_reducible exact HR683_4.out) | (with_reducible refine Kd.C_alloc ?_ _) | (with_reducible refine Kd.C_drewN ?_ _) | (with_reducible refine Kd.C_drew ?_) | exact HR683_4.out)) hb); have n11_ := Aside0.mk (Kd.C_below (by repeat (first | (with_reducible exact HR683_6.out) | (with_reducible refine Kd.C_alloc ?_ _) | (with_reducible refine Kd.C_drewN ?_ _) | (with_reducible refine Kd.C_drew ?_) | exact HR683_6.out)) hb); have n12_ := Aside0.mk (Kd.C_below (by repeat (first | (with_reducible exact HR683_7.out) | (with_reducible refine Kd.C_alloc ?_ _) | (with_reducible refine Kd.C_drewN ?_ _) | (with_reducible refine Kd.C_drew ?_) | exact HR683_7.out)) hb); have n13_ := Aside0.mk (below_step bz hb); have n14_ := Aside0.mk (hbox); have n15_ := Aside0.mk ((by rw [hg]; exact (below_size bz) : w.heap.size ≤ gb684)); have n16_ := Aside0.mk ((by rw [hg]; exact (below_size bz) : w.heap.size ≤ gb684)); have n17_ := Aside0.mk ((by rw [hg]; exact Nat.ne_of_lt (blk_lt (g := gb679) (o := .cells #[.int .i64 x680000_1, .int .i64 x680001_1] 125 (0, 0)) kz) : gb679 ≠ gb684)); have n18_ := Aside0.mk ((by rw [hg]; exact Nat.ne_of_gt (blk_lt (g := gb679) (o := .cells #[.int .i64 x680000_1, .int .i64 x680001_1] 125 (0, 0)) kz) : gb684 ≠ gb679)); have n19_ := Aside0.mk ((by rw [hg]; exact Nat.ne_of_lt (blk_lt (g := gb680) (o := .cells #[.int .i64 (-1), .int .i64 (-1)] 125 (0, 0)) kz) : gb680 ≠ gb684)); have n20_ := Aside0.mk ((by rw [hg]; exact Nat.ne_of_gt (blk_lt (g := gb680) (o := .cells #[.int .i64 (-1), .int .i64 (-1)] 125 (0, 0)) kz) : gb684 ≠ gb680)); clear HO_0; clear HL681_0; clear HL682_0; clear HL683_4; clear HL683_6; clear HL683_7; clear BK679; clear BK680; clear HR681_0; clear HR682_0; clear HR683_4; clear HR683_6; clear HR683_7; clear HB; have HO_0 := n0_; have HL681_0 := n1_; have HL682_0 := n2_; have HL683_4 := n3_; have HL683_6 := n4_; have HL683_7 := n5_; have BK679 := n6_; have BK680 := n7_; have HR681_0 := n8_; have HR682_0 := n9_; have HR683_4 := n10_; have HR683_6 := n11_; have HR683_7 := n12_; have HB := n13_; have BK684 := n14_; have GW684 := n15_; have GE684 := n16_; have NB679_684 := n17_; have NB684_679 := n18_; have NB680_684 := n19_; have NB684_680 := n20_; clear n0_ n1_ n2_ n3_ n4_ n5_ n6_ n7_ n8_ n9_ n10_ n11_ n12_ n13_ n14_ n15_ n16_ n17_ n18_ n19_ n20_; clear hb hbox hg; have hnb27 := NB684_679.out; have hnc27 := NB679_684.out; have hnb28 := NB684_680.out; have hnc28 := NB680_684.out; have hcz29_0 : w26.cell? ⟨gb684, 0, none⟩ = some (.string (⟨#[]⟩ : ByteArray)) := (blk_cell BK684.out 0).trans rfl; have hcz29_1 : w26.cell? ⟨gb684, 1, none⟩ = some (.int .i64 0) := (blk_cell BK684.out 1).trans rfl; have hcz29_2 : w26.cell? ⟨gb684, 2, none⟩ = some (.int .i64 0) := (blk_cell BK684.out 2).trans rfl; have hcz29_3 : w26.cell? ⟨gb684, 3, none⟩ = some (.int .i64 0) := (blk_cell BK684.out 3).trans rfl; have hcz29_4 : w26.cell? ⟨gb684, 4, none⟩ = some (.slice none 0 0) := (blk_cell BK684.out 4).trans rfl; have hcz29_5 : w26.cell? ⟨gb684, 5, none⟩ = some (.int .i64 0) := (blk_cell BK684.out 5).trans rfl; have hcz29_6 : w26.cell? ⟨gb684, 6, none⟩ = some (.slice none 0 0) := (blk_cell BK684.out 6).trans rfl; have hcz29_7 : w26.cell? ⟨gb684, 7, none⟩ = some (.slice none 0 0) := (blk_cell BK684.out 7).trans rfl; have hfz29_0 := blk_frozen BK684.out 0; have hfz29_1 := blk_frozen BK684.out 1; have hfz29_2 := blk_frozen BK684.out 2; have hfz29_3 := blk_frozen BK684.out 3; have hfz29_4 := blk_frozen BK684.out 4; have hfz29_5 := blk_frozen BK684.out 5; have hfz29_6 := blk_frozen BK684.out 6; have hfz29_7 := blk_frozen BK684.out 7))
                go_roundg k1
                case measure => have := HK1.out; omega
                case rel => exact ⟨(wrap64 (x8_1 + 1)), (x680000_1), (x680001_1), sz_, H', ⟨by have := HK1.out; omega⟩, ⟨by (with_reducible repeat (first | apply Kd.V_alloc | apply Kd.V_drewN | apply Kd.V_drew)); exact Kd.V_mono (Kd.V_far (p := ⟨gb684, 7, none⟩) (Kd.V_far (p := ⟨gb684, 6, none⟩) (Kd.V_far (p := ⟨gb684, 5, none⟩) (Kd.V_far (p := ⟨gb684, 4, none⟩) (Kd.V_far (p := ⟨gb684, 3, none⟩) (Kd.V_far (p := ⟨gb684, 2, none⟩) (Kd.V_far (p := ⟨gb684, 1, none⟩) (Kd.V_far (p := ⟨gb684, 0, none⟩) (Kd.V_mono HO_0.out (fun k_ hk => (⟨hk, hk.2⟩ : _ ∧ k_ ≠ gb684))) (fun _ hk => hk.2) (.string ((rd_T130 ((rd_T68 l0 a1).f0) x8_1).f0))) (fun _ hk => hk.2) (.int .i64 ((rd_T130 ((rd_T68 l0 a1).f0) x8_1).f1))) (fun _ hk => hk.2) (.int .i64 ((rd_T130 ((rd_T68 l0 a1).f0) x8_1).f2))) (fun _ hk => hk.2) (.int .i64 ((rd_T130 ((rd_T68 l0 a1).f0) x8_1).f3))) (fun _ hk => hk.2) (.slice A683_4 ((rd_T130 ((rd_T68 l0 a1).f0) x8_1).f4).length c683_4)) (fun _ hk => hk.2) (.int .i64 ((rd_T130 ((rd_T68 l0 a1).f0) x8_1).f5))) (fun _ hk => hk.2) (.slice A683_6 ((rd_T130 ((rd_T68 l0 a1).f0) x8_1).f6).length c683_6)) (fun _ hk => hk.2) (.slice A683_7 ((rd_T130 ((rd_T68 l0 a1).f0) x8_1).f7).length c683_7)) (fun _ hk => ⟨hk.1.1.1, ⟨hk.1.1.2.1, hk.1.1.2.2⟩⟩)⟩, ⟨by (with_reducible repeat (first | refine blk_drewN ?_ _ | refine blk_drew ?_ | refine blk_alloc ?_ _)); refine blk_far ?_ NB679_684.out _; (with_reducible repeat (first | refine blk_drewN ?_ _ | refine blk_drew ?_ | refine blk_alloc ?_ _)); refine blk_far ?_ NB679_684.out _; (with_reducible repeat (first | refine blk_drewN ?_ _ | refine blk_drew ?_ | refine blk_alloc ?_ _)); refine blk_far ?_ NB679_684.out _; (with_reducible repeat (first | refine blk_drewN ?_ _ | refine blk_drew ?_ | refine blk_alloc ?_ _)); refine blk_far ?_ NB679_684.out _; (with_reducible repeat (first | refine blk_drewN ?_ _ | refine blk_drew ?_ | refine blk_alloc ?_ _)); refine blk_far ?_ NB679_684.out _; (with_reducible repeat (first | refine blk_drewN ?_ _ | refine blk_drew ?_ | refine blk_alloc ?_ _)); refine blk_far ?_ NB679_684.out _; (with_reducible repeat (first | refine blk_drewN ?_ _ | refine blk_drew ?_ | refine blk_alloc ?_ _)); refine blk_far ?_ NB679_684.out _; (with_reducible repeat (first | refine blk_drewN ?_ _ | refine blk_drew ?_ | refine blk_alloc ?_ _)); refine blk_far ?_ NB679_684.out _; (with_reducible repeat (first | refine blk_drewN ?_ _ | refine blk_drew ?_ | refine blk_alloc ?_ _)); exact BK679.out⟩, ⟨by (with_reducible repeat (first | refine blk_drewN ?_ _ | refine blk_drew ?_ | refine blk_alloc ?_ _)); refine blk_far ?_ NB680_684.out _; (with_reducible repeat (first | refine blk_drewN ?_ _ | refine blk_drew ?_ | refine blk_alloc ?_ _)); refine blk_far ?_ NB680_684.out _; (with_reducible repeat (first | refine blk_drewN ?_ _ | refine blk_drew ?_ | refine blk_alloc ?_ _)); refine blk_far ?_ NB680_684.out _; (with_reducible repeat (first | refine blk_drewN ?_ _ | refine blk_drew ?_ | refine blk_alloc ?_ _)); refine blk_far ?_ NB680_684.out _; (with_reducible repeat (first | refine blk_drewN ?_ _ | refine blk_drew ?_ | refine blk_alloc ?_ _)); refine blk_far ?_ NB680_684.out _; (with_reducible repeat (first | refine blk_drewN ?_ _ | refine blk_drew ?_ | refine blk_alloc ?_ _)); refine blk_far ?_ NB680_684.out _; (with_reducible repeat (first | refine blk_drewN ?_ _ | refine blk_drew ?_ | refine blk_alloc ?_ _)); refine blk_far ?_ NB680_684.out _; (with_reducible repeat (first | refine blk_drewN ?_ _ | refine blk_drew ?_ | refine blk_alloc ?_ _)); refine blk_far ?_ NB680_684.out _; (with_reducible repeat (first | refine blk_drewN ?_ _ | refine blk_drew ?_ | refine blk_alloc ?_ _)); exact BK680.out⟩, ⟨ bz⟩⟩
            · rw [if_neg c13] at H
              exact absurd H (by simp)
          · rw [if_neg c12] at H
            have c12b0 : decide (x8_1 < (((rd_T68 l0 a1).f0).length : Int)) = false := decide_eq_false c12
            clear c12
            have H' := Aside0.mk H
            clear H
            have p681 : 0 ≤ (a1 : Int) := of_decide_eq_true az
            have q681 : a1 < (l0.length : Int) := of_decide_eq_true az
            obtain ⟨ad681, A681_0, c681_0, e681, hx681_0, hl681_0, hi681_0⟩ := at_T68 (Kd.V_reads' HO_0.out).2.2 a1 p681 q681
            cases e681
            obtain ⟨ce681, hce681, hMe681, hcc681⟩ := Kd.V_get HO_0.out z68 a1 p681 (by first | exact q681 | exact of_decide_eq_true az | (have e_ := (Kd.V_reads' HO_0.out).1; omega))
            obtain ⟨ua681_0, uc681_0, rfl, ul681_0, ge681_0⟩ := k68_openF hMe681
            have hv681_0 := hcc681 0 _ rfl
            rw [Nat.add_zero, show (k68).sz = 1 from rfl, Nat.mul_one] at hv681_0
            replace hv681_0 := Option.some.inj (hv681_0.symm.trans hx681_0)
            injection hv681_0 with hva_ hvn_ hvc_
            rw [hva_] at ge681_0
            rw [hvc_] at ul681_0
            have HL681_0 := Aside0.mk (show Kd.V k130 130 _ w.heap.size _ _ ((rd_T68 l0 a1).f0) from Kd.V_mk ul681_0 ge681_0)
            clear hva_ hvn_ hvc_ ge681_0 ul681_0
            clear hcc681 hce681
            have HR681_0 := Aside0.mk hi681_0
            have HC681_0 := Aside0.mk hl681_0
            clear hi681_0 hl681_0
            replace p681 := eq_true p681
            replace q681 := eq_true q681
            go_wp2
            go_meet
            case rel => exact ⟨_, (x680000_1), (x680001_1), H', ⟨by have := HK1.out; first | omega | exact Nat.le_refl _⟩, ⟨by (with_reducible repeat (first | apply Kd.V_alloc | apply Kd.V_drewN | apply Kd.V_drew)); exact HO_0.out⟩, ⟨ kz⟩, ⟨ kz⟩, ⟨ bz⟩⟩
        · rw [if_neg c11] at H
          exact absurd H (by simp)
      · rw [if_neg c10] at H
        exact absurd H (by simp)
  · rw [if_neg c9] at H
    have c9b0 : decide (0 ≤ a1) = false := decide_eq_false c9
    clear c9
    (first | rw [c9b0] | (simp only [i64_w, i32_w]; rw [c9b0]) | skip)
    have H' := Aside0.mk H
    clear H
    go_wp2
    go_meet
    case rel => exact ⟨_, (0), (0), H', ⟨by first | omega | exact Nat.le_refl _⟩, ⟨by (with_reducible repeat (first | apply Kd.V_alloc | apply Kd.V_drewN | apply Kd.V_drew)); exact Kd.V_mono (Kd.V_far (p := ⟨gb680, 1, none⟩) (Kd.V_far (p := ⟨gb680, 0, none⟩) (Kd.V_mono HO0.out (fun k_ hk => (⟨hk, hk.2⟩ : _ ∧ k_ ≠ gb680))) (fun _ hk => hk.2) (.int .i64 (-1))) (fun _ hk => hk.2) (.int .i64 (-1))) (fun _ hk => ⟨hk.1.1.1, ⟨hk.1.1.2, hk.1.2⟩⟩)⟩, ⟨by (with_reducible repeat (first | refine blk_drewN ?_ _ | refine blk_drew ?_ | refine blk_alloc ?_ _)); refine blk_far ?_ NB679_680.out _; (with_reducible repeat (first | refine blk_drewN ?_ _ | refine blk_drew ?_ | refine blk_alloc ?_ _)); refine blk_far ?_ NB679_680.out _; (with_reducible repeat (first | refine blk_drewN ?_ _ | refine blk_drew ?_ | refine blk_alloc ?_ _)); exact BK679.out⟩, ⟨by (with_reducible repeat (first | refine blk_drewN ?_ _ | refine blk_drew ?_ | refine blk_alloc ?_ _)); refine blk_put (cs := #[.int .i64 (-1), .int .i64 0]) ?_ 1 _ rfl; (with_reducible repeat (first | refine blk_drewN ?_ _ | refine blk_drew ?_ | refine blk_alloc ?_ _)); refine blk_put (cs := #[.int .i64 0, .int .i64 0]) ?_ 0 _ rfl; (with_reducible repeat (first | refine blk_drewN ?_ _ | refine blk_drew ?_ | refine blk_alloc ?_ _)); exact BK680.out⟩, ⟨ bz⟩⟩
 case rest =>
  clear HC4
  try clear c1
  try clear c2
  try clear p2
  try clear c6
  try clear p6
  try clear q6
  try clear hx6
  try clear c7
  try clear c8
  try clear c9
  try clear c9b0
  try clear c10
  try clear c10b0
  try clear c11
  try clear c11b0
  try clear c12
  try clear c12b0
  try clear c13
  try clear c13b0
  try clear c14
  try clear c14b0
  try clear c14b1
  try clear c15
  try clear c15b0
  try clear c15b1
  try clear c17
  try clear c18
  try clear c20
  try clear c23
  try clear c24
  try clear c27
  try clear c28
  try clear hcz19_0
  try clear hcz19_1
  try clear hcz19_2
  try clear hcz19_3
  try clear hcz19_4
  try clear hcz19_5
  try clear hcz19_6
  try clear hcz19_7
  try clear hcz21_0
  try clear hcz21_1
  try clear hcz25_0
  try clear hcz25_1
  try clear hcz25_2
  try clear hcz25_3
  try clear hcz25_4
  try clear hcz25_5
  try clear hcz25_6
  try clear hcz25_7
  try clear hcz29_0
  try clear hcz29_1
  try clear hcz29_2
  try clear hcz29_3
  try clear hcz29_4
  try clear hcz29_5
  try clear hcz29_6
  try clear hcz29_7
  try clear hcz8_0
  try clear hcz8_1
  try clear hfz19_0
  try clear hfz19_1
  try clear hfz19_2
  try clear hfz19_3
  try clear hfz19_4
  try clear hfz19_5
  try clear hfz19_6
  try clear hfz19_7
  try clear hfz21_0
  try clear hfz21_1
  try clear hfz25_0
  try clear hfz25_1
  try clear hfz25_2
  try clear hfz25_3
  try clear hfz25_4
  try clear hfz25_5
  try clear hfz25_6
  try clear hfz25_7
  try clear hfz29_0
  try clear hfz29_1
  try clear hfz29_2
  try clear hfz29_3
  try clear hfz29_4
  try clear hfz29_5
  try clear hfz29_6
  try clear hfz29_7
  try clear hfz8_0
  try clear hfz8_1
  try clear hx681_0
  try clear hx682_0
  try clear hx683_0
  try clear hx683_1
  try clear hx683_2
  try clear hx683_3
  try clear hx683_4
  try clear hx683_5
  try clear hx683_6
  try clear hx683_7
  try clear p2
  try clear p681
  try clear p682
  try clear p683
  try clear q681
  try clear q682
  try clear q683
  obtain ⟨kq, x680000_3, x680001_3, HA, HJ3, HO_0, BK679, BK680, HB⟩ := hcut
  cases kq with
  | zero => exact absurd HA.out (by simp [spec_l20Of.j1])
  | succ kj3 =>
   have H := HA.out
   clear HA
   simp only [spec_l20Of.j1] at H
   have H' := Aside0.mk H
   clear H
   go_wp2
   go_loopg [10] kj3 (fun kq v10 w' => ∃ (x10_2 : Int) (x680000_2 : Int) (x680001_2 : Int), v10 = .int .i64 x10_2 ∧ Aside0 (spec_l20Of.l1 kq l0 a2 x10_2 (-1) (-1) = some (r1, r2)) ∧ Aside0 (kq ≤ kj3) ∧ Aside0 (Kd.V k68 68 w' w.heap.size (fun k_ => (P0_ k_ ∨ w.heap.size ≤ k_) ∧ k_ ≠ gb679 ∧ k_ ≠ gb680) (.slice A0 l0.length c0) l0) ∧ Aside0 (w'.heap[gb679]? = some (.cells #[.int .i64 x680000_2, .int .i64 x680001_2] 125 (0, 0))) ∧ Aside0 (w'.heap[gb680]? = some (.cells #[.int .i64 (-1), .int .i64 (-1)] 125 (0, 0))) ∧ Aside0 (Below w.heap.size w w'))
   case atStart => exact ⟨(1), (x680000_3), (x680001_3), sz_, H', ⟨Nat.le_refl _⟩, ⟨by (with_reducible repeat (first | apply Kd.V_alloc | apply Kd.V_drewN | apply Kd.V_drew)); exact HO_0.out⟩, ⟨ kz⟩, ⟨ kz⟩, ⟨ bz⟩⟩
   case round =>
    clear H'
    try clear c1
    try clear c2
    try clear p2
    try clear c6
    try clear p6
    try clear q6
    try clear hx6
    try clear c7
    try clear c8
    try clear c9
    try clear c9b0
    try clear c10
    try clear c10b0
    try clear c11
    try clear c11b0
    try clear c12
    try clear c12b0
    try clear c13
    try clear c13b0
    try clear c14
    try clear c14b0
    try clear c14b1
    try clear c15
    try clear c15b0
    try clear c15b1
    try clear c17
    try clear c18
    try clear c20
    try clear c23
    try clear c24
    try clear c27
    try clear c28
    try clear hcz19_0
    try clear hcz19_1
    try clear hcz19_2
    try clear hcz19_3
    try clear hcz19_4
    try clear hcz19_5
    try clear hcz19_6
    try clear hcz19_7
    try clear hcz21_0
    try clear hcz21_1
    try clear hcz25_0
    try clear hcz25_1
    try clear hcz25_2
    try clear hcz25_3
    try clear hcz25_4
    try clear hcz25_5
    try clear hcz25_6
    try clear hcz25_7
    try clear hcz29_0
    try clear hcz29_1
    try clear hcz29_2
    try clear hcz29_3
    try clear hcz29_4
    try clear hcz29_5
    try clear hcz29_6
    try clear hcz29_7
    try clear hcz8_0
    try clear hcz8_1
    try clear hfz19_0
    try clear hfz19_1
    try clear hfz19_2
    try clear hfz19_3
    try clear hfz19_4
    try clear hfz19_5
    try clear hfz19_6
    try clear hfz19_7
    try clear hfz21_0
    try clear hfz21_1
    try clear hfz25_0
    try clear hfz25_1
    try clear hfz25_2
    try clear hfz25_3
    try clear hfz25_4
    try clear hfz25_5
    try clear hfz25_6
    try clear hfz25_7
    try clear hfz29_0
    try clear hfz29_1
    try clear hfz29_2
    try clear hfz29_3
    try clear hfz29_4
    try clear hfz29_5
    try clear hfz29_6
    try clear hfz29_7
    try clear hfz8_0
    try clear hfz8_1
    try clear hx681_0
    try clear hx682_0
    try clear hx683_0
    try clear hx683_1
    try clear hx683_2
    try clear hx683_3
    try clear hx683_4
    try clear hx683_5
    try clear hx683_6
    try clear hx683_7
    try clear p2
    try clear p6
    try clear p681
    try clear p682
    try clear p683
    try clear q6
    try clear q681
    try clear q682
    try clear q683
    obtain ⟨x10_2, x680000_2, x680001_2, rfl, HA, HK2, HO_0, BK679, BK680, HB⟩ := hrel
    cases gk with
    | zero => exact absurd HA.out (by simp [spec_l20Of.l1])
    | succ k2 =>
     have H := HA.out
     clear HA
     simp only [spec_l20Of.l1] at H
     by_cases c30 : x10_2 ≤ 2
     · rw [if_pos c30] at H
       have c30b0 : decide (x10_2 ≤ 2) = true := decide_eq_true c30
       clear c30
       have H' := Aside0.mk H
       clear H
       go_wp2
       go_loopg [11] k2 (fun kq v11 w' => ∃ (x11_3 : Int) (x680000_3 : Int) (x680001_3 : Int), v11 = .int .i64 x11_3 ∧ Aside0 (spec_l20Of.l2 kq l0 a2 x10_2 x11_3 (-1) (-1) = some (r1, r2)) ∧ Aside0 (kq ≤ k2) ∧ Aside0 (Kd.V k68 68 w' w.heap.size (fun k_ => (P0_ k_ ∨ w.heap.size ≤ k_) ∧ k_ ≠ gb679 ∧ k_ ≠ gb680) (.slice A0 l0.length c0) l0) ∧ Aside0 (w'.heap[gb679]? = some (.cells #[.int .i64 x680000_3, .int .i64 x680001_3] 125 (0, 0))) ∧ Aside0 (w'.heap[gb680]? = some (.cells #[.int .i64 (-1), .int .i64 (-1)] 125 (0, 0))) ∧ Aside0 (Below w.heap.size w w'))
       case atStart => exact ⟨(0), (x680000_2), (x680001_2), sz_, H', ⟨Nat.le_refl _⟩, ⟨by (with_reducible repeat (first | apply Kd.V_alloc | apply Kd.V_drewN | apply Kd.V_drew)); exact HO_0.out⟩, ⟨ kz⟩, ⟨ kz⟩, ⟨ bz⟩⟩
       case round =>
        clear H'
        try clear c1
        try clear c2
        try clear p2
        try clear c3
        try clear c6
        try clear p6
        try clear q6
        try clear hx6
        try clear c7
        try clear c8
        try clear c9
        try clear c9b0
        try clear c10
        try clear c10b0
        try clear c11
        try clear c11b0
        try clear c12
        try clear c12b0
        try clear c13
        try clear c13b0
        try clear c14
        try clear c14b0
        try clear c14b1
        try clear c15
        try clear c15b0
        try clear c15b1
        try clear c17
        try clear c18
        try clear c20
        try clear c23
        try clear c24
        try clear c27
        try clear c28
        try clear c30
        try clear c30b0
        try clear hcz19_0
        try clear hcz19_1
        try clear hcz19_2
        try clear hcz19_3
        try clear hcz19_4
        try clear hcz19_5
        try clear hcz19_6
        try clear hcz19_7
        try clear hcz21_0
        try clear hcz21_1
        try clear hcz25_0
        try clear hcz25_1
        try clear hcz25_2
        try clear hcz25_3
        try clear hcz25_4
        try clear hcz25_5
        try clear hcz25_6
        try clear hcz25_7
        try clear hcz29_0
        try clear hcz29_1
        try clear hcz29_2
        try clear hcz29_3
        try clear hcz29_4
        try clear hcz29_5
        try clear hcz29_6
        try clear hcz29_7
        try clear hcz8_0
        try clear hcz8_1
        try clear hfz19_0
        try clear hfz19_1
        try clear hfz19_2
        try clear hfz19_3
        try clear hfz19_4
        try clear hfz19_5
        try clear hfz19_6
        try clear hfz19_7
        try clear hfz21_0
        try clear hfz21_1
        try clear hfz25_0
        try clear hfz25_1
        try clear hfz25_2
        try clear hfz25_3
        try clear hfz25_4
        try clear hfz25_5
        try clear hfz25_6
        try clear hfz25_7
        try clear hfz29_0
        try clear hfz29_1
        try clear hfz29_2
        try clear hfz29_3
        try clear hfz29_4
        try clear hfz29_5
        try clear hfz29_6
        try clear hfz29_7
        try clear hfz8_0
        try clear hfz8_1
        try clear hx681_0
        try clear hx682_0
        try clear hx683_0
        try clear hx683_1
        try clear hx683_2
        try clear hx683_3
        try clear hx683_4
        try clear hx683_5
        try clear hx683_6
        try clear hx683_7
        try clear p2
        try clear p6
        try clear p681
        try clear p682
        try clear p683
        try clear q6
        try clear q681
        try clear q682
        try clear q683
        obtain ⟨x11_3, x680000_3, x680001_3, rfl, HA, HK3, HO_0, BK679, BK680, HB⟩ := hrel
        cases gk with
        | zero => exact absurd HA.out (by simp [spec_l20Of.l2])
        | succ k3 =>
         have H := HA.out
         clear HA
         simp only [spec_l20Of.l2] at H
         by_cases c31 : x11_3 < (l0.length : Int)
         · rw [if_pos c31] at H
           have c31b0 : decide (x11_3 < (l0.length : Int)) = true := decide_eq_true c31
           clear c31
           have H' := Aside0.mk H
           clear H
           go_wp2
           go_loopg [12] k3 (fun kq v12 w' => ∃ (x12_4 : Int) (x680000_4 : Int) (x680001_4 : Int), v12 = .int .i64 x12_4 ∧ Aside0 (spec_l20Of.l3 kq l0 a2 x10_2 x11_3 x12_4 (-1) (-1) = some (r1, r2)) ∧ Aside0 (kq ≤ k3) ∧ Aside0 (Kd.V k68 68 w' w.heap.size (fun k_ => (P0_ k_ ∨ w.heap.size ≤ k_) ∧ k_ ≠ gb679 ∧ k_ ≠ gb680) (.slice A0 l0.length c0) l0) ∧ Aside0 (w'.heap[gb679]? = some (.cells #[.int .i64 x680000_4, .int .i64 x680001_4] 125 (0, 0))) ∧ Aside0 (w'.heap[gb680]? = some (.cells #[.int .i64 (-1), .int .i64 (-1)] 125 (0, 0))) ∧ Aside0 (Below w.heap.size w w'))
           case atStart => exact ⟨(0), (x680000_3), (x680001_3), sz_, H', ⟨Nat.le_refl _⟩, ⟨by (with_reducible repeat (first | apply Kd.V_alloc | apply Kd.V_drewN | apply Kd.V_drew)); exact HO_0.out⟩, ⟨ kz⟩, ⟨ kz⟩, ⟨ bz⟩⟩
           case round =>
            clear H'
            try clear c1
            try clear c2
            try clear p2
            try clear c3
            try clear c6
            try clear p6
            try clear q6
            try clear hx6
            try clear c7
            try clear c8
            try clear c9
            try clear c9b0
            try clear c10
            try clear c10b0
            try clear c11
            try clear c11b0
            try clear c12
            try clear c12b0
            try clear c13
            try clear c13b0
            try clear c14
            try clear c14b0
            try clear c14b1
            try clear c15
            try clear c15b0
            try clear c15b1
            try clear c17
            try clear c18
            try clear c20
            try clear c23
            try clear c24
            try clear c27
            try clear c28
            try clear c30
            try clear c30b0
            try clear c31
            try clear c31b0
            try clear hcz19_0
            try clear hcz19_1
            try clear hcz19_2
            try clear hcz19_3
            try clear hcz19_4
            try clear hcz19_5
            try clear hcz19_6
            try clear hcz19_7
            try clear hcz21_0
            try clear hcz21_1
            try clear hcz25_0
            try clear hcz25_1
            try clear hcz25_2
            try clear hcz25_3
            try clear hcz25_4
            try clear hcz25_5
            try clear hcz25_6
            try clear hcz25_7
            try clear hcz29_0
            try clear hcz29_1
            try clear hcz29_2
            try clear hcz29_3
            try clear hcz29_4
            try clear hcz29_5
            try clear hcz29_6
            try clear hcz29_7
            try clear hcz8_0
            try clear hcz8_1
            try clear hfz19_0
            try clear hfz19_1
            try clear hfz19_2
            try clear hfz19_3
            try clear hfz19_4
            try clear hfz19_5
            try clear hfz19_6
            try clear hfz19_7
            try clear hfz21_0
            try clear hfz21_1
            try clear hfz25_0
            try clear hfz25_1
            try clear hfz25_2
            try clear hfz25_3
            try clear hfz25_4
            try clear hfz25_5
            try clear hfz25_6
            try clear hfz25_7
            try clear hfz29_0
            try clear hfz29_1
            try clear hfz29_2
            try clear hfz29_3
            try clear hfz29_4
            try clear hfz29_5
            try clear hfz29_6
            try clear hfz29_7
            try clear hfz8_0
            try clear hfz8_1
            try clear hx681_0
            try clear hx682_0
            try clear hx683_0
            try clear hx683_1
            try clear hx683_2
            try clear hx683_3
            try clear hx683_4
            try clear hx683_5
            try clear hx683_6
            try clear hx683_7
            try clear p2
            try clear p6
            try clear p681
            try clear p682
            try clear p683
            try clear q6
            try clear q681
            try clear q682
            try clear q683
            obtain ⟨x12_4, x680000_4, x680001_4, rfl, HA, HK4, HO_0, BK679, BK680, HB⟩ := hrel
            cases gk with
            | zero => exact absurd HA.out (by simp [spec_l20Of.l3])
            | succ k4 =>
             have H := HA.out
             clear HA
             simp only [spec_l20Of.l3] at H
             by_cases c32 : 0 ≤ x11_3
             · rw [if_pos c32] at H
               have c32b0 : decide (0 ≤ x11_3) = true := decide_eq_true c32
               clear c32
               by_cases c33 : x11_3 < (l0.length : Int)
               · rw [if_pos c33] at H
                 have c33b0 : decide (x11_3 < (l0.length : Int)) = true := decide_eq_true c33
                 clear c33
                 by_cases c34 : x12_4 < (((rd_T68 l0 x11_3).f0).length : Int)
                 · rw [if_pos c34] at H
                   have c34b0 : decide (x12_4 < (((rd_T68 l0 x11_3).f0).length : Int)) = true := decide_eq_true c34
                   clear c34
                   by_cases c35 : 0 ≤ x12_4
                   · rw [if_pos c35] at H
                     have c35b0 : decide (0 ≤ x12_4) = true := decide_eq_true c35
                     clear c35
                     by_cases c36 : ((rd_T130 ((rd_T68 l0 x11_3).f0) x12_4).f0).toList = a2.toList
                     · rw [if_pos c36] at H
                       have c36b0 : (((rd_T130 ((rd_T68 l0 x11_3).f0) x12_4).f0).toList == a2.toList) = true := beq_iff_eq.mpr c36
                       have c36b1 : (((rd_T130 ((rd_T68 l0 x11_3).f0) x12_4).f0).toList != a2.toList) = false := bne_eq_false_iff_eq.mpr c36
                       clear c36
                       by_cases c37 : ((rd_T130 ((rd_T68 l0 x11_3).f0) x12_4).f2) = x10_2
                       · rw [if_pos c37] at H
                         have c37b0 : (((rd_T130 ((rd_T68 l0 x11_3).f0) x12_4).f2) == x10_2) = true := beq_iff_eq.mpr c37
                         have c37b1 : (((rd_T130 ((rd_T68 l0 x11_3).f0) x12_4).f2) != x10_2) = false := bne_eq_false_iff_eq.mpr c37
                         clear c37
                         simp only [Option.some.injEq, Prod.mk.injEq] at H
                         obtain ⟨rfl, rfl⟩ := H
                         have p685 : 0 ≤ (x11_3 : Int) := of_decide_eq_true az
                         have q685 : x11_3 < (l0.length : Int) := of_decide_eq_true az
                         obtain ⟨ad685, A685_0, c685_0, e685, hx685_0, hl685_0, hi685_0⟩ := at_T68 (Kd.V_reads' HO_0.out).2.2 x11_3 p685 q685
                         cases e685
                         obtain ⟨ce685, hce685, hMe685, hcc685⟩ := Kd.V_get HO_0.out z68 x11_3 p685 (by first | exact q685 | exact of_decide_eq_true az | (have e_ := (Kd.V_reads' HO_0.out).1; omega))
                         obtain ⟨ua685_0, uc685_0, rfl, ul685_0, ge685_0⟩ := k68_openF hMe685
                         have hv685_0 := hcc685 0 _ rfl
                         rw [Nat.add_zero, show (k68).sz = 1 from rfl, Nat.mul_one] at hv685_0
                         replace hv685_0 := Option.some.inj (hv685_0.symm.trans hx685_0)
                         injection hv685_0 with hva_ hvn_ hvc_
                         rw [hva_] at ge685_0
                         rw [hvc_] at ul685_0
                         have HL685_0 := Aside0.mk (show Kd.V k130 130 _ w.heap.size _ _ ((rd_T68 l0 x11_3).f0) from Kd.V_mk ul685_0 ge685_0)
                         clear hva_ hvn_ hvc_ ge685_0 ul685_0
                         clear hcc685 hce685
                         have HR685_0 := Aside0.mk hi685_0
                         have HC685_0 := Aside0.mk hl685_0
                         clear hi685_0 hl685_0
                         replace p685 := eq_true p685
                         replace q685 := eq_true q685
                         have p686 : 0 ≤ (x11_3 : Int) := of_decide_eq_true az
                         have q686 : x11_3 < (l0.length : Int) := of_decide_eq_true az
                         obtain ⟨ad686, A686_0, c686_0, e686, hx686_0, hl686_0, hi686_0⟩ := at_T68 (Kd.V_reads' HO_0.out).2.2 x11_3 p686 q686
                         obtain rfl : ad685 = ad686 := (by injection e686)
                         obtain ⟨ce686, hce686, hMe686, hcc686⟩ := Kd.V_get HO_0.out z68 x11_3 p686 (by first | exact q686 | exact of_decide_eq_true az | (have e_ := (Kd.V_reads' HO_0.out).1; omega))
                         obtain ⟨ua686_0, uc686_0, rfl, ul686_0, ge686_0⟩ := k68_openF hMe686
                         have hv686_0 := hcc686 0 _ rfl
                         rw [Nat.add_zero, show (k68).sz = 1 from rfl, Nat.mul_one] at hv686_0
                         replace hv686_0 := Option.some.inj (hv686_0.symm.trans hx686_0)
                         injection hv686_0 with hva_ hvn_ hvc_
                         rw [hva_] at ge686_0
                         rw [hvc_] at ul686_0
                         have HL686_0 := Aside0.mk (show Kd.V k130 130 _ w.heap.size _ _ ((rd_T68 l0 x11_3).f0) from Kd.V_mk ul686_0 ge686_0)
                         clear hva_ hvn_ hvc_ ge686_0 ul686_0
                         clear hcc686 hce686
                         have HR686_0 := Aside0.mk hi686_0
                         have HC686_0 := Aside0.mk hl686_0
                         clear hi686_0 hl686_0
                         replace p686 := eq_true p686
                         replace q686 := eq_true q686
                         have ea_ := Option.some.inj (hx685_0.symm.trans hx686_0)
                         injection ea_ with ea_ en_ ec_
                         subst ea_
                         subst ec_
                         clear en_
                         have p687 : 0 ≤ (x12_4 : Int) := of_decide_eq_true az
                         have q687 : x12_4 < (((rd_T68 l0 x11_3).f0).length : Int) := of_decide_eq_true az
                         obtain ⟨ad687, A687_4, c687_4, A687_6, c687_6, A687_7, c687_7, e687, hx687_0, hx687_1, hx687_2, hx687_3, hx687_4, hx687_5, hx687_6, hx687_7, hl687_4, hi687_4, hl687_6, hi687_6, hl687_7, hi687_7⟩ := at_T130 (by repeat (first | (with_reducible exact HR686_0.out) | (with_reducible refine Kd.C_alloc ?_ _) | (with_reducible refine Kd.C_drewN ?_ _) | (with_reducible refine Kd.C_drew ?_) | exact HR686_0.out)) x12_4 p687 q687
                         cases e687
                         obtain ⟨ce687, hce687, hMe687, hcc687⟩ := Kd.V_get HL686_0.out z130 x12_4 p687 (by first | exact q687 | exact of_decide_eq_true az | (have e_ := (Kd.V_reads' HL686_0.out).1; omega))
                         obtain ⟨ua687_4, uc687_4, ua687_6, uc687_6, ua687_7, uc687_7, rfl, ul687_4, ge687_4, ul687_6, ge687_6, ul687_7, ge687_7⟩ := k130_openF hMe687
                         have hv687_4 := hcc687 4 _ rfl
                         rw [add_field _ _ 4 (by omega)] at hv687_4
                         replace hv687_4 := Option.some.inj (hv687_4.symm.trans hx687_4)
                         injection hv687_4 with hva_ hvn_ hvc_
                         rw [hva_] at ge687_4
                         rw [hvc_] at ul687_4
                         have HL687_4 := Aside0.mk (show Kd.V (Kd.int .i64) 2 _ w.heap.size _ _ ((rd_T130 ((rd_T68 l0 x11_3).f0) x12_4).f4) from Kd.V_mk ul687_4 ge687_4)
                         clear hva_ hvn_ hvc_ ge687_4 ul687_4
                         have hv687_6 := hcc687 6 _ rfl
                         rw [add_field _ _ 6 (by omega)] at hv687_6
                         replace hv687_6 := Option.some.inj (hv687_6.symm.trans hx687_6)
                         injection hv687_6 with hva_ hvn_ hvc_
                         rw [hva_] at ge687_6
                         rw [hvc_] at ul687_6
                         have HL687_6 := Aside0.mk (show Kd.V (Kd.int .u8) 5 _ w.heap.size _ _ ((rd_T130 ((rd_T68 l0 x11_3).f0) x12_4).f6) from Kd.V_mk ul687_6 ge687_6)
                         clear hva_ hvn_ hvc_ ge687_6 ul687_6
                         have hv687_7 := hcc687 7 _ rfl
                         rw [add_field _ _ 7 (by omega)] at hv687_7
                         replace hv687_7 := Option.some.inj (hv687_7.symm.trans hx687_7)
                         injection hv687_7 with hva_ hvn_ hvc_
                         rw [hva_] at ge687_7
                         rw [hvc_] at ul687_7
                         have HL687_7 := Aside0.mk (show Kd.V k132 132 _ w.heap.size _ _ ((rd_T130 ((rd_T68 l0 x11_3).f0) x12_4).f7) from Kd.V_mk ul687_7 ge687_7)
                         clear hva_ hvn_ hvc_ ge687_7 ul687_7
                         clear hcc687 hce687
                         have HR687_4 := Aside0.mk hi687_4
                         have HC687_4 := Aside0.mk hl687_4
                         clear hi687_4 hl687_4
                         have HR687_6 := Aside0.mk hi687_6
                         have HC687_6 := Aside0.mk hl687_6
                         clear hi687_6 hl687_6
                         have HR687_7 := Aside0.mk hi687_7
                         have HC687_7 := Aside0.mk hl687_7
                         clear hi687_7 hl687_7
                         replace p687 := eq_true p687
                         replace q687 := eq_true q687
                         go_wp2_with (first | ((with_reducible refine gate_dst (N := 13) rfl ?_); refine box_event ?hg (N := 13) ?hd (cs := #[.string (⟨#[]⟩ : ByteArray), .int .i64 0, .int .i64 0, .int .i64 0, .slice none 0 0, .int .i64 0, .slice none 0 0, .slice none 0 0]) (t := 130) ?hr ?_; (case hd => rfl); (case hg => rfl); (case hr => first | (go_simp; done) | (go_simp; rfl)); intro gb688 hg w38 hbox hb; have n0_ := Aside0.mk (Kd.V_below (Kd.V_elderB (by (with_reducible repeat (first | apply Kd.V_alloc | apply Kd.V_drewN | apply Kd.V_drew)); exact HO_0.out) gb688 (Nat.le_of_eq hg.symm)) hb); have n1_ := Aside0.mk (Kd.V_below (Kd.V_elderB (by (with_reducible repeat (first | apply Kd.V_alloc | apply Kd.V_drewN | apply Kd.V_drew)); exact HL685_0.out) gb688 (Nat.le_of_eq hg.symm)) hb); have n2_ := Aside0.mk (Kd.V_below (Kd.V_elderB (by (with_reducible repeat (first | apply Kd.V_alloc | apply Kd.V_drewN | apply Kd.V_drew)); exact HL686_0.out) gb688 (Nat.le_of_eq hg.symm)) hb); have n3_ := Aside0.mk (Kd.V_below (Kd.V_elderB (by (with_reducible repeat (first | apply Kd.V_alloc | apply Kd.V_drewN | apply Kd.V_drew)); exact HL687_4.out) gb688 (Nat.le_of_eq hg.symm)) hb); have n4_ := Aside0.mk (Kd.V_below (Kd.V_elderB (by (with_reducible repeat (first | apply Kd.V_alloc | apply Kd.V_drewN | apply Kd.V_drew)); exact HL687_6.out) gb688 (Nat.le_of_eq hg.symm)) hb); have n5_ := Aside0.mk (Kd.V_below (Kd.V_elderB (by (with_reducible repeat (first | apply Kd.V_alloc | apply Kd.V_drewN | apply Kd.V_drew)); exact HL687_7.out) gb688 (Nat.le_of_eq hg.symm)) hb); have n6_ := Aside0.mk (blk_below (g := gb679) (o := .cells #[.int .i64 x680000_4, .int .i64 x680001_4] 125 (0, 0)) kz hb); have n7_ := Aside0.mk (blk_below (g := gb680) (o := .cells #[.int .i64 (-1), .int .i64 (-1)] 125 (0, 0)) kz hb); have n8_ := Aside0.mk (Kd.C_below (by repeat (first | (with_reducible exact HR685_0.out) | (with_reducible refine Kd.C_alloc ?_ _) | (with_reducible refine Kd.C_drewN ?_ _) | (with_reducible refine Kd.C_drew ?_) | exact HR685_0.out)) hb); have n9_ := Aside0.mk (Kd.C_below (by repeat (first | (with_reducible exact HR686_0.out) | (with_reducible refine Kd.C_alloc ?_ _) | (with_reducible refine Kd.C_drewN ?_ _) | (with_reducible refine Kd.C_drew ?_) | exact HR686_0.out)) hb); have n10_ := Aside0.mk (Kd.C_below (by repeat (first | (with_reducible exact HR687_4.out) | (with_reducible refine Kd.C_alloc ?_ _) | (with_reducible refine Kd.C_drewN ?_ _) | (with_reducible refine Kd.C_drew ?_) | exact HR687_4.out)) hb); have n11_ := Aside0.mk (Kd.C_below (by repeat (first | (with_reducible exact HR687_6.out) | (with_reducible refine Kd.C_alloc ?_ _) | (with_reducible refine Kd.C_drewN ?_ _) | (with_reducible refine Kd.C_drew ?_) | exact HR687_6.out)) hb); have n12_ := Aside0.mk (Kd.C_below (by repeat (first | (with_reducible exact HR687_7.out) | (with_reducible refine Kd.C_alloc ?_ _) | (with_reducible refine Kd.C_drewN ?_ _) | (with_reducible refine Kd.C_drew ?_) | exact HR687_7.out)) hb); have n13_ := Aside0.mk (below_step bz hb); have n14_ := Aside0.mk (hbox); have n15_ := Aside0.mk ((by rw [hg]; exact (below_size bz) : w.heap.size ≤ gb688)); have n16_ := Aside0.mk ((by rw [hg]; exact (below_size bz) : w.heap.size ≤ gb688)); have n17_ := Aside0.mk ((by rw [hg]; exact Nat.ne_of_lt (blk_lt (g := gb679) (o := .cells #[.int .i64 x680000_4, .int .i64 x680001_4] 125 (0, 0)) kz) : gb679 ≠ gb688)); have n18_ := Aside0.mk ((by rw [hg]; exact Nat.ne_of_gt (blk_lt (g := gb679) (o := .cells #[.int .i64 x680000_4, .int .i64 x680001_4] 125 (0, 0)) kz) : gb688 ≠ gb679)); have n19_ := Aside0.mk ((by rw [hg]; exact Nat.ne_of_lt (blk_lt (g := gb680) (o := .cells #[.int .i64 (-1), .int .i64 (-1)] 125 (0, 0)) kz) : gb680 ≠ gb688)); have n20_ := Aside0.mk ((by rw [hg]; exact Nat.ne_of_gt (blk_lt (g := gb680) (o := .cells #[.int .i64 (-1), .int .i64 (-1)] 125 (0, 0)) kz) : gb688 ≠ gb680)); clear HO_0; clear HL685_0; clear HL686_0; clear HL687_4; clear HL687_6; clear HL687_7; clear BK679; clear BK680; clear HR685_0; clear HR686_0; clear HR687_4; clear HR687_6; clear HR687_7; clear HB; have HO_0 := n0_; have HL685_0 := n1_; have HL686_0 := n2_; have HL687_4 := n3_; have HL687_6 := n4_; have HL687_7 := n5_; have BK679 := n6_; have BK680 := n7_; have HR685_0 := n8_; have HR686_0 := n9_; have HR687_4 := n10_; have HR687_6 := n11_; have HR687_7 := n12_; have HB := n13_; have BK688 := n14_; have GW688 := n15_; have GE688 := n16_; have NB679_688 := n17_; have NB688_679 := n18_; have NB680_688 := n19_; have NB688_680 := n20_; clear n0_ n1_ n2_ n3_ n4_ n5_ n6_ n7_ n8_ n9_ n10_ n11_ n12_ n13_ n14_ n15_ n16_ n17_ n18_ n19_ n20_; clear hb hbox hg; have hnb39 := NB688_679.out; have hnc39 := NB679_688.out; have hnb40 := NB688_680.out; have hnc40 := NB680_688.out; have hcz41_0 : w38.cell? ⟨gb688, 0, none⟩ = some (.string (⟨#[]⟩ : ByteArray)) := (blk_cell BK688.out 0).trans rfl; have hcz41_1 : w38.cell? ⟨gb688, 1, none⟩ = some (.int .i64 0) := (blk_cell BK688.out 1).trans rfl; have hcz41_2 : w38.cell? ⟨gb688, 2, none⟩ = some (.int .i64 0) := (blk_cell BK688.out 2).trans rfl; have hcz41_3 : w38.cell? ⟨gb688, 3, none⟩ = some (.int .i64 0) := (blk_cell BK688.out 3).trans rfl; have hcz41_4 : w38.cell? ⟨gb688, 4, none⟩ = some (.slice none 0 0) := (blk_cell BK688.out 4).trans rfl; have hcz41_5 : w38.cell? ⟨gb688, 5, none⟩ = some (.int .i64 0) := (blk_cell BK688.out 5).trans rfl; have hcz41_6 : w38.cell? ⟨gb688, 6, none⟩ = some (.slice none 0 0) := (blk_cell BK688.out 6).trans rfl; have hcz41_7 : w38.cell? ⟨gb688, 7, none⟩ = some (.slice none 0 0) := (blk_cell BK688.out 7).trans rfl; have hfz41_0 := blk_frozen BK688.out 0; have hfz41_1 := blk_frozen BK688.out 1; have hfz41_2 := blk_frozen BK688.out 2; have hfz41_3 := blk_frozen BK688.out 3; have hfz41_4 := blk_frozen BK688.out 4; have hfz41_5 := blk_frozen BK688.out 5; have hfz41_6 := blk_frozen BK688.out 6; have hfz41_7 := blk_frozen BK688.out 7; have hnb42 := NB679_680.out; have hnc42 := NB680_679.out; have hcz43_0 : w38.cell? ⟨gb679, 0, none⟩ = some (.int .i64 x680000_4) := (blk_cell BK679.out 0).trans rfl; have hcz43_1 : w38.cell? ⟨gb679, 1, none⟩ = some (.int .i64 x680001_4) := (blk_cell BK679.out 1).trans rfl; have hfz43_0 := blk_frozen BK679.out 0; have hfz43_1 := blk_frozen BK679.out 1))
                         refine bodyPost_ret (results_cell_row rfl _ _ gb679 125 #[.int .i64 x11_3, .int .i64 x12_4] (0, 0) _ rfl (by (with_reducible repeat (first | refine blk_drewN ?_ _ | refine blk_drew ?_ | refine blk_alloc ?_ _)); refine blk_put (cs := #[.int .i64 x11_3, .int .i64 x680001_4]) ?_ 1 _ rfl; (with_reducible repeat (first | refine blk_drewN ?_ _ | refine blk_drew ?_ | refine blk_alloc ?_ _)); refine blk_put (cs := #[.int .i64 x680000_4, .int .i64 x680001_4]) ?_ 0 _ rfl; (with_reducible repeat (first | refine blk_drewN ?_ _ | refine blk_drew ?_ | refine blk_alloc ?_ _)); refine blk_far ?_ NB679_688.out _; (with_reducible repeat (first | refine blk_drewN ?_ _ | refine blk_drew ?_ | refine blk_alloc ?_ _)); refine blk_far ?_ NB679_688.out _; (with_reducible repeat (first | refine blk_drewN ?_ _ | refine blk_drew ?_ | refine blk_alloc ?_ _)); refine blk_far ?_ NB679_688.out _; (with_reducible repeat (first | refine blk_drewN ?_ _ | refine blk_drew ?_ | refine blk_alloc ?_ _)); refine blk_far ?_ NB679_688.out _; (with_reducible repeat (first | refine blk_drewN ?_ _ | refine blk_drew ?_ | refine blk_alloc ?_ _)); refine blk_far ?_ NB679_688.out _; (with_reducible repeat (first | refine blk_drewN ?_ _ | refine blk_drew ?_ | refine blk_alloc ?_ _)); refine blk_far ?_ NB679_688.out _; (with_reducible repeat (first | refine blk_drewN ?_ _ | refine blk_drew ?_ | refine blk_alloc ?_ _)); refine blk_far ?_ NB679_688.out _; (with_reducible repeat (first | refine blk_drewN ?_ _ | refine blk_drew ?_ | refine blk_alloc ?_ _)); refine blk_far ?_ NB679_688.out _; (with_reducible repeat (first | refine blk_drewN ?_ _ | refine blk_drew ?_ | refine blk_alloc ?_ _)); exact BK679.out) Try.underlying125 rfl (by kernel_rfl)) rfl ?_
                         exact ⟨by first | rfl | (simp [errW_none, errW_some] <;> rfl) | (simp [*, errW_none, errW_some] <;> rfl), bz⟩
                       · rw [if_neg c37] at H
                         have c37b0 : (((rd_T130 ((rd_T68 l0 x11_3).f0) x12_4).f2) == x10_2) = false := beq_eq_false_iff_ne.mpr c37
                         have c37b1 : (((rd_T130 ((rd_T68 l0 x11_3).f0) x12_4).f2) != x10_2) = true := bne_iff_ne.mpr c37
                         have H' := Aside0.mk H
                         clear H
                         have p685 : 0 ≤ (x11_3 : Int) := of_decide_eq_true az
                         have q685 : x11_3 < (l0.length : Int) := of_decide_eq_true az
                         obtain ⟨ad685, A685_0, c685_0, e685, hx685_0, hl685_0, hi685_0⟩ := at_T68 (Kd.V_reads' HO_0.out).2.2 x11_3 p685 q685
                         cases e685
                         obtain ⟨ce685, hce685, hMe685, hcc685⟩ := Kd.V_get HO_0.out z68 x11_3 p685 (by first | exact q685 | exact of_decide_eq_true az | (have e_ := (Kd.V_reads' HO_0.out).1; omega))
                         obtain ⟨ua685_0, uc685_0, rfl, ul685_0, ge685_0⟩ := k68_openF hMe685
                         have hv685_0 := hcc685 0 _ rfl
                         rw [Nat.add_zero, show (k68).sz = 1 from rfl, Nat.mul_one] at hv685_0
                         replace hv685_0 := Option.some.inj (hv685_0.symm.trans hx685_0)
                         injection hv685_0 with hva_ hvn_ hvc_
                         rw [hva_] at ge685_0
                         rw [hvc_] at ul685_0
                         have HL685_0 := Aside0.mk (show Kd.V k130 130 _ w.heap.size _ _ ((rd_T68 l0 x11_3).f0) from Kd.V_mk ul685_0 ge685_0)
                         clear hva_ hvn_ hvc_ ge685_0 ul685_0
                         clear hcc685 hce685
                         have HR685_0 := Aside0.mk hi685_0
                         have HC685_0 := Aside0.mk hl685_0
                         clear hi685_0 hl685_0
                         replace p685 := eq_true p685
                         replace q685 := eq_true q685
                         have p686 : 0 ≤ (x11_3 : Int) := of_decide_eq_true az
                         have q686 : x11_3 < (l0.length : Int) := of_decide_eq_true az
                         obtain ⟨ad686, A686_0, c686_0, e686, hx686_0, hl686_0, hi686_0⟩ := at_T68 (Kd.V_reads' HO_0.out).2.2 x11_3 p686 q686
                         obtain rfl : ad685 = ad686 := (by injection e686)
                         obtain ⟨ce686, hce686, hMe686, hcc686⟩ := Kd.V_get HO_0.out z68 x11_3 p686 (by first | exact q686 | exact of_decide_eq_true az | (have e_ := (Kd.V_reads' HO_0.out).1; omega))
                         obtain ⟨ua686_0, uc686_0, rfl, ul686_0, ge686_0⟩ := k68_openF hMe686
                         have hv686_0 := hcc686 0 _ rfl
                         rw [Nat.add_zero, show (k68).sz = 1 from rfl, Nat.mul_one] at hv686_0
                         replace hv686_0 := Option.some.inj (hv686_0.symm.trans hx686_0)
                         injection hv686_0 with hva_ hvn_ hvc_
                         rw [hva_] at ge686_0
                         rw [hvc_] at ul686_0
                         have HL686_0 := Aside0.mk (show Kd.V k130 130 _ w.heap.size _ _ ((rd_T68 l0 x11_3).f0) from Kd.V_mk ul686_0 ge686_0)
                         clear hva_ hvn_ hvc_ ge686_0 ul686_0
                         clear hcc686 hce686
                         have HR686_0 := Aside0.mk hi686_0
                         have HC686_0 := Aside0.mk hl686_0
                         clear hi686_0 hl686_0
                         replace p686 := eq_true p686
                         replace q686 := eq_true q686
                         have ea_ := Option.some.inj (hx685_0.symm.trans hx686_0)
                         injection ea_ with ea_ en_ ec_
                         subst ea_
                         subst ec_
                         clear en_
                         have p687 : 0 ≤ (x12_4 : Int) := of_decide_eq_true az
                         have q687 : x12_4 < (((rd_T68 l0 x11_3).f0).length : Int) := of_decide_eq_true az
                         obtain ⟨ad687, A687_4, c687_4, A687_6, c687_6, A687_7, c687_7, e687, hx687_0, hx687_1, hx687_2, hx687_3, hx687_4, hx687_5, hx687_6, hx687_7, hl687_4, hi687_4, hl687_6, hi687_6, hl687_7, hi687_7⟩ := at_T130 (by repeat (first | (with_reducible exact HR686_0.out) | (with_reducible refine Kd.C_alloc ?_ _) | (with_reducible refine Kd.C_drewN ?_ _) | (with_reducible refine Kd.C_drew ?_) | exact HR686_0.out)) x12_4 p687 q687
                         cases e687
                         obtain ⟨ce687, hce687, hMe687, hcc687⟩ := Kd.V_get HL686_0.out z130 x12_4 p687 (by first | exact q687 | exact of_decide_eq_true az | (have e_ := (Kd.V_reads' HL686_0.out).1; omega))
                         obtain ⟨ua687_4, uc687_4, ua687_6, uc687_6, ua687_7, uc687_7, rfl, ul687_4, ge687_4, ul687_6, ge687_6, ul687_7, ge687_7⟩ := k130_openF hMe687
                         have hv687_4 := hcc687 4 _ rfl
                         rw [add_field _ _ 4 (by omega)] at hv687_4
                         replace hv687_4 := Option.some.inj (hv687_4.symm.trans hx687_4)
                         injection hv687_4 with hva_ hvn_ hvc_
                         rw [hva_] at ge687_4
                         rw [hvc_] at ul687_4
                         have HL687_4 := Aside0.mk (show Kd.V (Kd.int .i64) 2 _ w.heap.size _ _ ((rd_T130 ((rd_T68 l0 x11_3).f0) x12_4).f4) from Kd.V_mk ul687_4 ge687_4)
                         clear hva_ hvn_ hvc_ ge687_4 ul687_4
                         have hv687_6 := hcc687 6 _ rfl
                         rw [add_field _ _ 6 (by omega)] at hv687_6
                         replace hv687_6 := Option.some.inj (hv687_6.symm.trans hx687_6)
                         injection hv687_6 with hva_ hvn_ hvc_
                         rw [hva_] at ge687_6
                         rw [hvc_] at ul687_6
                         have HL687_6 := Aside0.mk (show Kd.V (Kd.int .u8) 5 _ w.heap.size _ _ ((rd_T130 ((rd_T68 l0 x11_3).f0) x12_4).f6) from Kd.V_mk ul687_6 ge687_6)
                         clear hva_ hvn_ hvc_ ge687_6 ul687_6
                         have hv687_7 := hcc687 7 _ rfl
                         rw [add_field _ _ 7 (by omega)] at hv687_7
                         replace hv687_7 := Option.some.inj (hv687_7.symm.trans hx687_7)
                         injection hv687_7 with hva_ hvn_ hvc_
                         rw [hva_] at ge687_7
                         rw [hvc_] at ul687_7
                         have HL687_7 := Aside0.mk (show Kd.V k132 132 _ w.heap.size _ _ ((rd_T130 ((rd_T68 l0 x11_3).f0) x12_4).f7) from Kd.V_mk ul687_7 ge687_7)
                         clear hva_ hvn_ hvc_ ge687_7 ul687_7
                         clear hcc687 hce687
                         have HR687_4 := Aside0.mk hi687_4
                         have HC687_4 := Aside0.mk hl687_4
                         clear hi687_4 hl687_4
                         have HR687_6 := Aside0.mk hi687_6
                         have HC687_6 := Aside0.mk hl687_6
                         clear hi687_6 hl687_6
                         have HR687_7 := Aside0.mk hi687_7
                         have HC687_7 := Aside0.mk hl687_7
                         clear hi687_7 hl687_7
                         replace p687 := eq_true p687
                         replace q687 := eq_true q687
                         go_wp2_with (first | ((with_reducible refine gate_dst (N := 13) rfl ?_); refine box_event ?hg (N := 13) ?hd (cs := #[.string (⟨#[]⟩ : ByteArray), .int .i64 0, .int .i64 0, .int .i64 0, .slice none 0 0, .int .i64 0, .slice none 0 0, .slice none 0 0]) (t := 130) ?hr ?_; (case hd => rfl); (case hg => rfl); (case hr => first | (go_simp; done) | (go_simp; rfl)); intro gb688 hg w44 hbox hb; have n0_ := Aside0.mk (Kd.V_below (Kd.V_elderB (by (with_reducible repeat (first | apply Kd.V_alloc | apply Kd.V_drewN | apply Kd.V_drew)); exact HO_0.out) gb688 (Nat.le_of_eq hg.symm)) hb); have n1_ := Aside0.mk (Kd.V_below (Kd.V_elderB (by (with_reducible repeat (first | apply Kd.V_alloc | apply Kd.V_drewN | apply Kd.V_drew)); exact HL685_0.out) gb688 (Nat.le_of_eq hg.symm)) hb); have n2_ := Aside0.mk (Kd.V_below (Kd.V_elderB (by (with_reducible repeat (first | apply Kd.V_alloc | apply Kd.V_drewN | apply Kd.V_drew)); exact HL686_0.out) gb688 (Nat.le_of_eq hg.symm)) hb); have n3_ := Aside0.mk (Kd.V_below (Kd.V_elderB (by (with_reducible repeat (first | apply Kd.V_alloc | apply Kd.V_drewN | apply Kd.V_drew)); exact HL687_4.out) gb688 (Nat.le_of_eq hg.symm)) hb); have n4_ := Aside0.mk (Kd.V_below (Kd.V_elderB (by (with_reducible repeat (first | apply Kd.V_alloc | apply Kd.V_drewN | apply Kd.V_drew)); exact HL687_6.out) gb688 (Nat.le_of_eq hg.symm)) hb); have n5_ := Aside0.mk (Kd.V_below (Kd.V_elderB (by (with_reducible repeat (first | apply Kd.V_alloc | apply Kd.V_drewN | apply Kd.V_drew)); exact HL687_7.out) gb688 (Nat.le_of_eq hg.symm)) hb); have n6_ := Aside0.mk (blk_below (g := gb679) (o := .cells #[.int .i64 x680000_4, .int .i64 x680001_4] 125 (0, 0)) kz hb); have n7_ := Aside0.mk (blk_below (g := gb680) (o := .cells #[.int .i64 (-1), .int .i64 (-1)] 125 (0, 0)) kz hb); have n8_ := Aside0.mk (Kd.C_below (by repeat (first | (with_reducible exact HR685_0.out) | (with_reducible refine Kd.C_alloc ?_ _) | (with_reducible refine Kd.C_drewN ?_ _) | (with_reducible refine Kd.C_drew ?_) | exact HR685_0.out)) hb); have n9_ := Aside0.mk (Kd.C_below (by repeat (first | (with_reducible exact HR686_0.out) | (with_reducible refine Kd.C_alloc ?_ _) | (with_reducible refine Kd.C_drewN ?_ _) | (with_reducible refine Kd.C_drew ?_) | exact HR686_0.out)) hb); have n10_ := Aside0.mk (Kd.C_below (by repeat (first | (with_reducible exact HR687_4.out) | (with_reducible refine Kd.C_alloc ?_ _) | (with_reducible refine Kd.C_drewN ?_ _) | (with_reducible refine Kd.C_drew ?_) | exact HR687_4.out)) hb); have n11_ := Aside0.mk (Kd.C_below (by repeat (first | (with_reducible exact HR687_6.out) | (with_reducible refine Kd.C_alloc ?_ _) | (with_reducible refine Kd.C_drewN ?_ _) | (with_reducible refine Kd.C_drew ?_) | exact HR687_6.out)) hb); have n12_ := Aside0.mk (Kd.C_below (by repeat (first | (with_reducible exact HR687_7.out) | (with_reducible refine Kd.C_alloc ?_ _) | (with_reducible refine Kd.C_drewN ?_ _) | (with_reducible refine Kd.C_drew ?_) | exact HR687_7.out)) hb); have n13_ := Aside0.mk (below_step bz hb); have n14_ := Aside0.mk (hbox); have n15_ := Aside0.mk ((by rw [hg]; exact (below_size bz) : w.heap.size ≤ gb688)); have n16_ := Aside0.mk ((by rw [hg]; exact (below_size bz) : w.heap.size ≤ gb688)); have n17_ := Aside0.mk ((by rw [hg]; exact Nat.ne_of_lt (blk_lt (g := gb679) (o := .cells #[.int .i64 x680000_4, .int .i64 x680001_4] 125 (0, 0)) kz) : gb679 ≠ gb688)); have n18_ := Aside0.mk ((by rw [hg]; exact Nat.ne_of_gt (blk_lt (g := gb679) (o := .cells #[.int .i64 x680000_4, .int .i64 x680001_4] 125 (0, 0)) kz) : gb688 ≠ gb679)); have n19_ := Aside0.mk ((by rw [hg]; exact Nat.ne_of_lt (blk_lt (g := gb680) (o := .cells #[.int .i64 (-1), .int .i64 (-1)] 125 (0, 0)) kz) : gb680 ≠ gb688)); have n20_ := Aside0.mk ((by rw [hg]; exact Nat.ne_of_gt (blk_lt (g := gb680) (o := .cells #[.int .i64 (-1), .int .i64 (-1)] 125 (0, 0)) kz) : gb688 ≠ gb680)); clear HO_0; clear HL685_0; clear HL686_0; clear HL687_4; clear HL687_6; clear HL687_7; clear BK679; clear BK680; clear HR685_0; clear HR686_0; clear HR687_4; clear HR687_6; clear HR687_7; clear HB; have HO_0 := n0_; have HL685_0 := n1_; have HL686_0 := n2_; have HL687_4 := n3_; have HL687_6 := n4_; have HL687_7 := n5_; have BK679 := n6_; have BK680 := n7_; have HR685_0 := n8_; have HR686_0 := n9_; have HR687_4 := n10_; have HR687_6 := n11_; have HR687_7 := n12_; have HB := n13_; have BK688 := n14_; have GW688 := n15_; have GE688 := n16_; have NB679_688 := n17_; have NB688_679 := n18_; have NB680_688 := n19_; have NB688_680 := n20_; clear n0_ n1_ n2_ n3_ n4_ n5_ n6_ n7_ n8_ n9_ n10_ n11_ n12_ n13_ n14_ n15_ n16_ n17_ n18_ n19_ n20_; clear hb hbox hg; have hnb45 := NB688_679.out; have hnc45 := NB679_688.out; have hnb46 := NB688_680.out; have hnc46 := NB680_688.out; have hcz47_0 : w44.cell? ⟨gb688, 0, none⟩ = some (.string (⟨#[]⟩ : ByteArray)) := (blk_cell BK688.out 0).trans rfl; have hcz47_1 : w44.cell? ⟨gb688, 1, none⟩ = some (.int .i64 0) := (blk_cell BK688.out 1).trans rfl; have hcz47_2 : w44.cell? ⟨gb688, 2, none⟩ = some (.int .i64 0) := (blk_cell BK688.out 2).trans rfl; have hcz47_3 : w44.cell? ⟨gb688, 3, none⟩ = some (.int .i64 0) := (blk_cell BK688.out 3).trans rfl; have hcz47_4 : w44.cell? ⟨gb688, 4, none⟩ = some (.slice none 0 0) := (blk_cell BK688.out 4).trans rfl; have hcz47_5 : w44.cell? ⟨gb688, 5, none⟩ = some (.int .i64 0) := (blk_cell BK688.out 5).trans rfl; have hcz47_6 : w44.cell? ⟨gb688, 6, none⟩ = some (.slice none 0 0) := (blk_cell BK688.out 6).trans rfl; have hcz47_7 : w44.cell? ⟨gb688, 7, none⟩ = some (.slice none 0 0) := (blk_cell BK688.out 7).trans rfl; have hfz47_0 := blk_frozen BK688.out 0; have hfz47_1 := blk_frozen BK688.out 1; have hfz47_2 := blk_frozen BK688.out 2; have hfz47_3 := blk_frozen BK688.out 3; have hfz47_4 := blk_frozen BK688.out 4; have hfz47_5 := blk_frozen BK688.out 5; have hfz47_6 := blk_frozen BK688.out 6; have hfz47_7 := blk_frozen BK688.out 7))
                         go_roundg k4
                         case measure => have := HJ3.out; have := HK2.out; have := HK3.out; have := HK4.out; omega
                         case rel => exact ⟨(wrap64 (x12_4 + 1)), (x680000_4), (x680001_4), sz_, H', ⟨by have := HJ3.out; have := HK2.out; have := HK3.out; have := HK4.out; omega⟩, ⟨by (with_reducible repeat (first | apply Kd.V_alloc | apply Kd.V_drewN | apply Kd.V_drew)); exact Kd.V_mono (Kd.V_far (p := ⟨gb688, 7, none⟩) (Kd.V_far (p := ⟨gb688, 6, none⟩) (Kd.V_far (p := ⟨gb688, 5, none⟩) (Kd.V_far (p := ⟨gb688, 4, none⟩) (Kd.V_far (p := ⟨gb688, 3, none⟩) (Kd.V_far (p := ⟨gb688, 2, none⟩) (Kd.V_far (p := ⟨gb688, 1, none⟩) (Kd.V_far (p := ⟨gb688, 0, none⟩) (Kd.V_mono HO_0.out (fun k_ hk => (⟨hk, hk.2⟩ : _ ∧ k_ ≠ gb688))) (fun _ hk => hk.2) (.string ((rd_T130 ((rd_T68 l0 x11_3).f0) x12_4).f0))) (fun _ hk => hk.2) (.int .i64 ((rd_T130 ((rd_T68 l0 x11_3).f0) x12_4).f1))) (fun _ hk => hk.2) (.int .i64 ((rd_T130 ((rd_T68 l0 x11_3).f0) x12_4).f2))) (fun _ hk => hk.2) (.int .i64 ((rd_T130 ((rd_T68 l0 x11_3).f0) x12_4).f3))) (fun _ hk => hk.2) (.slice A687_4 ((rd_T130 ((rd_T68 l0 x11_3).f0) x12_4).f4).length c687_4)) (fun _ hk => hk.2) (.int .i64 ((rd_T130 ((rd_T68 l0 x11_3).f0) x12_4).f5))) (fun _ hk => hk.2) (.slice A687_6 ((rd_T130 ((rd_T68 l0 x11_3).f0) x12_4).f6).length c687_6)) (fun _ hk => hk.2) (.slice A687_7 ((rd_T130 ((rd_T68 l0 x11_3).f0) x12_4).f7).length c687_7)) (fun _ hk => ⟨hk.1.1.1, ⟨hk.1.1.2.1, hk.1.1.2.2⟩⟩)⟩, ⟨by (with_reducible repeat (first | refine blk_drewN ?_ _ | refine blk_drew ?_ | refine blk_alloc ?_ _)); refine blk_far ?_ NB679_688.out _; (with_reducible repeat (first | refine blk_drewN ?_ _ | refine blk_drew ?_ | refine blk_alloc ?_ _)); refine blk_far ?_ NB679_688.out _; (with_reducible repeat (first | refine blk_drewN ?_ _ | refine blk_drew ?_ | refine blk_alloc ?_ _)); refine blk_far ?_ NB679_688.out _; (with_reducible repeat (first | refine blk_drewN ?_ _ | refine blk_drew ?_ | refine blk_alloc ?_ _)); refine blk_far ?_ NB679_688.out _; (with_reducible repeat (first | refine blk_drewN ?_ _ | refine blk_drew ?_ | refine blk_alloc ?_ _)); refine blk_far ?_ NB679_688.out _; (with_reducible repeat (first | refine blk_drewN ?_ _ | refine blk_drew ?_ | refine blk_alloc ?_ _)); refine blk_far ?_ NB679_688.out _; (with_reducible repeat (first | refine blk_drewN ?_ _ | refine blk_drew ?_ | refine blk_alloc ?_ _)); refine blk_far ?_ NB679_688.out _; (with_reducible repeat (first | refine blk_drewN ?_ _ | refine blk_drew ?_ | refine blk_alloc ?_ _)); refine blk_far ?_ NB679_688.out _; (with_reducible repeat (first | refine blk_drewN ?_ _ | refine blk_drew ?_ | refine blk_alloc ?_ _)); exact BK679.out⟩, ⟨by (with_reducible repeat (first | refine blk_drewN ?_ _ | refine blk_drew ?_ | refine blk_alloc ?_ _)); refine blk_far ?_ NB680_688.out _; (with_reducible repeat (first | refine blk_drewN ?_ _ | refine blk_drew ?_ | refine blk_alloc ?_ _)); refine blk_far ?_ NB680_688.out _; (with_reducible repeat (first | refine blk_drewN ?_ _ | refine blk_drew ?_ | refine blk_alloc ?_ _)); refine blk_far ?_ NB680_688.out _; (with_reducible repeat (first | refine blk_drewN ?_ _ | refine blk_drew ?_ | refine blk_alloc ?_ _)); refine blk_far ?_ NB680_688.out _; (with_reducible repeat (first | refine blk_drewN ?_ _ | refine blk_drew ?_ | refine blk_alloc ?_ _)); refine blk_far ?_ NB680_688.out _; (with_reducible repeat (first | refine blk_drewN ?_ _ | refine blk_drew ?_ | refine blk_alloc ?_ _)); refine blk_far ?_ NB680_688.out _; (with_reducible repeat (first | refine blk_drewN ?_ _ | refine blk_drew ?_ | refine blk_alloc ?_ _)); refine blk_far ?_ NB680_688.out _; (with_reducible repeat (first | refine blk_drewN ?_ _ | refine blk_drew ?_ | refine blk_alloc ?_ _)); refine blk_far ?_ NB680_688.out _; (with_reducible repeat (first | refine blk_drewN ?_ _ | refine blk_drew ?_ | refine blk_alloc ?_ _)); exact BK680.out⟩, ⟨ bz⟩⟩
                     · rw [if_neg c36] at H
                       have c36b0 : (((rd_T130 ((rd_T68 l0 x11_3).f0) x12_4).f0).toList == a2.toList) = false := beq_eq_false_iff_ne.mpr c36
                       have c36b1 : (((rd_T130 ((rd_T68 l0 x11_3).f0) x12_4).f0).toList != a2.toList) = true := bne_iff_ne.mpr c36
                       have H' := Aside0.mk H
                       clear H
                       have p685 : 0 ≤ (x11_3 : Int) := of_decide_eq_true az
                       have q685 : x11_3 < (l0.length : Int) := of_decide_eq_true az
                       obtain ⟨ad685, A685_0, c685_0, e685, hx685_0, hl685_0, hi685_0⟩ := at_T68 (Kd.V_reads' HO_0.out).2.2 x11_3 p685 q685
                       cases e685
                       obtain ⟨ce685, hce685, hMe685, hcc685⟩ := Kd.V_get HO_0.out z68 x11_3 p685 (by first | exact q685 | exact of_decide_eq_true az | (have e_ := (Kd.V_reads' HO_0.out).1; omega))
                       obtain ⟨ua685_0, uc685_0, rfl, ul685_0, ge685_0⟩ := k68_openF hMe685
                       have hv685_0 := hcc685 0 _ rfl
                       rw [Nat.add_zero, show (k68).sz = 1 from rfl, Nat.mul_one] at hv685_0
                       replace hv685_0 := Option.some.inj (hv685_0.symm.trans hx685_0)
                       injection hv685_0 with hva_ hvn_ hvc_
                       rw [hva_] at ge685_0
                       rw [hvc_] at ul685_0
                       have HL685_0 := Aside0.mk (show Kd.V k130 130 _ w.heap.size _ _ ((rd_T68 l0 x11_3).f0) from Kd.V_mk ul685_0 ge685_0)
                       clear hva_ hvn_ hvc_ ge685_0 ul685_0
                       clear hcc685 hce685
                       have HR685_0 := Aside0.mk hi685_0
                       have HC685_0 := Aside0.mk hl685_0
                       clear hi685_0 hl685_0
                       replace p685 := eq_true p685
                       replace q685 := eq_true q685
                       have p686 : 0 ≤ (x11_3 : Int) := of_decide_eq_true az
                       have q686 : x11_3 < (l0.length : Int) := of_decide_eq_true az
                       obtain ⟨ad686, A686_0, c686_0, e686, hx686_0, hl686_0, hi686_0⟩ := at_T68 (Kd.V_reads' HO_0.out).2.2 x11_3 p686 q686
                       obtain rfl : ad685 = ad686 := (by injection e686)
                       obtain ⟨ce686, hce686, hMe686, hcc686⟩ := Kd.V_get HO_0.out z68 x11_3 p686 (by first | exact q686 | exact of_decide_eq_true az | (have e_ := (Kd.V_reads' HO_0.out).1; omega))
                       obtain ⟨ua686_0, uc686_0, rfl, ul686_0, ge686_0⟩ := k68_openF hMe686
                       have hv686_0 := hcc686 0 _ rfl
                       rw [Nat.add_zero, show (k68).sz = 1 from rfl, Nat.mul_one] at hv686_0
                       replace hv686_0 := Option.some.inj (hv686_0.symm.trans hx686_0)
                       injection hv686_0 with hva_ hvn_ hvc_
                       rw [hva_] at ge686_0
                       rw [hvc_] at ul686_0
                       have HL686_0 := Aside0.mk (show Kd.V k130 130 _ w.heap.size _ _ ((rd_T68 l0 x11_3).f0) from Kd.V_mk ul686_0 ge686_0)
                       clear hva_ hvn_ hvc_ ge686_0 ul686_0
                       clear hcc686 hce686
                       have HR686_0 := Aside0.mk hi686_0
                       have HC686_0 := Aside0.mk hl686_0
                       clear hi686_0 hl686_0
                       replace p686 := eq_true p686
                       replace q686 := eq_true q686
                       have ea_ := Option.some.inj (hx685_0.symm.trans hx686_0)
                       injection ea_ with ea_ en_ ec_
                       subst ea_
                       subst ec_
                       clear en_
                       have p687 : 0 ≤ (x12_4 : Int) := of_decide_eq_true az
                       have q687 : x12_4 < (((rd_T68 l0 x11_3).f0).length : Int) := of_decide_eq_true az
                       obtain ⟨ad687, A687_4, c687_4, A687_6, c687_6, A687_7, c687_7, e687, hx687_0, hx687_1, hx687_2, hx687_3, hx687_4, hx687_5, hx687_6, hx687_7, hl687_4, hi687_4, hl687_6, hi687_6, hl687_7, hi687_7⟩ := at_T130 (by repeat (first | (with_reducible exact HR686_0.out) | (with_reducible refine Kd.C_alloc ?_ _) | (with_reducible refine Kd.C_drewN ?_ _) | (with_reducible refine Kd.C_drew ?_) | exact HR686_0.out)) x12_4 p687 q687
                       cases e687
                       obtain ⟨ce687, hce687, hMe687, hcc687⟩ := Kd.V_get HL686_0.out z130 x12_4 p687 (by first | exact q687 | exact of_decide_eq_true az | (have e_ := (Kd.V_reads' HL686_0.out).1; omega))
                       obtain ⟨ua687_4, uc687_4, ua687_6, uc687_6, ua687_7, uc687_7, rfl, ul687_4, ge687_4, ul687_6, ge687_6, ul687_7, ge687_7⟩ := k130_openF hMe687
                       have hv687_4 := hcc687 4 _ rfl
                       rw [add_field _ _ 4 (by omega)] at hv687_4
                       replace hv687_4 := Option.some.inj (hv687_4.symm.trans hx687_4)
                       injection hv687_4 with hva_ hvn_ hvc_
                       rw [hva_] at ge687_4
                       rw [hvc_] at ul687_4
                       have HL687_4 := Aside0.mk (show Kd.V (Kd.int .i64) 2 _ w.heap.size _ _ ((rd_T130 ((rd_T68 l0 x11_3).f0) x12_4).f4) from Kd.V_mk ul687_4 ge687_4)
                       clear hva_ hvn_ hvc_ ge687_4 ul687_4
                       have hv687_6 := hcc687 6 _ rfl
                       rw [add_field _ _ 6 (by omega)] at hv687_6
                       replace hv687_6 := Option.some.inj (hv687_6.symm.trans hx687_6)
                       injection hv687_6 with hva_ hvn_ hvc_
                       rw [hva_] at ge687_6
                       rw [hvc_] at ul687_6
                       have HL687_6 := Aside0.mk (show Kd.V (Kd.int .u8) 5 _ w.heap.size _ _ ((rd_T130 ((rd_T68 l0 x11_3).f0) x12_4).f6) from Kd.V_mk ul687_6 ge687_6)
                       clear hva_ hvn_ hvc_ ge687_6 ul687_6
                       have hv687_7 := hcc687 7 _ rfl
                       rw [add_field _ _ 7 (by omega)] at hv687_7
                       replace hv687_7 := Option.some.inj (hv687_7.symm.trans hx687_7)
                       injection hv687_7 with hva_ hvn_ hvc_
                       rw [hva_] at ge687_7
                       rw [hvc_] at ul687_7
                       have HL687_7 := Aside0.mk (show Kd.V k132 132 _ w.heap.size _ _ ((rd_T130 ((rd_T68 l0 x11_3).f0) x12_4).f7) from Kd.V_mk ul687_7 ge687_7)
                       clear hva_ hvn_ hvc_ ge687_7 ul687_7
                       clear hcc687 hce687
                       have HR687_4 := Aside0.mk hi687_4
                       have HC687_4 := Aside0.mk hl687_4
                       clear hi687_4 hl687_4
                       have HR687_6 := Aside0.mk hi687_6
                       have HC687_6 := Aside0.mk hl687_6
                       clear hi687_6 hl687_6
                       have HR687_7 := Aside0.mk hi687_7
                       have HC687_7 := Aside0.mk hl687_7
                       clear hi687_7 hl687_7
                       replace p687 := eq_true p687
                       replace q687 := eq_true q687
                       go_wp2_with (first | ((with_reducible refine gate_dst (N := 13) rfl ?_); refine box_event ?hg (N := 13) ?hd (cs := #[.string (⟨#[]⟩ : ByteArray), .int .i64 0, .int .i64 0, .int .i64 0, .slice none 0 0, .int .i64 0, .slice none 0 0, .slice none 0 0]) (t := 130) ?hr ?_; (case hd => rfl); (case hg => rfl); (case hr => first | (go_simp; done) | (go_simp; rfl)); intro gb688 hg w48 hbox hb; have n0_ := Aside0.mk (Kd.V_below (Kd.V_elderB (by (with_reducible repeat (first | apply Kd.V_alloc | apply Kd.V_drewN | apply Kd.V_drew)); exact HO_0.out) gb688 (Nat.le_of_eq hg.symm)) hb); have n1_ := Aside0.mk (Kd.V_below (Kd.V_elderB (by (with_reducible repeat (first | apply Kd.V_alloc | apply Kd.V_drewN | apply Kd.V_drew)); exact HL685_0.out) gb688 (Nat.le_of_eq hg.symm)) hb); have n2_ := Aside0.mk (Kd.V_below (Kd.V_elderB (by (with_reducible repeat (first | apply Kd.V_alloc | apply Kd.V_drewN | apply Kd.V_drew)); exact HL686_0.out) gb688 (Nat.le_of_eq hg.symm)) hb); have n3_ := Aside0.mk (Kd.V_below (Kd.V_elderB (by (with_reducible repeat (first | apply Kd.V_alloc | apply Kd.V_drewN | apply Kd.V_drew)); exact HL687_4.out) gb688 (Nat.le_of_eq hg.symm)) hb); have n4_ := Aside0.mk (Kd.V_below (Kd.V_elderB (by (with_reducible repeat (first | apply Kd.V_alloc | apply Kd.V_drewN | apply Kd.V_drew)); exact HL687_6.out) gb688 (Nat.le_of_eq hg.symm)) hb); have n5_ := Aside0.mk (Kd.V_below (Kd.V_elderB (by (with_reducible repeat (first | apply Kd.V_alloc | apply Kd.V_drewN | apply Kd.V_drew)); exact HL687_7.out) gb688 (Nat.le_of_eq hg.symm)) hb); have n6_ := Aside0.mk (blk_below (g := gb679) (o := .cells #[.int .i64 x680000_4, .int .i64 x680001_4] 125 (0, 0)) kz hb); have n7_ := Aside0.mk (blk_below (g := gb680) (o := .cells #[.int .i64 (-1), .int .i64 (-1)] 125 (0, 0)) kz hb); have n8_ := Aside0.mk (Kd.C_below (by repeat (first | (with_reducible exact HR685_0.out) | (with_reducible refine Kd.C_alloc ?_ _) | (with_reducible refine Kd.C_drewN ?_ _) | (with_reducible refine Kd.C_drew ?_) | exact HR685_0.out)) hb); have n9_ := Aside0.mk (Kd.C_below (by repeat (first | (with_reducible exact HR686_0.out) | (with_reducible refine Kd.C_alloc ?_ _) | (with_reducible refine Kd.C_drewN ?_ _) | (with_reducible refine Kd.C_drew ?_) | exact HR686_0.out)) hb); have n10_ := Aside0.mk (Kd.C_below (by repeat (first | (with_reducible exact HR687_4.out) | (with_reducible refine Kd.C_alloc ?_ _) | (with_reducible refine Kd.C_drewN ?_ _) | (with_reducible refine Kd.C_drew ?_) | exact HR687_4.out)) hb); have n11_ := Aside0.mk (Kd.C_below (by repeat (first | (with_reducible exact HR687_6.out) | (with_reducible refine Kd.C_alloc ?_ _) | (with_reducible refine Kd.C_drewN ?_ _) | (with_reducible refine Kd.C_drew ?_) | exact HR687_6.out)) hb); have n12_ := Aside0.mk (Kd.C_below (by repeat (first | (with_reducible exact HR687_7.out) | (with_reducible refine Kd.C_alloc ?_ _) | (with_reducible refine Kd.C_drewN ?_ _) | (with_reducible refine Kd.C_drew ?_) | exact HR687_7.out)) hb); have n13_ := Aside0.mk (below_step bz hb); have n14_ := Aside0.mk (hbox); have n15_ := Aside0.mk ((by rw [hg]; exact (below_size bz) : w.heap.size ≤ gb688)); have n16_ := Aside0.mk ((by rw [hg]; exact (below_size bz) : w.heap.size ≤ gb688)); have n17_ := Aside0.mk ((by rw [hg]; exact Nat.ne_of_lt (blk_lt (g := gb679) (o := .cells #[.int .i64 x680000_4, .int .i64 x680001_4] 125 (0, 0)) kz) : gb679 ≠ gb688)); have n18_ := Aside0.mk ((by rw [hg]; exact Nat.ne_of_gt (blk_lt (g := gb679) (o := .cells #[.int .i64 x680000_4, .int .i64 x680001_4] 125 (0, 0)) kz) : gb688 ≠ gb679)); have n19_ := Aside0.mk ((by rw [hg]; exact Nat.ne_of_lt (blk_lt (g := gb680) (o := .cells #[.int .i64 (-1), .int .i64 (-1)] 125 (0, 0)) kz) : gb680 ≠ gb688)); have n20_ := Aside0.mk ((by rw [hg]; exact Nat.ne_of_gt (blk_lt (g := gb680) (o := .cells #[.int .i64 (-1), .int .i64 (-1)] 125 (0, 0)) kz) : gb688 ≠ gb680)); clear HO_0; clear HL685_0; clear HL686_0; clear HL687_4; clear HL687_6; clear HL687_7; clear BK679; clear BK680; clear HR685_0; clear HR686_0; clear HR687_4; clear HR687_6; clear HR687_7; clear HB; have HO_0 := n0_; have HL685_0 := n1_; have HL686_0 := n2_; have HL687_4 := n3_; have HL687_6 := n4_; have HL687_7 := n5_; have BK679 := n6_; have BK680 := n7_; have HR685_0 := n8_; have HR686_0 := n9_; have HR687_4 := n10_; have HR687_6 := n11_; have HR687_7 := n12_; have HB := n13_; have BK688 := n14_; have GW688 := n15_; have GE688 := n16_; have NB679_688 := n17_; have NB688_679 := n18_; have NB680_688 := n19_; have NB688_680 := n20_; clear n0_ n1_ n2_ n3_ n4_ n5_ n6_ n7_ n8_ n9_ n10_ n11_ n12_ n13_ n14_ n15_ n16_ n17_ n18_ n19_ n20_; clear hb hbox hg; have hnb49 := NB688_679.out; have hnc49 := NB679_688.out; have hnb50 := NB688_680.out; have hnc50 := NB680_688.out; have hcz51_0 : w48.cell? ⟨gb688, 0, none⟩ = some (.string (⟨#[]⟩ : ByteArray)) := (blk_cell BK688.out 0).trans rfl; have hcz51_1 : w48.cell? ⟨gb688, 1, none⟩ = some (.int .i64 0) := (blk_cell BK688.out 1).trans rfl; have hcz51_2 : w48.cell? ⟨gb688, 2, none⟩ = some (.int .i64 0) := (blk_cell BK688.out 2).trans rfl; have hcz51_3 : w48.cell? ⟨gb688, 3, none⟩ = some (.int .i64 0) := (blk_cell BK688.out 3).trans rfl; have hcz51_4 : w48.cell? ⟨gb688, 4, none⟩ = some (.slice none 0 0) := (blk_cell BK688.out 4).trans rfl; have hcz51_5 : w48.cell? ⟨gb688, 5, none⟩ = some (.int .i64 0) := (blk_cell BK688.out 5).trans rfl; have hcz51_6 : w48.cell? ⟨gb688, 6, none⟩ = some (.slice none 0 0) := (blk_cell BK688.out 6).trans rfl; have hcz51_7 : w48.cell? ⟨gb688, 7, none⟩ = some (.slice none 0 0) := (blk_cell BK688.out 7).trans rfl; have hfz51_0 := blk_frozen BK688.out 0; have hfz51_1 := blk_frozen BK688.out 1; have hfz51_2 := blk_frozen BK688.out 2; have hfz51_3 := blk_frozen BK688.out 3; have hfz51_4 := blk_frozen BK688.out 4; have hfz51_5 := blk_frozen BK688.out 5; have hfz51_6 := blk_frozen BK688.out 6; have hfz51_7 := blk_frozen BK688.out 7))
                       go_roundg k4
                       case measure => have := HJ3.out; have := HK2.out; have := HK3.out; have := HK4.out; omega
                       case rel => exact ⟨(wrap64 (x12_4 + 1)), (x680000_4), (x680001_4), sz_, H', ⟨by have := HJ3.out; have := HK2.out; have := HK3.out; have := HK4.out; omega⟩, ⟨by (with_reducible repeat (first | apply Kd.V_alloc | apply Kd.V_drewN | apply Kd.V_drew)); exact Kd.V_mono (Kd.V_far (p := ⟨gb688, 7, none⟩) (Kd.V_far (p := ⟨gb688, 6, none⟩) (Kd.V_far (p := ⟨gb688, 5, none⟩) (Kd.V_far (p := ⟨gb688, 4, none⟩) (Kd.V_far (p := ⟨gb688, 3, none⟩) (Kd.V_far (p := ⟨gb688, 2, none⟩) (Kd.V_far (p := ⟨gb688, 1, none⟩) (Kd.V_far (p := ⟨gb688, 0, none⟩) (Kd.V_mono HO_0.out (fun k_ hk => (⟨hk, hk.2⟩ : _ ∧ k_ ≠ gb688))) (fun _ hk => hk.2) (.string ((rd_T130 ((rd_T68 l0 x11_3).f0) x12_4).f0))) (fun _ hk => hk.2) (.int .i64 ((rd_T130 ((rd_T68 l0 x11_3).f0) x12_4).f1))) (fun _ hk => hk.2) (.int .i64 ((rd_T130 ((rd_T68 l0 x11_3).f0) x12_4).f2))) (fun _ hk => hk.2) (.int .i64 ((rd_T130 ((rd_T68 l0 x11_3).f0) x12_4).f3))) (fun _ hk => hk.2) (.slice A687_4 ((rd_T130 ((rd_T68 l0 x11_3).f0) x12_4).f4).length c687_4)) (fun _ hk => hk.2) (.int .i64 ((rd_T130 ((rd_T68 l0 x11_3).f0) x12_4).f5))) (fun _ hk => hk.2) (.slice A687_6 ((rd_T130 ((rd_T68 l0 x11_3).f0) x12_4).f6).length c687_6)) (fun _ hk => hk.2) (.slice A687_7 ((rd_T130 ((rd_T68 l0 x11_3).f0) x12_4).f7).length c687_7)) (fun _ hk => ⟨hk.1.1.1, ⟨hk.1.1.2.1, hk.1.1.2.2⟩⟩)⟩, ⟨by (with_reducible repeat (first | refine blk_drewN ?_ _ | refine blk_drew ?_ | refine blk_alloc ?_ _)); refine blk_far ?_ NB679_688.out _; (with_reducible repeat (first | refine blk_drewN ?_ _ | refine blk_drew ?_ | refine blk_alloc ?_ _)); refine blk_far ?_ NB679_688.out _; (with_reducible repeat (first | refine blk_drewN ?_ _ | refine blk_drew ?_ | refine blk_alloc ?_ _)); refine blk_far ?_ NB679_688.out _; (with_reducible repeat (first | refine blk_drewN ?_ _ | refine blk_drew ?_ | refine blk_alloc ?_ _)); refine blk_far ?_ NB679_688.out _; (with_reducible repeat (first | refine blk_drewN ?_ _ | refine blk_drew ?_ | refine blk_alloc ?_ _)); refine blk_far ?_ NB679_688.out _; (with_reducible repeat (first | refine blk_drewN ?_ _ | refine blk_drew ?_ | refine blk_alloc ?_ _)); refine blk_far ?_ NB679_688.out _; (with_reducible repeat (first | refine blk_drewN ?_ _ | refine blk_drew ?_ | refine blk_alloc ?_ _)); refine blk_far ?_ NB679_688.out _; (with_reducible repeat (first | refine blk_drewN ?_ _ | refine blk_drew ?_ | refine blk_alloc ?_ _)); refine blk_far ?_ NB679_688.out _; (with_reducible repeat (first | refine blk_drewN ?_ _ | refine blk_drew ?_ | refine blk_alloc ?_ _)); exact BK679.out⟩, ⟨by (with_reducible repeat (first | refine blk_drewN ?_ _ | refine blk_drew ?_ | refine blk_alloc ?_ _)); refine blk_far ?_ NB680_688.out _; (with_reducible repeat (first | refine blk_drewN ?_ _ | refine blk_drew ?_ | refine blk_alloc ?_ _)); refine blk_far ?_ NB680_688.out _; (with_reducible repeat (first | refine blk_drewN ?_ _ | refine blk_drew ?_ | refine blk_alloc ?_ _)); refine blk_far ?_ NB680_688.out _; (with_reducible repeat (first | refine blk_drewN ?_ _ | refine blk_drew ?_ | refine blk_alloc ?_ _)); refine blk_far ?_ NB680_688.out _; (with_reducible repeat (first | refine blk_drewN ?_ _ | refine blk_drew ?_ | refine blk_alloc ?_ _)); refine blk_far ?_ NB680_688.out _; (with_reducible repeat (first | refine blk_drewN ?_ _ | refine blk_drew ?_ | refine blk_alloc ?_ _)); refine blk_far ?_ NB680_688.out _; (with_reducible repeat (first | refine blk_drewN ?_ _ | refine blk_drew ?_ | refine blk_alloc ?_ _)); refine blk_far ?_ NB680_688.out _; (with_reducible repeat (first | refine blk_drewN ?_ _ | refine blk_drew ?_ | refine blk_alloc ?_ _)); refine blk_far ?_ NB680_688.out _; (with_reducible repeat (first | refine blk_drewN ?_ _ | refine blk_drew ?_ | refine blk_alloc ?_ _)); exact BK680.out⟩, ⟨ bz⟩⟩
                   · rw [if_neg c35] at H
                     exact absurd H (by simp)
                 · rw [if_neg c34] at H
                   have c34b0 : decide (x12_4 < (((rd_T68 l0 x11_3).f0).length : Int)) = false := decide_eq_false c34
                   clear c34
                   have H' := Aside0.mk H
                   clear H
                   have p685 : 0 ≤ (x11_3 : Int) := of_decide_eq_true az
                   have q685 : x11_3 < (l0.length : Int) := of_decide_eq_true az
                   obtain ⟨ad685, A685_0, c685_0, e685, hx685_0, hl685_0, hi685_0⟩ := at_T68 (Kd.V_reads' HO_0.out).2.2 x11_3 p685 q685
                   cases e685
                   obtain ⟨ce685, hce685, hMe685, hcc685⟩ := Kd.V_get HO_0.out z68 x11_3 p685 (by first | exact q685 | exact of_decide_eq_true az | (have e_ := (Kd.V_reads' HO_0.out).1; omega))
                   obtain ⟨ua685_0, uc685_0, rfl, ul685_0, ge685_0⟩ := k68_openF hMe685
                   have hv685_0 := hcc685 0 _ rfl
                   rw [Nat.add_zero, show (k68).sz = 1 from rfl, Nat.mul_one] at hv685_0
                   replace hv685_0 := Option.some.inj (hv685_0.symm.trans hx685_0)
                   injection hv685_0 with hva_ hvn_ hvc_
                   rw [hva_] at ge685_0
                   rw [hvc_] at ul685_0
                   have HL685_0 := Aside0.mk (show Kd.V k130 130 _ w.heap.size _ _ ((rd_T68 l0 x11_3).f0) from Kd.V_mk ul685_0 ge685_0)
                   clear hva_ hvn_ hvc_ ge685_0 ul685_0
                   clear hcc685 hce685
                   have HR685_0 := Aside0.mk hi685_0
                   have HC685_0 := Aside0.mk hl685_0
                   clear hi685_0 hl685_0
                   replace p685 := eq_true p685
                   replace q685 := eq_true q685
                   go_wp2
                   go_roundg k4
                   case measure => have := HJ3.out; have := HK2.out; have := HK3.out; have := HK4.out; omega
                   case rel => exact ⟨(wrap64 (x11_3 + 1)), (x680000_4), (x680001_4), sz_, H', ⟨by have := HJ3.out; have := HK2.out; have := HK3.out; have := HK4.out; omega⟩, ⟨by (with_reducible repeat (first | apply Kd.V_alloc | apply Kd.V_drewN | apply Kd.V_drew)); exact HO_0.out⟩, ⟨ kz⟩, ⟨ kz⟩, ⟨ bz⟩⟩
               · rw [if_neg c33] at H
                 exact absurd H (by simp)
             · rw [if_neg c32] at H
               exact absurd H (by simp)
         · rw [if_neg c31] at H
           have c31b0 : decide (x11_3 < (l0.length : Int)) = false := decide_eq_false c31
           clear c31
           have H' := Aside0.mk H
           clear H
           go_wp2
           go_roundg k3
           case measure => have := HJ3.out; have := HK2.out; have := HK3.out; omega
           case rel => exact ⟨(wrap64 (x10_2 + 1)), (x680000_3), (x680001_3), sz_, H', ⟨by have := HJ3.out; have := HK2.out; have := HK3.out; omega⟩, ⟨by (with_reducible repeat (first | apply Kd.V_alloc | apply Kd.V_drewN | apply Kd.V_drew)); exact HO_0.out⟩, ⟨ kz⟩, ⟨ kz⟩, ⟨ bz⟩⟩
     · rw [if_neg c30] at H
       have c30b0 : decide (x10_2 ≤ 2) = false := decide_eq_false c30
       clear c30
       simp only [Option.some.injEq, Prod.mk.injEq] at H
       obtain ⟨rfl, rfl⟩ := H
       have hnb52 := NB680_679.out
       have hnc52 := NB679_680.out
       have hcz53_0 : wr.cell? ⟨gb680, 0, none⟩ = some (.int .i64 (-1)) := (blk_cell BK680.out 0).trans rfl
       have hcz53_1 : wr.cell? ⟨gb680, 1, none⟩ = some (.int .i64 (-1)) := (blk_cell BK680.out 1).trans rfl
       have hfz53_0 := blk_frozen BK680.out 0
       have hfz53_1 := blk_frozen BK680.out 1
       have hcz54_0 : wr.cell? ⟨gb679, 0, none⟩ = some (.int .i64 x680000_2) := (blk_cell BK679.out 0).trans rfl
       have hcz54_1 : wr.cell? ⟨gb679, 1, none⟩ = some (.int .i64 x680001_2) := (blk_cell BK679.out 1).trans rfl
       have hfz54_0 := blk_frozen BK679.out 0
       have hfz54_1 := blk_frozen BK679.out 1
       go_wp2
       refine bodyPost_ret (results_cell_row rfl _ _ gb679 125 #[.int .i64 (-1), .int .i64 (-1)] (0, 0) _ rfl (by (with_reducible repeat (first | refine blk_drewN ?_ _ | refine blk_drew ?_ | refine blk_alloc ?_ _)); refine blk_put (cs := #[.int .i64 (-1), .int .i64 x680001_2]) ?_ 1 _ rfl; (with_reducible repeat (first | refine blk_drewN ?_ _ | refine blk_drew ?_ | refine blk_alloc ?_ _)); refine blk_put (cs := #[.int .i64 x680000_2, .int .i64 x680001_2]) ?_ 0 _ rfl; (with_reducible repeat (first | refine blk_drewN ?_ _ | refine blk_drew ?_ | refine blk_alloc ?_ _)); exact BK679.out) Try.underlying125 rfl (by kernel_rfl)) rfl ?_
       exact ⟨by first | rfl | (simp [errW_none, errW_some] <;> rfl) | (simp [*, errW_none, errW_some] <;> rfl), bz⟩

set_option linter.unusedVariables false
set_option linter.unusedSimpArgs false

def spec_l20Local.l0 : Nat → ByteArray → Int → List (S130) → Option (Bool)
 | 0, _, _, _ => none
 | k + 1, x1, x5, x851000 => if x5 < (x851000.length : Int) then (if 0 ≤ x5 then (if ((rd_T130 x851000 x5).f0).toList = x1.toList then (if ((rd_T130 x851000 x5).f2) = 3 then (some true) else (spec_l20Local.l0 k x1 (wrap64 (x5 + 1)) x851000)) else (spec_l20Local.l0 k x1 (wrap64 (x5 + 1)) x851000)) else (none)) else (some false)
def spec_l20Local.f (k : Nat) (l0_0 : List (S130)) (a1 : ByteArray) : Option (Bool) := spec_l20Local.l0 k a1 0 l0_0
set_option maxHeartbeats 8000000 in
set_option maxRecDepth 100000 in
theorem spec_l20Local.calls (k : Nat) (A0_0 : Option Addr) (c0_0 : Nat) (l0_0 : List (S130)) (a1 : ByteArray) (r : Bool) (w : World) (hr0_0 : Kd.C k130 w A0_0 l0_0.length l0_0) (hc0_0 : l0_0.length ≤ c0_0) (h : spec_l20Local.f k l0_0 a1 = some r) :
 Calls Try.prog 137 #[.agg #[.slice A0_0 l0_0.length c0_0], .string a1] w fun e w' => e = .returned (.bool r) ∧ Below w.heap.size w w' := by
 have hu68 := Try.underlying68
 have HR0_0 := Aside0.mk hr0_0
 have HC0_0 := Aside0.mk hc0_0
 clear hr0_0 hc0_0
 have HB := Aside0.mk (Below.refl w.heap.size w)
 have H : (spec_l20Local.l0 k a1 0 l0_0) = some r := h
 clear h
 have H' := Aside0.mk H
 clear H
 go_enter Try.func137, Try.ntmps137
 go_wp2_with (first | ((with_reducible refine gate_dst (N := 2) rfl ?_); refine box_event ?hg (N := 2) ?hd (cs := #[.slice A0_0 l0_0.length c0_0]) (t := 68) ?hr ?_; (case hd => rfl); (case hg => rfl); (case hr => first | (go_simp; done) | (go_simp; rfl)); intro gb850 hg w3 hbox hb; have n0_ := Aside0.mk (below_step bz hb); have n1_ := Aside0.mk (hbox); have n2_ := Aside0.mk ((by rw [hg]; exact (below_size bz) : w.heap.size ≤ gb850)); have n3_ := Aside0.mk ((by rw [hg]; exact (below_size bz) : w.heap.size ≤ gb850)); clear HB; have HB := n0_; have BK850 := n1_; have GW850 := n2_; have GE850 := n3_; clear n0_ n1_ n2_ n3_; clear hb hbox hg))
 go_loopg [5] k (fun kq v5 w' => ∃ (x5_1 : Int), v5 = .int .i64 x5_1 ∧ Aside0 (spec_l20Local.l0 kq a1 x5_1 l0_0 = some r) ∧ Aside0 (kq ≤ k) ∧ Aside0 (w'.heap[gb850]? = some (.cells #[(.slice A0_0 l0_0.length c0_0)] 68 (0, 0))) ∧ Aside0 (Below w.heap.size w w'))
 case atStart => exact ⟨(0), sz_, H', ⟨Nat.le_refl _⟩, ⟨ kz⟩, ⟨ bz⟩⟩
 case round =>
  clear H'
  try clear c1
  try clear p2
  obtain ⟨x5_1, rfl, HA, HK1, BK850, HB⟩ := hrel
  cases gk with
  | zero => exact absurd HA.out (by simp [spec_l20Local.l0])
  | succ k1 =>
   have H := HA.out
   clear HA
   simp only [spec_l20Local.l0] at H
   by_cases c4 : x5_1 < (l0_0.length : Int)
   · rw [if_pos c4] at H
     have c4b0 : decide (x5_1 < (l0_0.length : Int)) = true := decide_eq_true c4
     clear c4
     by_cases c5 : 0 ≤ x5_1
     · rw [if_pos c5] at H
       have c5b0 : decide (0 ≤ x5_1) = true := decide_eq_true c5
       clear c5
       by_cases c6 : ((rd_T130 l0_0 x5_1).f0).toList = a1.toList
       · rw [if_pos c6] at H
         have c6b0 : (((rd_T130 l0_0 x5_1).f0).toList == a1.toList) = true := beq_iff_eq.mpr c6
         have c6b1 : (((rd_T130 l0_0 x5_1).f0).toList != a1.toList) = false := bne_eq_false_iff_eq.mpr c6
         clear c6
         by_cases c7 : ((rd_T130 l0_0 x5_1).f2) = 3
         · rw [if_pos c7] at H
           have c7b0 : (((rd_T130 l0_0 x5_1).f2) == 3) = true := beq_iff_eq.mpr c7
           have c7b1 : (((rd_T130 l0_0 x5_1).f2) != 3) = false := bne_eq_false_iff_eq.mpr c7
           clear c7
           obtain rfl := Option.some.inj H
           have hcz8_0 : wr.cell? ⟨gb850, 0, none⟩ = some (.slice A0_0 l0_0.length c0_0) := (blk_cell BK850.out 0).trans rfl
           have hfz8_0 := blk_frozen BK850.out 0
           have p851 : 0 ≤ (x5_1 : Int) := of_decide_eq_true az
           have q851 : x5_1 < (l0_0.length : Int) := of_decide_eq_true az
           obtain ⟨ad851, A851_4, c851_4, A851_6, c851_6, A851_7, c851_7, e851, hx851_0, hx851_1, hx851_2, hx851_3, hx851_4, hx851_5, hx851_6, hx851_7, hl851_4, hi851_4, hl851_6, hi851_6, hl851_7, hi851_7⟩ := at_T130 HR0_0.out x5_1 p851 q851
           cases e851
           replace hx851_0 := ck HB hx851_0
           replace hx851_1 := ck HB hx851_1
           replace hx851_2 := ck HB hx851_2
           replace hx851_3 := ck HB hx851_3
           replace hx851_4 := ck HB hx851_4
           replace hx851_5 := ck HB hx851_5
           replace hx851_6 := ck HB hx851_6
           replace hx851_7 := ck HB hx851_7
           have HR851_4 := Aside0.mk hi851_4
           have HC851_4 := Aside0.mk hl851_4
           clear hi851_4 hl851_4
           have HR851_6 := Aside0.mk hi851_6
           have HC851_6 := Aside0.mk hl851_6
           clear hi851_6 hl851_6
           have HR851_7 := Aside0.mk hi851_7
           have HC851_7 := Aside0.mk hl851_7
           clear hi851_7 hl851_7
           replace p851 := eq_true p851
           replace q851 := eq_true q851
           have p852 : 0 ≤ (x5_1 : Int) := of_decide_eq_true az
           have q852 : x5_1 < (l0_0.length : Int) := of_decide_eq_true az
           obtain ⟨ad852, A852_4, c852_4, A852_6, c852_6, A852_7, c852_7, e852, hx852_0, hx852_1, hx852_2, hx852_3, hx852_4, hx852_5, hx852_6, hx852_7, hl852_4, hi852_4, hl852_6, hi852_6, hl852_7, hi852_7⟩ := at_T130 HR0_0.out x5_1 p852 q852
           obtain rfl : ad851 = ad852 := (by injection e852)
           replace hx852_0 := ck HB hx852_0
           replace hx852_1 := ck HB hx852_1
           replace hx852_2 := ck HB hx852_2
           replace hx852_3 := ck HB hx852_3
           replace hx852_4 := ck HB hx852_4
           replace hx852_5 := ck HB hx852_5
           replace hx852_6 := ck HB hx852_6
           replace hx852_7 := ck HB hx852_7
           have HR852_4 := Aside0.mk hi852_4
           have HC852_4 := Aside0.mk hl852_4
           clear hi852_4 hl852_4
           have HR852_6 := Aside0.mk hi852_6
           have HC852_6 := Aside0.mk hl852_6
           clear hi852_6 hl852_6
           have HR852_7 := Aside0.mk hi852_7
           have HC852_7 := Aside0.mk hl852_7
           clear hi852_7 hl852_7
           replace p852 := eq_true p852
           replace q852 := eq_true q852
           have ea_ := Option.some.inj (hx851_4.symm.trans hx852_4)
           injection ea_ with ea_ en_ ec_
           subst ea_
           subst ec_
           clear en_
           have ea_ := Option.some.inj (hx851_6.symm.trans hx852_6)
           injection ea_ with ea_ en_ ec_
           subst ea_
           subst ec_
           clear en_
           have ea_ := Option.some.inj (hx851_7.symm.trans hx852_7)
           injection ea_ with ea_ en_ ec_
           subst ea_
           subst ec_
           clear en_
           go_wp2
           go_ret
           exact ⟨by first | rfl | (simp [errW_none, errW_some] <;> rfl) | (simp [*, errW_none, errW_some] <;> rfl), bz⟩
         · rw [if_neg c7] at H
           have c7b0 : (((rd_T130 l0_0 x5_1).f2) == 3) = false := beq_eq_false_iff_ne.mpr c7
           have c7b1 : (((rd_T130 l0_0 x5_1).f2) != 3) = true := bne_iff_ne.mpr c7
           have H' := Aside0.mk H
           clear H
           have hcz9_0 : wr.cell? ⟨gb850, 0, none⟩ = some (.slice A0_0 l0_0.length c0_0) := (blk_cell BK850.out 0).trans rfl
           have hfz9_0 := blk_frozen BK850.out 0
           have p851 : 0 ≤ (x5_1 : Int) := of_decide_eq_true az
           have q851 : x5_1 < (l0_0.length : Int) := of_decide_eq_true az
           obtain ⟨ad851, A851_4, c851_4, A851_6, c851_6, A851_7, c851_7, e851, hx851_0, hx851_1, hx851_2, hx851_3, hx851_4, hx851_5, hx851_6, hx851_7, hl851_4, hi851_4, hl851_6, hi851_6, hl851_7, hi851_7⟩ := at_T130 HR0_0.out x5_1 p851 q851
           cases e851
           replace hx851_0 := ck HB hx851_0
           replace hx851_1 := ck HB hx851_1
           replace hx851_2 := ck HB hx851_2
           replace hx851_3 := ck HB hx851_3
           replace hx851_4 := ck HB hx851_4
           replace hx851_5 := ck HB hx851_5
           replace hx851_6 := ck HB hx851_6
           replace hx851_7 := ck HB hx851_7
           have HR851_4 := Aside0.mk hi851_4
           have HC851_4 := Aside0.mk hl851_4
           clear hi851_4 hl851_4
           have HR851_6 := Aside0.mk hi851_6
           have HC851_6 := Aside0.mk hl851_6
           clear hi851_6 hl851_6
           have HR851_7 := Aside0.mk hi851_7
           have HC851_7 := Aside0.mk hl851_7
           clear hi851_7 hl851_7
           replace p851 := eq_true p851
           replace q851 := eq_true q851
           have p852 : 0 ≤ (x5_1 : Int) := of_decide_eq_true az
           have q852 : x5_1 < (l0_0.length : Int) := of_decide_eq_true az
           obtain ⟨ad852, A852_4, c852_4, A852_6, c852_6, A852_7, c852_7, e852, hx852_0, hx852_1, hx852_2, hx852_3, hx852_4, hx852_5, hx852_6, hx852_7, hl852_4, hi852_4, hl852_6, hi852_6, hl852_7, hi852_7⟩ := at_T130 HR0_0.out x5_1 p852 q852
           obtain rfl : ad851 = ad852 := (by injection e852)
           replace hx852_0 := ck HB hx852_0
           replace hx852_1 := ck HB hx852_1
           replace hx852_2 := ck HB hx852_2
           replace hx852_3 := ck HB hx852_3
           replace hx852_4 := ck HB hx852_4
           replace hx852_5 := ck HB hx852_5
           replace hx852_6 := ck HB hx852_6
           replace hx852_7 := ck HB hx852_7
           have HR852_4 := Aside0.mk hi852_4
           have HC852_4 := Aside0.mk hl852_4
           clear hi852_4 hl852_4
           have HR852_6 := Aside0.mk hi852_6
           have HC852_6 := Aside0.mk hl852_6
           clear hi852_6 hl852_6
           have HR852_7 := Aside0.mk hi852_7
           have HC852_7 := Aside0.mk hl852_7
           clear hi852_7 hl852_7
           replace p852 := eq_true p852
           replace q852 := eq_true q852
           have ea_ := Option.some.inj (hx851_4.symm.trans hx852_4)
           injection ea_ with ea_ en_ ec_
           subst ea_
           subst ec_
           clear en_
           have ea_ := Option.some.inj (hx851_6.symm.trans hx852_6)
           injection ea_ with ea_ en_ ec_
           subst ea_
           subst ec_
           clear en_
           have ea_ := Option.some.inj (hx851_7.symm.trans hx852_7)
           injection ea_ with ea_ en_ ec_
           subst ea_
           subst ec_
           clear en_
           go_wp2
           go_roundg k1
           case measure => have := HK1.out; omega
           case rel => exact ⟨(wrap64 (x5_1 + 1)), sz_, H', ⟨by have := HK1.out; omega⟩, ⟨ kz⟩, ⟨ bz⟩⟩
       · rw [if_neg c6] at H
         have c6b0 : (((rd_T130 l0_0 x5_1).f0).toList == a1.toList) = false := beq_eq_false_iff_ne.mpr c6
         have c6b1 : (((rd_T130 l0_0 x5_1).f0).toList != a1.toList) = true := bne_iff_ne.mpr c6
         have H' := Aside0.mk H
         clear H
         have hcz10_0 : wr.cell? ⟨gb850, 0, none⟩ = some (.slice A0_0 l0_0.length c0_0) := (blk_cell BK850.out 0).trans rfl
         have hfz10_0 := blk_frozen BK850.out 0
         have p851 : 0 ≤ (x5_1 : Int) := of_decide_eq_true az
         have q851 : x5_1 < (l0_0.length : Int) := of_decide_eq_true az
         obtain ⟨ad851, A851_4, c851_4, A851_6, c851_6, A851_7, c851_7, e851, hx851_0, hx851_1, hx851_2, hx851_3, hx851_4, hx851_5, hx851_6, hx851_7, hl851_4, hi851_4, hl851_6, hi851_6, hl851_7, hi851_7⟩ := at_T130 HR0_0.out x5_1 p851 q851
         cases e851
         replace hx851_0 := ck HB hx851_0
         replace hx851_1 := ck HB hx851_1
         replace hx851_2 := ck HB hx851_2
         replace hx851_3 := ck HB hx851_3
         replace hx851_4 := ck HB hx851_4
         replace hx851_5 := ck HB hx851_5
         replace hx851_6 := ck HB hx851_6
         replace hx851_7 := ck HB hx851_7
         have HR851_4 := Aside0.mk hi851_4
         have HC851_4 := Aside0.mk hl851_4
         clear hi851_4 hl851_4
         have HR851_6 := Aside0.mk hi851_6
         have HC851_6 := Aside0.mk hl851_6
         clear hi851_6 hl851_6
         have HR851_7 := Aside0.mk hi851_7
         have HC851_7 := Aside0.mk hl851_7
         clear hi851_7 hl851_7
         replace p851 := eq_true p851
         replace q851 := eq_true q851
         go_wp2
         go_roundg k1
         case measure => have := HK1.out; omega
         case rel => exact ⟨(wrap64 (x5_1 + 1)), sz_, H', ⟨by have := HK1.out; omega⟩, ⟨ kz⟩, ⟨ bz⟩⟩
     · rw [if_neg c5] at H
       exact absurd H (by simp)
   · rw [if_neg c4] at H
     have c4b0 : decide (x5_1 < (l0_0.length : Int)) = false := decide_eq_false c4
     clear c4
     obtain rfl := Option.some.inj H
     have hcz11_0 : wr.cell? ⟨gb850, 0, none⟩ = some (.slice A0_0 l0_0.length c0_0) := (blk_cell BK850.out 0).trans rfl
     have hfz11_0 := blk_frozen BK850.out 0
     go_wp2
     go_ret
     exact ⟨by first | rfl | (simp [errW_none, errW_some] <;> rfl) | (simp [*, errW_none, errW_some] <;> rfl), bz⟩

set_option linter.unusedVariables false
set_option linter.unusedSimpArgs false

mutual
def spec_l20Wanted.l0 : Nat → List (S68) → List ByteArray → Int → Option (List ByteArray)
 | 0, _, _, _ => none
 | k + 1, x0, x5, x6 => if x6 < (x0.length : Int) then (spec_l20Wanted.l1 k x0 x5 x6 0) else (some x5)
def spec_l20Wanted.l1 : Nat → List (S68) → List ByteArray → Int → Int → Option (List ByteArray)
 | 0, _, _, _, _ => none
 | k + 1, x0, x5, x6, x7 => if 0 ≤ x6 then (if x6 < (x0.length : Int) then (if x7 < (((rd_T68 x0 x6).f0).length : Int) then (if 0 ≤ x7 then (if ((rd_T130 ((rd_T68 x0 x6).f0) x7).f2) = 0 then (if x5.length < 8796093022208 then (spec_l20Wanted.j2 k x0 (x5 ++ [(rd_T130 ((rd_T68 x0 x6).f0) x7).f0]) x6 x7 ((rd_T130 ((rd_T68 x0 x6).f0) x7).f0) ((rd_T130 ((rd_T68 x0 x6).f0) x7).f1) ((rd_T130 ((rd_T68 x0 x6).f0) x7).f2) ((rd_T130 ((rd_T68 x0 x6).f0) x7).f3) ((rd_T130 ((rd_T68 x0 x6).f0) x7).f4) ((rd_T130 ((rd_T68 x0 x6).f0) x7).f5) ((rd_T130 ((rd_T68 x0 x6).f0) x7).f6) ((rd_T130 ((rd_T68 x0 x6).f0) x7).f7)) else (none)) else (spec_l20Wanted.j2 k x0 x5 x6 x7 ((rd_T130 ((rd_T68 x0 x6).f0) x7).f0) ((rd_T130 ((rd_T68 x0 x6).f0) x7).f1) ((rd_T130 ((rd_T68 x0 x6).f0) x7).f2) ((rd_T130 ((rd_T68 x0 x6).f0) x7).f3) ((rd_T130 ((rd_T68 x0 x6).f0) x7).f4) ((rd_T130 ((rd_T68 x0 x6).f0) x7).f5) ((rd_T130 ((rd_T68 x0 x6).f0) x7).f6) ((rd_T130 ((rd_T68 x0 x6).f0) x7).f7))) else (none)) else (spec_l20Wanted.l0 k x0 x5 (wrap64 (x6 + 1)))) else (none)) else (none)
def spec_l20Wanted.j2 : Nat → List (S68) → List ByteArray → Int → Int → ByteArray → Int → Int → Int → List Int → Int → List Int → List (S132) → Option (List ByteArray)
 | 0, _, _, _, _, _, _, _, _, _, _, _, _ => none
 | k + 1, x0, x5, x6, x7, x860000, x860001, x860002, x860003, x860004, x860005, x860006, x860007 => spec_l20Wanted.l2 k x0 x5 x6 x7 0 x860000 x860001 x860002 x860003 x860004 x860005 x860006 x860007
def spec_l20Wanted.l2 : Nat → List (S68) → List ByteArray → Int → Int → Int → ByteArray → Int → Int → Int → List Int → Int → List Int → List (S132) → Option (List ByteArray)
 | 0, _, _, _, _, _, _, _, _, _, _, _, _, _ => none
 | k + 1, x0, x5, x6, x7, x9, x860000, x860001, x860002, x860003, x860004, x860005, x860006, x860007 => if x9 < (x860007.length : Int) then (if 0 ≤ x6 then (if x6 < (x0.length : Int) then (if 0 ≤ x9 then ((spec_l20Local.f k ((rd_T68 x0 x6).f0) ((rd_T132 x860007 x9).f2)).bind fun t865 => (if t865 = true then (spec_l20Wanted.l2 k x0 x5 x6 x7 (wrap64 (x9 + 1)) x860000 x860001 x860002 x860003 x860004 x860005 x860006 x860007) else (if x5.length < 8796093022208 then (spec_l20Wanted.l2 k x0 (x5 ++ [(rd_T132 x860007 x9).f2]) x6 x7 (wrap64 (x9 + 1)) x860000 x860001 x860002 x860003 x860004 x860005 x860006 x860007) else (none)))) else (none)) else (none)) else (none)) else (spec_l20Wanted.l1 k x0 x5 x6 (wrap64 (x7 + 1)))
end
def spec_l20Wanted.f (k : Nat) (l0 : List (S68)) (a1 : ByteArray) : Option (List ByteArray) := spec_l20Wanted.l0 k l0 (([a1] : List ByteArray)) 0
def spec_l20Wanted.T14 : Bool × List (List Nat × List Nat) := (true, [([], []), ([], []), ([0, 1], [0, 1]), ([2], [2]), ([], []), ([4], [4]), ([], []), ([5, 6], [5, 6]), ([7], [7]), ([8], [8]), ([3, 9], [3, 9])])
def spec_l20Wanted.B14 : List Nat := [0, 0, 3, 7, 0, 16, 0, 112, 240, 496, 1023]
theorem spec_l20Wanted.tab14 : rtab .any (opsOf Try.f90 14) = spec_l20Wanted.T14 := by kernel_rfl
theorem spec_l20Wanted.bits14 : waitsOk spec_l20Wanted.T14.2 spec_l20Wanted.B14 = true := by kernel_rfl
set_option maxHeartbeats 8000000 in
set_option maxRecDepth 100000 in
theorem spec_l20Wanted.calls (k : Nat) (A0 : Option Addr) (c0 : Nat) (l0 : List (S68)) (a1 : ByteArray) (r : List ByteArray) (w : World) (hr0 : Kd.C k68 w A0 l0.length l0) (hc0 : l0.length ≤ c0) (h : spec_l20Wanted.f k l0 a1 = some r) :
 Calls Try.prog 90 #[.slice A0 l0.length c0, .string a1] w fun e w' => ∃ v0_ : Value, e = .returned (v0_) ∧ Kd.R Kd.string 9 w' w.heap.size (fun _ => True) v0_ r ∧ Below w.heap.size w w' := by
 have hu130 := Try.underlying130
 have hu68 := Try.underlying68
 have HR0 := Aside0.mk hr0
 have HC0 := Aside0.mk hc0
 clear hr0 hc0
 have HB := Aside0.mk (Below.refl w.heap.size w)
 have H : (spec_l20Wanted.l0 k l0 (([a1] : List ByteArray)) 0) = some r := h
 clear h
 obtain ⟨y853, hy853⟩ : ∃ y_ : List ByteArray, y_ = (([a1] : List ByteArray)) := ⟨_, rfl⟩
 replace H : (spec_l20Wanted.l0 k l0 y853 0) = some r := by first | (rw [hy853]; with_reducible exact H) | (have H2_ := (Option.bind_some _ _).symm.trans H; rw [hy853]; with_reducible exact H2_) | (have H2_ := (Option.bind_some _ _).symm.trans H; with_reducible exact H2_) | with_reducible exact H | (rw [hy853]; exact H) | exact H
 have Ny853 := Aside0.mk hy853
 clear hy853
 have H' := Aside0.mk H
 clear H
 go_enter Try.func90, Try.ntmps90
 go_wp2_with (first | ((with_reducible refine gate_dst (N := 11) rfl ?_); refine Kd.R_lit Kd.string _ 9 ?hg (N := 11) ?hd (xs := ([a1] : List ByteArray)) (inner := [.string a1]) (ok := fun _ => True) (okp := fun _ => True) ?hr ?hp (fun _ hk => hk) trivial (Below.refl _ _) (Nat.le_refl _) (by simp) ?_; (case hd => rfl); (case hg => rfl); (case hr => first | (go_simp; done) | (go_simp; rfl)); (case hp => exact (Reps.one (show Kd.M Kd.string _ _ _ a1 [.string a1] from rfl) (Reps.none _ _))); intro v854 w3 ho4 hb hg_ hnew_; clear hg_ hnew_; (first | rw [← Ny853.out] at ho4 | (simp only [Int.reduceToNat] at ho4; rw [← Ny853.out] at ho4)); have n0_ := Aside0.mk (Kd.R_lower ho4 (below_size bz)); have n1_ := Aside0.mk (below_step bz hb); clear HB; have HO855 := n0_; have HB := n1_; clear n0_ n1_; clear hb ho4))
 go_loopg [5, 6] k (fun kq v5 v6 w' => ∃ (x5_1 : List ByteArray) (x6_1 : Int), v6 = .int .i64 x6_1 ∧ Aside0 (spec_l20Wanted.l0 kq l0 x5_1 x6_1 = some r) ∧ Aside0 (kq ≤ k) ∧ Aside0 (Kd.R Kd.string 9 w' w.heap.size (fun _ => True) v5 x5_1) ∧ Aside0 (Below w.heap.size w w'))
 case atStart => exact ⟨(y853), (0), sz_, H', ⟨Nat.le_refl _⟩, ⟨by (with_reducible repeat (first | apply Kd.R_alloc | apply Kd.R_drewN | apply Kd.R_drew)); exact HO855.out⟩, ⟨ bz⟩⟩
 case round =>
  clear H'
  try clear p2
  obtain ⟨x5_1, x6_1, rfl, HA, HK1, HO_5, HB⟩ := hrel
  cases gk with
  | zero => exact absurd HA.out (by simp [spec_l20Wanted.l0])
  | succ k1 =>
   have H := HA.out
   clear HA
   simp only [spec_l20Wanted.l0] at H
   by_cases c5 : x6_1 < (l0.length : Int)
   · rw [if_pos c5] at H
     have c5b0 : decide (x6_1 < (l0.length : Int)) = true := decide_eq_true c5
     clear c5
     have H' := Aside0.mk H
     clear H
     go_wp2
     go_loopg [5, 7] k1 (fun kq v5 v7 w' => ∃ (x5_2 : List ByteArray) (x7_2 : Int), v7 = .int .i64 x7_2 ∧ Aside0 (spec_l20Wanted.l1 kq l0 x5_2 x6_1 x7_2 = some r) ∧ Aside0 (kq ≤ k1) ∧ Aside0 (Kd.R Kd.string 9 w' w.heap.size (fun _ => True) v5 x5_2) ∧ Aside0 (Below w.heap.size w w'))
     case atStart => exact ⟨(x5_1), (0), sz_, H', ⟨Nat.le_refl _⟩, ⟨by (with_reducible repeat (first | apply Kd.R_alloc | apply Kd.R_drewN | apply Kd.R_drew)); exact HO_5.out⟩, ⟨ bz⟩⟩
     case round =>
      clear H'
      try clear p2
      try clear c5
      try clear c5b0
      try clear p2
      obtain ⟨x5_2, x7_2, rfl, HA, HK2, HO_5, HB⟩ := hrel
      cases gk with
      | zero => exact absurd HA.out (by simp [spec_l20Wanted.l1])
      | succ k2 =>
       have H := HA.out
       clear HA
       simp only [spec_l20Wanted.l1] at H
       by_cases c6 : 0 ≤ x6_1
       · rw [if_pos c6] at H
         have c6b0 : decide (0 ≤ x6_1) = true := decide_eq_true c6
         clear c6
         by_cases c7 : x6_1 < (l0.length : Int)
         · rw [if_pos c7] at H
           have c7b0 : decide (x6_1 < (l0.length : Int)) = true := decide_eq_true c7
           clear c7
           by_cases c8 : x7_2 < (((rd_T68 l0 x6_1).f0).length : Int)
           · rw [if_pos c8] at H
             have c8b0 : decide (x7_2 < (((rd_T68 l0 x6_1).f0).length : Int)) = true := decide_eq_true c8
             clear c8
             by_cases c9 : 0 ≤ x7_2
             · rw [if_pos c9] at H
               have c9b0 : decide (0 ≤ x7_2) = true := decide_eq_true c9
               clear c9
               have HC10 := Aside0.mk H
               clear H
               have p856 : 0 ≤ (x6_1 : Int) := of_decide_eq_true az
               have q856 : x6_1 < (l0.length : Int) := of_decide_eq_true az
               obtain ⟨ad856, A856_0, c856_0, e856, hx856_0, hl856_0, hi856_0⟩ := at_T68 HR0.out x6_1 p856 q856
               cases e856
               replace hx856_0 := ck HB hx856_0
               have HR856_0 := Aside0.mk hi856_0
               have HC856_0 := Aside0.mk hl856_0
               clear hi856_0 hl856_0
               replace p856 := eq_true p856
               replace q856 := eq_true q856
               have p857 : 0 ≤ (x6_1 : Int) := of_decide_eq_true az
               have q857 : x6_1 < (l0.length : Int) := of_decide_eq_true az
               obtain ⟨ad857, A857_0, c857_0, e857, hx857_0, hl857_0, hi857_0⟩ := at_T68 HR0.out x6_1 p857 q857
               obtain rfl : ad856 = ad857 := (by injection e857)
               replace hx857_0 := ck HB hx857_0
               have HR857_0 := Aside0.mk hi857_0
               have HC857_0 := Aside0.mk hl857_0
               clear hi857_0 hl857_0
               replace p857 := eq_true p857
               replace q857 := eq_true q857
               have ea_ := Option.some.inj (hx856_0.symm.trans hx857_0)
               injection ea_ with ea_ en_ ec_
               subst ea_
               subst ec_
               clear en_
               have p858 : 0 ≤ (x7_2 : Int) := of_decide_eq_true az
               have q858 : x7_2 < (((rd_T68 l0 x6_1).f0).length : Int) := of_decide_eq_true az
               obtain ⟨ad858, A858_4, c858_4, A858_6, c858_6, A858_7, c858_7, e858, hx858_0, hx858_1, hx858_2, hx858_3, hx858_4, hx858_5, hx858_6, hx858_7, hl858_4, hi858_4, hl858_6, hi858_6, hl858_7, hi858_7⟩ := at_T130 HR857_0.out x7_2 p858 q858
               cases e858
               replace hx858_0 := ck HB hx858_0
               replace hx858_1 := ck HB hx858_1
               replace hx858_2 := ck HB hx858_2
               replace hx858_3 := ck HB hx858_3
               replace hx858_4 := ck HB hx858_4
               replace hx858_5 := ck HB hx858_5
               replace hx858_6 := ck HB hx858_6
               replace hx858_7 := ck HB hx858_7
               have HR858_4 := Aside0.mk hi858_4
               have HC858_4 := Aside0.mk hl858_4
               clear hi858_4 hl858_4
               have HR858_6 := Aside0.mk hi858_6
               have HC858_6 := Aside0.mk hl858_6
               clear hi858_6 hl858_6
               have HR858_7 := Aside0.mk hi858_7
               have HC858_7 := Aside0.mk hl858_7
               clear hi858_7 hl858_7
               replace p858 := eq_true p858
               replace q858 := eq_true q858
               go_upto_if 38 with (first | ((with_reducible refine gate_dst (N := 8) rfl ?_); refine box_event ?hg (N := 8) ?hd (cs := #[.string (⟨#[]⟩ : ByteArray), .int .i64 0, .int .i64 0, .int .i64 0, .slice none 0 0, .int .i64 0, .slice none 0 0, .slice none 0 0]) (t := 130) ?hr ?_; (case hd => rfl); (case hg => rfl); (case hr => first | (go_simp; done) | (go_simp; rfl)); intro gb859 hg w11 hbox hb; have n0_ := Aside0.mk (Kd.R_below (rz HO_5.out) hb); have n1_ := Aside0.mk (below_step bz hb); have n2_ := Aside0.mk (hbox); have n3_ := Aside0.mk ((by rw [hg]; exact (below_size bz) : w.heap.size ≤ gb859)); have n4_ := Aside0.mk ((by rw [hg]; exact (below_size bz) : w.heap.size ≤ gb859)); clear HO_5; clear HB; have HO_5 := n0_; have HB := n1_; have BK859 := n2_; have GW859 := n3_; have GE859 := n4_; clear n0_ n1_ n2_ n3_ n4_; clear hb hbox hg; have hcz12_0 : w11.cell? ⟨gb859, 0, none⟩ = some (.string (⟨#[]⟩ : ByteArray)) := (blk_cell BK859.out 0).trans rfl; have hcz12_1 : w11.cell? ⟨gb859, 1, none⟩ = some (.int .i64 0) := (blk_cell BK859.out 1).trans rfl; have hcz12_2 : w11.cell? ⟨gb859, 2, none⟩ = some (.int .i64 0) := (blk_cell BK859.out 2).trans rfl; have hcz12_3 : w11.cell? ⟨gb859, 3, none⟩ = some (.int .i64 0) := (blk_cell BK859.out 3).trans rfl; have hcz12_4 : w11.cell? ⟨gb859, 4, none⟩ = some (.slice none 0 0) := (blk_cell BK859.out 4).trans rfl; have hcz12_5 : w11.cell? ⟨gb859, 5, none⟩ = some (.int .i64 0) := (blk_cell BK859.out 5).trans rfl; have hcz12_6 : w11.cell? ⟨gb859, 6, none⟩ = some (.slice none 0 0) := (blk_cell BK859.out 6).trans rfl; have hcz12_7 : w11.cell? ⟨gb859, 7, none⟩ = some (.slice none 0 0) := (blk_cell BK859.out 7).trans rfl; have hfz12_0 := blk_frozen BK859.out 0; have hfz12_1 := blk_frozen BK859.out 1; have hfz12_2 := blk_frozen BK859.out 2; have hfz12_3 := blk_frozen BK859.out 3; have hfz12_4 := blk_frozen BK859.out 4; have hfz12_5 := blk_frozen BK859.out 5; have hfz12_6 := blk_frozen BK859.out 6; have hfz12_7 := blk_frozen BK859.out 7))
               (try simp only [Act.put, sx1, sx2, sx3])
               go_cut [5] (fun v5 wc => ∃ (kq : Nat) (x5_9 : List ByteArray), Aside0 (spec_l20Wanted.j2 kq l0 x5_9 x6_1 x7_2 ((rd_T130 ((rd_T68 l0 x6_1).f0) x7_2).f0) ((rd_T130 ((rd_T68 l0 x6_1).f0) x7_2).f1) ((rd_T130 ((rd_T68 l0 x6_1).f0) x7_2).f2) ((rd_T130 ((rd_T68 l0 x6_1).f0) x7_2).f3) ((rd_T130 ((rd_T68 l0 x6_1).f0) x7_2).f4) ((rd_T130 ((rd_T68 l0 x6_1).f0) x7_2).f5) ((rd_T130 ((rd_T68 l0 x6_1).f0) x7_2).f6) ((rd_T130 ((rd_T68 l0 x6_1).f0) x7_2).f7) = some r) ∧ Aside0 (kq ≤ k2) ∧ Aside0 (Kd.R Kd.string 9 wc w.heap.size (fun _ => True) v5 x5_9) ∧ Aside0 (wc.heap[gb859]? = some (.cells #[.string ((rd_T130 ((rd_T68 l0 x6_1).f0) x7_2).f0), .int .i64 ((rd_T130 ((rd_T68 l0 x6_1).f0) x7_2).f1), .int .i64 ((rd_T130 ((rd_T68 l0 x6_1).f0) x7_2).f2), .int .i64 ((rd_T130 ((rd_T68 l0 x6_1).f0) x7_2).f3), (.slice A858_4 ((rd_T130 ((rd_T68 l0 x6_1).f0) x7_2).f4).length c858_4), .int .i64 ((rd_T130 ((rd_T68 l0 x6_1).f0) x7_2).f5), (.slice A858_6 ((rd_T130 ((rd_T68 l0 x6_1).f0) x7_2).f6).length c858_6), (.slice A858_7 ((rd_T130 ((rd_T68 l0 x6_1).f0) x7_2).f7).length c858_7)] 130 (0, 0))) ∧ Aside0 (Below w.heap.size w wc))
               case first =>
                have H := HC10.out
                clear HC10
                by_cases c13 : ((rd_T130 ((rd_T68 l0 x6_1).f0) x7_2).f2) = 0
                · rw [if_pos c13] at H
                  have c13b0 : (((rd_T130 ((rd_T68 l0 x6_1).f0) x7_2).f2) == 0) = true := beq_iff_eq.mpr c13
                  have c13b1 : (((rd_T130 ((rd_T68 l0 x6_1).f0) x7_2).f2) != 0) = false := bne_eq_false_iff_eq.mpr c13
                  clear c13
                  (first | rw [c13b0] | (simp only [i64_w, i32_w]; rw [c13b0]) | skip)
                  by_cases c14 : x5_2.length < 8796093022208
                  · rw [if_pos c14] at H
                    have LMc14 := Aside0.mk c14
                    clear c14
                    obtain ⟨y860, hy860⟩ : ∃ y_ : List ByteArray, y_ = (x5_2 ++ [(rd_T130 ((rd_T68 l0 x6_1).f0) x7_2).f0]) := ⟨_, rfl⟩
                    replace H : (spec_l20Wanted.j2 k2 l0 y860 x6_1 x7_2 ((rd_T130 ((rd_T68 l0 x6_1).f0) x7_2).f0) ((rd_T130 ((rd_T68 l0 x6_1).f0) x7_2).f1) ((rd_T130 ((rd_T68 l0 x6_1).f0) x7_2).f2) ((rd_T130 ((rd_T68 l0 x6_1).f0) x7_2).f3) ((rd_T130 ((rd_T68 l0 x6_1).f0) x7_2).f4) ((rd_T130 ((rd_T68 l0 x6_1).f0) x7_2).f5) ((rd_T130 ((rd_T68 l0 x6_1).f0) x7_2).f6) ((rd_T130 ((rd_T68 l0 x6_1).f0) x7_2).f7)) = some r := by first | (rw [hy860]; with_reducible exact H) | (have H2_ := (Option.bind_some _ _).symm.trans H; rw [hy860]; with_reducible exact H2_) | (have H2_ := (Option.bind_some _ _).symm.trans H; with_reducible exact H2_) | with_reducible exact H | (rw [hy860]; exact H) | exact H
                    have Ny860 := Aside0.mk hy860
                    clear hy860
                    have H' := Aside0.mk H
                    clear H
                    have hcz15_0 : w11.cell? ⟨gb859, 0, none⟩ = some (.string (⟨#[]⟩ : ByteArray)) := (blk_cell BK859.out 0).trans rfl
                    have hcz15_1 : w11.cell? ⟨gb859, 1, none⟩ = some (.int .i64 0) := (blk_cell BK859.out 1).trans rfl
                    have hcz15_2 : w11.cell? ⟨gb859, 2, none⟩ = some (.int .i64 0) := (blk_cell BK859.out 2).trans rfl
                    have hcz15_3 : w11.cell? ⟨gb859, 3, none⟩ = some (.int .i64 0) := (blk_cell BK859.out 3).trans rfl
                    have hcz15_4 : w11.cell? ⟨gb859, 4, none⟩ = some (.slice none 0 0) := (blk_cell BK859.out 4).trans rfl
                    have hcz15_5 : w11.cell? ⟨gb859, 5, none⟩ = some (.int .i64 0) := (blk_cell BK859.out 5).trans rfl
                    have hcz15_6 : w11.cell? ⟨gb859, 6, none⟩ = some (.slice none 0 0) := (blk_cell BK859.out 6).trans rfl
                    have hcz15_7 : w11.cell? ⟨gb859, 7, none⟩ = some (.slice none 0 0) := (blk_cell BK859.out 7).trans rfl
                    have hfz15_0 := blk_frozen BK859.out 0
                    have hfz15_1 := blk_frozen BK859.out 1
                    have hfz15_2 := blk_frozen BK859.out 2
                    have hfz15_3 := blk_frozen BK859.out 3
                    have hfz15_4 := blk_frozen BK859.out 4
                    have hfz15_5 := blk_frozen BK859.out 5
                    have hfz15_6 := blk_frozen BK859.out 6
                    have hfz15_7 := blk_frozen BK859.out 7
                    go_wp2_with (first | ((with_reducible refine gate_builtin (b := .append) (xs := #[.tmp 39, .tmp 42]) rfl ?_); at_builtin; refine Kd.R_append Kd.string (w0 := w) w.heap.size rfl (.tmp 39) (.tmp 42) 138 9 (.string ⟨#[]⟩) 16 rfl Try.underlying138 info9 rfl (by decide) (by omega) u5 x5_2 ((rd_T130 ((rd_T68 l0 x6_1).f0) x7_2).f0) [.string ((rd_T130 ((rd_T68 l0 x6_1).f0) x7_2).f0)] (fun _ => True) (fun _ => False) rfl (by first | (go_simp; done) | (go_simp; rfl)) ?aP (fun _ hk => hk.elim) ?aF ?aO ?aB ?aS ?aL ?_; (case aP => exact rfl); (case aB => exact bz); (case aF => exact (fun _ _ => trivial)); (case aO => exact (by (with_reducible repeat (first | apply Kd.R_alloc | apply Kd.R_drewN | apply Kd.R_drew)); exact Kd.R_mono (Kd.R_far (p := ⟨gb859, 7, none⟩) (Kd.R_far (p := ⟨gb859, 6, none⟩) (Kd.R_far (p := ⟨gb859, 5, none⟩) (Kd.R_far (p := ⟨gb859, 4, none⟩) (Kd.R_far (p := ⟨gb859, 3, none⟩) (Kd.R_far (p := ⟨gb859, 2, none⟩) (Kd.R_far (p := ⟨gb859, 1, none⟩) (Kd.R_far (p := ⟨gb859, 0, none⟩) (Kd.R_types HO_5.out BK859.out (by decide)) (fun _ hk => hk.2) (.string ((rd_T130 ((rd_T68 l0 x6_1).f0) x7_2).f0))) (fun _ hk => hk.2) (.int .i64 ((rd_T130 ((rd_T68 l0 x6_1).f0) x7_2).f1))) (fun _ hk => hk.2) (.int .i64 ((rd_T130 ((rd_T68 l0 x6_1).f0) x7_2).f2))) (fun _ hk => hk.2) (.int .i64 ((rd_T130 ((rd_T68 l0 x6_1).f0) x7_2).f3))) (fun _ hk => hk.2) (.slice A858_4 ((rd_T130 ((rd_T68 l0 x6_1).f0) x7_2).f4).length c858_4)) (fun _ hk => hk.2) (.int .i64 ((rd_T130 ((rd_T68 l0 x6_1).f0) x7_2).f5))) (fun _ hk => hk.2) (.slice A858_6 ((rd_T130 ((rd_T68 l0 x6_1).f0) x7_2).f6).length c858_6)) (fun _ hk => hk.2) (.slice A858_7 ((rd_T130 ((rd_T68 l0 x6_1).f0) x7_2).f7).length c858_7)) (fun _ hk => trivial))); (case aS => exact (below_size bz)); (case aL => have := LMc14.out; omega); intro v861 w16 ho hb hg hat; rw [← Ny860.out] at ho; have n0_ := Aside0.mk (blk_grown (g := gb859) (o := .cells #[.string ((rd_T130 ((rd_T68 l0 x6_1).f0) x7_2).f0), .int .i64 ((rd_T130 ((rd_T68 l0 x6_1).f0) x7_2).f1), .int .i64 ((rd_T130 ((rd_T68 l0 x6_1).f0) x7_2).f2), .int .i64 ((rd_T130 ((rd_T68 l0 x6_1).f0) x7_2).f3), .slice A858_4 ((rd_T130 ((rd_T68 l0 x6_1).f0) x7_2).f4).length c858_4, .int .i64 ((rd_T130 ((rd_T68 l0 x6_1).f0) x7_2).f5), .slice A858_6 ((rd_T130 ((rd_T68 l0 x6_1).f0) x7_2).f6).length c858_6, .slice A858_7 ((rd_T130 ((rd_T68 l0 x6_1).f0) x7_2).f7).length c858_7] 130 (0, 0)) (by (with_reducible repeat (first | refine blk_drewN ?_ _ | refine blk_drew ?_ | refine blk_alloc ?_ _)); refine blk_put (cs := #[.string ((rd_T130 ((rd_T68 l0 x6_1).f0) x7_2).f0), .int .i64 ((rd_T130 ((rd_T68 l0 x6_1).f0) x7_2).f1), .int .i64 ((rd_T130 ((rd_T68 l0 x6_1).f0) x7_2).f2), .int .i64 ((rd_T130 ((rd_T68 l0 x6_1).f0) x7_2).f3), .slice A858_4 ((rd_T130 ((rd_T68 l0 x6_1).f0) x7_2).f4).length c858_4, .int .i64 ((rd_T130 ((rd_T68 l0 x6_1).f0) x7_2).f5), .slice A858_6 ((rd_T130 ((rd_T68 l0 x6_1).f0) x7_2).f6).length c858_6, .slice none 0 0]) ?_ 7 _ rfl; (with_reducible repeat (first | refine blk_drewN ?_ _ | refine blk_drew ?_ | refine blk_alloc ?_ _)); refine blk_put (cs := #[.string ((rd_T130 ((rd_T68 l0 x6_1).f0) x7_2).f0), .int .i64 ((rd_T130 ((rd_T68 l0 x6_1).f0) x7_2).f1), .int .i64 ((rd_T130 ((rd_T68 l0 x6_1).f0) x7_2).f2), .int .i64 ((rd_T130 ((rd_T68 l0 x6_1).f0) x7_2).f3), .slice A858_4 ((rd_T130 ((rd_T68 l0 x6_1).f0) x7_2).f4).length c858_4, .int .i64 ((rd_T130 ((rd_T68 l0 x6_1).f0) x7_2).f5), .slice none 0 0, .slice none 0 0]) ?_ 6 _ rfl; (with_reducible repeat (first | refine blk_drewN ?_ _ | refine blk_drew ?_ | refine blk_alloc ?_ _)); refine blk_put (cs := #[.string ((rd_T130 ((rd_T68 l0 x6_1).f0) x7_2).f0), .int .i64 ((rd_T130 ((rd_T68 l0 x6_1).f0) x7_2).f1), .int .i64 ((rd_T130 ((rd_T68 l0 x6_1).f0) x7_2).f2), .int .i64 ((rd_T130 ((rd_T68 l0 x6_1).f0) x7_2).f3), .slice A858_4 ((rd_T130 ((rd_T68 l0 x6_1).f0) x7_2).f4).length c858_4, .int .i64 0, .slice none 0 0, .slice none 0 0]) ?_ 5 _ rfl; (with_reducible repeat (first | refine blk_drewN ?_ _ | refine blk_drew ?_ | refine blk_alloc ?_ _)); refine blk_put (cs := #[.string ((rd_T130 ((rd_T68 l0 x6_1).f0) x7_2).f0), .int .i64 ((rd_T130 ((rd_T68 l0 x6_1).f0) x7_2).f1), .int .i64 ((rd_T130 ((rd_T68 l0 x6_1).f0) x7_2).f2), .int .i64 ((rd_T130 ((rd_T68 l0 x6_1).f0) x7_2).f3), .slice none 0 0, .int .i64 0, .slice none 0 0, .slice none 0 0]) ?_ 4 _ rfl; (with_reducible repeat (first | refine blk_drewN ?_ _ | refine blk_drew ?_ | refine blk_alloc ?_ _)); refine blk_put (cs := #[.string ((rd_T130 ((rd_T68 l0 x6_1).f0) x7_2).f0), .int .i64 ((rd_T130 ((rd_T68 l0 x6_1).f0) x7_2).f1), .int .i64 ((rd_T130 ((rd_T68 l0 x6_1).f0) x7_2).f2), .int .i64 0, .slice none 0 0, .int .i64 0, .slice none 0 0, .slice none 0 0]) ?_ 3 _ rfl; (with_reducible repeat (first | refine blk_drewN ?_ _ | refine blk_drew ?_ | refine blk_alloc ?_ _)); refine blk_put (cs := #[.string ((rd_T130 ((rd_T68 l0 x6_1).f0) x7_2).f0), .int .i64 ((rd_T130 ((rd_T68 l0 x6_1).f0) x7_2).f1), .int .i64 0, .int .i64 0, .slice none 0 0, .int .i64 0, .slice none 0 0, .slice none 0 0]) ?_ 2 _ rfl; (with_reducible repeat (first | refine blk_drewN ?_ _ | refine blk_drew ?_ | refine blk_alloc ?_ _)); refine blk_put (cs := #[.string ((rd_T130 ((rd_T68 l0 x6_1).f0) x7_2).f0), .int .i64 0, .int .i64 0, .int .i64 0, .slice none 0 0, .int .i64 0, .slice none 0 0, .slice none 0 0]) ?_ 1 _ rfl; (with_reducible repeat (first | refine blk_drewN ?_ _ | refine blk_drew ?_ | refine blk_alloc ?_ _)); refine blk_put (cs := #[.string (⟨#[]⟩ : ByteArray), .int .i64 0, .int .i64 0, .int .i64 0, .slice none 0 0, .int .i64 0, .slice none 0 0, .slice none 0 0]) ?_ 0 _ rfl; (with_reducible repeat (first | refine blk_drewN ?_ _ | refine blk_drew ?_ | refine blk_alloc ?_ _)); exact BK859.out) hg (Kd.R_ne HO_5.out BK859.out (by decide))); have n1_ := Aside0.mk (hb); have n2_ := Aside0.mk (ho); clear BK859; clear HB; clear HO_5; have BK859 := n0_; have HB := n1_; have HO862 := n2_; clear n0_ n1_ n2_; clear ho hb hg hat))
                    go_meet
                    case rel => exact ⟨_, (y860), H', ⟨by have := HK1.out; have := HK2.out; first | omega | exact Nat.le_refl _⟩, ⟨by (with_reducible repeat (first | apply Kd.R_alloc | apply Kd.R_drewN | apply Kd.R_drew)); exact HO862.out⟩, ⟨ kz⟩, ⟨ bz⟩⟩
                  · rw [if_neg c14] at H
                    exact absurd H (by simp)
                · rw [if_neg c13] at H
                  have c13b0 : (((rd_T130 ((rd_T68 l0 x6_1).f0) x7_2).f2) == 0) = false := beq_eq_false_iff_ne.mpr c13
                  have c13b1 : (((rd_T130 ((rd_T68 l0 x6_1).f0) x7_2).f2) != 0) = true := bne_iff_ne.mpr c13
                  (first | rw [c13b0] | (simp only [i64_w, i32_w]; rw [c13b0]) | skip)
                  have H' := Aside0.mk H
                  clear H
                  go_wp2
                  go_meet
                  case rel => exact ⟨_, (x5_2), H', ⟨by have := HK1.out; have := HK2.out; first | omega | exact Nat.le_refl _⟩, ⟨by (with_reducible repeat (first | apply Kd.R_alloc | apply Kd.R_drewN | apply Kd.R_drew)); exact Kd.R_mono (Kd.R_far (p := ⟨gb859, 7, none⟩) (Kd.R_far (p := ⟨gb859, 6, none⟩) (Kd.R_far (p := ⟨gb859, 5, none⟩) (Kd.R_far (p := ⟨gb859, 4, none⟩) (Kd.R_far (p := ⟨gb859, 3, none⟩) (Kd.R_far (p := ⟨gb859, 2, none⟩) (Kd.R_far (p := ⟨gb859, 1, none⟩) (Kd.R_far (p := ⟨gb859, 0, none⟩) (Kd.R_types HO_5.out BK859.out (by decide)) (fun _ hk => hk.2) (.string ((rd_T130 ((rd_T68 l0 x6_1).f0) x7_2).f0))) (fun _ hk => hk.2) (.int .i64 ((rd_T130 ((rd_T68 l0 x6_1).f0) x7_2).f1))) (fun _ hk => hk.2) (.int .i64 ((rd_T130 ((rd_T68 l0 x6_1).f0) x7_2).f2))) (fun _ hk => hk.2) (.int .i64 ((rd_T130 ((rd_T68 l0 x6_1).f0) x7_2).f3))) (fun _ hk => hk.2) (.slice A858_4 ((rd_T130 ((rd_T68 l0 x6_1).f0) x7_2).f4).length c858_4)) (fun _ hk => hk.2) (.int .i64 ((rd_T130 ((rd_T68 l0 x6_1).f0) x7_2).f5))) (fun _ hk => hk.2) (.slice A858_6 ((rd_T130 ((rd_T68 l0 x6_1).f0) x7_2).f6).length c858_6)) (fun _ hk => hk.2) (.slice A858_7 ((rd_T130 ((rd_T68 l0 x6_1).f0) x7_2).f7).length c858_7)) (fun _ hk => trivial)⟩, ⟨by (with_reducible repeat (first | refine blk_drewN ?_ _ | refine blk_drew ?_ | refine blk_alloc ?_ _)); refine blk_put (cs := #[.string ((rd_T130 ((rd_T68 l0 x6_1).f0) x7_2).f0), .int .i64 ((rd_T130 ((rd_T68 l0 x6_1).f0) x7_2).f1), .int .i64 ((rd_T130 ((rd_T68 l0 x6_1).f0) x7_2).f2), .int .i64 ((rd_T130 ((rd_T68 l0 x6_1).f0) x7_2).f3), .slice A858_4 ((rd_T130 ((rd_T68 l0 x6_1).f0) x7_2).f4).length c858_4, .int .i64 ((rd_T130 ((rd_T68 l0 x6_1).f0) x7_2).f5), .slice A858_6 ((rd_T130 ((rd_T68 l0 x6_1).f0) x7_2).f6).length c858_6, .slice none 0 0]) ?_ 7 _ rfl; (with_reducible repeat (first | refine blk_drewN ?_ _ | refine blk_drew ?_ | refine blk_alloc ?_ _)); refine blk_put (cs := #[.string ((rd_T130 ((rd_T68 l0 x6_1).f0) x7_2).f0), .int .i64 ((rd_T130 ((rd_T68 l0 x6_1).f0) x7_2).f1), .int .i64 ((rd_T130 ((rd_T68 l0 x6_1).f0) x7_2).f2), .int .i64 ((rd_T130 ((rd_T68 l0 x6_1).f0) x7_2).f3), .slice A858_4 ((rd_T130 ((rd_T68 l0 x6_1).f0) x7_2).f4).length c858_4, .int .i64 ((rd_T130 ((rd_T68 l0 x6_1).f0) x7_2).f5), .slice none 0 0, .slice none 0 0]) ?_ 6 _ rfl; (with_reducible repeat (first | refine blk_drewN ?_ _ | refine blk_drew ?_ | refine blk_alloc ?_ _)); refine blk_put (cs := #[.string ((rd_T130 ((rd_T68 l0 x6_1).f0) x7_2).f0), .int .i64 ((rd_T130 ((rd_T68 l0 x6_1).f0) x7_2).f1), .int .i64 ((rd_T130 ((rd_T68 l0 x6_1).f0) x7_2).f2), .int .i64 ((rd_T130 ((rd_T68 l0 x6_1).f0) x7_2).f3), .slice A858_4 ((rd_T130 ((rd_T68 l0 x6_1).f0) x7_2).f4).length c858_4, .int .i64 0, .slice none 0 0, .slice none 0 0]) ?_ 5 _ rfl; (with_reducible repeat (first | refine blk_drewN ?_ _ | refine blk_drew ?_ | refine blk_alloc ?_ _)); refine blk_put (cs := #[.string ((rd_T130 ((rd_T68 l0 x6_1).f0) x7_2).f0), .int .i64 ((rd_T130 ((rd_T68 l0 x6_1).f0) x7_2).f1), .int .i64 ((rd_T130 ((rd_T68 l0 x6_1).f0) x7_2).f2), .int .i64 ((rd_T130 ((rd_T68 l0 x6_1).f0) x7_2).f3), .slice none 0 0, .int .i64 0, .slice none 0 0, .slice none 0 0]) ?_ 4 _ rfl; (with_reducible repeat (first | refine blk_drewN ?_ _ | refine blk_drew ?_ | refine blk_alloc ?_ _)); refine blk_put (cs := #[.string ((rd_T130 ((rd_T68 l0 x6_1).f0) x7_2).f0), .int .i64 ((rd_T130 ((rd_T68 l0 x6_1).f0) x7_2).f1), .int .i64 ((rd_T130 ((rd_T68 l0 x6_1).f0) x7_2).f2), .int .i64 0, .slice none 0 0, .int .i64 0, .slice none 0 0, .slice none 0 0]) ?_ 3 _ rfl; (with_reducible repeat (first | refine blk_drewN ?_ _ | refine blk_drew ?_ | refine blk_alloc ?_ _)); refine blk_put (cs := #[.string ((rd_T130 ((rd_T68 l0 x6_1).f0) x7_2).f0), .int .i64 ((rd_T130 ((rd_T68 l0 x6_1).f0) x7_2).f1), .int .i64 0, .int .i64 0, .slice none 0 0, .int .i64 0, .slice none 0 0, .slice none 0 0]) ?_ 2 _ rfl; (with_reducible repeat (first | refine blk_drewN ?_ _ | refine blk_drew ?_ | refine blk_alloc ?_ _)); refine blk_put (cs := #[.string ((rd_T130 ((rd_T68 l0 x6_1).f0) x7_2).f0), .int .i64 0, .int .i64 0, .int .i64 0, .slice none 0 0, .int .i64 0, .slice none 0 0, .slice none 0 0]) ?_ 1 _ rfl; (with_reducible repeat (first | refine blk_drewN ?_ _ | refine blk_drew ?_ | refine blk_alloc ?_ _)); refine blk_put (cs := #[.string (⟨#[]⟩ : ByteArray), .int .i64 0, .int .i64 0, .int .i64 0, .slice none 0 0, .int .i64 0, .slice none 0 0, .slice none 0 0]) ?_ 0 _ rfl; (with_reducible repeat (first | refine blk_drewN ?_ _ | refine blk_drew ?_ | refine blk_alloc ?_ _)); exact BK859.out⟩, ⟨ bz⟩⟩
               case rest =>
                clear HC10
                try clear c1
                try clear p2
                try clear c5
                try clear c5b0
                try clear c6
                try clear c6b0
                try clear c7
                try clear c7b0
                try clear c8
                try clear c8b0
                try clear p8
                try clear q8
                try clear hx8
                try clear c9
                try clear c9b0
                try clear c13
                try clear c13b0
                try clear c13b1
                try clear c14
                try clear hcz12_0
                try clear hcz12_1
                try clear hcz12_2
                try clear hcz12_3
                try clear hcz12_4
                try clear hcz12_5
                try clear hcz12_6
                try clear hcz12_7
                try clear hcz15_0
                try clear hcz15_1
                try clear hcz15_2
                try clear hcz15_3
                try clear hcz15_4
                try clear hcz15_5
                try clear hcz15_6
                try clear hcz15_7
                try clear hfz12_0
                try clear hfz12_1
                try clear hfz12_2
                try clear hfz12_3
                try clear hfz12_4
                try clear hfz12_5
                try clear hfz12_6
                try clear hfz12_7
                try clear hfz15_0
                try clear hfz15_1
                try clear hfz15_2
                try clear hfz15_3
                try clear hfz15_4
                try clear hfz15_5
                try clear hfz15_6
                try clear hfz15_7
                try clear hx856_0
                try clear hx857_0
                try clear hx858_0
                try clear hx858_1
                try clear hx858_2
                try clear hx858_3
                try clear hx858_4
                try clear hx858_5
                try clear hx858_6
                try clear hx858_7
                try clear p2
                try clear p856
                try clear p857
                try clear p858
                try clear q856
                try clear q857
                try clear q858
                obtain ⟨kq, x5_9, HA, HJ9, HO_5, BK859, HB⟩ := hcut
                cases kq with
                | zero => exact absurd HA.out (by simp [spec_l20Wanted.j2])
                | succ kj9 =>
                 have H := HA.out
                 clear HA
                 simp only [spec_l20Wanted.j2] at H
                 have H' := Aside0.mk H
                 clear H
                 go_wp2
                 go_loopg [5, 9] kj9 (fun kq v5 v9 w' => ∃ (x5_4 : List ByteArray) (x9_4 : Int), v9 = .int .i64 x9_4 ∧ Aside0 (spec_l20Wanted.l2 kq l0 x5_4 x6_1 x7_2 x9_4 ((rd_T130 ((rd_T68 l0 x6_1).f0) x7_2).f0) ((rd_T130 ((rd_T68 l0 x6_1).f0) x7_2).f1) ((rd_T130 ((rd_T68 l0 x6_1).f0) x7_2).f2) ((rd_T130 ((rd_T68 l0 x6_1).f0) x7_2).f3) ((rd_T130 ((rd_T68 l0 x6_1).f0) x7_2).f4) ((rd_T130 ((rd_T68 l0 x6_1).f0) x7_2).f5) ((rd_T130 ((rd_T68 l0 x6_1).f0) x7_2).f6) ((rd_T130 ((rd_T68 l0 x6_1).f0) x7_2).f7) = some r) ∧ Aside0 (kq ≤ kj9) ∧ Aside0 (Kd.R Kd.string 9 w' w.heap.size (fun _ => True) v5 x5_4) ∧ Aside0 (w'.heap[gb859]? = some (.cells #[.string ((rd_T130 ((rd_T68 l0 x6_1).f0) x7_2).f0), .int .i64 ((rd_T130 ((rd_T68 l0 x6_1).f0) x7_2).f1), .int .i64 ((rd_T130 ((rd_T68 l0 x6_1).f0) x7_2).f2), .int .i64 ((rd_T130 ((rd_T68 l0 x6_1).f0) x7_2).f3), (.slice A858_4 ((rd_T130 ((rd_T68 l0 x6_1).f0) x7_2).f4).length c858_4), .int .i64 ((rd_T130 ((rd_T68 l0 x6_1).f0) x7_2).f5), (.slice A858_6 ((rd_T130 ((rd_T68 l0 x6_1).f0) x7_2).f6).length c858_6), (.slice A858_7 ((rd_T130 ((rd_T68 l0 x6_1).f0) x7_2).f7).length c858_7)] 130 (0, 0))) ∧ Aside0 (Below w.heap.size w w'))
                 case atStart => exact ⟨(x5_9), (0), sz_, H', ⟨Nat.le_refl _⟩, ⟨by (with_reducible repeat (first | apply Kd.R_alloc | apply Kd.R_drewN | apply Kd.R_drew)); exact HO_5.out⟩, ⟨ kz⟩, ⟨ bz⟩⟩
                 case round =>
                  clear H'
                  try clear c1
                  try clear p2
                  try clear c5
                  try clear c5b0
                  try clear c6
                  try clear c6b0
                  try clear c7
                  try clear c7b0
                  try clear c8
                  try clear c8b0
                  try clear p8
                  try clear q8
                  try clear hx8
                  try clear c9
                  try clear c9b0
                  try clear c13
                  try clear c13b0
                  try clear c13b1
                  try clear c14
                  try clear hcz12_0
                  try clear hcz12_1
                  try clear hcz12_2
                  try clear hcz12_3
                  try clear hcz12_4
                  try clear hcz12_5
                  try clear hcz12_6
                  try clear hcz12_7
                  try clear hcz15_0
                  try clear hcz15_1
                  try clear hcz15_2
                  try clear hcz15_3
                  try clear hcz15_4
                  try clear hcz15_5
                  try clear hcz15_6
                  try clear hcz15_7
                  try clear hfz12_0
                  try clear hfz12_1
                  try clear hfz12_2
                  try clear hfz12_3
                  try clear hfz12_4
                  try clear hfz12_5
                  try clear hfz12_6
                  try clear hfz12_7
                  try clear hfz15_0
                  try clear hfz15_1
                  try clear hfz15_2
                  try clear hfz15_3
                  try clear hfz15_4
                  try clear hfz15_5
                  try clear hfz15_6
                  try clear hfz15_7
                  try clear hx856_0
                  try clear hx857_0
                  try clear hx858_0
                  try clear hx858_1
                  try clear hx858_2
                  try clear hx858_3
                  try clear hx858_4
                  try clear hx858_5
                  try clear hx858_6
                  try clear hx858_7
                  try clear p2
                  try clear p8
                  try clear p856
                  try clear p857
                  try clear p858
                  try clear q8
                  try clear q856
                  try clear q857
                  try clear q858
                  obtain ⟨x5_4, x9_4, rfl, HA, HK4, HO_5, BK859, HB⟩ := hrel
                  cases gk with
                  | zero => exact absurd HA.out (by simp [spec_l20Wanted.l2])
                  | succ k4 =>
                   have H := HA.out
                   clear HA
                   simp only [spec_l20Wanted.l2] at H
                   by_cases c17 : x9_4 < (((rd_T130 ((rd_T68 l0 x6_1).f0) x7_2).f7).length : Int)
                   · rw [if_pos c17] at H
                     have c17b0 : decide (x9_4 < (((rd_T130 ((rd_T68 l0 x6_1).f0) x7_2).f7).length : Int)) = true := decide_eq_true c17
                     clear c17
                     by_cases c18 : 0 ≤ x6_1
                     · rw [if_pos c18] at H
                       have c18b0 : decide (0 ≤ x6_1) = true := decide_eq_true c18
                       clear c18
                       by_cases c19 : x6_1 < (l0.length : Int)
                       · rw [if_pos c19] at H
                         have c19b0 : decide (x6_1 < (l0.length : Int)) = true := decide_eq_true c19
                         clear c19
                         by_cases c20 : 0 ≤ x9_4
                         · rw [if_pos c20] at H
                           have c20b0 : decide (0 ≤ x9_4) = true := decide_eq_true c20
                           clear c20
                           replace H := Option.bind_eq_some_iff.mp H
                           obtain ⟨t865, A210, H⟩ := H
                           replace H : (if t865 = true then (spec_l20Wanted.l2 k4 l0 x5_4 x6_1 x7_2 (wrap64 (x9_4 + 1)) ((rd_T130 ((rd_T68 l0 x6_1).f0) x7_2).f0) ((rd_T130 ((rd_T68 l0 x6_1).f0) x7_2).f1) ((rd_T130 ((rd_T68 l0 x6_1).f0) x7_2).f2) ((rd_T130 ((rd_T68 l0 x6_1).f0) x7_2).f3) ((rd_T130 ((rd_T68 l0 x6_1).f0) x7_2).f4) ((rd_T130 ((rd_T68 l0 x6_1).f0) x7_2).f5) ((rd_T130 ((rd_T68 l0 x6_1).f0) x7_2).f6) ((rd_T130 ((rd_T68 l0 x6_1).f0) x7_2).f7)) else (if x5_4.length < 8796093022208 then (spec_l20Wanted.l2 k4 l0 (x5_4 ++ [(rd_T132 ((rd_T130 ((rd_T68 l0 x6_1).f0) x7_2).f7) x9_4).f2]) x6_1 x7_2 (wrap64 (x9_4 + 1)) ((rd_T130 ((rd_T68 l0 x6_1).f0) x7_2).f0) ((rd_T130 ((rd_T68 l0 x6_1).f0) x7_2).f1) ((rd_T130 ((rd_T68 l0 x6_1).f0) x7_2).f2) ((rd_T130 ((rd_T68 l0 x6_1).f0) x7_2).f3) ((rd_T130 ((rd_T68 l0 x6_1).f0) x7_2).f4) ((rd_T130 ((rd_T68 l0 x6_1).f0) x7_2).f5) ((rd_T130 ((rd_T68 l0 x6_1).f0) x7_2).f6) ((rd_T130 ((rd_T68 l0 x6_1).f0) x7_2).f7)) else (none))) = some r := H
                           have A21 := Aside0.mk A210
                           clear A210
                           by_cases c22 : t865 = true
                           · subst c22
                             have H1 : (spec_l20Wanted.l2 k4 l0 x5_4 x6_1 x7_2 (wrap64 (x9_4 + 1)) ((rd_T130 ((rd_T68 l0 x6_1).f0) x7_2).f0) ((rd_T130 ((rd_T68 l0 x6_1).f0) x7_2).f1) ((rd_T130 ((rd_T68 l0 x6_1).f0) x7_2).f2) ((rd_T130 ((rd_T68 l0 x6_1).f0) x7_2).f3) ((rd_T130 ((rd_T68 l0 x6_1).f0) x7_2).f4) ((rd_T130 ((rd_T68 l0 x6_1).f0) x7_2).f5) ((rd_T130 ((rd_T68 l0 x6_1).f0) x7_2).f6) ((rd_T130 ((rd_T68 l0 x6_1).f0) x7_2).f7)) = some r := by rw [if_pos rfl] at H; exact H
                             clear H
                             have H := H1
                             clear H1
                             have H' := Aside0.mk H
                             clear H
                             have hcz23_0 : wr.cell? ⟨gb859, 0, none⟩ = some (.string ((rd_T130 ((rd_T68 l0 x6_1).f0) x7_2).f0)) := (blk_cell BK859.out 0).trans rfl
                             have hcz23_1 : wr.cell? ⟨gb859, 1, none⟩ = some (.int .i64 ((rd_T130 ((rd_T68 l0 x6_1).f0) x7_2).f1)) := (blk_cell BK859.out 1).trans rfl
                             have hcz23_2 : wr.cell? ⟨gb859, 2, none⟩ = some (.int .i64 ((rd_T130 ((rd_T68 l0 x6_1).f0) x7_2).f2)) := (blk_cell BK859.out 2).trans rfl
                             have hcz23_3 : wr.cell? ⟨gb859, 3, none⟩ = some (.int .i64 ((rd_T130 ((rd_T68 l0 x6_1).f0) x7_2).f3)) := (blk_cell BK859.out 3).trans rfl
                             have hcz23_4 : wr.cell? ⟨gb859, 4, none⟩ = some (.slice A858_4 ((rd_T130 ((rd_T68 l0 x6_1).f0) x7_2).f4).length c858_4) := (blk_cell BK859.out 4).trans rfl
                             have hcz23_5 : wr.cell? ⟨gb859, 5, none⟩ = some (.int .i64 ((rd_T130 ((rd_T68 l0 x6_1).f0) x7_2).f5)) := (blk_cell BK859.out 5).trans rfl
                             have hcz23_6 : wr.cell? ⟨gb859, 6, none⟩ = some (.slice A858_6 ((rd_T130 ((rd_T68 l0 x6_1).f0) x7_2).f6).length c858_6) := (blk_cell BK859.out 6).trans rfl
                             have hcz23_7 : wr.cell? ⟨gb859, 7, none⟩ = some (.slice A858_7 ((rd_T130 ((rd_T68 l0 x6_1).f0) x7_2).f7).length c858_7) := (blk_cell BK859.out 7).trans rfl
                             have hfz23_0 := blk_frozen BK859.out 0
                             have hfz23_1 := blk_frozen BK859.out 1
                             have hfz23_2 := blk_frozen BK859.out 2
                             have hfz23_3 := blk_frozen BK859.out 3
                             have hfz23_4 := blk_frozen BK859.out 4
                             have hfz23_5 := blk_frozen BK859.out 5
                             have hfz23_6 := blk_frozen BK859.out 6
                             have hfz23_7 := blk_frozen BK859.out 7
                             try go_wp2
                             have n0_ := Aside0.mk (Kd.R_drew HO_5.out)
                             have n1_ := Aside0.mk (blk_drew BK859.out)
                             have n2_ := Aside0.mk (below_drew1 HB.out)
                             clear HO_5
                             clear BK859
                             clear HB
                             have HO_5 := n0_
                             have BK859 := n1_
                             have HB := n2_
                             clear n0_ n1_ n2_
                             have p863 : 0 ≤ (x6_1 : Int) := of_decide_eq_true az
                             have q863 : x6_1 < (l0.length : Int) := of_decide_eq_true az
                             obtain ⟨ad863, A863_0, c863_0, e863, hx863_0, hl863_0, hi863_0⟩ := at_T68 HR0.out x6_1 p863 q863
                             have hw863_0 := hx863_0
                             obtain rfl : ad856 = ad863 := (by injection e863)
                             replace hx863_0 := ck HB hx863_0
                             have HR863_0 := Aside0.mk hi863_0
                             have HC863_0 := Aside0.mk hl863_0
                             clear hi863_0 hl863_0
                             replace p863 := eq_true p863
                             replace q863 := eq_true q863
                             have p864 : 0 ≤ (x9_4 : Int) := of_decide_eq_true az
                             have q864 : x9_4 < (((rd_T130 ((rd_T68 l0 x6_1).f0) x7_2).f7).length : Int) := of_decide_eq_true az
                             obtain ⟨ad864, e864, hx864_0, hx864_1, hx864_2⟩ := at_T132 HR858_7.out x9_4 p864 q864
                             have hw864_2 := hx864_2
                             have hw864_1 := hx864_1
                             have hw864_0 := hx864_0
                             cases e864
                             replace hx864_0 := ck HB hx864_0
                             replace hx864_1 := ck HB hx864_1
                             replace hx864_2 := ck HB hx864_2
                             replace p864 := eq_true p864
                             replace q864 := eq_true q864
                             refine start_ (n := 11) (S := fun w' => w'.cell? ⟨gb859, 0, none⟩ = some (.string ((rd_T130 ((rd_T68 l0 x6_1).f0) x7_2).f0)) ∧ w'.cell? ⟨gb859, 1, none⟩ = some (.int .i64 ((rd_T130 ((rd_T68 l0 x6_1).f0) x7_2).f1)) ∧ w'.cell? ⟨gb859, 2, none⟩ = some (.int .i64 ((rd_T130 ((rd_T68 l0 x6_1).f0) x7_2).f2)) ∧ w'.cell? ⟨gb859, 3, none⟩ = some (.int .i64 ((rd_T130 ((rd_T68 l0 x6_1).f0) x7_2).f3)) ∧ w'.cell? ⟨gb859, 4, none⟩ = some (.slice A858_4 ((rd_T130 ((rd_T68 l0 x6_1).f0) x7_2).f4).length c858_4) ∧ w'.cell? ⟨gb859, 5, none⟩ = some (.int .i64 ((rd_T130 ((rd_T68 l0 x6_1).f0) x7_2).f5)) ∧ w'.cell? ⟨gb859, 6, none⟩ = some (.slice A858_6 ((rd_T130 ((rd_T68 l0 x6_1).f0) x7_2).f6).length c858_6) ∧ w'.cell? ⟨gb859, 7, none⟩ = some (.slice (some ad864) ((rd_T130 ((rd_T68 l0 x6_1).f0) x7_2).f7).length c858_7) ∧ w'.cell? (ad856.add (x6_1).toNat) = some (.slice A863_0 ((rd_T68 l0 x6_1).f0).length c863_0) ∧ w'.cell? (ad864.add ((x9_4).toNat * 3)) = some (.int .i64 ((rd_T132 ((rd_T130 ((rd_T68 l0 x6_1).f0) x7_2).f7) x9_4).f0)) ∧ w'.cell? ⟨(ad864.add ((x9_4).toNat * 3)).block, (ad864.add ((x9_4).toNat * 3)).off + 1, none⟩ = some (.int .i64 ((rd_T132 ((rd_T130 ((rd_T68 l0 x6_1).f0) x7_2).f7) x9_4).f1)) ∧ w'.cell? ⟨(ad864.add ((x9_4).toNat * 3)).block, (ad864.add ((x9_4).toNat * 3)).off + 2, none⟩ = some (.string ((rd_T132 ((rd_T130 ((rd_T68 l0 x6_1).f0) x7_2).f7) x9_4).f2))) (ds := []) #[false, false, false, false, false, false, false, false, false, false, false] (by kernel_rfl) rfl rfl ⟨(blk_cell BK859.out 0).trans rfl, (blk_cell BK859.out 1).trans rfl, (blk_cell BK859.out 2).trans rfl, (blk_cell BK859.out 3).trans rfl, (blk_cell BK859.out 4).trans rfl, (blk_cell BK859.out 5).trans rfl, (blk_cell BK859.out 6).trans rfl, (blk_cell BK859.out 7).trans rfl, (ck HB hw863_0), (ck HB hw864_0), (ck HB hw864_1), (ck HB hw864_2)⟩ (fun hHeld => ?_); refine with_tabW spec_l20Wanted.tab14 spec_l20Wanted.bits14 (fun HT_ HW_ => ?_)
                             generalize wr.drew = w24 at HO_5 BK859 HB HR863_0 hx863_0 hx864_0 hx864_1 hx864_2 hHeld ⊢
                             refine pure_ (i := 0) (N := some 51) (v := ?_) (a' := ?_) #[true, false, false, false, false, false, false, false, false, false, false] rfl rfl (any_of HT_.out (by kernel_rfl)) (fun _ _ _ h => h) (Or.inl ⟨by rfl, ?_⟩) ?_ ?_
                             rotate_left
                             · intro w'
                               go_simp
                               with_reducible rfl
                             rotate_left
                             · simp only [Act.put, sx1, sx2, sx3, i64_w, i32_w]
                               rfl
                             refine pure_ (i := 1) (N := some 52) (v := ?_) (a' := ?_) #[true, true, false, false, false, false, false, false, false, false, false] rfl rfl (any_of HT_.out (by kernel_rfl)) (fun _ _ _ h => h) (Or.inl ⟨by rfl, ?_⟩) ?_ ?_
                             rotate_left
                             · intro w'
                               go_simp
                               with_reducible rfl
                             rotate_left
                             · simp only [Act.put, sx1, sx2, sx3, i64_w, i32_w]
                               rfl
                             refine pure_ (i := 2) (N := some 53) (v := ?_) (a' := ?_) #[true, true, true, false, false, false, false, false, false, false, false] rfl rfl (any_of HT_.out (by kernel_rfl)) (fun _ _ _ h => h) (Or.inl ⟨by rfl, ?_⟩) ?_ ?_
                             rotate_left
                             · intro w'
                               go_simp
                               with_reducible rfl
                             rotate_left
                             · simp only [Act.put, sx1, sx2, sx3, i64_w, i32_w]
                               rfl
                             refine pure_ (i := 4) (N := some 55) (v := ?_) (a' := ?_) #[true, true, true, false, true, false, false, false, false, false, false] rfl rfl (any_of HT_.out (by kernel_rfl)) (fun _ _ _ h => h) (Or.inl ⟨by rfl, ?_⟩) ?_ ?_
                             rotate_left
                             · intro w'
                               go_simp
                               with_reducible rfl
                             rotate_left
                             · simp only [Act.put, sx1, sx2, sx3, i64_w, i32_w]
                               rfl
                             refine pure_ (i := 6) (N := some 57) (v := ?_) (a' := ?_) #[true, true, true, false, true, false, true, false, false, false, false] rfl rfl (any_of HT_.out (by kernel_rfl)) (fun _ _ _ h => h) (Or.inl ⟨by rfl, ?_⟩) ?_ ?_
                             rotate_left
                             · intro w'
                               go_simp
                               with_reducible rfl
                             rotate_left
                             · simp only [Act.put, sx1, sx2, sx3, i64_w, i32_w]
                               rfl
                             refine take_ (i := 3) (N := some 54) (v := ?_) (a' := ?_) #[true, true, true, true, true, false, true, false, false, false, false] rfl rfl (take_ofW HT_.out HW_.out (by kernel_rfl)) (fun _ _ _ h => h) (Or.inl ⟨by rfl, ?_⟩) hHeld ?_ ?_
                             rotate_left
                             · rintro w' ⟨s0, s1, s2, s3, s4, s5, s6, s7, s8, s9, s10, s11⟩
                               go_simp
                               with_reducible rfl
                             rotate_left
                             · simp only [Act.put, sx1, sx2, sx3, i64_w, i32_w]
                               rfl
                             refine take_ (i := 5) (N := some 56) (v := ?_) (a' := ?_) #[true, true, true, true, true, true, true, false, false, false, false] rfl rfl (take_ofW HT_.out HW_.out (by kernel_rfl)) (fun _ _ _ h => h) (Or.inl ⟨by rfl, ?_⟩) hHeld ?_ ?_
                             rotate_left
                             · rintro w' ⟨s0, s1, s2, s3, s4, s5, s6, s7, s8, s9, s10, s11⟩
                               go_simp
                               with_reducible rfl
                             rotate_left
                             · simp only [Act.put, sx1, sx2, sx3, i64_w, i32_w]
                               rfl
                             refine pure_ (i := 7) (N := some 58) (v := ?_) (a' := ?_) #[true, true, true, true, true, true, true, true, false, false, false] rfl rfl (any_of HT_.out (by kernel_rfl)) (fun _ _ _ h => h) (Or.inl ⟨by rfl, ?_⟩) ?_ ?_
                             rotate_left
                             · intro w'
                               go_simp
                               with_reducible rfl
                             rotate_left
                             · simp only [Act.put, sx1, sx2, sx3, i64_w, i32_w]
                               rfl
                             refine pure_ (i := 8) (N := some 59) (v := ?_) (a' := ?_) #[true, true, true, true, true, true, true, true, true, false, false] rfl rfl (any_of HT_.out (by kernel_rfl)) (fun _ _ _ h => h) (Or.inl ⟨by rfl, ?_⟩) ?_ ?_
                             rotate_left
                             · intro w'
                               go_simp
                               with_reducible rfl
                             rotate_left
                             · simp only [Act.put, sx1, sx2, sx3, i64_w, i32_w]
                               rfl
                             refine take_ (i := 9) (N := some 60) (v := ?_) (a' := ?_) #[true, true, true, true, true, true, true, true, true, true, false] rfl rfl (take_ofW HT_.out HW_.out (by kernel_rfl)) (fun _ _ _ h => h) (Or.inl ⟨by rfl, ?_⟩) hHeld ?_ ?_
                             rotate_left
                             · rintro w' ⟨s0, s1, s2, s3, s4, s5, s6, s7, s8, s9, s10, s11⟩
                               go_simp
                               with_reducible rfl
                             rotate_left
                             · simp only [Act.put, sx1, sx2, sx3, i64_w, i32_w]
                               rfl
                             refine one_ (i := 10) (N := some 61) #[true, true, true, true, true, true, true, true, true, true, true] rfl rfl (one_of HT_.out (by kernel_rfl)) (by decide) (fun K hK => ?_)
                             refine goes_ Try.func137 (by kernel_rfl) rfl #[.agg #[.slice A863_0 ((rd_T68 l0 x6_1).f0).length c863_0], .string ((rd_T132 ((rd_T130 ((rd_T68 l0 x6_1).f0) x7_2).f7) x9_4).f2)] (by rfl) rfl rfl lz ?_
                             with_reducible refine (spec_l20Local.calls k4 _ _ ((rd_T68 l0 x6_1).f0) ((rd_T132 ((rd_T130 ((rd_T68 l0 x6_1).f0) x7_2).f7) x9_4).f2) true _ ?side1 ?side2 A21.out).mono ?_
                             (case side1 => exact cz HR863_0.out)
                             (case side2 => exact HC863_0.out)
                             rintro e w25 ⟨rfl, hb⟩
                             refine ⟨_, rfl, ?_⟩
                             have n0_ := Aside0.mk (Kd.R_below (rz HO_5.out) hb)
                             have n1_ := Aside0.mk (blk_below (g := gb859) (o := .cells #[.string ((rd_T130 ((rd_T68 l0 x6_1).f0) x7_2).f0), .int .i64 ((rd_T130 ((rd_T68 l0 x6_1).f0) x7_2).f1), .int .i64 ((rd_T130 ((rd_T68 l0 x6_1).f0) x7_2).f2), .int .i64 ((rd_T130 ((rd_T68 l0 x6_1).f0) x7_2).f3), .slice A858_4 ((rd_T130 ((rd_T68 l0 x6_1).f0) x7_2).f4).length c858_4, .int .i64 ((rd_T130 ((rd_T68 l0 x6_1).f0) x7_2).f5), .slice A858_6 ((rd_T130 ((rd_T68 l0 x6_1).f0) x7_2).f6).length c858_6, .slice (some ad864) ((rd_T130 ((rd_T68 l0 x6_1).f0) x7_2).f7).length c858_7] 130 (0, 0)) kz hb)
                             have n2_ := Aside0.mk (below_step bz hb)
                             clear HO_5
                             clear BK859
                             clear HB
                             have HO_5 := n0_
                             have BK859 := n1_
                             have HB := n2_
                             clear n0_ n1_ n2_
                             (try clear hb)
                             (try clear hb2)
                             (try clear hk)
                             (try clear hi)
                             refine hK.out _ _ ⟨(blk_cell BK859.out 0).trans rfl, (blk_cell BK859.out 1).trans rfl, (blk_cell BK859.out 2).trans rfl, (blk_cell BK859.out 3).trans rfl, (blk_cell BK859.out 4).trans rfl, (blk_cell BK859.out 5).trans rfl, (blk_cell BK859.out 6).trans rfl, (blk_cell BK859.out 7).trans rfl, (ck HB hw863_0), (ck HB hw864_0), (ck HB hw864_1), (ck HB hw864_2)⟩ (fun hHeld => ?_)
                             clear hK K
                             refine norm_ (a' := ?_) ?_ ?_
                             rotate_left
                             · show Act.put _ (some 61) _ = _
                               simp only [Act.put, sx1, sx2, sx3, i64_w, i32_w]
                               rfl
                             refine done_ (done_of HT_.out (by kernel_rfl)) ?_
                             try go_wp2
                             go_roundg k4
                             case measure => have := HK1.out; have := HK2.out; have := HJ9.out; have := HK4.out; omega
                             case rel => exact ⟨(x5_4), (wrap64 (x9_4 + 1)), sz_, H', ⟨by have := HK1.out; have := HK2.out; have := HJ9.out; have := HK4.out; omega⟩, ⟨by (with_reducible repeat (first | apply Kd.R_alloc | apply Kd.R_drewN | apply Kd.R_drew)); exact HO_5.out⟩, ⟨ kz⟩, ⟨ bz⟩⟩
                           · replace c22 := Bool.eq_false_iff.mpr c22
                             subst c22
                             have H1 : (if x5_4.length < 8796093022208 then (spec_l20Wanted.l2 k4 l0 (x5_4 ++ [(rd_T132 ((rd_T130 ((rd_T68 l0 x6_1).f0) x7_2).f7) x9_4).f2]) x6_1 x7_2 (wrap64 (x9_4 + 1)) ((rd_T130 ((rd_T68 l0 x6_1).f0) x7_2).f0) ((rd_T130 ((rd_T68 l0 x6_1).f0) x7_2).f1) ((rd_T130 ((rd_T68 l0 x6_1).f0) x7_2).f2) ((rd_T130 ((rd_T68 l0 x6_1).f0) x7_2).f3) ((rd_T130 ((rd_T68 l0 x6_1).f0) x7_2).f4) ((rd_T130 ((rd_T68 l0 x6_1).f0) x7_2).f5) ((rd_T130 ((rd_T68 l0 x6_1).f0) x7_2).f6) ((rd_T130 ((rd_T68 l0 x6_1).f0) x7_2).f7)) else (none)) = some r := by rw [if_neg (show ¬ (false = true) by decide)] at H; exact H
                             clear H
                             have H := H1
                             clear H1
                             by_cases c26 : x5_4.length < 8796093022208
                             · rw [if_pos c26] at H
                               have LMc26 := Aside0.mk c26
                               clear c26
                               obtain ⟨y867, hy867⟩ : ∃ y_ : List ByteArray, y_ = (x5_4 ++ [(rd_T132 ((rd_T130 ((rd_T68 l0 x6_1).f0) x7_2).f7) x9_4).f2]) := ⟨_, rfl⟩
                               replace H : (spec_l20Wanted.l2 k4 l0 y867 x6_1 x7_2 (wrap64 (x9_4 + 1)) ((rd_T130 ((rd_T68 l0 x6_1).f0) x7_2).f0) ((rd_T130 ((rd_T68 l0 x6_1).f0) x7_2).f1) ((rd_T130 ((rd_T68 l0 x6_1).f0) x7_2).f2) ((rd_T130 ((rd_T68 l0 x6_1).f0) x7_2).f3) ((rd_T130 ((rd_T68 l0 x6_1).f0) x7_2).f4) ((rd_T130 ((rd_T68 l0 x6_1).f0) x7_2).f5) ((rd_T130 ((rd_T68 l0 x6_1).f0) x7_2).f6) ((rd_T130 ((rd_T68 l0 x6_1).f0) x7_2).f7)) = some r := by first | (rw [hy867]; with_reducible exact H) | (have H2_ := (Option.bind_some _ _).symm.trans H; rw [hy867]; with_reducible exact H2_) | (have H2_ := (Option.bind_some _ _).symm.trans H; with_reducible exact H2_) | with_reducible exact H | (rw [hy867]; exact H) | exact H
                               have Ny867 := Aside0.mk hy867
                               clear hy867
                               have H' := Aside0.mk H
                               clear H
                               have hcz27_0 : wr.cell? ⟨gb859, 0, none⟩ = some (.string ((rd_T130 ((rd_T68 l0 x6_1).f0) x7_2).f0)) := (blk_cell BK859.out 0).trans rfl
                               have hcz27_1 : wr.cell? ⟨gb859, 1, none⟩ = some (.int .i64 ((rd_T130 ((rd_T68 l0 x6_1).f0) x7_2).f1)) := (blk_cell BK859.out 1).trans rfl
                               have hcz27_2 : wr.cell? ⟨gb859, 2, none⟩ = some (.int .i64 ((rd_T130 ((rd_T68 l0 x6_1).f0) x7_2).f2)) := (blk_cell BK859.out 2).trans rfl
                               have hcz27_3 : wr.cell? ⟨gb859, 3, none⟩ = some (.int .i64 ((rd_T130 ((rd_T68 l0 x6_1).f0) x7_2).f3)) := (blk_cell BK859.out 3).trans rfl
                               have hcz27_4 : wr.cell? ⟨gb859, 4, none⟩ = some (.slice A858_4 ((rd_T130 ((rd_T68 l0 x6_1).f0) x7_2).f4).length c858_4) := (blk_cell BK859.out 4).trans rfl
                               have hcz27_5 : wr.cell? ⟨gb859, 5, none⟩ = some (.int .i64 ((rd_T130 ((rd_T68 l0 x6_1).f0) x7_2).f5)) := (blk_cell BK859.out 5).trans rfl
                               have hcz27_6 : wr.cell? ⟨gb859, 6, none⟩ = some (.slice A858_6 ((rd_T130 ((rd_T68 l0 x6_1).f0) x7_2).f6).length c858_6) := (blk_cell BK859.out 6).trans rfl
                               have hcz27_7 : wr.cell? ⟨gb859, 7, none⟩ = some (.slice A858_7 ((rd_T130 ((rd_T68 l0 x6_1).f0) x7_2).f7).length c858_7) := (blk_cell BK859.out 7).trans rfl
                               have hfz27_0 := blk_frozen BK859.out 0
                               have hfz27_1 := blk_frozen BK859.out 1
                               have hfz27_2 := blk_frozen BK859.out 2
                               have hfz27_3 := blk_frozen BK859.out 3
                               have hfz27_4 := blk_frozen BK859.out 4
                               have hfz27_5 := blk_frozen BK859.out 5
                               have hfz27_6 := blk_frozen BK859.out 6
                               have hfz27_7 := blk_frozen BK859.out 7
                               try go_wp2
                               have n0_ := Aside0.mk (Kd.R_drew HO_5.out)
                               have n1_ := Aside0.mk (blk_drew BK859.out)
                               have n2_ := Aside0.mk (below_drew1 HB.out)
                               clear HO_5
                               clear BK859
                               clear HB
                               have HO_5 := n0_
                               have BK859 := n1_
                               have HB := n2_
                               clear n0_ n1_ n2_
                               have p863 : 0 ≤ (x6_1 : Int) := of_decide_eq_true az
                               have q863 : x6_1 < (l0.length : Int) := of_decide_eq_true az
                               obtain ⟨ad863, A863_0, c863_0, e863, hx863_0, hl863_0, hi863_0⟩ := at_T68 HR0.out x6_1 p863 q863
                               have hw863_0 := hx863_0
                               obtain rfl : ad856 = ad863 := (by injection e863)
                               replace hx863_0 := ck HB hx863_0
                               have HR863_0 := Aside0.mk hi863_0
                               have HC863_0 := Aside0.mk hl863_0
                               clear hi863_0 hl863_0
                               replace p863 := eq_true p863
                               replace q863 := eq_true q863
                               have p864 : 0 ≤ (x9_4 : Int) := of_decide_eq_true az
                               have q864 : x9_4 < (((rd_T130 ((rd_T68 l0 x6_1).f0) x7_2).f7).length : Int) := of_decide_eq_true az
                               obtain ⟨ad864, e864, hx864_0, hx864_1, hx864_2⟩ := at_T132 HR858_7.out x9_4 p864 q864
                               have hw864_2 := hx864_2
                               have hw864_1 := hx864_1
                               have hw864_0 := hx864_0
                               cases e864
                               replace hx864_0 := ck HB hx864_0
                               replace hx864_1 := ck HB hx864_1
                               replace hx864_2 := ck HB hx864_2
                               replace p864 := eq_true p864
                               replace q864 := eq_true q864
                               refine start_ (n := 11) (S := fun w' => w'.cell? ⟨gb859, 0, none⟩ = some (.string ((rd_T130 ((rd_T68 l0 x6_1).f0) x7_2).f0)) ∧ w'.cell? ⟨gb859, 1, none⟩ = some (.int .i64 ((rd_T130 ((rd_T68 l0 x6_1).f0) x7_2).f1)) ∧ w'.cell? ⟨gb859, 2, none⟩ = some (.int .i64 ((rd_T130 ((rd_T68 l0 x6_1).f0) x7_2).f2)) ∧ w'.cell? ⟨gb859, 3, none⟩ = some (.int .i64 ((rd_T130 ((rd_T68 l0 x6_1).f0) x7_2).f3)) ∧ w'.cell? ⟨gb859, 4, none⟩ = some (.slice A858_4 ((rd_T130 ((rd_T68 l0 x6_1).f0) x7_2).f4).length c858_4) ∧ w'.cell? ⟨gb859, 5, none⟩ = some (.int .i64 ((rd_T130 ((rd_T68 l0 x6_1).f0) x7_2).f5)) ∧ w'.cell? ⟨gb859, 6, none⟩ = some (.slice A858_6 ((rd_T130 ((rd_T68 l0 x6_1).f0) x7_2).f6).length c858_6) ∧ w'.cell? ⟨gb859, 7, none⟩ = some (.slice (some ad864) ((rd_T130 ((rd_T68 l0 x6_1).f0) x7_2).f7).length c858_7) ∧ w'.cell? (ad856.add (x6_1).toNat) = some (.slice A863_0 ((rd_T68 l0 x6_1).f0).length c863_0) ∧ w'.cell? (ad864.add ((x9_4).toNat * 3)) = some (.int .i64 ((rd_T132 ((rd_T130 ((rd_T68 l0 x6_1).f0) x7_2).f7) x9_4).f0)) ∧ w'.cell? ⟨(ad864.add ((x9_4).toNat * 3)).block, (ad864.add ((x9_4).toNat * 3)).off + 1, none⟩ = some (.int .i64 ((rd_T132 ((rd_T130 ((rd_T68 l0 x6_1).f0) x7_2).f7) x9_4).f1)) ∧ w'.cell? ⟨(ad864.add ((x9_4).toNat * 3)).block, (ad864.add ((x9_4).toNat * 3)).off + 2, none⟩ = some (.string ((rd_T132 ((rd_T130 ((rd_T68 l0 x6_1).f0) x7_2).f7) x9_4).f2))) (ds := []) #[false, false, false, false, false, false, false, false, false, false, false] (by kernel_rfl) rfl rfl ⟨(blk_cell BK859.out 0).trans rfl, (blk_cell BK859.out 1).trans rfl, (blk_cell BK859.out 2).trans rfl, (blk_cell BK859.out 3).trans rfl, (blk_cell BK859.out 4).trans rfl, (blk_cell BK859.out 5).trans rfl, (blk_cell BK859.out 6).trans rfl, (blk_cell BK859.out 7).trans rfl, (ck HB hw863_0), (ck HB hw864_0), (ck HB hw864_1), (ck HB hw864_2)⟩ (fun hHeld => ?_); refine with_tabW spec_l20Wanted.tab14 spec_l20Wanted.bits14 (fun HT_ HW_ => ?_)
                               generalize wr.drew = w28 at HO_5 BK859 HB HR863_0 hx863_0 hx864_0 hx864_1 hx864_2 hHeld ⊢
                               refine pure_ (i := 0) (N := some 51) (v := ?_) (a' := ?_) #[true, false, false, false, false, false, false, false, false, false, false] rfl rfl (any_of HT_.out (by kernel_rfl)) (fun _ _ _ h => h) (Or.inl ⟨by rfl, ?_⟩) ?_ ?_
                               rotate_left
                               · intro w'
                                 go_simp
                                 with_reducible rfl
                               rotate_left
                               · simp only [Act.put, sx1, sx2, sx3, i64_w, i32_w]
                                 rfl
                               refine pure_ (i := 1) (N := some 52) (v := ?_) (a' := ?_) #[true, true, false, false, false, false, false, false, false, false, false] rfl rfl (any_of HT_.out (by kernel_rfl)) (fun _ _ _ h => h) (Or.inl ⟨by rfl, ?_⟩) ?_ ?_
                               rotate_left
                               · intro w'
                                 go_simp
                                 with_reducible rfl
                               rotate_left
                               · simp only [Act.put, sx1, sx2, sx3, i64_w, i32_w]
                                 rfl
                               refine pure_ (i := 2) (N := some 53) (v := ?_) (a' := ?_) #[true, true, true, false, false, false, false, false, false, false, false] rfl rfl (any_of HT_.out (by kernel_rfl)) (fun _ _ _ h => h) (Or.inl ⟨by rfl, ?_⟩) ?_ ?_
                               rotate_left
                               · intro w'
                                 go_simp
                                 with_reducible rfl
                               rotate_left
                               · simp only [Act.put, sx1, sx2, sx3, i64_w, i32_w]
                                 rfl
                               refine pure_ (i := 4) (N := some 55) (v := ?_) (a' := ?_) #[true, true, true, false, true, false, false, false, false, false, false] rfl rfl (any_of HT_.out (by kernel_rfl)) (fun _ _ _ h => h) (Or.inl ⟨by rfl, ?_⟩) ?_ ?_
                               rotate_left
                               · intro w'
                                 go_simp
                                 with_reducible rfl
                               rotate_left
                               · simp only [Act.put, sx1, sx2, sx3, i64_w, i32_w]
                                 rfl
                               refine pure_ (i := 6) (N := some 57) (v := ?_) (a' := ?_) #[true, true, true, false, true, false, true, false, false, false, false] rfl rfl (any_of HT_.out (by kernel_rfl)) (fun _ _ _ h => h) (Or.inl ⟨by rfl, ?_⟩) ?_ ?_
                               rotate_left
                               · intro w'
                                 go_simp
                                 with_reducible rfl
                               rotate_left
                               · simp only [Act.put, sx1, sx2, sx3, i64_w, i32_w]
                                 rfl
                               refine take_ (i := 3) (N := some 54) (v := ?_) (a' := ?_) #[true, true, true, true, true, false, true, false, false, false, false] rfl rfl (take_ofW HT_.out HW_.out (by kernel_rfl)) (fun _ _ _ h => h) (Or.inl ⟨by rfl, ?_⟩) hHeld ?_ ?_
                               rotate_left
                               · rintro w' ⟨s0, s1, s2, s3, s4, s5, s6, s7, s8, s9, s10, s11⟩
                                 go_simp
                                 with_reducible rfl
                               rotate_left
                               · simp only [Act.put, sx1, sx2, sx3, i64_w, i32_w]
                                 rfl
                               refine take_ (i := 5) (N := some 56) (v := ?_) (a' := ?_) #[true, true, true, true, true, true, true, false, false, false, false] rfl rfl (take_ofW HT_.out HW_.out (by kernel_rfl)) (fun _ _ _ h => h) (Or.inl ⟨by rfl, ?_⟩) hHeld ?_ ?_
                               rotate_left
                               · rintro w' ⟨s0, s1, s2, s3, s4, s5, s6, s7, s8, s9, s10, s11⟩
                                 go_simp
                                 with_reducible rfl
                               rotate_left
                               · simp only [Act.put, sx1, sx2, sx3, i64_w, i32_w]
                                 rfl
                               refine pure_ (i := 7) (N := some 58) (v := ?_) (a' := ?_) #[true, true, true, true, true, true, true, true, false, false, false] rfl rfl (any_of HT_.out (by kernel_rfl)) (fun _ _ _ h => h) (Or.inl ⟨by rfl, ?_⟩) ?_ ?_
                               rotate_left
                               · intro w'
                                 go_simp
                                 with_reducible rfl
                               rotate_left
                               · simp only [Act.put, sx1, sx2, sx3, i64_w, i32_w]
                                 rfl
                               refine pure_ (i := 8) (N := some 59) (v := ?_) (a' := ?_) #[true, true, true, true, true, true, true, true, true, false, false] rfl rfl (any_of HT_.out (by kernel_rfl)) (fun _ _ _ h => h) (Or.inl ⟨by rfl, ?_⟩) ?_ ?_
                               rotate_left
                               · intro w'
                                 go_simp
                                 with_reducible rfl
                               rotate_left
                               · simp only [Act.put, sx1, sx2, sx3, i64_w, i32_w]
                                 rfl
                               refine take_ (i := 9) (N := some 60) (v := ?_) (a' := ?_) #[true, true, true, true, true, true, true, true, true, true, false] rfl rfl (take_ofW HT_.out HW_.out (by kernel_rfl)) (fun _ _ _ h => h) (Or.inl ⟨by rfl, ?_⟩) hHeld ?_ ?_
                               rotate_left
                               · rintro w' ⟨s0, s1, s2, s3, s4, s5, s6, s7, s8, s9, s10, s11⟩
                                 go_simp
                                 with_reducible rfl
                               rotate_left
                               · simp only [Act.put, sx1, sx2, sx3, i64_w, i32_w]
                                 rfl
                               refine one_ (i := 10) (N := some 61) #[true, true, true, true, true, true, true, true, true, true, true] rfl rfl (one_of HT_.out (by kernel_rfl)) (by decide) (fun K hK => ?_)
                               refine goes_ Try.func137 (by kernel_rfl) rfl #[.agg #[.slice A863_0 ((rd_T68 l0 x6_1).f0).length c863_0], .string ((rd_T132 ((rd_T130 ((rd_T68 l0 x6_1).f0) x7_2).f7) x9_4).f2)] (by rfl) rfl rfl lz ?_
                               with_reducible refine (spec_l20Local.calls k4 _ _ ((rd_T68 l0 x6_1).f0) ((rd_T132 ((rd_T130 ((rd_T68 l0 x6_1).f0) x7_2).f7) x9_4).f2) false _ ?side1 ?side2 A21.out).mono ?_
                               (case side1 => exact cz HR863_0.out)
                               (case side2 => exact HC863_0.out)
                               rintro e w29 ⟨rfl, hb⟩
                               refine ⟨_, rfl, ?_⟩
                               have n0_ := Aside0.mk (Kd.R_below (rz HO_5.out) hb)
                               have n1_ := Aside0.mk (blk_below (g := gb859) (o := .cells #[.string ((rd_T130 ((rd_T68 l0 x6_1).f0) x7_2).f0), .int .i64 ((rd_T130 ((rd_T68 l0 x6_1).f0) x7_2).f1), .int .i64 ((rd_T130 ((rd_T68 l0 x6_1).f0) x7_2).f2), .int .i64 ((rd_T130 ((rd_T68 l0 x6_1).f0) x7_2).f3), .slice A858_4 ((rd_T130 ((rd_T68 l0 x6_1).f0) x7_2).f4).length c858_4, .int .i64 ((rd_T130 ((rd_T68 l0 x6_1).f0) x7_2).f5), .slice A858_6 ((rd_T130 ((rd_T68 l0 x6_1).f0) x7_2).f6).length c858_6, .slice (some ad864) ((rd_T130 ((rd_T68 l0 x6_1).f0) x7_2).f7).length c858_7] 130 (0, 0)) kz hb)
                               have n2_ := Aside0.mk (below_step bz hb)
                               clear HO_5
                               clear BK859
                               clear HB
                               have HO_5 := n0_
                               have BK859 := n1_
                               have HB := n2_
                               clear n0_ n1_ n2_
                               (try clear hb)
                               (try clear hb2)
                               (try clear hk)
                               (try clear hi)
                               refine hK.out _ _ ⟨(blk_cell BK859.out 0).trans rfl, (blk_cell BK859.out 1).trans rfl, (blk_cell BK859.out 2).trans rfl, (blk_cell BK859.out 3).trans rfl, (blk_cell BK859.out 4).trans rfl, (blk_cell BK859.out 5).trans rfl, (blk_cell BK859.out 6).trans rfl, (blk_cell BK859.out 7).trans rfl, (ck HB hw863_0), (ck HB hw864_0), (ck HB hw864_1), (ck HB hw864_2)⟩ (fun hHeld => ?_)
                               clear hK K
                               refine norm_ (a' := ?_) ?_ ?_
                               rotate_left
                               · show Act.put _ (some 61) _ = _
                                 simp only [Act.put, sx1, sx2, sx3, i64_w, i32_w]
                                 rfl
                               refine done_ (done_of HT_.out (by kernel_rfl)) ?_
                               have hcz30_0 : w29.cell? ⟨gb859, 0, none⟩ = some (.string ((rd_T130 ((rd_T68 l0 x6_1).f0) x7_2).f0)) := (blk_cell BK859.out 0).trans rfl
                               have hcz30_1 : w29.cell? ⟨gb859, 1, none⟩ = some (.int .i64 ((rd_T130 ((rd_T68 l0 x6_1).f0) x7_2).f1)) := (blk_cell BK859.out 1).trans rfl
                               have hcz30_2 : w29.cell? ⟨gb859, 2, none⟩ = some (.int .i64 ((rd_T130 ((rd_T68 l0 x6_1).f0) x7_2).f2)) := (blk_cell BK859.out 2).trans rfl
                               have hcz30_3 : w29.cell? ⟨gb859, 3, none⟩ = some (.int .i64 ((rd_T130 ((rd_T68 l0 x6_1).f0) x7_2).f3)) := (blk_cell BK859.out 3).trans rfl
                               have hcz30_4 : w29.cell? ⟨gb859, 4, none⟩ = some (.slice A858_4 ((rd_T130 ((rd_T68 l0 x6_1).f0) x7_2).f4).length c858_4) := (blk_cell BK859.out 4).trans rfl
                               have hcz30_5 : w29.cell? ⟨gb859, 5, none⟩ = some (.int .i64 ((rd_T130 ((rd_T68 l0 x6_1).f0) x7_2).f5)) := (blk_cell BK859.out 5).trans rfl
                               have hcz30_6 : w29.cell? ⟨gb859, 6, none⟩ = some (.slice A858_6 ((rd_T130 ((rd_T68 l0 x6_1).f0) x7_2).f6).length c858_6) := (blk_cell BK859.out 6).trans rfl
                               have hcz30_7 : w29.cell? ⟨gb859, 7, none⟩ = some (.slice (some ad864) ((rd_T130 ((rd_T68 l0 x6_1).f0) x7_2).f7).length c858_7) := (blk_cell BK859.out 7).trans rfl
                               have hfz30_0 := blk_frozen BK859.out 0
                               have hfz30_1 := blk_frozen BK859.out 1
                               have hfz30_2 := blk_frozen BK859.out 2
                               have hfz30_3 := blk_frozen BK859.out 3
                               have hfz30_4 := blk_frozen BK859.out 4
                               have hfz30_5 := blk_frozen BK859.out 5
                               have hfz30_6 := blk_frozen BK859.out 6
                               have hfz30_7 := blk_frozen BK859.out 7
                               have p866 : 0 ≤ (x9_4 : Int) := of_decide_eq_true az
                               have q866 : x9_4 < (((rd_T130 ((rd_T68 l0 x6_1).f0) x7_2).f7).length : Int) := of_decide_eq_true az
                               obtain ⟨ad866, e866, hx866_0, hx866_1, hx866_2⟩ := at_T132 HR858_7.out x9_4 p866 q866
                               obtain rfl : ad864 = ad866 := (by injection e866)
                               replace hx866_0 := ck HB hx866_0
                               replace hx866_1 := ck HB hx866_1
                               replace hx866_2 := ck HB hx866_2
                               replace p866 := eq_true p866
                               replace q866 := eq_true q866
                               try go_wp2_with (first | ((with_reducible refine gate_builtin (b := .append) (xs := #[.tmp 62, .tmp 69]) rfl ?_); at_builtin; refine Kd.R_append Kd.string (w0 := w) w.heap.size rfl (.tmp 62) (.tmp 69) 138 9 (.string ⟨#[]⟩) 16 rfl Try.underlying138 info9 rfl (by decide) (by omega) u5 x5_4 ((rd_T132 ((rd_T130 ((rd_T68 l0 x6_1).f0) x7_2).f7) x9_4).f2) [.string ((rd_T132 ((rd_T130 ((rd_T68 l0 x6_1).f0) x7_2).f7) x9_4).f2)] (fun _ => True) (fun _ => False) rfl rfl ?aP (fun _ hk => hk.elim) ?aF ?aO ?aB ?aS ?aL ?_; (case aP => exact rfl); (case aB => exact bz); (case aF => exact (fun _ _ => trivial)); (case aO => exact (rz HO_5.out)); (case aS => exact (below_size bz)); (case aL => have := LMc26.out; omega); intro v868 w31 ho hb hg hat; rw [← Ny867.out] at ho; have n0_ := Aside0.mk (blk_grown (g := gb859) (o := .cells #[.string ((rd_T130 ((rd_T68 l0 x6_1).f0) x7_2).f0), .int .i64 ((rd_T130 ((rd_T68 l0 x6_1).f0) x7_2).f1), .int .i64 ((rd_T130 ((rd_T68 l0 x6_1).f0) x7_2).f2), .int .i64 ((rd_T130 ((rd_T68 l0 x6_1).f0) x7_2).f3), .slice A858_4 ((rd_T130 ((rd_T68 l0 x6_1).f0) x7_2).f4).length c858_4, .int .i64 ((rd_T130 ((rd_T68 l0 x6_1).f0) x7_2).f5), .slice A858_6 ((rd_T130 ((rd_T68 l0 x6_1).f0) x7_2).f6).length c858_6, .slice (some ad864) ((rd_T130 ((rd_T68 l0 x6_1).f0) x7_2).f7).length c858_7] 130 (0, 0)) kz hg (Kd.R_ne HO_5.out BK859.out (by decide))); have n1_ := Aside0.mk (hb); have n2_ := Aside0.mk (ho); clear BK859; clear HB; clear HO_5; have BK859 := n0_; have HB := n1_; have HO869 := n2_; clear n0_ n1_ n2_; clear ho hb hg hat))
                               go_roundg k4
                               case measure => have := HK1.out; have := HK2.out; have := HJ9.out; have := HK4.out; omega
                               case rel => exact ⟨(y867), (wrap64 (x9_4 + 1)), sz_, H', ⟨by have := HK1.out; have := HK2.out; have := HJ9.out; have := HK4.out; omega⟩, ⟨by (with_reducible repeat (first | apply Kd.R_alloc | apply Kd.R_drewN | apply Kd.R_drew)); exact HO869.out⟩, ⟨ kz⟩, ⟨ bz⟩⟩
                             · rw [if_neg c26] at H
                               exact absurd H (by simp)
                         · rw [if_neg c20] at H
                           exact absurd H (by simp)
                       · rw [if_neg c19] at H
                         exact absurd H (by simp)
                     · rw [if_neg c18] at H
                       exact absurd H (by simp)
                   · rw [if_neg c17] at H
                     have c17b0 : decide (x9_4 < (((rd_T130 ((rd_T68 l0 x6_1).f0) x7_2).f7).length : Int)) = false := decide_eq_false c17
                     clear c17
                     have H' := Aside0.mk H
                     clear H
                     have hcz32_0 : wr.cell? ⟨gb859, 0, none⟩ = some (.string ((rd_T130 ((rd_T68 l0 x6_1).f0) x7_2).f0)) := (blk_cell BK859.out 0).trans rfl
                     have hcz32_1 : wr.cell? ⟨gb859, 1, none⟩ = some (.int .i64 ((rd_T130 ((rd_T68 l0 x6_1).f0) x7_2).f1)) := (blk_cell BK859.out 1).trans rfl
                     have hcz32_2 : wr.cell? ⟨gb859, 2, none⟩ = some (.int .i64 ((rd_T130 ((rd_T68 l0 x6_1).f0) x7_2).f2)) := (blk_cell BK859.out 2).trans rfl
                     have hcz32_3 : wr.cell? ⟨gb859, 3, none⟩ = some (.int .i64 ((rd_T130 ((rd_T68 l0 x6_1).f0) x7_2).f3)) := (blk_cell BK859.out 3).trans rfl
                     have hcz32_4 : wr.cell? ⟨gb859, 4, none⟩ = some (.slice A858_4 ((rd_T130 ((rd_T68 l0 x6_1).f0) x7_2).f4).length c858_4) := (blk_cell BK859.out 4).trans rfl
                     have hcz32_5 : wr.cell? ⟨gb859, 5, none⟩ = some (.int .i64 ((rd_T130 ((rd_T68 l0 x6_1).f0) x7_2).f5)) := (blk_cell BK859.out 5).trans rfl
                     have hcz32_6 : wr.cell? ⟨gb859, 6, none⟩ = some (.slice A858_6 ((rd_T130 ((rd_T68 l0 x6_1).f0) x7_2).f6).length c858_6) := (blk_cell BK859.out 6).trans rfl
                     have hcz32_7 : wr.cell? ⟨gb859, 7, none⟩ = some (.slice A858_7 ((rd_T130 ((rd_T68 l0 x6_1).f0) x7_2).f7).length c858_7) := (blk_cell BK859.out 7).trans rfl
                     have hfz32_0 := blk_frozen BK859.out 0
                     have hfz32_1 := blk_frozen BK859.out 1
                     have hfz32_2 := blk_frozen BK859.out 2
                     have hfz32_3 := blk_frozen BK859.out 3
                     have hfz32_4 := blk_frozen BK859.out 4
                     have hfz32_5 := blk_frozen BK859.out 5
                     have hfz32_6 := blk_frozen BK859.out 6
                     have hfz32_7 := blk_frozen BK859.out 7
                     go_wp2
                     go_roundg k4
                     case measure => have := HK1.out; have := HK2.out; have := HJ9.out; have := HK4.out; omega
                     case rel => exact ⟨(x5_4), (wrap64 (x7_2 + 1)), sz_, H', ⟨by have := HK1.out; have := HK2.out; have := HJ9.out; have := HK4.out; omega⟩, ⟨by (with_reducible repeat (first | apply Kd.R_alloc | apply Kd.R_drewN | apply Kd.R_drew)); exact HO_5.out⟩, ⟨ bz⟩⟩
             · rw [if_neg c9] at H
               exact absurd H (by simp)
           · rw [if_neg c8] at H
             have c8b0 : decide (x7_2 < (((rd_T68 l0 x6_1).f0).length : Int)) = false := decide_eq_false c8
             clear c8
             have H' := Aside0.mk H
             clear H
             have p856 : 0 ≤ (x6_1 : Int) := of_decide_eq_true az
             have q856 : x6_1 < (l0.length : Int) := of_decide_eq_true az
             obtain ⟨ad856, A856_0, c856_0, e856, hx856_0, hl856_0, hi856_0⟩ := at_T68 HR0.out x6_1 p856 q856
             cases e856
             replace hx856_0 := ck HB hx856_0
             have HR856_0 := Aside0.mk hi856_0
             have HC856_0 := Aside0.mk hl856_0
             clear hi856_0 hl856_0
             replace p856 := eq_true p856
             replace q856 := eq_true q856
             go_wp2
             go_roundg k2
             case measure => have := HK1.out; have := HK2.out; omega
             case rel => exact ⟨(x5_2), (wrap64 (x6_1 + 1)), sz_, H', ⟨by have := HK1.out; have := HK2.out; omega⟩, ⟨by (with_reducible repeat (first | apply Kd.R_alloc | apply Kd.R_drewN | apply Kd.R_drew)); exact HO_5.out⟩, ⟨ bz⟩⟩
         · rw [if_neg c7] at H
           exact absurd H (by simp)
       · rw [if_neg c6] at H
         exact absurd H (by simp)
   · rw [if_neg c5] at H
     have c5b0 : decide (x6_1 < (l0.length : Int)) = false := decide_eq_false c5
     clear c5
     obtain rfl := Option.some.inj H
     go_wp2
     go_ret
     exact ⟨_, by first | rfl | (simp [errW_none, errW_some] <;> rfl) | (simp [*, errW_none, errW_some] <;> rfl), by (with_reducible repeat (first | apply Kd.R_alloc | apply Kd.R_drewN | apply Kd.R_drew)); exact HO_5.out, bz⟩

set_option linter.unusedVariables false
set_option linter.unusedSimpArgs false

def spec_l20Defines.f (k : Nat) (l0_0 : List (S130)) (a1 : ByteArray) : Option (Bool) := (spec_l20Of.f k (([(⟨l0_0⟩ : S68)] : List (S68))) (-1) a1).bind fun bt874 => (some (decide (bt874.1 ≥ 0)))
set_option maxHeartbeats 8000000 in
set_option maxRecDepth 100000 in
theorem spec_l20Defines.calls (k : Nat) (P0_0_ : Nat → Prop) (A0_0 : Option Addr) (c0_0 : Nat) (l0_0 : List (S130)) (a1 : ByteArray) (r : Bool) (w : World) (hs0_0 : Kd.V k130 130 w w.heap.size (fun k_ => P0_0_ k_) (.slice A0_0 l0_0.length c0_0) l0_0) (h : spec_l20Defines.f k l0_0 a1 = some r) :
 Calls Try.prog 91 #[.agg #[.slice A0_0 l0_0.length c0_0], .string a1] w fun e w' => e = .returned (.bool r) ∧ Below w.heap.size w w' := by
 have hfd125_0 : ∀ (x1 : Int) (x2 : Int) (W_ : World), (Instr.field 125 (.agg #[.int .i64 x1, .int .i64 x2]) 0).run Try.prog W_ = .ok (.int .i64 x1) W_ := fun _ _ _ => by kernel_rfl
 have hu68 := Try.underlying68
 have HO0_0 := Aside0.mk (show Kd.V k130 130 w w.heap.size (fun k_ => (P0_0_ k_ ∨ w.heap.size ≤ k_)) (.slice A0_0 l0_0.length c0_0) l0_0 from Kd.V_mono hs0_0 (fun k_ hk => .inl hk))
 have HB := Aside0.mk (Below.refl w.heap.size w)
 have H : ((spec_l20Of.f k (([(⟨l0_0⟩ : S68)] : List (S68))) (-1) a1).bind fun bt874 => (some (decide (bt874.1 ≥ 0)))) = some r := h
 clear h
 obtain ⟨y871, hy871⟩ : ∃ y_ : List (S68), y_ = (([(⟨l0_0⟩ : S68)] : List (S68))) := ⟨_, rfl⟩
 replace H : ((spec_l20Of.f k y871 (-1) a1).bind fun bt874 => (some (decide (bt874.1 ≥ 0)))) = some r := by first | (rw [hy871]; with_reducible exact H) | (have H2_ := (Option.bind_some _ _).symm.trans H; rw [hy871]; with_reducible exact H2_) | (have H2_ := (Option.bind_some _ _).symm.trans H; with_reducible exact H2_) | with_reducible exact H | (rw [hy871]; exact H) | exact H
 have Ny871 := Aside0.mk hy871
 clear hy871
 replace H := Option.bind_eq_some_iff.mp H
 obtain ⟨⟨t874, t875⟩, A30, H⟩ := H
 replace H : (some (decide (t874 ≥ 0))) = some r := H
 have A3 := Aside0.mk A30
 clear A30
 obtain rfl := Option.some.inj H
 go_enter Try.func91, Try.ntmps91
 go_wp2_with (first | ((with_reducible refine gate_dst (N := 2) rfl ?_); refine box_event ?hg (N := 2) ?hd (cs := #[.slice A0_0 l0_0.length c0_0]) (t := 68) ?hr ?_; (case hd => rfl); (case hg => rfl); (case hr => first | (go_simp; done) | (go_simp; rfl)); intro gb870 hg w4 hbox hb; have n0_ := Aside0.mk (Kd.V_below (Kd.V_elderB (by (with_reducible repeat (first | apply Kd.V_alloc | apply Kd.V_drewN | apply Kd.V_drew)); exact HO0_0.out) gb870 (Nat.le_of_eq hg.symm)) hb); have n1_ := Aside0.mk (below_step bz hb); have n2_ := Aside0.mk (hbox); have n3_ := Aside0.mk ((by rw [hg]; exact (below_size bz) : w.heap.size ≤ gb870)); have n4_ := Aside0.mk ((by rw [hg]; exact (below_size bz) : w.heap.size ≤ gb870)); clear HO0_0; clear HB; have HO0_0 := n0_; have HB := n1_; have BK870 := n2_; have GW870 := n3_; have GE870 := n4_; clear n0_ n1_ n2_ n3_ n4_; clear hb hbox hg; have hcz5_0 : w4.cell? ⟨gb870, 0, none⟩ = some (.slice A0_0 l0_0.length c0_0) := (blk_cell BK870.out 0).trans rfl; have hfz5_0 := blk_frozen BK870.out 0) | ((with_reducible refine gate_dst (N := 6) rfl ?_); refine Kd.N_lit k68 _ 68 ?hg (N' := 6) ?hd (xs := ([(⟨l0_0⟩ : S68)] : List (S68))) (inner := [.slice A0_0 l0_0.length c0_0]) (ok := (fun k_ => (P0_0_ k_ ∨ w.heap.size ≤ k_) ∧ k_ ≠ gb870)) (okp := (fun k_ => (P0_0_ k_ ∨ w.heap.size ≤ k_) ∧ k_ ≠ gb870)) ?hr ?hp (fun _ hk => hk) ((show ∀ k_, w4.heap.size ≤ k_ → (fun k_ => (P0_0_ k_ ∨ w.heap.size ≤ k_) ∧ k_ ≠ gb870) k_ from fun k_ hk => ⟨(.inr (Nat.le_trans (below_size bz) hk)), Kd.freshB (g := gb870) (o := .cells #[.slice A0_0 l0_0.length c0_0] 68 (0, 0)) kz k_ hk⟩) _ (Nat.le_refl _)) (Below.refl _ _) (Nat.le_refl _) (by simp) ?_; (case hd => rfl); (case hg => rfl); (case hr => first | (go_simp; done) | (go_simp; rfl)); (case hp => exact (Reps.one (show Kd.FK k68 _ _ (⟨l0_0⟩ : S68) [.slice A0_0 l0_0.length c0_0] from (k68_mkF _ _ (⟨l0_0⟩ : S68) (Kd.V_reads' (Kd.V_mono (ok' := (fun k_ => (P0_0_ k_ ∨ w.heap.size ≤ k_) ∧ k_ ≠ gb870)) (HO0_0.out) (fun k_ hk => ⟨hk.1, hk.2⟩))).2.1 (Kd.V_F (Kd.V_mono (ok' := (fun k_ => (P0_0_ k_ ∨ w.heap.size ≤ k_) ∧ k_ ≠ gb870)) (HO0_0.out) (fun k_ hk => ⟨hk.1, hk.2⟩))))) (Reps.none _ _))); intro v872 w6 ho7 hb hg_ hnew_; clear hg_ hnew_; (first | rw [← Ny871.out] at ho7 | (simp only [Int.reduceToNat] at ho7; rw [← Ny871.out] at ho7)); have n0_ := Aside0.mk (Kd.V_elder' (by (with_reducible repeat (first | apply Kd.V_alloc | apply Kd.V_drewN | apply Kd.V_drew)); exact HO0_0.out) (Kd.N_base ho7) hb); have n1_ := Aside0.mk (Kd.N_lower ho7 (below_size bz)); have n2_ := Aside0.mk (blk_below (g := gb870) (o := .cells #[.slice A0_0 l0_0.length c0_0] 68 (0, 0)) kz hb); have n3_ := Aside0.mk (below_step bz hb); clear HO0_0; clear BK870; clear HB; have HO0_0 := n0_; have HO873 := n1_; have BK870 := n2_; have HB := n3_; clear n0_ n1_ n2_ n3_; clear hb ho7; obtain ⟨Ao8, co8, eo8⟩ := Kd.N_slice HO873.out; subst eo8) | ((with_reducible refine gate_callee (f := 85) rfl ?_); refine goesL_ (some 8) rfl rfl Try.func85 (by kernel_rfl) rfl #[.slice Ao8 y871.length co8, .int .i64 (-1), .string a1] rfl lz ?_; (with_reducible refine (spec_l20Of.calls k (fun k_ => ((P0_0_ k_ ∨ w.heap.size ≤ k_) ∧ k_ ≠ gb870)) _ _ y871 (-1) a1 t874 t875 _ ?side1 A3.out).mono ?_); (case side1 => exact Kd.N_V (HO873.out)); rintro e w9 ⟨rfl, hb⟩; refine ⟨_, rfl, ?_⟩; have n0_ := Aside0.mk (Kd.V_below (by (with_reducible repeat (first | apply Kd.V_alloc | apply Kd.V_drewN | apply Kd.V_drew)); exact HO0_0.out) hb); have n1_ := Aside0.mk (Kd.N_below (by (with_reducible repeat (first | apply Kd.N_alloc | apply Kd.N_drewN | apply Kd.N_drew)); exact HO873.out) hb); have n2_ := Aside0.mk (blk_below (g := gb870) (o := .cells #[.slice A0_0 l0_0.length c0_0] 68 (0, 0)) kz hb); have n3_ := Aside0.mk (below_step bz hb); clear HO0_0; clear HO873; clear BK870; clear HB; have HO0_0 := n0_; have HO873 := n1_; have BK870 := n2_; have HB := n3_; clear n0_ n1_ n2_ n3_; (try clear hb); (try clear hb2); (try clear hk); (try clear hi)))
 go_ret
 exact ⟨by first | rfl | (simp [errW_none, errW_some] <;> rfl) | (simp [*, errW_none, errW_some] <;> rfl), bz⟩

end Go.Proofs.Ythegbhfoleiegaa.All

