/- Part 3 of the proof of FnExactPrevBlocks: functions of the translation with what they return, and plain laws of these. Written by programs of this session over the kit's print, and by hand. -/
import Derived.Test.YtoedcnhgobbnfaaProg
import Derived.Test.YtoedcnhgobbnfaaWApart
import Derived.Test.YtoedcnhgobbnfaaWArr
import Derived.Test.YtoedcnhgobbnfaaWFoot
import Derived.Test.YtoedcnhgobbnfaaWGuard
import Derived.Test.YtoedcnhgobbnfaaWKept
import Derived.Test.YtoedcnhgobbnfaaWLast
import Derived.Test.YtoedcnhgobbnfaaWMore
import Derived.Test.YtoedcnhgobbnfaaWN
import Derived.Test.YtoedcnhgobbnfaaWNEv
import Derived.Test.YtoedcnhgobbnfaaWQPut
import Derived.Test.YtoedcnhgobbnfaaWRepsOne
import Derived.Test.YtoedcnhgobbnfaaWShare
import Derived.Test.YtoedcnhgobbnfaaWTab
import Derived.Test.YtoedcnhgobbnfaaWWords
import Derived.Test.YtoedcnhgobbnfaaWZeros
import Derived.Below
import Derived.Deep.Draws
import Derived.Deep.AppendLies
import Derived.Maps.AppendAt
import Derived.OwnWalk
import Derived.Laws.BytesArg
import Derived.Laws.MakeOwn
import Derived.Laws.OwnMore
import Derived.Deep.OwnRows
import Derived.Tactics
import Derived.Lib.ConvBytes
import Derived.Laws.Slices
import Derived.WalkKit
import Derived.KernelRfl
import Derived.RowKit3
import Derived.Deep.LoopGhost
import Derived.Deep.QuietTactic
import Derived.BigQuiet
import Derived.WideLaws
import Derived.Deep.DeepCutAuto
import Derived.Deep.CutBlock
import Derived.Deep.RegionHeld3
import Derived.Laws.Rows
import Derived.Lib.AppendStr
import Derived.ArgAppend
import Derived.Laws.IdiomCopy
import Derived.OrdersHeld
import Derived.Laws.BitsLemmas
import Derived.RowKit
import Derived.Maps.OwnSet
import Derived.Maps.OwnOps
import Derived.Deep.Slices
import Derived.ChangeArms
import Derived.ProofKit
import Derived.OpenShut
import Derived.ShutString
import Derived.ChangeOld
import Derived.SizedLaws
import Derived.Test.YtoedcnhgobbnfaaCFnExactPrevBlocks1
import Derived.Test.YtoedcnhgobbnfaaCFnExactPrevBlocks2
namespace Go.Proofs.Ytoedcnhgobbnfaa.All
open Go.RowKit Go.Proofs.YtoedcnhgobbnfaaW.PrintWords Go.Proofs.YtoedcnhgobbnfaaW.PrintLast Go.Proofs.YtoedcnhgobbnfaaW.PrintMore
attribute [local go_sem] max2_int min2_int max_two min_two max_three min_three max_four min_four   -- for this text's walks alone
set_option linter.unusedVariables false
set_option linter.unusedSimpArgs false

/-! ### spec_l4Has: function 51 -/
def spec_l4Has.l0 : Nat → List Int → Int → Int → Option (Bool)
  | 0, _, _, _ => none
  | k + 1, x0, x1, x5 => if x5 < (x0.length : Int) then (if 0 ≤ x5 then (if (rd x0 x5) = x1 then (some true) else (spec_l4Has.l0 k x0 x1 (wrap64 (x5 + 1)))) else (none)) else (some false)
def spec_l4Has.f (k : Nat) (l0 : List Int) (a1 : Int) : Option (Bool) := spec_l4Has.l0 k l0 a1 0
set_option maxHeartbeats 8000000 in
set_option maxRecDepth 100000 in
theorem spec_l4Has.calls (k : Nat) (A0 : Option Addr) (c0 : Nat) (l0 : List Int) (a1 : Int) (r : Bool) (w : World) (hr0 : Kd.C (Kd.int .i64) w A0 l0.length l0) (hc0 : l0.length ≤ c0) (h : spec_l4Has.f k l0 a1 = some r) :
    Calls Try.prog 51 #[.slice A0 l0.length c0, .int .i64 a1] w fun e w' => e = .returned (.bool r) ∧ Drawn0 w w' := by
  have HR0 := Aside0.mk hr0
  have HC0 := Aside0.mk hc0
  clear hr0 hc0
  have H : (spec_l4Has.l0 k l0 a1 0) = some r := h
  clear h
  have H' := Aside0.mk H
  clear H
  go_enter Try.func51, Try.ntmps51
  go_wp2
  go_loopg [5] k (fun kq v5 w' => ∃ (x5_1 : Int), v5 = .int .i64 x5_1 ∧ Aside0 (spec_l4Has.l0 kq l0 a1 x5_1 = some r) ∧ Aside0 (kq ≤ k) ∧ Drawn0 w w')
  case atStart => exact ⟨(0), (by first | rfl | (simp; done) | (simp [*]; done)), H', ⟨Nat.le_refl _⟩, by repeat (first | exact Drawn0.refl _ | apply Drawn0.step)⟩
  case round =>
    clear H'
    try clear p2
    obtain ⟨x5_1, rfl, HA, HK1, ⟨m1, rfl⟩⟩ := hrel
    cases gk with
    | zero => exact absurd HA.out (by simp [spec_l4Has.l0])
    | succ k1 =>
      have H := HA.out
      clear HA
      simp only [spec_l4Has.l0] at H
      by_cases c3 : x5_1 < (l0.length : Int)
      · rw [if_pos c3] at H
        have c3b0 : decide (x5_1 < (l0.length : Int)) = true := decide_eq_true c3
        clear c3
        by_cases c4 : 0 ≤ x5_1
        · rw [if_pos c4] at H
          have c4b0 : decide (0 ≤ x5_1) = true := decide_eq_true c4
          clear c4
          by_cases c5 : (rd l0 x5_1) = a1
          · rw [if_pos c5] at H
            have c5b0 : ((rd l0 x5_1) == a1) = true := beq_iff_eq.mpr c5
            have c5b1 : ((rd l0 x5_1) != a1) = false := bne_eq_false_iff_eq.mpr c5
            clear c5
            obtain rfl := Option.some.inj H
            have p114 : 0 ≤ (x5_1 : Int) := of_decide_eq_true (by first | (with_reducible assumption) | assumption)
            have q114 : x5_1 < (l0.length : Int) := of_decide_eq_true (by first | (with_reducible assumption) | assumption)
            obtain ⟨ad114, e114, hx114_0⟩ := Kd.at_int HR0.out x5_1 p114 q114
            cases e114
            replace p114 := eq_true p114
            replace q114 := eq_true q114
            go_wp2
            go_ret
            exact ⟨by first | rfl | (simp; done) | (simp [*]; done), by repeat (first | exact Drawn0.refl _ | apply Drawn0.step)⟩
          · rw [if_neg c5] at H
            have c5b0 : ((rd l0 x5_1) == a1) = false := beq_eq_false_iff_ne.mpr c5
            have c5b1 : ((rd l0 x5_1) != a1) = true := bne_iff_ne.mpr c5
            have H' := Aside0.mk H
            clear H
            have p114 : 0 ≤ (x5_1 : Int) := of_decide_eq_true (by first | (with_reducible assumption) | assumption)
            have q114 : x5_1 < (l0.length : Int) := of_decide_eq_true (by first | (with_reducible assumption) | assumption)
            obtain ⟨ad114, e114, hx114_0⟩ := Kd.at_int HR0.out x5_1 p114 q114
            cases e114
            replace p114 := eq_true p114
            replace q114 := eq_true q114
            go_wp2
            go_roundg k1
            case measure => have := HK1.out; omega
            case rel => exact ⟨(wrap64 (x5_1 + 1)), (by first | rfl | (simp; done) | (simp [*]; done)), H', ⟨by have := HK1.out; omega⟩, by repeat (first | exact Drawn0.refl _ | apply Drawn0.step)⟩
        · rw [if_neg c4] at H
          exact absurd H (by simp)
      · rw [if_neg c3] at H
        have c3b0 : decide (x5_1 < (l0.length : Int)) = false := decide_eq_false c3
        clear c3
        obtain rfl := Option.some.inj H
        go_wp2
        go_ret
        exact ⟨by first | rfl | (simp; done) | (simp [*]; done), by repeat (first | exact Drawn0.refl _ | apply Drawn0.step)⟩

end Go.Proofs.Ytoedcnhgobbnfaa.All

namespace Go.Proofs.Ytoedcnhgobbnfaa.All
open Go.RowKit Go.Proofs.YtoedcnhgobbnfaaW.PrintWords Go.Proofs.YtoedcnhgobbnfaaW.PrintLast Go.Proofs.YtoedcnhgobbnfaaW.PrintMore
attribute [local go_sem] max2_int min2_int max_two min_two max_three min_three max_four min_four   -- for this text's walks alone
set_option linter.unusedVariables false
set_option linter.unusedSimpArgs false

/-! ### spec_NextBlocks: function 17 -/
mutual
def spec_NextBlocks.j0 : Nat → Int → List Int → Bool → ByteArray → Int → List Int → Int → List (S62) → Option (List Int)
  | 0, _, _, _, _, _, _, _, _ => none
  | k + 1, x1, x5, x29, x116000, x116001, x116002, x116003, x116004 => if x29 = true then (some x5) else (if 0 ≤ x1 then (if x1 < (x116004.length : Int) then (if 0 ≤ (wrap64 ((((rd_T62 x116004 x1).f0).length : Int) - 1)) then (if (wrap64 ((((rd_T62 x116004 x1).f0).length : Int) - 1)) < (((rd_T62 x116004 x1).f0).length : Int) then (spec_NextBlocks.l0 k x5 0 x116000 x116001 x116002 x116003 x116004 ((rd_T66 ((rd_T62 x116004 x1).f0) (wrap64 ((((rd_T62 x116004 x1).f0).length : Int) - 1))).f0) ((rd_T66 ((rd_T62 x116004 x1).f0) (wrap64 ((((rd_T62 x116004 x1).f0).length : Int) - 1))).f1) ((rd_T66 ((rd_T62 x116004 x1).f0) (wrap64 ((((rd_T62 x116004 x1).f0).length : Int) - 1))).f2) ((rd_T66 ((rd_T62 x116004 x1).f0) (wrap64 ((((rd_T62 x116004 x1).f0).length : Int) - 1))).f3) ((rd_T66 ((rd_T62 x116004 x1).f0) (wrap64 ((((rd_T62 x116004 x1).f0).length : Int) - 1))).f4) ((rd_T66 ((rd_T62 x116004 x1).f0) (wrap64 ((((rd_T62 x116004 x1).f0).length : Int) - 1))).f5) ((rd_T66 ((rd_T62 x116004 x1).f0) (wrap64 ((((rd_T62 x116004 x1).f0).length : Int) - 1))).f6) ((rd_T66 ((rd_T62 x116004 x1).f0) (wrap64 ((((rd_T62 x116004 x1).f0).length : Int) - 1))).f7) ((rd_T66 ((rd_T62 x116004 x1).f0) (wrap64 ((((rd_T62 x116004 x1).f0).length : Int) - 1))).f8)) else (none)) else (none)) else (none)) else (none))
def spec_NextBlocks.l0 : Nat → List Int → Int → ByteArray → Int → List Int → Int → List (S62) → Int → Int → Int → Int → Int → Int → List (S75) → List Int → List Int → Option (List Int)
  | 0, _, _, _, _, _, _, _, _, _, _, _, _, _, _, _, _ => none
  | k + 1, x5, x8, x116000, x116001, x116002, x116003, x116004, x123000, x123001, x123002, x123003, x123004, x123005, x123006, x123007, x123008 => if x8 < (x123007.length : Int) then (if 0 ≤ x8 then (if (rd x123007 x8) ≥ 0 then (if (rd x123007 x8) < (x116004.length : Int) then ((spec_l4Has.f k x5 (rd x123007 x8)).bind fun t124 => (if t124 = true then (spec_NextBlocks.l0 k x5 (wrap64 (x8 + 1)) x116000 x116001 x116002 x116003 x116004 x123000 x123001 x123002 x123003 x123004 x123005 x123006 x123007 x123008) else (if x5.length < 17592186044416 then (spec_NextBlocks.l0 k (x5 ++ [rd x123007 x8]) (wrap64 (x8 + 1)) x116000 x116001 x116002 x116003 x116004 x123000 x123001 x123002 x123003 x123004 x123005 x123006 x123007 x123008) else (none)))) else (spec_NextBlocks.l0 k x5 (wrap64 (x8 + 1)) x116000 x116001 x116002 x116003 x116004 x123000 x123001 x123002 x123003 x123004 x123005 x123006 x123007 x123008)) else (spec_NextBlocks.l0 k x5 (wrap64 (x8 + 1)) x116000 x116001 x116002 x116003 x116004 x123000 x123001 x123002 x123003 x123004 x123005 x123006 x123007 x123008)) else (none)) else (some x5)
end
def spec_NextBlocks.f (k : Nat) (a0_0 : ByteArray) (a0_1 : Int) (l0_2 : List Int) (a0_3 : Int) (l0_4 : List (S62)) (a1 : Int) : Option (List Int) := (some (([] : List Int) : List Int)).bind fun y116 => (if a1 < 0 then (spec_NextBlocks.j0 k a1 y116 true a0_0 a0_1 l0_2 a0_3 l0_4) else (if a1 ≥ (l0_4.length : Int) then (spec_NextBlocks.j0 k a1 y116 true a0_0 a0_1 l0_2 a0_3 l0_4) else (if 0 ≤ a1 then (if a1 < (l0_4.length : Int) then (spec_NextBlocks.j0 k a1 y116 ((((rd_T62 l0_4 a1).f0).length : Int) == 0) a0_0 a0_1 l0_2 a0_3 l0_4) else (none)) else (none))))
set_option maxHeartbeats 8000000 in
set_option maxRecDepth 100000 in
theorem spec_NextBlocks.calls (k : Nat) (a0_0 : ByteArray) (a0_1 : Int) (A0_2 : Option Addr) (c0_2 : Nat) (l0_2 : List Int) (a0_3 : Int) (A0_4 : Option Addr) (c0_4 : Nat) (l0_4 : List (S62)) (a1 : Int) (r : List Int) (w : World) (hr0_2 : Kd.C (Kd.int .i64) w A0_2 l0_2.length l0_2) (hc0_2 : l0_2.length ≤ c0_2) (hr0_4 : Kd.C k62 w A0_4 l0_4.length l0_4) (hc0_4 : l0_4.length ≤ c0_4) (h : spec_NextBlocks.f k a0_0 a0_1 l0_2 a0_3 l0_4 a1 = some r) :
    Calls Try.prog 17 #[.agg #[.string a0_0, .int .i64 a0_1, .slice A0_2 l0_2.length c0_2, .int .i64 a0_3, .slice A0_4 l0_4.length c0_4], .int .i64 a1] w fun e w' => ∃ v0_ : Value, e = .returned (v0_) ∧ Kd.R (Kd.int .i64) 2 w' w.heap.size (fun _ => True) v0_ r ∧ Below w.heap.size w w' := by
  have hu30 := Try.underlying30
  have hu66 := Try.underlying66
  have HR0_2 := Aside0.mk hr0_2
  have HC0_2 := Aside0.mk hc0_2
  clear hr0_2 hc0_2
  have HR0_4 := Aside0.mk hr0_4
  have HC0_4 := Aside0.mk hc0_4
  clear hr0_4 hc0_4
  have HB := Aside0.mk (Below.refl w.heap.size w)
  have H : ((some (([] : List Int) : List Int)).bind fun y116 => (if a1 < 0 then (spec_NextBlocks.j0 k a1 y116 true a0_0 a0_1 l0_2 a0_3 l0_4) else (if a1 ≥ (l0_4.length : Int) then (spec_NextBlocks.j0 k a1 y116 true a0_0 a0_1 l0_2 a0_3 l0_4) else (if 0 ≤ a1 then (if a1 < (l0_4.length : Int) then (spec_NextBlocks.j0 k a1 y116 ((((rd_T62 l0_4 a1).f0).length : Int) == 0) a0_0 a0_1 l0_2 a0_3 l0_4) else (none)) else (none))))) = some r := h
  clear h
  obtain ⟨y116, hy116⟩ : ∃ y_ : List Int, y_ = (([] : List Int)) := ⟨_, rfl⟩
  replace H : (if a1 < 0 then (spec_NextBlocks.j0 k a1 y116 true a0_0 a0_1 l0_2 a0_3 l0_4) else (if a1 ≥ (l0_4.length : Int) then (spec_NextBlocks.j0 k a1 y116 true a0_0 a0_1 l0_2 a0_3 l0_4) else (if 0 ≤ a1 then (if a1 < (l0_4.length : Int) then (spec_NextBlocks.j0 k a1 y116 ((((rd_T62 l0_4 a1).f0).length : Int) == 0) a0_0 a0_1 l0_2 a0_3 l0_4) else (none)) else (none)))) = some r := by first | (rw [hy116]; with_reducible exact H) | (have H2_ := (Option.bind_some _ _).symm.trans H; rw [hy116]; with_reducible exact H2_) | (have H2_ := (Option.bind_some _ _).symm.trans H; with_reducible exact H2_) | with_reducible exact H | (rw [hy116]; exact H) | exact H
  have Ny116 := Aside0.mk hy116
  clear hy116
  have HC3 := Aside0.mk H
  clear H
  go_enter Try.func17, Try.ntmps17
  go_upto_region 2 with (first | ((with_reducible refine gate_dst (N := 2) rfl ?_); (try (refine gate_guard (by rfl) ?_; dsimp only)); refine box_event ?hg (N := 2) ?hd (cs := #[.string a0_0, .int .i64 a0_1, .slice A0_2 l0_2.length c0_2, .int .i64 a0_3, .slice A0_4 l0_4.length c0_4]) (t := 30) ?hr ?_; (case hd => rfl); (case hg => rfl); (case hr => first | (go_simp; done) | (go_simp; rfl)); intro gb115 hg w4 hbox hb; have n0_ := Aside0.mk (below_step (by repeat (first | (with_reducible first | exact HB.out | apply below_alloc | apply pw_below_drewN | apply below_drew1) | exact HB.out)) hb); have n1_ := Aside0.mk (hbox); have n2_ := Aside0.mk ((by rw [hg]; exact (below_size (by repeat (first | (with_reducible first | exact HB.out | apply below_alloc | apply pw_below_drewN | apply below_drew1) | exact HB.out))) : w.heap.size ≤ gb115)); have n3_ := Aside0.mk ((by rw [hg]; exact (below_size (by repeat (first | (with_reducible first | exact HB.out | apply below_alloc | apply pw_below_drewN | apply below_drew1) | exact HB.out))) : w.heap.size ≤ gb115)); clear HB; have HB := n0_; have BK115 := n1_; have GW115 := n2_; have GE115 := n3_; clear n0_ n1_ n2_ n3_; clear hb hbox hg) | ((with_reducible refine gate_dst (N := 10) rfl ?_); (try (refine gate_guard (by rfl) ?_; dsimp only)); refine Kd.R_lit (Kd.int .i64) _ 2 ?hg (N := 10) ?hd (xs := ([] : List Int)) (inner := []) (ok := fun _ => True) (okp := fun _ => True) ?hr ?hp (fun _ hk => hk) trivial (Below.refl _ _) (Nat.le_refl _) (by simp) ?_; (case hd => rfl); (case hg => rfl); (case hr => first | (go_simp; done) | (go_simp; rfl)); (case hp => exact (Reps.none _ _)); intro v117 w5 ho6 hb hg_ hnew_; clear hg_ hnew_; (first | rw [← Ny116.out] at ho6 | (simp only [Int.reduceToNat] at ho6; rw [← Ny116.out] at ho6)); have n0_ := Aside0.mk (Kd.R_lower ho6 (below_size (by repeat (first | (with_reducible first | exact HB.out | apply below_alloc | apply pw_below_drewN | apply below_drew1 | refine below_set ?_ GE115.out) | exact HB.out)))); have n1_ := Aside0.mk (blk_below (g := gb115) (o := .cells #[.string a0_0, .int .i64 a0_1, .slice A0_2 l0_2.length c0_2, .int .i64 a0_3, .slice A0_4 l0_4.length c0_4] 30 (0, 0)) (by (with_reducible repeat (first | refine blk_drewN ?_ _ | refine blk_drew ?_ | refine blk_alloc ?_ _)); exact BK115.out) hb); have n2_ := Aside0.mk (below_step (by repeat (first | (with_reducible first | exact HB.out | apply below_alloc | apply pw_below_drewN | apply below_drew1 | refine below_set ?_ GE115.out) | exact HB.out)) hb); clear BK115; clear HB; have HO118 := n0_; have BK115 := n1_; have HB := n2_; clear n0_ n1_ n2_; clear hb ho6))
  (try simp only [Act.put, List.setIfInBounds_toArray, List.set_cons_zero, List.set_cons_succ])
  go_cut [29] (fun v29 wc => ∃ (kq : Nat) (x29_2 : Bool), v29 = .bool x29_2 ∧ Aside0 (spec_NextBlocks.j0 kq a1 y116 x29_2 a0_0 a0_1 l0_2 a0_3 l0_4 = some r) ∧ Aside0 (kq ≤ k) ∧ Aside0 (Kd.R (Kd.int .i64) 2 wc w.heap.size (fun _ => True) v117 y116) ∧ Aside0 (wc.heap[gb115]? = some (.cells #[.string a0_0, .int .i64 a0_1, (.slice A0_2 l0_2.length c0_2), .int .i64 a0_3, (.slice A0_4 l0_4.length c0_4)] 30 (0, 0))) ∧ Aside0 (Below w.heap.size w wc))
  case first =>
    have H := HC3.out
    clear HC3
    by_cases c7 : a1 < 0
    · rw [if_pos c7] at H
      have c7b0 : decide (a1 < 0) = true := decide_eq_true c7
      clear c7
      (first | rw [c7b0] | (simp only [i64_w, i32_w]; rw [c7b0]) | skip)
      have H' := Aside0.mk H
      clear H
      go_wp2
      go_meet
      case rel => exact ⟨_, (true), (by first | rfl | (simp; done) | (simp [*]; done)), H', ⟨by first | omega | exact Nat.le_refl _⟩, ⟨by (with_reducible repeat (first | apply Kd.R_alloc | apply Kd.R_drewN | apply Kd.R_drew)); exact HO118.out⟩, ⟨by (with_reducible repeat (first | refine blk_drewN ?_ _ | refine blk_drew ?_ | refine blk_alloc ?_ _)); exact BK115.out⟩, ⟨by repeat (first | (with_reducible first | exact HB.out | apply below_alloc | apply pw_below_drewN | apply below_drew1 | refine below_set ?_ GE115.out) | exact HB.out)⟩⟩
    · rw [if_neg c7] at H
      have c7b0 : decide (a1 < 0) = false := decide_eq_false c7
      clear c7
      (first | rw [c7b0] | (simp only [i64_w, i32_w]; rw [c7b0]) | skip)
      by_cases c8 : a1 ≥ (l0_4.length : Int)
      · rw [if_pos c8] at H
        have c8b0 : decide ((l0_4.length : Int) ≤ a1) = true := decide_eq_true c8
        clear c8
        have H' := Aside0.mk H
        clear H
        have hcz9_0 : w5.cell? ⟨gb115, 0, none⟩ = some (.string a0_0) := (blk_cell BK115.out 0).trans rfl
        have hcz9_1 : w5.cell? ⟨gb115, 1, none⟩ = some (.int .i64 a0_1) := (blk_cell BK115.out 1).trans rfl
        have hcz9_2 : w5.cell? ⟨gb115, 2, none⟩ = some (.slice A0_2 l0_2.length c0_2) := (blk_cell BK115.out 2).trans rfl
        have hcz9_3 : w5.cell? ⟨gb115, 3, none⟩ = some (.int .i64 a0_3) := (blk_cell BK115.out 3).trans rfl
        have hcz9_4 : w5.cell? ⟨gb115, 4, none⟩ = some (.slice A0_4 l0_4.length c0_4) := (blk_cell BK115.out 4).trans rfl
        have hfz9_0 := blk_frozen BK115.out 0
        have hfz9_1 := blk_frozen BK115.out 1
        have hfz9_2 := blk_frozen BK115.out 2
        have hfz9_3 := blk_frozen BK115.out 3
        have hfz9_4 := blk_frozen BK115.out 4
        go_wp2
        go_meet
        case rel => exact ⟨_, (true), (by first | rfl | (simp; done) | (simp [*]; done)), H', ⟨by first | omega | exact Nat.le_refl _⟩, ⟨by (with_reducible repeat (first | apply Kd.R_alloc | apply Kd.R_drewN | apply Kd.R_drew)); exact HO118.out⟩, ⟨by (with_reducible repeat (first | refine blk_drewN ?_ _ | refine blk_drew ?_ | refine blk_alloc ?_ _)); exact BK115.out⟩, ⟨by repeat (first | (with_reducible first | exact HB.out | apply below_alloc | apply pw_below_drewN | apply below_drew1 | refine below_set ?_ GE115.out) | exact HB.out)⟩⟩
      · rw [if_neg c8] at H
        have c8b0 : decide ((l0_4.length : Int) ≤ a1) = false := decide_eq_false c8
        clear c8
        by_cases c10 : 0 ≤ a1
        · rw [if_pos c10] at H
          have c10b0 : decide (0 ≤ a1) = true := decide_eq_true c10
          clear c10
          by_cases c11 : a1 < (l0_4.length : Int)
          · rw [if_pos c11] at H
            have c11b0 : decide (a1 < (l0_4.length : Int)) = true := decide_eq_true c11
            clear c11
            have H' := Aside0.mk H
            clear H
            have hcz12_0 : w5.cell? ⟨gb115, 0, none⟩ = some (.string a0_0) := (blk_cell BK115.out 0).trans rfl
            have hcz12_1 : w5.cell? ⟨gb115, 1, none⟩ = some (.int .i64 a0_1) := (blk_cell BK115.out 1).trans rfl
            have hcz12_2 : w5.cell? ⟨gb115, 2, none⟩ = some (.slice A0_2 l0_2.length c0_2) := (blk_cell BK115.out 2).trans rfl
            have hcz12_3 : w5.cell? ⟨gb115, 3, none⟩ = some (.int .i64 a0_3) := (blk_cell BK115.out 3).trans rfl
            have hcz12_4 : w5.cell? ⟨gb115, 4, none⟩ = some (.slice A0_4 l0_4.length c0_4) := (blk_cell BK115.out 4).trans rfl
            have hfz12_0 := blk_frozen BK115.out 0
            have hfz12_1 := blk_frozen BK115.out 1
            have hfz12_2 := blk_frozen BK115.out 2
            have hfz12_3 := blk_frozen BK115.out 3
            have hfz12_4 := blk_frozen BK115.out 4
            have p119 : 0 ≤ (a1 : Int) := of_decide_eq_true (by first | (with_reducible assumption) | assumption)
            have q119 : a1 < (l0_4.length : Int) := of_decide_eq_true (by first | (with_reducible assumption) | assumption)
            obtain ⟨ad119, A119_0, c119_0, e119, hx119_0, hl119_0, hi119_0⟩ := at_T62 HR0_4.out a1 p119 q119
            cases e119
            replace hx119_0 := (HB.out.cell (World.block_lt_of_cell? w _ hx119_0)).trans hx119_0
            have HR119_0 := Aside0.mk hi119_0
            have HC119_0 := Aside0.mk hl119_0
            clear hi119_0 hl119_0
            replace p119 := eq_true p119
            replace q119 := eq_true q119
            go_wp2
            go_meet
            case rel => exact ⟨_, (((((rd_T62 l0_4 a1).f0).length : Int) == 0)), (by first | rfl | (simp; done) | (simp [*]; done)), H', ⟨by first | omega | exact Nat.le_refl _⟩, ⟨by (with_reducible repeat (first | apply Kd.R_alloc | apply Kd.R_drewN | apply Kd.R_drew)); exact HO118.out⟩, ⟨by (with_reducible repeat (first | refine blk_drewN ?_ _ | refine blk_drew ?_ | refine blk_alloc ?_ _)); exact BK115.out⟩, ⟨by repeat (first | (with_reducible first | exact HB.out | apply below_alloc | apply pw_below_drewN | apply below_drew1 | refine below_set ?_ GE115.out) | exact HB.out)⟩⟩
          · rw [if_neg c11] at H
            exact absurd H (by simp)
        · rw [if_neg c10] at H
          exact absurd H (by simp)
  case rest =>
    clear HC3
    try clear c1
    try clear p1
    try clear q1
    try clear hx1
    try clear p2
    try clear c7
    try clear c7b0
    try clear c8
    try clear c8b0
    try clear c10
    try clear c10b0
    try clear c11
    try clear c11b0
    try clear p11
    try clear q11
    try clear hx11
    try clear hcz12_0
    try clear hcz12_1
    try clear hcz12_2
    try clear hcz12_3
    try clear hcz12_4
    try clear hcz9_0
    try clear hcz9_1
    try clear hcz9_2
    try clear hcz9_3
    try clear hcz9_4
    try clear hfz12_0
    try clear hfz12_1
    try clear hfz12_2
    try clear hfz12_3
    try clear hfz12_4
    try clear hfz9_0
    try clear hfz9_1
    try clear hfz9_2
    try clear hfz9_3
    try clear hfz9_4
    try clear hx119_0
    try clear p119
    try clear q119
    obtain ⟨kq, x29_2, rfl, HA, HJ2, HO_5, BK115, HB⟩ := hcut
    cases kq with
    | zero => exact absurd HA.out (by simp [spec_NextBlocks.j0])
    | succ kj2 =>
      have H := HA.out
      clear HA
      simp only [spec_NextBlocks.j0] at H
      by_cases c13 : x29_2 = true
      · subst c13
        have H1 : (some y116) = some r := by rw [if_pos rfl] at H; exact H
        clear H
        have H := H1
        clear H1
        obtain rfl := Option.some.inj H
        go_wp2
        go_ret
        exact ⟨_, by first | rfl | (simp [errW_none, errW_some] <;> rfl) | (simp [*, errW_none, errW_some] <;> rfl), by (with_reducible repeat (first | apply Kd.R_alloc | apply Kd.R_drewN | apply Kd.R_drew)); exact HO_5.out, by repeat (first | (with_reducible first | exact HB.out | apply below_alloc | apply pw_below_drewN | apply below_drew1 | refine below_set ?_ GE115.out) | exact HB.out)⟩
      · replace c13 := Bool.eq_false_iff.mpr c13
        subst c13
        have H1 : (if 0 ≤ a1 then (if a1 < (l0_4.length : Int) then (if 0 ≤ (wrap64 ((((rd_T62 l0_4 a1).f0).length : Int) - 1)) then (if (wrap64 ((((rd_T62 l0_4 a1).f0).length : Int) - 1)) < (((rd_T62 l0_4 a1).f0).length : Int) then (spec_NextBlocks.l0 kj2 y116 0 a0_0 a0_1 l0_2 a0_3 l0_4 ((rd_T66 ((rd_T62 l0_4 a1).f0) (wrap64 ((((rd_T62 l0_4 a1).f0).length : Int) - 1))).f0) ((rd_T66 ((rd_T62 l0_4 a1).f0) (wrap64 ((((rd_T62 l0_4 a1).f0).length : Int) - 1))).f1) ((rd_T66 ((rd_T62 l0_4 a1).f0) (wrap64 ((((rd_T62 l0_4 a1).f0).length : Int) - 1))).f2) ((rd_T66 ((rd_T62 l0_4 a1).f0) (wrap64 ((((rd_T62 l0_4 a1).f0).length : Int) - 1))).f3) ((rd_T66 ((rd_T62 l0_4 a1).f0) (wrap64 ((((rd_T62 l0_4 a1).f0).length : Int) - 1))).f4) ((rd_T66 ((rd_T62 l0_4 a1).f0) (wrap64 ((((rd_T62 l0_4 a1).f0).length : Int) - 1))).f5) ((rd_T66 ((rd_T62 l0_4 a1).f0) (wrap64 ((((rd_T62 l0_4 a1).f0).length : Int) - 1))).f6) ((rd_T66 ((rd_T62 l0_4 a1).f0) (wrap64 ((((rd_T62 l0_4 a1).f0).length : Int) - 1))).f7) ((rd_T66 ((rd_T62 l0_4 a1).f0) (wrap64 ((((rd_T62 l0_4 a1).f0).length : Int) - 1))).f8)) else (none)) else (none)) else (none)) else (none)) = some r := by rw [if_neg (show ¬ (false = true) by decide)] at H; exact H
        clear H
        have H := H1
        clear H1
        by_cases c14 : 0 ≤ a1
        · rw [if_pos c14] at H
          have c14b0 : decide (0 ≤ a1) = true := decide_eq_true c14
          clear c14
          by_cases c15 : a1 < (l0_4.length : Int)
          · rw [if_pos c15] at H
            have c15b0 : decide (a1 < (l0_4.length : Int)) = true := decide_eq_true c15
            clear c15
            obtain ⟨ji16, hji16⟩ : ∃ j_ : Int, (wrap64 ((((rd_T62 l0_4 a1).f0).length : Int) - 1)) = j_ := ⟨_, rfl⟩
            replace H : (if 0 ≤ (ji16) then (if (ji16) < (((rd_T62 l0_4 a1).f0).length : Int) then (spec_NextBlocks.l0 kj2 y116 0 a0_0 a0_1 l0_2 a0_3 l0_4 ((rd_T66 ((rd_T62 l0_4 a1).f0) (ji16)).f0) ((rd_T66 ((rd_T62 l0_4 a1).f0) (ji16)).f1) ((rd_T66 ((rd_T62 l0_4 a1).f0) (ji16)).f2) ((rd_T66 ((rd_T62 l0_4 a1).f0) (ji16)).f3) ((rd_T66 ((rd_T62 l0_4 a1).f0) (ji16)).f4) ((rd_T66 ((rd_T62 l0_4 a1).f0) (ji16)).f5) ((rd_T66 ((rd_T62 l0_4 a1).f0) (ji16)).f6) ((rd_T66 ((rd_T62 l0_4 a1).f0) (ji16)).f7) ((rd_T66 ((rd_T62 l0_4 a1).f0) (ji16)).f8)) else (none)) else (none)) = some r := by first | (rw [hji16] at H; exact H) | (simp only [hji16] at H ⊢; exact H)
            have hji16w : (IntKind.i64.wrap ((((rd_T62 l0_4 a1).f0).length : Int) - 1)) = ji16 := (i64_w _).trans hji16
            by_cases c17 : 0 ≤ (ji16)
            · rw [if_pos c17] at H
              have c17b0 : decide (0 ≤ (ji16)) = true := decide_eq_true c17
              clear c17
              by_cases c18 : (ji16) < (((rd_T62 l0_4 a1).f0).length : Int)
              · rw [if_pos c18] at H
                have c18b0 : decide ((ji16) < (((rd_T62 l0_4 a1).f0).length : Int)) = true := decide_eq_true c18
                clear c18
                have H' := Aside0.mk H
                clear H
                have hcz19_0 : wc.cell? ⟨gb115, 0, none⟩ = some (.string a0_0) := (blk_cell BK115.out 0).trans rfl
                have hcz19_1 : wc.cell? ⟨gb115, 1, none⟩ = some (.int .i64 a0_1) := (blk_cell BK115.out 1).trans rfl
                have hcz19_2 : wc.cell? ⟨gb115, 2, none⟩ = some (.slice A0_2 l0_2.length c0_2) := (blk_cell BK115.out 2).trans rfl
                have hcz19_3 : wc.cell? ⟨gb115, 3, none⟩ = some (.int .i64 a0_3) := (blk_cell BK115.out 3).trans rfl
                have hcz19_4 : wc.cell? ⟨gb115, 4, none⟩ = some (.slice A0_4 l0_4.length c0_4) := (blk_cell BK115.out 4).trans rfl
                have hfz19_0 := blk_frozen BK115.out 0
                have hfz19_1 := blk_frozen BK115.out 1
                have hfz19_2 := blk_frozen BK115.out 2
                have hfz19_3 := blk_frozen BK115.out 3
                have hfz19_4 := blk_frozen BK115.out 4
                have p120 : 0 ≤ (a1 : Int) := of_decide_eq_true (by first | (with_reducible assumption) | assumption)
                have q120 : a1 < (l0_4.length : Int) := of_decide_eq_true (by first | (with_reducible assumption) | assumption)
                obtain ⟨ad120, A120_0, c120_0, e120, hx120_0, hl120_0, hi120_0⟩ := at_T62 HR0_4.out a1 p120 q120
                cases e120
                replace hx120_0 := (HB.out.cell (World.block_lt_of_cell? w _ hx120_0)).trans hx120_0
                have HR120_0 := Aside0.mk hi120_0
                have HC120_0 := Aside0.mk hl120_0
                clear hi120_0 hl120_0
                replace p120 := eq_true p120
                replace q120 := eq_true q120
                have p121 : 0 ≤ ((ji16) : Int) := of_decide_eq_true (by first | (with_reducible assumption) | assumption)
                have q121 : (ji16) < (((rd_T62 l0_4 a1).f0).length : Int) := of_decide_eq_true (by first | (with_reducible assumption) | assumption)
                obtain ⟨ad121, A121_6, c121_6, A121_7, c121_7, A121_8, c121_8, e121, hx121_0, hx121_1, hx121_2, hx121_3, hx121_4, hx121_5, hx121_6, hx121_7, hx121_8, hl121_6, hi121_6, hl121_7, hi121_7, hl121_8, hi121_8⟩ := at_T66 HR120_0.out (ji16) p121 q121
                cases e121
                replace hx121_0 := (HB.out.cell (World.block_lt_of_cell? w _ hx121_0)).trans hx121_0
                replace hx121_1 := (HB.out.cell (World.block_lt_of_cell? w _ hx121_1)).trans hx121_1
                replace hx121_2 := (HB.out.cell (World.block_lt_of_cell? w _ hx121_2)).trans hx121_2
                replace hx121_3 := (HB.out.cell (World.block_lt_of_cell? w _ hx121_3)).trans hx121_3
                replace hx121_4 := (HB.out.cell (World.block_lt_of_cell? w _ hx121_4)).trans hx121_4
                replace hx121_5 := (HB.out.cell (World.block_lt_of_cell? w _ hx121_5)).trans hx121_5
                replace hx121_6 := (HB.out.cell (World.block_lt_of_cell? w _ hx121_6)).trans hx121_6
                replace hx121_7 := (HB.out.cell (World.block_lt_of_cell? w _ hx121_7)).trans hx121_7
                replace hx121_8 := (HB.out.cell (World.block_lt_of_cell? w _ hx121_8)).trans hx121_8
                have HR121_6 := Aside0.mk hi121_6
                have HC121_6 := Aside0.mk hl121_6
                clear hi121_6 hl121_6
                have HR121_7 := Aside0.mk hi121_7
                have HC121_7 := Aside0.mk hl121_7
                clear hi121_7 hl121_7
                have HR121_8 := Aside0.mk hi121_8
                have HC121_8 := Aside0.mk hl121_8
                clear hi121_8 hl121_8
                replace p121 := eq_true p121
                replace q121 := eq_true q121
                go_wp2_with (first | ((with_reducible refine gate_dst (N := 7) rfl ?_); (try (refine gate_guard (by rfl) ?_; dsimp only)); refine box_event ?hg (N := 7) ?hd (cs := #[.int .i64 0, .int .i64 0, .int .i64 0, .int .i64 0, .int .i64 0, .int .i64 0, .slice none 0 0, .slice none 0 0, .slice none 0 0]) (t := 66) ?hr ?_; (case hd => rfl); (case hg => rfl); (case hr => first | (go_simp; done) | (go_simp; rfl)); intro gb122 hg w20 hbox hb; have n0_ := Aside0.mk (Kd.R_below (by (with_reducible repeat (first | apply Kd.R_alloc | apply Kd.R_drewN | apply Kd.R_drew)); exact HO_5.out) hb); have n1_ := Aside0.mk (blk_below (g := gb115) (o := .cells #[.string a0_0, .int .i64 a0_1, .slice A0_2 l0_2.length c0_2, .int .i64 a0_3, .slice (some ad120) l0_4.length c0_4] 30 (0, 0)) (by (with_reducible repeat (first | refine blk_drewN ?_ _ | refine blk_drew ?_ | refine blk_alloc ?_ _)); exact BK115.out) hb); have n2_ := Aside0.mk (below_step (by repeat (first | (with_reducible first | exact HB.out | apply below_alloc | apply pw_below_drewN | apply below_drew1 | refine below_set ?_ GE115.out) | exact HB.out)) hb); have n3_ := Aside0.mk (hbox); have n4_ := Aside0.mk ((by rw [hg]; exact (below_size (by repeat (first | (with_reducible first | exact HB.out | apply below_alloc | apply pw_below_drewN | apply below_drew1 | refine below_set ?_ GE115.out) | exact HB.out))) : w.heap.size ≤ gb122)); have n5_ := Aside0.mk ((by rw [hg]; exact (below_size (by repeat (first | (with_reducible first | exact HB.out | apply below_alloc | apply pw_below_drewN | apply below_drew1 | refine below_set ?_ GE115.out) | exact HB.out))) : w.heap.size ≤ gb122)); have n6_ := Aside0.mk ((by rw [hg]; exact Nat.ne_of_lt (blk_lt (g := gb115) (o := .cells #[.string a0_0, .int .i64 a0_1, .slice A0_2 l0_2.length c0_2, .int .i64 a0_3, .slice (some ad120) l0_4.length c0_4] 30 (0, 0)) (by (with_reducible repeat (first | refine blk_drewN ?_ _ | refine blk_drew ?_ | refine blk_alloc ?_ _)); exact BK115.out)) : gb115 ≠ gb122)); have n7_ := Aside0.mk ((by rw [hg]; exact Nat.ne_of_gt (blk_lt (g := gb115) (o := .cells #[.string a0_0, .int .i64 a0_1, .slice A0_2 l0_2.length c0_2, .int .i64 a0_3, .slice (some ad120) l0_4.length c0_4] 30 (0, 0)) (by (with_reducible repeat (first | refine blk_drewN ?_ _ | refine blk_drew ?_ | refine blk_alloc ?_ _)); exact BK115.out)) : gb122 ≠ gb115)); clear HO_5; clear BK115; clear HB; have HO_5 := n0_; have BK115 := n1_; have HB := n2_; have BK122 := n3_; have GW122 := n4_; have GE122 := n5_; have NB115_122 := n6_; have NB122_115 := n7_; clear n0_ n1_ n2_ n3_ n4_ n5_ n6_ n7_; clear hb hbox hg; have hnb21 := NB122_115.out; have hnc21 := NB115_122.out; have hcz22_0 : w20.cell? ⟨gb122, 0, none⟩ = some (.int .i64 0) := (blk_cell BK122.out 0).trans rfl; have hcz22_1 : w20.cell? ⟨gb122, 1, none⟩ = some (.int .i64 0) := (blk_cell BK122.out 1).trans rfl; have hcz22_2 : w20.cell? ⟨gb122, 2, none⟩ = some (.int .i64 0) := (blk_cell BK122.out 2).trans rfl; have hcz22_3 : w20.cell? ⟨gb122, 3, none⟩ = some (.int .i64 0) := (blk_cell BK122.out 3).trans rfl; have hcz22_4 : w20.cell? ⟨gb122, 4, none⟩ = some (.int .i64 0) := (blk_cell BK122.out 4).trans rfl; have hcz22_5 : w20.cell? ⟨gb122, 5, none⟩ = some (.int .i64 0) := (blk_cell BK122.out 5).trans rfl; have hcz22_6 : w20.cell? ⟨gb122, 6, none⟩ = some (.slice none 0 0) := (blk_cell BK122.out 6).trans rfl; have hcz22_7 : w20.cell? ⟨gb122, 7, none⟩ = some (.slice none 0 0) := (blk_cell BK122.out 7).trans rfl; have hcz22_8 : w20.cell? ⟨gb122, 8, none⟩ = some (.slice none 0 0) := (blk_cell BK122.out 8).trans rfl; have hfz22_0 := blk_frozen BK122.out 0; have hfz22_1 := blk_frozen BK122.out 1; have hfz22_2 := blk_frozen BK122.out 2; have hfz22_3 := blk_frozen BK122.out 3; have hfz22_4 := blk_frozen BK122.out 4; have hfz22_5 := blk_frozen BK122.out 5; have hfz22_6 := blk_frozen BK122.out 6; have hfz22_7 := blk_frozen BK122.out 7; have hfz22_8 := blk_frozen BK122.out 8))
                go_loopg [5, 8] kj2 (fun kq v5 v8 w' => ∃ (x5_2 : List Int) (x8_2 : Int), v8 = .int .i64 x8_2 ∧ Aside0 (spec_NextBlocks.l0 kq x5_2 x8_2 a0_0 a0_1 l0_2 a0_3 l0_4 ((rd_T66 ((rd_T62 l0_4 a1).f0) (ji16)).f0) ((rd_T66 ((rd_T62 l0_4 a1).f0) (ji16)).f1) ((rd_T66 ((rd_T62 l0_4 a1).f0) (ji16)).f2) ((rd_T66 ((rd_T62 l0_4 a1).f0) (ji16)).f3) ((rd_T66 ((rd_T62 l0_4 a1).f0) (ji16)).f4) ((rd_T66 ((rd_T62 l0_4 a1).f0) (ji16)).f5) ((rd_T66 ((rd_T62 l0_4 a1).f0) (ji16)).f6) ((rd_T66 ((rd_T62 l0_4 a1).f0) (ji16)).f7) ((rd_T66 ((rd_T62 l0_4 a1).f0) (ji16)).f8) = some r) ∧ Aside0 (kq ≤ kj2) ∧ Aside0 (Kd.R (Kd.int .i64) 2 w' w.heap.size (fun _ => True) v5 x5_2) ∧ Aside0 (w'.heap[gb115]? = some (.cells #[.string a0_0, .int .i64 a0_1, (.slice A0_2 l0_2.length c0_2), .int .i64 a0_3, (.slice (some ad120) l0_4.length c0_4)] 30 (0, 0))) ∧ Aside0 (w'.heap[gb122]? = some (.cells #[.int .i64 ((rd_T66 ((rd_T62 l0_4 a1).f0) (ji16)).f0), .int .i64 ((rd_T66 ((rd_T62 l0_4 a1).f0) (ji16)).f1), .int .i64 ((rd_T66 ((rd_T62 l0_4 a1).f0) (ji16)).f2), .int .i64 ((rd_T66 ((rd_T62 l0_4 a1).f0) (ji16)).f3), .int .i64 ((rd_T66 ((rd_T62 l0_4 a1).f0) (ji16)).f4), .int .i64 ((rd_T66 ((rd_T62 l0_4 a1).f0) (ji16)).f5), (.slice A121_6 ((rd_T66 ((rd_T62 l0_4 a1).f0) (ji16)).f6).length c121_6), (.slice A121_7 ((rd_T66 ((rd_T62 l0_4 a1).f0) (ji16)).f7).length c121_7), (.slice A121_8 ((rd_T66 ((rd_T62 l0_4 a1).f0) (ji16)).f8).length c121_8)] 66 (0, 0))) ∧ Aside0 (Below w.heap.size w w'))
                case atStart => exact ⟨(y116), (0), (by first | rfl | (simp; done) | (simp [*]; done)), H', ⟨Nat.le_refl _⟩, ⟨by (with_reducible repeat (first | apply Kd.R_alloc | apply Kd.R_drewN | apply Kd.R_drew)); exact Kd.R_mono (Kd.R_far (p := ⟨gb122, 8, none⟩) (Kd.R_far (p := ⟨gb122, 7, none⟩) (Kd.R_far (p := ⟨gb122, 6, none⟩) (Kd.R_far (p := ⟨gb122, 5, none⟩) (Kd.R_far (p := ⟨gb122, 4, none⟩) (Kd.R_far (p := ⟨gb122, 3, none⟩) (Kd.R_far (p := ⟨gb122, 2, none⟩) (Kd.R_far (p := ⟨gb122, 1, none⟩) (Kd.R_far (p := ⟨gb122, 0, none⟩) (Kd.R_types HO_5.out BK122.out (by decide)) (fun _ hk => hk.2) (.int .i64 ((rd_T66 ((rd_T62 l0_4 a1).f0) (ji16)).f0))) (fun _ hk => hk.2) (.int .i64 ((rd_T66 ((rd_T62 l0_4 a1).f0) (ji16)).f1))) (fun _ hk => hk.2) (.int .i64 ((rd_T66 ((rd_T62 l0_4 a1).f0) (ji16)).f2))) (fun _ hk => hk.2) (.int .i64 ((rd_T66 ((rd_T62 l0_4 a1).f0) (ji16)).f3))) (fun _ hk => hk.2) (.int .i64 ((rd_T66 ((rd_T62 l0_4 a1).f0) (ji16)).f4))) (fun _ hk => hk.2) (.int .i64 ((rd_T66 ((rd_T62 l0_4 a1).f0) (ji16)).f5))) (fun _ hk => hk.2) (.slice A121_6 ((rd_T66 ((rd_T62 l0_4 a1).f0) (ji16)).f6).length c121_6)) (fun _ hk => hk.2) (.slice A121_7 ((rd_T66 ((rd_T62 l0_4 a1).f0) (ji16)).f7).length c121_7)) (fun _ hk => hk.2) (.slice A121_8 ((rd_T66 ((rd_T62 l0_4 a1).f0) (ji16)).f8).length c121_8)) (fun _ hk => trivial)⟩, ⟨by (with_reducible repeat (first | refine blk_drewN ?_ _ | refine blk_drew ?_ | refine blk_alloc ?_ _)); refine blk_far ?_ NB115_122.out _; (with_reducible repeat (first | refine blk_drewN ?_ _ | refine blk_drew ?_ | refine blk_alloc ?_ _)); refine blk_far ?_ NB115_122.out _; (with_reducible repeat (first | refine blk_drewN ?_ _ | refine blk_drew ?_ | refine blk_alloc ?_ _)); refine blk_far ?_ NB115_122.out _; (with_reducible repeat (first | refine blk_drewN ?_ _ | refine blk_drew ?_ | refine blk_alloc ?_ _)); refine blk_far ?_ NB115_122.out _; (with_reducible repeat (first | refine blk_drewN ?_ _ | refine blk_drew ?_ | refine blk_alloc ?_ _)); refine blk_far ?_ NB115_122.out _; (with_reducible repeat (first | refine blk_drewN ?_ _ | refine blk_drew ?_ | refine blk_alloc ?_ _)); refine blk_far ?_ NB115_122.out _; (with_reducible repeat (first | refine blk_drewN ?_ _ | refine blk_drew ?_ | refine blk_alloc ?_ _)); refine blk_far ?_ NB115_122.out _; (with_reducible repeat (first | refine blk_drewN ?_ _ | refine blk_drew ?_ | refine blk_alloc ?_ _)); refine blk_far ?_ NB115_122.out _; (with_reducible repeat (first | refine blk_drewN ?_ _ | refine blk_drew ?_ | refine blk_alloc ?_ _)); refine blk_far ?_ NB115_122.out _; (with_reducible repeat (first | refine blk_drewN ?_ _ | refine blk_drew ?_ | refine blk_alloc ?_ _)); exact BK115.out⟩, ⟨by (with_reducible repeat (first | refine blk_drewN ?_ _ | refine blk_drew ?_ | refine blk_alloc ?_ _)); refine blk_put (cs := #[.int .i64 ((rd_T66 ((rd_T62 l0_4 a1).f0) (ji16)).f0), .int .i64 ((rd_T66 ((rd_T62 l0_4 a1).f0) (ji16)).f1), .int .i64 ((rd_T66 ((rd_T62 l0_4 a1).f0) (ji16)).f2), .int .i64 ((rd_T66 ((rd_T62 l0_4 a1).f0) (ji16)).f3), .int .i64 ((rd_T66 ((rd_T62 l0_4 a1).f0) (ji16)).f4), .int .i64 ((rd_T66 ((rd_T62 l0_4 a1).f0) (ji16)).f5), .slice A121_6 ((rd_T66 ((rd_T62 l0_4 a1).f0) (ji16)).f6).length c121_6, .slice A121_7 ((rd_T66 ((rd_T62 l0_4 a1).f0) (ji16)).f7).length c121_7, .slice none 0 0]) ?_ 8 _ rfl; (with_reducible repeat (first | refine blk_drewN ?_ _ | refine blk_drew ?_ | refine blk_alloc ?_ _)); refine blk_put (cs := #[.int .i64 ((rd_T66 ((rd_T62 l0_4 a1).f0) (ji16)).f0), .int .i64 ((rd_T66 ((rd_T62 l0_4 a1).f0) (ji16)).f1), .int .i64 ((rd_T66 ((rd_T62 l0_4 a1).f0) (ji16)).f2), .int .i64 ((rd_T66 ((rd_T62 l0_4 a1).f0) (ji16)).f3), .int .i64 ((rd_T66 ((rd_T62 l0_4 a1).f0) (ji16)).f4), .int .i64 ((rd_T66 ((rd_T62 l0_4 a1).f0) (ji16)).f5), .slice A121_6 ((rd_T66 ((rd_T62 l0_4 a1).f0) (ji16)).f6).length c121_6, .slice none 0 0, .slice none 0 0]) ?_ 7 _ rfl; (with_reducible repeat (first | refine blk_drewN ?_ _ | refine blk_drew ?_ | refine blk_alloc ?_ _)); refine blk_put (cs := #[.int .i64 ((rd_T66 ((rd_T62 l0_4 a1).f0) (ji16)).f0), .int .i64 ((rd_T66 ((rd_T62 l0_4 a1).f0) (ji16)).f1), .int .i64 ((rd_T66 ((rd_T62 l0_4 a1).f0) (ji16)).f2), .int .i64 ((rd_T66 ((rd_T62 l0_4 a1).f0) (ji16)).f3), .int .i64 ((rd_T66 ((rd_T62 l0_4 a1).f0) (ji16)).f4), .int .i64 ((rd_T66 ((rd_T62 l0_4 a1).f0) (ji16)).f5), .slice none 0 0, .slice none 0 0, .slice none 0 0]) ?_ 6 _ rfl; (with_reducible repeat (first | refine blk_drewN ?_ _ | refine blk_drew ?_ | refine blk_alloc ?_ _)); refine blk_put (cs := #[.int .i64 ((rd_T66 ((rd_T62 l0_4 a1).f0) (ji16)).f0), .int .i64 ((rd_T66 ((rd_T62 l0_4 a1).f0) (ji16)).f1), .int .i64 ((rd_T66 ((rd_T62 l0_4 a1).f0) (ji16)).f2), .int .i64 ((rd_T66 ((rd_T62 l0_4 a1).f0) (ji16)).f3), .int .i64 ((rd_T66 ((rd_T62 l0_4 a1).f0) (ji16)).f4), .int .i64 0, .slice none 0 0, .slice none 0 0, .slice none 0 0]) ?_ 5 _ rfl; (with_reducible repeat (first | refine blk_drewN ?_ _ | refine blk_drew ?_ | refine blk_alloc ?_ _)); refine blk_put (cs := #[.int .i64 ((rd_T66 ((rd_T62 l0_4 a1).f0) (ji16)).f0), .int .i64 ((rd_T66 ((rd_T62 l0_4 a1).f0) (ji16)).f1), .int .i64 ((rd_T66 ((rd_T62 l0_4 a1).f0) (ji16)).f2), .int .i64 ((rd_T66 ((rd_T62 l0_4 a1).f0) (ji16)).f3), .int .i64 0, .int .i64 0, .slice none 0 0, .slice none 0 0, .slice none 0 0]) ?_ 4 _ rfl; (with_reducible repeat (first | refine blk_drewN ?_ _ | refine blk_drew ?_ | refine blk_alloc ?_ _)); refine blk_put (cs := #[.int .i64 ((rd_T66 ((rd_T62 l0_4 a1).f0) (ji16)).f0), .int .i64 ((rd_T66 ((rd_T62 l0_4 a1).f0) (ji16)).f1), .int .i64 ((rd_T66 ((rd_T62 l0_4 a1).f0) (ji16)).f2), .int .i64 0, .int .i64 0, .int .i64 0, .slice none 0 0, .slice none 0 0, .slice none 0 0]) ?_ 3 _ rfl; (with_reducible repeat (first | refine blk_drewN ?_ _ | refine blk_drew ?_ | refine blk_alloc ?_ _)); refine blk_put (cs := #[.int .i64 ((rd_T66 ((rd_T62 l0_4 a1).f0) (ji16)).f0), .int .i64 ((rd_T66 ((rd_T62 l0_4 a1).f0) (ji16)).f1), .int .i64 0, .int .i64 0, .int .i64 0, .int .i64 0, .slice none 0 0, .slice none 0 0, .slice none 0 0]) ?_ 2 _ rfl; (with_reducible repeat (first | refine blk_drewN ?_ _ | refine blk_drew ?_ | refine blk_alloc ?_ _)); refine blk_put (cs := #[.int .i64 ((rd_T66 ((rd_T62 l0_4 a1).f0) (ji16)).f0), .int .i64 0, .int .i64 0, .int .i64 0, .int .i64 0, .int .i64 0, .slice none 0 0, .slice none 0 0, .slice none 0 0]) ?_ 1 _ rfl; (with_reducible repeat (first | refine blk_drewN ?_ _ | refine blk_drew ?_ | refine blk_alloc ?_ _)); refine blk_put (cs := #[.int .i64 0, .int .i64 0, .int .i64 0, .int .i64 0, .int .i64 0, .int .i64 0, .slice none 0 0, .slice none 0 0, .slice none 0 0]) ?_ 0 _ rfl; (with_reducible repeat (first | refine blk_drewN ?_ _ | refine blk_drew ?_ | refine blk_alloc ?_ _)); exact BK122.out⟩, ⟨by repeat (first | (with_reducible first | exact HB.out | apply below_alloc | apply pw_below_drewN | apply below_drew1 | refine below_set ?_ GE115.out | refine below_set ?_ GE122.out) | exact HB.out)⟩⟩
                case round =>
                  clear H'
                  try clear c1
                  try clear p1
                  try clear q1
                  try clear hx1
                  try clear c2
                  try clear p2
                  try clear p6
                  try clear c7
                  try clear c7b0
                  try clear c8
                  try clear c8b0
                  try clear c10
                  try clear c10b0
                  try clear c11
                  try clear c11b0
                  try clear p11
                  try clear q11
                  try clear hx11
                  try clear c12
                  try clear p12
                  try clear q12
                  try clear hx12
                  try clear c13
                  try clear c14
                  try clear c14b0
                  try clear c15
                  try clear c15b0
                  try clear c17
                  try clear c17b0
                  try clear c18
                  try clear c18b0
                  try clear c21
                  try clear hcz12_0
                  try clear hcz12_1
                  try clear hcz12_2
                  try clear hcz12_3
                  try clear hcz12_4
                  try clear hcz19_0
                  try clear hcz19_1
                  try clear hcz19_2
                  try clear hcz19_3
                  try clear hcz19_4
                  try clear hcz22_0
                  try clear hcz22_1
                  try clear hcz22_2
                  try clear hcz22_3
                  try clear hcz22_4
                  try clear hcz22_5
                  try clear hcz22_6
                  try clear hcz22_7
                  try clear hcz22_8
                  try clear hcz9_0
                  try clear hcz9_1
                  try clear hcz9_2
                  try clear hcz9_3
                  try clear hcz9_4
                  try clear hfz12_0
                  try clear hfz12_1
                  try clear hfz12_2
                  try clear hfz12_3
                  try clear hfz12_4
                  try clear hfz19_0
                  try clear hfz19_1
                  try clear hfz19_2
                  try clear hfz19_3
                  try clear hfz19_4
                  try clear hfz22_0
                  try clear hfz22_1
                  try clear hfz22_2
                  try clear hfz22_3
                  try clear hfz22_4
                  try clear hfz22_5
                  try clear hfz22_6
                  try clear hfz22_7
                  try clear hfz22_8
                  try clear hfz9_0
                  try clear hfz9_1
                  try clear hfz9_2
                  try clear hfz9_3
                  try clear hfz9_4
                  try clear hx119_0
                  try clear hx120_0
                  try clear hx121_0
                  try clear hx121_1
                  try clear hx121_2
                  try clear hx121_3
                  try clear hx121_4
                  try clear hx121_5
                  try clear hx121_6
                  try clear hx121_7
                  try clear hx121_8
                  try clear p1
                  try clear p11
                  try clear p119
                  try clear p120
                  try clear p121
                  try clear p2
                  try clear q1
                  try clear q11
                  try clear q119
                  try clear q120
                  try clear q121
                  obtain ⟨x5_2, x8_2, rfl, HA, HK2, HO_5, BK115, BK122, HB⟩ := hrel
                  cases gk with
                  | zero => exact absurd HA.out (by simp [spec_NextBlocks.l0])
                  | succ k2 =>
                    have H := HA.out
                    clear HA
                    simp only [spec_NextBlocks.l0] at H
                    by_cases c23 : x8_2 < (((rd_T66 ((rd_T62 l0_4 a1).f0) (ji16)).f7).length : Int)
                    · rw [if_pos c23] at H
                      have c23b0 : decide (x8_2 < (((rd_T66 ((rd_T62 l0_4 a1).f0) (ji16)).f7).length : Int)) = true := decide_eq_true c23
                      clear c23
                      by_cases c24 : 0 ≤ x8_2
                      · rw [if_pos c24] at H
                        have c24b0 : decide (0 ≤ x8_2) = true := decide_eq_true c24
                        clear c24
                        by_cases c25 : (rd ((rd_T66 ((rd_T62 l0_4 a1).f0) (ji16)).f7) x8_2) ≥ 0
                        · rw [if_pos c25] at H
                          have c25b0 : decide (0 ≤ (rd ((rd_T66 ((rd_T62 l0_4 a1).f0) (ji16)).f7) x8_2)) = true := decide_eq_true c25
                          clear c25
                          by_cases c26 : (rd ((rd_T66 ((rd_T62 l0_4 a1).f0) (ji16)).f7) x8_2) < (l0_4.length : Int)
                          · rw [if_pos c26] at H
                            have c26b0 : decide ((rd ((rd_T66 ((rd_T62 l0_4 a1).f0) (ji16)).f7) x8_2) < (l0_4.length : Int)) = true := decide_eq_true c26
                            clear c26
                            replace H := Option.bind_eq_some_iff.mp H
                            obtain ⟨t124, A270, H⟩ := H
                            replace H : (if t124 = true then (spec_NextBlocks.l0 k2 x5_2 (wrap64 (x8_2 + 1)) a0_0 a0_1 l0_2 a0_3 l0_4 ((rd_T66 ((rd_T62 l0_4 a1).f0) (ji16)).f0) ((rd_T66 ((rd_T62 l0_4 a1).f0) (ji16)).f1) ((rd_T66 ((rd_T62 l0_4 a1).f0) (ji16)).f2) ((rd_T66 ((rd_T62 l0_4 a1).f0) (ji16)).f3) ((rd_T66 ((rd_T62 l0_4 a1).f0) (ji16)).f4) ((rd_T66 ((rd_T62 l0_4 a1).f0) (ji16)).f5) ((rd_T66 ((rd_T62 l0_4 a1).f0) (ji16)).f6) ((rd_T66 ((rd_T62 l0_4 a1).f0) (ji16)).f7) ((rd_T66 ((rd_T62 l0_4 a1).f0) (ji16)).f8)) else (if x5_2.length < 17592186044416 then (spec_NextBlocks.l0 k2 (x5_2 ++ [rd ((rd_T66 ((rd_T62 l0_4 a1).f0) (ji16)).f7) x8_2]) (wrap64 (x8_2 + 1)) a0_0 a0_1 l0_2 a0_3 l0_4 ((rd_T66 ((rd_T62 l0_4 a1).f0) (ji16)).f0) ((rd_T66 ((rd_T62 l0_4 a1).f0) (ji16)).f1) ((rd_T66 ((rd_T62 l0_4 a1).f0) (ji16)).f2) ((rd_T66 ((rd_T62 l0_4 a1).f0) (ji16)).f3) ((rd_T66 ((rd_T62 l0_4 a1).f0) (ji16)).f4) ((rd_T66 ((rd_T62 l0_4 a1).f0) (ji16)).f5) ((rd_T66 ((rd_T62 l0_4 a1).f0) (ji16)).f6) ((rd_T66 ((rd_T62 l0_4 a1).f0) (ji16)).f7) ((rd_T66 ((rd_T62 l0_4 a1).f0) (ji16)).f8)) else (none))) = some r := H
                            have A27 := Aside0.mk A270
                            clear A270
                            by_cases c28 : t124 = true
                            · subst c28
                              have H1 : (spec_NextBlocks.l0 k2 x5_2 (wrap64 (x8_2 + 1)) a0_0 a0_1 l0_2 a0_3 l0_4 ((rd_T66 ((rd_T62 l0_4 a1).f0) (ji16)).f0) ((rd_T66 ((rd_T62 l0_4 a1).f0) (ji16)).f1) ((rd_T66 ((rd_T62 l0_4 a1).f0) (ji16)).f2) ((rd_T66 ((rd_T62 l0_4 a1).f0) (ji16)).f3) ((rd_T66 ((rd_T62 l0_4 a1).f0) (ji16)).f4) ((rd_T66 ((rd_T62 l0_4 a1).f0) (ji16)).f5) ((rd_T66 ((rd_T62 l0_4 a1).f0) (ji16)).f6) ((rd_T66 ((rd_T62 l0_4 a1).f0) (ji16)).f7) ((rd_T66 ((rd_T62 l0_4 a1).f0) (ji16)).f8)) = some r := by rw [if_pos rfl] at H; exact H
                              clear H
                              have H := H1
                              clear H1
                              have H' := Aside0.mk H
                              clear H
                              have hnb29 := NB122_115.out
                              have hnc29 := NB115_122.out
                              have hcz30_0 : wr.cell? ⟨gb122, 0, none⟩ = some (.int .i64 ((rd_T66 ((rd_T62 l0_4 a1).f0) (ji16)).f0)) := (blk_cell BK122.out 0).trans rfl
                              have hcz30_1 : wr.cell? ⟨gb122, 1, none⟩ = some (.int .i64 ((rd_T66 ((rd_T62 l0_4 a1).f0) (ji16)).f1)) := (blk_cell BK122.out 1).trans rfl
                              have hcz30_2 : wr.cell? ⟨gb122, 2, none⟩ = some (.int .i64 ((rd_T66 ((rd_T62 l0_4 a1).f0) (ji16)).f2)) := (blk_cell BK122.out 2).trans rfl
                              have hcz30_3 : wr.cell? ⟨gb122, 3, none⟩ = some (.int .i64 ((rd_T66 ((rd_T62 l0_4 a1).f0) (ji16)).f3)) := (blk_cell BK122.out 3).trans rfl
                              have hcz30_4 : wr.cell? ⟨gb122, 4, none⟩ = some (.int .i64 ((rd_T66 ((rd_T62 l0_4 a1).f0) (ji16)).f4)) := (blk_cell BK122.out 4).trans rfl
                              have hcz30_5 : wr.cell? ⟨gb122, 5, none⟩ = some (.int .i64 ((rd_T66 ((rd_T62 l0_4 a1).f0) (ji16)).f5)) := (blk_cell BK122.out 5).trans rfl
                              have hcz30_6 : wr.cell? ⟨gb122, 6, none⟩ = some (.slice A121_6 ((rd_T66 ((rd_T62 l0_4 a1).f0) (ji16)).f6).length c121_6) := (blk_cell BK122.out 6).trans rfl
                              have hcz30_7 : wr.cell? ⟨gb122, 7, none⟩ = some (.slice A121_7 ((rd_T66 ((rd_T62 l0_4 a1).f0) (ji16)).f7).length c121_7) := (blk_cell BK122.out 7).trans rfl
                              have hcz30_8 : wr.cell? ⟨gb122, 8, none⟩ = some (.slice A121_8 ((rd_T66 ((rd_T62 l0_4 a1).f0) (ji16)).f8).length c121_8) := (blk_cell BK122.out 8).trans rfl
                              have hfz30_0 := blk_frozen BK122.out 0
                              have hfz30_1 := blk_frozen BK122.out 1
                              have hfz30_2 := blk_frozen BK122.out 2
                              have hfz30_3 := blk_frozen BK122.out 3
                              have hfz30_4 := blk_frozen BK122.out 4
                              have hfz30_5 := blk_frozen BK122.out 5
                              have hfz30_6 := blk_frozen BK122.out 6
                              have hfz30_7 := blk_frozen BK122.out 7
                              have hfz30_8 := blk_frozen BK122.out 8
                              have p123 : 0 ≤ (x8_2 : Int) := of_decide_eq_true (by first | (with_reducible assumption) | assumption)
                              have q123 : x8_2 < (((rd_T66 ((rd_T62 l0_4 a1).f0) (ji16)).f7).length : Int) := of_decide_eq_true (by first | (with_reducible assumption) | assumption)
                              obtain ⟨ad123, e123, hx123_0⟩ := Kd.at_int HR121_7.out x8_2 p123 q123
                              cases e123
                              replace hx123_0 := (HB.out.cell (World.block_lt_of_cell? w _ hx123_0)).trans hx123_0
                              replace p123 := eq_true p123
                              replace q123 := eq_true q123
                              have hcz31_0 : wr.cell? ⟨gb115, 0, none⟩ = some (.string a0_0) := (blk_cell BK115.out 0).trans rfl
                              have hcz31_1 : wr.cell? ⟨gb115, 1, none⟩ = some (.int .i64 a0_1) := (blk_cell BK115.out 1).trans rfl
                              have hcz31_2 : wr.cell? ⟨gb115, 2, none⟩ = some (.slice A0_2 l0_2.length c0_2) := (blk_cell BK115.out 2).trans rfl
                              have hcz31_3 : wr.cell? ⟨gb115, 3, none⟩ = some (.int .i64 a0_3) := (blk_cell BK115.out 3).trans rfl
                              have hcz31_4 : wr.cell? ⟨gb115, 4, none⟩ = some (.slice (some ad120) l0_4.length c0_4) := (blk_cell BK115.out 4).trans rfl
                              have hfz31_0 := blk_frozen BK115.out 0
                              have hfz31_1 := blk_frozen BK115.out 1
                              have hfz31_2 := blk_frozen BK115.out 2
                              have hfz31_3 := blk_frozen BK115.out 3
                              have hfz31_4 := blk_frozen BK115.out 4
                              obtain ⟨Ao32, co32, eo32⟩ := Kd.R_slice HO_5.out
                              subst eo32
                              go_wp2_with (first | (go_at_call 51; (with_reducible refine (spec_l4Has.calls k2 _ _ x5_2 (rd ((rd_T66 ((rd_T62 l0_4 a1).f0) (ji16)).f7) x8_2) true _ ?side1 ?side2 A27.out).mono ?_); (case side1 => repeat (first | exact (Kd.R_reads' HO_5.out).2.2 | (with_reducible refine Kd.C_alloc ?_ _) | (with_reducible refine Kd.C_drewN ?_ _) | (with_reducible refine Kd.C_drew ?_))); (case side2 => exact (Kd.R_reads' HO_5.out).2.1); rintro e w' ⟨rfl, ⟨nd, rfl⟩⟩))
                              go_roundg k2
                              case measure => have := HJ2.out; have := HK2.out; omega
                              case rel => exact ⟨(x5_2), (wrap64 (x8_2 + 1)), (by first | rfl | (simp; done) | (simp [*]; done)), H', ⟨by have := HJ2.out; have := HK2.out; omega⟩, ⟨by (with_reducible repeat (first | apply Kd.R_alloc | apply Kd.R_drewN | apply Kd.R_drew)); exact HO_5.out⟩, ⟨by (with_reducible repeat (first | refine blk_drewN ?_ _ | refine blk_drew ?_ | refine blk_alloc ?_ _)); exact BK115.out⟩, ⟨by (with_reducible repeat (first | refine blk_drewN ?_ _ | refine blk_drew ?_ | refine blk_alloc ?_ _)); exact BK122.out⟩, ⟨by repeat (first | (with_reducible first | exact HB.out | apply below_alloc | apply pw_below_drewN | apply below_drew1 | refine below_set ?_ GE115.out | refine below_set ?_ GE122.out) | exact HB.out)⟩⟩
                            · replace c28 := Bool.eq_false_iff.mpr c28
                              subst c28
                              have H1 : (if x5_2.length < 17592186044416 then (spec_NextBlocks.l0 k2 (x5_2 ++ [rd ((rd_T66 ((rd_T62 l0_4 a1).f0) (ji16)).f7) x8_2]) (wrap64 (x8_2 + 1)) a0_0 a0_1 l0_2 a0_3 l0_4 ((rd_T66 ((rd_T62 l0_4 a1).f0) (ji16)).f0) ((rd_T66 ((rd_T62 l0_4 a1).f0) (ji16)).f1) ((rd_T66 ((rd_T62 l0_4 a1).f0) (ji16)).f2) ((rd_T66 ((rd_T62 l0_4 a1).f0) (ji16)).f3) ((rd_T66 ((rd_T62 l0_4 a1).f0) (ji16)).f4) ((rd_T66 ((rd_T62 l0_4 a1).f0) (ji16)).f5) ((rd_T66 ((rd_T62 l0_4 a1).f0) (ji16)).f6) ((rd_T66 ((rd_T62 l0_4 a1).f0) (ji16)).f7) ((rd_T66 ((rd_T62 l0_4 a1).f0) (ji16)).f8)) else (none)) = some r := by rw [if_neg (show ¬ (false = true) by decide)] at H; exact H
                              clear H
                              have H := H1
                              clear H1
                              by_cases c33 : x5_2.length < 17592186044416
                              · rw [if_pos c33] at H
                                have LMc33 := Aside0.mk c33
                                clear c33
                                obtain ⟨y125, hy125⟩ : ∃ y_ : List Int, y_ = (x5_2 ++ [rd ((rd_T66 ((rd_T62 l0_4 a1).f0) (ji16)).f7) x8_2]) := ⟨_, rfl⟩
                                replace H : (spec_NextBlocks.l0 k2 y125 (wrap64 (x8_2 + 1)) a0_0 a0_1 l0_2 a0_3 l0_4 ((rd_T66 ((rd_T62 l0_4 a1).f0) (ji16)).f0) ((rd_T66 ((rd_T62 l0_4 a1).f0) (ji16)).f1) ((rd_T66 ((rd_T62 l0_4 a1).f0) (ji16)).f2) ((rd_T66 ((rd_T62 l0_4 a1).f0) (ji16)).f3) ((rd_T66 ((rd_T62 l0_4 a1).f0) (ji16)).f4) ((rd_T66 ((rd_T62 l0_4 a1).f0) (ji16)).f5) ((rd_T66 ((rd_T62 l0_4 a1).f0) (ji16)).f6) ((rd_T66 ((rd_T62 l0_4 a1).f0) (ji16)).f7) ((rd_T66 ((rd_T62 l0_4 a1).f0) (ji16)).f8)) = some r := by first | (rw [hy125]; with_reducible exact H) | (have H2_ := (Option.bind_some _ _).symm.trans H; rw [hy125]; with_reducible exact H2_) | (have H2_ := (Option.bind_some _ _).symm.trans H; with_reducible exact H2_) | with_reducible exact H | (rw [hy125]; exact H) | exact H
                                have Ny125 := Aside0.mk hy125
                                clear hy125
                                have H' := Aside0.mk H
                                clear H
                                have hnb34 := NB122_115.out
                                have hnc34 := NB115_122.out
                                have hcz35_0 : wr.cell? ⟨gb122, 0, none⟩ = some (.int .i64 ((rd_T66 ((rd_T62 l0_4 a1).f0) (ji16)).f0)) := (blk_cell BK122.out 0).trans rfl
                                have hcz35_1 : wr.cell? ⟨gb122, 1, none⟩ = some (.int .i64 ((rd_T66 ((rd_T62 l0_4 a1).f0) (ji16)).f1)) := (blk_cell BK122.out 1).trans rfl
                                have hcz35_2 : wr.cell? ⟨gb122, 2, none⟩ = some (.int .i64 ((rd_T66 ((rd_T62 l0_4 a1).f0) (ji16)).f2)) := (blk_cell BK122.out 2).trans rfl
                                have hcz35_3 : wr.cell? ⟨gb122, 3, none⟩ = some (.int .i64 ((rd_T66 ((rd_T62 l0_4 a1).f0) (ji16)).f3)) := (blk_cell BK122.out 3).trans rfl
                                have hcz35_4 : wr.cell? ⟨gb122, 4, none⟩ = some (.int .i64 ((rd_T66 ((rd_T62 l0_4 a1).f0) (ji16)).f4)) := (blk_cell BK122.out 4).trans rfl
                                have hcz35_5 : wr.cell? ⟨gb122, 5, none⟩ = some (.int .i64 ((rd_T66 ((rd_T62 l0_4 a1).f0) (ji16)).f5)) := (blk_cell BK122.out 5).trans rfl
                                have hcz35_6 : wr.cell? ⟨gb122, 6, none⟩ = some (.slice A121_6 ((rd_T66 ((rd_T62 l0_4 a1).f0) (ji16)).f6).length c121_6) := (blk_cell BK122.out 6).trans rfl
                                have hcz35_7 : wr.cell? ⟨gb122, 7, none⟩ = some (.slice A121_7 ((rd_T66 ((rd_T62 l0_4 a1).f0) (ji16)).f7).length c121_7) := (blk_cell BK122.out 7).trans rfl
                                have hcz35_8 : wr.cell? ⟨gb122, 8, none⟩ = some (.slice A121_8 ((rd_T66 ((rd_T62 l0_4 a1).f0) (ji16)).f8).length c121_8) := (blk_cell BK122.out 8).trans rfl
                                have hfz35_0 := blk_frozen BK122.out 0
                                have hfz35_1 := blk_frozen BK122.out 1
                                have hfz35_2 := blk_frozen BK122.out 2
                                have hfz35_3 := blk_frozen BK122.out 3
                                have hfz35_4 := blk_frozen BK122.out 4
                                have hfz35_5 := blk_frozen BK122.out 5
                                have hfz35_6 := blk_frozen BK122.out 6
                                have hfz35_7 := blk_frozen BK122.out 7
                                have hfz35_8 := blk_frozen BK122.out 8
                                have p123 : 0 ≤ (x8_2 : Int) := of_decide_eq_true (by first | (with_reducible assumption) | assumption)
                                have q123 : x8_2 < (((rd_T66 ((rd_T62 l0_4 a1).f0) (ji16)).f7).length : Int) := of_decide_eq_true (by first | (with_reducible assumption) | assumption)
                                obtain ⟨ad123, e123, hx123_0⟩ := Kd.at_int HR121_7.out x8_2 p123 q123
                                cases e123
                                replace hx123_0 := (HB.out.cell (World.block_lt_of_cell? w _ hx123_0)).trans hx123_0
                                replace p123 := eq_true p123
                                replace q123 := eq_true q123
                                have hcz36_0 : wr.cell? ⟨gb115, 0, none⟩ = some (.string a0_0) := (blk_cell BK115.out 0).trans rfl
                                have hcz36_1 : wr.cell? ⟨gb115, 1, none⟩ = some (.int .i64 a0_1) := (blk_cell BK115.out 1).trans rfl
                                have hcz36_2 : wr.cell? ⟨gb115, 2, none⟩ = some (.slice A0_2 l0_2.length c0_2) := (blk_cell BK115.out 2).trans rfl
                                have hcz36_3 : wr.cell? ⟨gb115, 3, none⟩ = some (.int .i64 a0_3) := (blk_cell BK115.out 3).trans rfl
                                have hcz36_4 : wr.cell? ⟨gb115, 4, none⟩ = some (.slice (some ad120) l0_4.length c0_4) := (blk_cell BK115.out 4).trans rfl
                                have hfz36_0 := blk_frozen BK115.out 0
                                have hfz36_1 := blk_frozen BK115.out 1
                                have hfz36_2 := blk_frozen BK115.out 2
                                have hfz36_3 := blk_frozen BK115.out 3
                                have hfz36_4 := blk_frozen BK115.out 4
                                obtain ⟨Ao37, co37, eo37⟩ := Kd.R_slice HO_5.out
                                subst eo37
                                go_wp2_with (first | (go_at_call 51; (with_reducible refine (spec_l4Has.calls k2 _ _ x5_2 (rd ((rd_T66 ((rd_T62 l0_4 a1).f0) (ji16)).f7) x8_2) false _ ?side1 ?side2 A27.out).mono ?_); (case side1 => repeat (first | exact (Kd.R_reads' HO_5.out).2.2 | (with_reducible refine Kd.C_alloc ?_ _) | (with_reducible refine Kd.C_drewN ?_ _) | (with_reducible refine Kd.C_drew ?_))); (case side2 => exact (Kd.R_reads' HO_5.out).2.1); rintro e w' ⟨rfl, ⟨nd, rfl⟩⟩) | ((with_reducible refine gate_builtin (b := .append) (xs := #[.tmp 70, .tmp 72]) rfl ?_); (try (refine gate_guard (by rfl) ?_; dsimp only)); at_builtin; refine Kd.R_append (Kd.int .i64) (w0 := w) w.heap.size rfl (.tmp 70) (.tmp 72) 22 2 (.int .i64 0) 8 rfl Try.underlying22 info2 rfl (by decide) (by omega) (.slice Ao37 x5_2.length co37) x5_2 (rd ((rd_T66 ((rd_T62 l0_4 a1).f0) (ji16)).f7) x8_2) [.int .i64 (rd ((rd_T66 ((rd_T62 l0_4 a1).f0) (ji16)).f7) x8_2)] (fun _ => True) (fun _ => False) rfl rfl ?aP (fun _ hk => hk.elim) ?aF ?aO ?aB ?aS ?aL ?_; (case aP => exact rfl); (case aB => exact (by repeat (first | (with_reducible first | exact HB.out | apply below_alloc | apply pw_below_drewN | apply below_drew1 | refine below_set ?_ GE115.out | refine below_set ?_ GE122.out) | exact HB.out))); (case aF => exact (fun _ _ => trivial)); (case aO => exact (by (with_reducible repeat (first | apply Kd.R_alloc | apply Kd.R_drewN | apply Kd.R_drew)); exact HO_5.out)); (case aS => exact (below_size (by repeat (first | (with_reducible first | exact HB.out | apply below_alloc | apply pw_below_drewN | apply below_drew1 | refine below_set ?_ GE115.out | refine below_set ?_ GE122.out) | exact HB.out)))); (case aL => have := LMc33.out; omega); intro v126 w38 ho hb hg hat; rw [← Ny125.out] at ho; have n0_ := Aside0.mk (blk_grown (g := gb115) (o := .cells #[.string a0_0, .int .i64 a0_1, .slice A0_2 l0_2.length c0_2, .int .i64 a0_3, .slice (some ad120) l0_4.length c0_4] 30 (0, 0)) (by (with_reducible repeat (first | refine blk_drewN ?_ _ | refine blk_drew ?_ | refine blk_alloc ?_ _)); exact BK115.out) hg (Kd.R_ne HO_5.out BK115.out (by decide))); have n1_ := Aside0.mk (blk_grown (g := gb122) (o := .cells #[.int .i64 ((rd_T66 ((rd_T62 l0_4 a1).f0) (ji16)).f0), .int .i64 ((rd_T66 ((rd_T62 l0_4 a1).f0) (ji16)).f1), .int .i64 ((rd_T66 ((rd_T62 l0_4 a1).f0) (ji16)).f2), .int .i64 ((rd_T66 ((rd_T62 l0_4 a1).f0) (ji16)).f3), .int .i64 ((rd_T66 ((rd_T62 l0_4 a1).f0) (ji16)).f4), .int .i64 ((rd_T66 ((rd_T62 l0_4 a1).f0) (ji16)).f5), .slice A121_6 ((rd_T66 ((rd_T62 l0_4 a1).f0) (ji16)).f6).length c121_6, .slice (some ad123) ((rd_T66 ((rd_T62 l0_4 a1).f0) (ji16)).f7).length c121_7, .slice A121_8 ((rd_T66 ((rd_T62 l0_4 a1).f0) (ji16)).f8).length c121_8] 66 (0, 0)) (by (with_reducible repeat (first | refine blk_drewN ?_ _ | refine blk_drew ?_ | refine blk_alloc ?_ _)); exact BK122.out) hg (Kd.R_ne HO_5.out BK122.out (by decide))); have n2_ := Aside0.mk (hb); have n3_ := Aside0.mk (ho); clear BK115; clear BK122; clear HB; clear HO_5; have BK115 := n0_; have BK122 := n1_; have HB := n2_; have HO127 := n3_; clear n0_ n1_ n2_ n3_; clear ho hb hg hat))
                                go_roundg k2
                                case measure => have := HJ2.out; have := HK2.out; omega
                                case rel => exact ⟨(y125), (wrap64 (x8_2 + 1)), (by first | rfl | (simp; done) | (simp [*]; done)), H', ⟨by have := HJ2.out; have := HK2.out; omega⟩, ⟨by (with_reducible repeat (first | apply Kd.R_alloc | apply Kd.R_drewN | apply Kd.R_drew)); exact HO127.out⟩, ⟨by (with_reducible repeat (first | refine blk_drewN ?_ _ | refine blk_drew ?_ | refine blk_alloc ?_ _)); exact BK115.out⟩, ⟨by (with_reducible repeat (first | refine blk_drewN ?_ _ | refine blk_drew ?_ | refine blk_alloc ?_ _)); exact BK122.out⟩, ⟨by repeat (first | (with_reducible first | exact HB.out | apply below_alloc | apply pw_below_drewN | apply below_drew1 | refine below_set ?_ GE115.out | refine below_set ?_ GE122.out) | exact HB.out)⟩⟩
                              · rw [if_neg c33] at H
                                exact absurd H (by simp)
                          · rw [if_neg c26] at H
                            have c26b0 : decide ((rd ((rd_T66 ((rd_T62 l0_4 a1).f0) (ji16)).f7) x8_2) < (l0_4.length : Int)) = false := decide_eq_false c26
                            clear c26
                            have H' := Aside0.mk H
                            clear H
                            have hnb39 := NB122_115.out
                            have hnc39 := NB115_122.out
                            have hcz40_0 : wr.cell? ⟨gb122, 0, none⟩ = some (.int .i64 ((rd_T66 ((rd_T62 l0_4 a1).f0) (ji16)).f0)) := (blk_cell BK122.out 0).trans rfl
                            have hcz40_1 : wr.cell? ⟨gb122, 1, none⟩ = some (.int .i64 ((rd_T66 ((rd_T62 l0_4 a1).f0) (ji16)).f1)) := (blk_cell BK122.out 1).trans rfl
                            have hcz40_2 : wr.cell? ⟨gb122, 2, none⟩ = some (.int .i64 ((rd_T66 ((rd_T62 l0_4 a1).f0) (ji16)).f2)) := (blk_cell BK122.out 2).trans rfl
                            have hcz40_3 : wr.cell? ⟨gb122, 3, none⟩ = some (.int .i64 ((rd_T66 ((rd_T62 l0_4 a1).f0) (ji16)).f3)) := (blk_cell BK122.out 3).trans rfl
                            have hcz40_4 : wr.cell? ⟨gb122, 4, none⟩ = some (.int .i64 ((rd_T66 ((rd_T62 l0_4 a1).f0) (ji16)).f4)) := (blk_cell BK122.out 4).trans rfl
                            have hcz40_5 : wr.cell? ⟨gb122, 5, none⟩ = some (.int .i64 ((rd_T66 ((rd_T62 l0_4 a1).f0) (ji16)).f5)) := (blk_cell BK122.out 5).trans rfl
                            have hcz40_6 : wr.cell? ⟨gb122, 6, none⟩ = some (.slice A121_6 ((rd_T66 ((rd_T62 l0_4 a1).f0) (ji16)).f6).length c121_6) := (blk_cell BK122.out 6).trans rfl
                            have hcz40_7 : wr.cell? ⟨gb122, 7, none⟩ = some (.slice A121_7 ((rd_T66 ((rd_T62 l0_4 a1).f0) (ji16)).f7).length c121_7) := (blk_cell BK122.out 7).trans rfl
                            have hcz40_8 : wr.cell? ⟨gb122, 8, none⟩ = some (.slice A121_8 ((rd_T66 ((rd_T62 l0_4 a1).f0) (ji16)).f8).length c121_8) := (blk_cell BK122.out 8).trans rfl
                            have hfz40_0 := blk_frozen BK122.out 0
                            have hfz40_1 := blk_frozen BK122.out 1
                            have hfz40_2 := blk_frozen BK122.out 2
                            have hfz40_3 := blk_frozen BK122.out 3
                            have hfz40_4 := blk_frozen BK122.out 4
                            have hfz40_5 := blk_frozen BK122.out 5
                            have hfz40_6 := blk_frozen BK122.out 6
                            have hfz40_7 := blk_frozen BK122.out 7
                            have hfz40_8 := blk_frozen BK122.out 8
                            have p123 : 0 ≤ (x8_2 : Int) := of_decide_eq_true (by first | (with_reducible assumption) | assumption)
                            have q123 : x8_2 < (((rd_T66 ((rd_T62 l0_4 a1).f0) (ji16)).f7).length : Int) := of_decide_eq_true (by first | (with_reducible assumption) | assumption)
                            obtain ⟨ad123, e123, hx123_0⟩ := Kd.at_int HR121_7.out x8_2 p123 q123
                            cases e123
                            replace hx123_0 := (HB.out.cell (World.block_lt_of_cell? w _ hx123_0)).trans hx123_0
                            replace p123 := eq_true p123
                            replace q123 := eq_true q123
                            have hcz41_0 : wr.cell? ⟨gb115, 0, none⟩ = some (.string a0_0) := (blk_cell BK115.out 0).trans rfl
                            have hcz41_1 : wr.cell? ⟨gb115, 1, none⟩ = some (.int .i64 a0_1) := (blk_cell BK115.out 1).trans rfl
                            have hcz41_2 : wr.cell? ⟨gb115, 2, none⟩ = some (.slice A0_2 l0_2.length c0_2) := (blk_cell BK115.out 2).trans rfl
                            have hcz41_3 : wr.cell? ⟨gb115, 3, none⟩ = some (.int .i64 a0_3) := (blk_cell BK115.out 3).trans rfl
                            have hcz41_4 : wr.cell? ⟨gb115, 4, none⟩ = some (.slice (some ad120) l0_4.length c0_4) := (blk_cell BK115.out 4).trans rfl
                            have hfz41_0 := blk_frozen BK115.out 0
                            have hfz41_1 := blk_frozen BK115.out 1
                            have hfz41_2 := blk_frozen BK115.out 2
                            have hfz41_3 := blk_frozen BK115.out 3
                            have hfz41_4 := blk_frozen BK115.out 4
                            go_wp2
                            go_roundg k2
                            case measure => have := HJ2.out; have := HK2.out; omega
                            case rel => exact ⟨(x5_2), (wrap64 (x8_2 + 1)), (by first | rfl | (simp; done) | (simp [*]; done)), H', ⟨by have := HJ2.out; have := HK2.out; omega⟩, ⟨by (with_reducible repeat (first | apply Kd.R_alloc | apply Kd.R_drewN | apply Kd.R_drew)); exact HO_5.out⟩, ⟨by (with_reducible repeat (first | refine blk_drewN ?_ _ | refine blk_drew ?_ | refine blk_alloc ?_ _)); exact BK115.out⟩, ⟨by (with_reducible repeat (first | refine blk_drewN ?_ _ | refine blk_drew ?_ | refine blk_alloc ?_ _)); exact BK122.out⟩, ⟨by repeat (first | (with_reducible first | exact HB.out | apply below_alloc | apply pw_below_drewN | apply below_drew1 | refine below_set ?_ GE115.out | refine below_set ?_ GE122.out) | exact HB.out)⟩⟩
                        · rw [if_neg c25] at H
                          have c25b0 : decide (0 ≤ (rd ((rd_T66 ((rd_T62 l0_4 a1).f0) (ji16)).f7) x8_2)) = false := decide_eq_false c25
                          clear c25
                          have H' := Aside0.mk H
                          clear H
                          have hnb42 := NB122_115.out
                          have hnc42 := NB115_122.out
                          have hcz43_0 : wr.cell? ⟨gb122, 0, none⟩ = some (.int .i64 ((rd_T66 ((rd_T62 l0_4 a1).f0) (ji16)).f0)) := (blk_cell BK122.out 0).trans rfl
                          have hcz43_1 : wr.cell? ⟨gb122, 1, none⟩ = some (.int .i64 ((rd_T66 ((rd_T62 l0_4 a1).f0) (ji16)).f1)) := (blk_cell BK122.out 1).trans rfl
                          have hcz43_2 : wr.cell? ⟨gb122, 2, none⟩ = some (.int .i64 ((rd_T66 ((rd_T62 l0_4 a1).f0) (ji16)).f2)) := (blk_cell BK122.out 2).trans rfl
                          have hcz43_3 : wr.cell? ⟨gb122, 3, none⟩ = some (.int .i64 ((rd_T66 ((rd_T62 l0_4 a1).f0) (ji16)).f3)) := (blk_cell BK122.out 3).trans rfl
                          have hcz43_4 : wr.cell? ⟨gb122, 4, none⟩ = some (.int .i64 ((rd_T66 ((rd_T62 l0_4 a1).f0) (ji16)).f4)) := (blk_cell BK122.out 4).trans rfl
                          have hcz43_5 : wr.cell? ⟨gb122, 5, none⟩ = some (.int .i64 ((rd_T66 ((rd_T62 l0_4 a1).f0) (ji16)).f5)) := (blk_cell BK122.out 5).trans rfl
                          have hcz43_6 : wr.cell? ⟨gb122, 6, none⟩ = some (.slice A121_6 ((rd_T66 ((rd_T62 l0_4 a1).f0) (ji16)).f6).length c121_6) := (blk_cell BK122.out 6).trans rfl
                          have hcz43_7 : wr.cell? ⟨gb122, 7, none⟩ = some (.slice A121_7 ((rd_T66 ((rd_T62 l0_4 a1).f0) (ji16)).f7).length c121_7) := (blk_cell BK122.out 7).trans rfl
                          have hcz43_8 : wr.cell? ⟨gb122, 8, none⟩ = some (.slice A121_8 ((rd_T66 ((rd_T62 l0_4 a1).f0) (ji16)).f8).length c121_8) := (blk_cell BK122.out 8).trans rfl
                          have hfz43_0 := blk_frozen BK122.out 0
                          have hfz43_1 := blk_frozen BK122.out 1
                          have hfz43_2 := blk_frozen BK122.out 2
                          have hfz43_3 := blk_frozen BK122.out 3
                          have hfz43_4 := blk_frozen BK122.out 4
                          have hfz43_5 := blk_frozen BK122.out 5
                          have hfz43_6 := blk_frozen BK122.out 6
                          have hfz43_7 := blk_frozen BK122.out 7
                          have hfz43_8 := blk_frozen BK122.out 8
                          have p123 : 0 ≤ (x8_2 : Int) := of_decide_eq_true (by first | (with_reducible assumption) | assumption)
                          have q123 : x8_2 < (((rd_T66 ((rd_T62 l0_4 a1).f0) (ji16)).f7).length : Int) := of_decide_eq_true (by first | (with_reducible assumption) | assumption)
                          obtain ⟨ad123, e123, hx123_0⟩ := Kd.at_int HR121_7.out x8_2 p123 q123
                          cases e123
                          replace hx123_0 := (HB.out.cell (World.block_lt_of_cell? w _ hx123_0)).trans hx123_0
                          replace p123 := eq_true p123
                          replace q123 := eq_true q123
                          go_wp2
                          go_roundg k2
                          case measure => have := HJ2.out; have := HK2.out; omega
                          case rel => exact ⟨(x5_2), (wrap64 (x8_2 + 1)), (by first | rfl | (simp; done) | (simp [*]; done)), H', ⟨by have := HJ2.out; have := HK2.out; omega⟩, ⟨by (with_reducible repeat (first | apply Kd.R_alloc | apply Kd.R_drewN | apply Kd.R_drew)); exact HO_5.out⟩, ⟨by (with_reducible repeat (first | refine blk_drewN ?_ _ | refine blk_drew ?_ | refine blk_alloc ?_ _)); exact BK115.out⟩, ⟨by (with_reducible repeat (first | refine blk_drewN ?_ _ | refine blk_drew ?_ | refine blk_alloc ?_ _)); exact BK122.out⟩, ⟨by repeat (first | (with_reducible first | exact HB.out | apply below_alloc | apply pw_below_drewN | apply below_drew1 | refine below_set ?_ GE115.out | refine below_set ?_ GE122.out) | exact HB.out)⟩⟩
                      · rw [if_neg c24] at H
                        exact absurd H (by simp)
                    · rw [if_neg c23] at H
                      have c23b0 : decide (x8_2 < (((rd_T66 ((rd_T62 l0_4 a1).f0) (ji16)).f7).length : Int)) = false := decide_eq_false c23
                      clear c23
                      obtain rfl := Option.some.inj H
                      have hnb44 := NB122_115.out
                      have hnc44 := NB115_122.out
                      have hcz45_0 : wr.cell? ⟨gb122, 0, none⟩ = some (.int .i64 ((rd_T66 ((rd_T62 l0_4 a1).f0) (ji16)).f0)) := (blk_cell BK122.out 0).trans rfl
                      have hcz45_1 : wr.cell? ⟨gb122, 1, none⟩ = some (.int .i64 ((rd_T66 ((rd_T62 l0_4 a1).f0) (ji16)).f1)) := (blk_cell BK122.out 1).trans rfl
                      have hcz45_2 : wr.cell? ⟨gb122, 2, none⟩ = some (.int .i64 ((rd_T66 ((rd_T62 l0_4 a1).f0) (ji16)).f2)) := (blk_cell BK122.out 2).trans rfl
                      have hcz45_3 : wr.cell? ⟨gb122, 3, none⟩ = some (.int .i64 ((rd_T66 ((rd_T62 l0_4 a1).f0) (ji16)).f3)) := (blk_cell BK122.out 3).trans rfl
                      have hcz45_4 : wr.cell? ⟨gb122, 4, none⟩ = some (.int .i64 ((rd_T66 ((rd_T62 l0_4 a1).f0) (ji16)).f4)) := (blk_cell BK122.out 4).trans rfl
                      have hcz45_5 : wr.cell? ⟨gb122, 5, none⟩ = some (.int .i64 ((rd_T66 ((rd_T62 l0_4 a1).f0) (ji16)).f5)) := (blk_cell BK122.out 5).trans rfl
                      have hcz45_6 : wr.cell? ⟨gb122, 6, none⟩ = some (.slice A121_6 ((rd_T66 ((rd_T62 l0_4 a1).f0) (ji16)).f6).length c121_6) := (blk_cell BK122.out 6).trans rfl
                      have hcz45_7 : wr.cell? ⟨gb122, 7, none⟩ = some (.slice A121_7 ((rd_T66 ((rd_T62 l0_4 a1).f0) (ji16)).f7).length c121_7) := (blk_cell BK122.out 7).trans rfl
                      have hcz45_8 : wr.cell? ⟨gb122, 8, none⟩ = some (.slice A121_8 ((rd_T66 ((rd_T62 l0_4 a1).f0) (ji16)).f8).length c121_8) := (blk_cell BK122.out 8).trans rfl
                      have hfz45_0 := blk_frozen BK122.out 0
                      have hfz45_1 := blk_frozen BK122.out 1
                      have hfz45_2 := blk_frozen BK122.out 2
                      have hfz45_3 := blk_frozen BK122.out 3
                      have hfz45_4 := blk_frozen BK122.out 4
                      have hfz45_5 := blk_frozen BK122.out 5
                      have hfz45_6 := blk_frozen BK122.out 6
                      have hfz45_7 := blk_frozen BK122.out 7
                      have hfz45_8 := blk_frozen BK122.out 8
                      go_wp2
                      go_ret
                      exact ⟨_, by first | rfl | (simp [errW_none, errW_some] <;> rfl) | (simp only [← hji16]; first | rfl | (simp [errW_none, errW_some] <;> rfl)) | (simp [*, errW_none, errW_some] <;> rfl), by (with_reducible repeat (first | apply Kd.R_alloc | apply Kd.R_drewN | apply Kd.R_drew)); exact HO_5.out, by repeat (first | (with_reducible first | exact HB.out | apply below_alloc | apply pw_below_drewN | apply below_drew1 | refine below_set ?_ GE115.out | refine below_set ?_ GE122.out) | exact HB.out)⟩
              · rw [if_neg c18] at H
                exact absurd H (by simp)
            · rw [if_neg c17] at H
              exact absurd H (by simp)
          · rw [if_neg c15] at H
            exact absurd H (by simp)
        · rw [if_neg c14] at H
          exact absurd H (by simp)

end Go.Proofs.Ytoedcnhgobbnfaa.All

namespace Go.Proofs.Ytoedcnhgobbnfaa.All
open Go.RowKit Go.Proofs.YtoedcnhgobbnfaaW.PrintWords Go.Proofs.YtoedcnhgobbnfaaW.PrintLast Go.Proofs.YtoedcnhgobbnfaaW.PrintMore
attribute [local go_sem] max2_int min2_int max_two min_two max_three min_three max_four min_four   -- for this text's walks alone
set_option linter.unusedVariables false
set_option linter.unusedSimpArgs false

/-! ### spec_PrevBlocks: function 23 -/
def spec_PrevBlocks.l0 : Nat → Int → List Int → Int → ByteArray → Int → List Int → Int → List (S62) → Option (List Int)
  | 0, _, _, _, _, _, _, _, _ => none
  | k + 1, x1, x5, x6, x1111000, x1111001, x1111002, x1111003, x1111004 => if x6 < (x1111004.length : Int) then ((spec_NextBlocks.f k x1111000 x1111001 x1111002 x1111003 x1111004 x6).bind fun t1114 => ((spec_l4Has.f k t1114 x1).bind fun t1117 => (if t1117 = true then (if x5.length < 17592186044416 then (spec_PrevBlocks.l0 k x1 (x5 ++ [x6]) (wrap64 (x6 + 1)) x1111000 x1111001 x1111002 x1111003 x1111004) else (none)) else (spec_PrevBlocks.l0 k x1 x5 (wrap64 (x6 + 1)) x1111000 x1111001 x1111002 x1111003 x1111004)))) else (some x5)
def spec_PrevBlocks.f (k : Nat) (a0_0 : ByteArray) (a0_1 : Int) (l0_2 : List Int) (a0_3 : Int) (l0_4 : List (S62)) (a1 : Int) : Option (List Int) := spec_PrevBlocks.l0 k a1 (([] : List Int)) 0 a0_0 a0_1 l0_2 a0_3 l0_4
set_option maxHeartbeats 8000000 in
set_option maxRecDepth 100000 in
theorem spec_PrevBlocks.calls (k : Nat) (a0_0 : ByteArray) (a0_1 : Int) (A0_2 : Option Addr) (c0_2 : Nat) (l0_2 : List Int) (a0_3 : Int) (A0_4 : Option Addr) (c0_4 : Nat) (l0_4 : List (S62)) (a1 : Int) (r : List Int) (w : World) (hr0_2 : Kd.C (Kd.int .i64) w A0_2 l0_2.length l0_2) (hc0_2 : l0_2.length ≤ c0_2) (hr0_4 : Kd.C k62 w A0_4 l0_4.length l0_4) (hc0_4 : l0_4.length ≤ c0_4) (h : spec_PrevBlocks.f k a0_0 a0_1 l0_2 a0_3 l0_4 a1 = some r) :
    Calls Try.prog 23 #[.agg #[.string a0_0, .int .i64 a0_1, .slice A0_2 l0_2.length c0_2, .int .i64 a0_3, .slice A0_4 l0_4.length c0_4], .int .i64 a1] w fun e w' => ∃ v0_ : Value, e = .returned (v0_) ∧ Kd.R (Kd.int .i64) 2 w' w.heap.size (fun _ => True) v0_ r ∧ Below w.heap.size w w' := by
  have hu30 := Try.underlying30
  have HR0_2 := Aside0.mk hr0_2
  have HC0_2 := Aside0.mk hc0_2
  clear hr0_2 hc0_2
  have HR0_4 := Aside0.mk hr0_4
  have HC0_4 := Aside0.mk hc0_4
  clear hr0_4 hc0_4
  have HB := Aside0.mk (Below.refl w.heap.size w)
  have H : (spec_PrevBlocks.l0 k a1 (([] : List Int)) 0 a0_0 a0_1 l0_2 a0_3 l0_4) = some r := h
  clear h
  obtain ⟨y1111, hy1111⟩ : ∃ y_ : List Int, y_ = (([] : List Int)) := ⟨_, rfl⟩
  replace H : (spec_PrevBlocks.l0 k a1 y1111 0 a0_0 a0_1 l0_2 a0_3 l0_4) = some r := by first | (rw [hy1111]; with_reducible exact H) | (have H2_ := (Option.bind_some _ _).symm.trans H; rw [hy1111]; with_reducible exact H2_) | (have H2_ := (Option.bind_some _ _).symm.trans H; with_reducible exact H2_) | with_reducible exact H | (rw [hy1111]; exact H) | exact H
  have Ny1111 := Aside0.mk hy1111
  clear hy1111
  have H' := Aside0.mk H
  clear H
  go_enter Try.func23, Try.ntmps23
  go_wp2_with (first | ((with_reducible refine gate_dst (N := 2) rfl ?_); refine box_event ?hg (N := 2) ?hd (cs := #[.string a0_0, .int .i64 a0_1, .slice A0_2 l0_2.length c0_2, .int .i64 a0_3, .slice A0_4 l0_4.length c0_4]) (t := 30) ?hr ?_; (case hd => rfl); (case hg => rfl); (case hr => first | (go_simp; done) | (go_simp; rfl)); intro gb1110 hg w3 hbox hb; have n0_ := Aside0.mk (below_step (by repeat (first | (with_reducible first | exact HB.out | apply below_alloc | apply pw_below_drewN | apply below_drew1) | exact HB.out)) hb); have n1_ := Aside0.mk (hbox); have n2_ := Aside0.mk ((by rw [hg]; exact (below_size (by repeat (first | (with_reducible first | exact HB.out | apply below_alloc | apply pw_below_drewN | apply below_drew1) | exact HB.out))) : w.heap.size ≤ gb1110)); have n3_ := Aside0.mk ((by rw [hg]; exact (below_size (by repeat (first | (with_reducible first | exact HB.out | apply below_alloc | apply pw_below_drewN | apply below_drew1) | exact HB.out))) : w.heap.size ≤ gb1110)); clear HB; have HB := n0_; have BK1110 := n1_; have GW1110 := n2_; have GE1110 := n3_; clear n0_ n1_ n2_ n3_; clear hb hbox hg) | ((with_reducible refine gate_dst (N := 7) rfl ?_); refine Kd.R_lit (Kd.int .i64) _ 2 ?hg (N := 7) ?hd (xs := ([] : List Int)) (inner := []) (ok := fun _ => True) (okp := fun _ => True) ?hr ?hp (fun _ hk => hk) trivial (Below.refl _ _) (Nat.le_refl _) (by simp) ?_; (case hd => rfl); (case hg => rfl); (case hr => first | (go_simp; done) | (go_simp; rfl)); (case hp => exact (Reps.none _ _)); intro v1112 w4 ho5 hb hg_ hnew_; clear hg_ hnew_; (first | rw [← Ny1111.out] at ho5 | (simp only [Int.reduceToNat] at ho5; rw [← Ny1111.out] at ho5)); have n0_ := Aside0.mk (Kd.R_lower ho5 (below_size (by repeat (first | (with_reducible first | exact HB.out | apply below_alloc | apply pw_below_drewN | apply below_drew1 | refine below_set ?_ GE1110.out) | exact HB.out)))); have n1_ := Aside0.mk (blk_below (g := gb1110) (o := .cells #[.string a0_0, .int .i64 a0_1, .slice A0_2 l0_2.length c0_2, .int .i64 a0_3, .slice A0_4 l0_4.length c0_4] 30 (0, 0)) (by (with_reducible repeat (first | refine blk_drewN ?_ _ | refine blk_drew ?_ | refine blk_alloc ?_ _)); exact BK1110.out) hb); have n2_ := Aside0.mk (below_step (by repeat (first | (with_reducible first | exact HB.out | apply below_alloc | apply pw_below_drewN | apply below_drew1 | refine below_set ?_ GE1110.out) | exact HB.out)) hb); clear BK1110; clear HB; have HO1113 := n0_; have BK1110 := n1_; have HB := n2_; clear n0_ n1_ n2_; clear hb ho5))
  go_loopg [5, 6] k (fun kq v5 v6 w' => ∃ (x5_1 : List Int) (x6_1 : Int), v6 = .int .i64 x6_1 ∧ Aside0 (spec_PrevBlocks.l0 kq a1 x5_1 x6_1 a0_0 a0_1 l0_2 a0_3 l0_4 = some r) ∧ Aside0 (kq ≤ k) ∧ Aside0 (Kd.R (Kd.int .i64) 2 w' w.heap.size (fun _ => True) v5 x5_1) ∧ Aside0 (w'.heap[gb1110]? = some (.cells #[.string a0_0, .int .i64 a0_1, (.slice A0_2 l0_2.length c0_2), .int .i64 a0_3, (.slice A0_4 l0_4.length c0_4)] 30 (0, 0))) ∧ Aside0 (Below w.heap.size w w'))
  case atStart => exact ⟨(y1111), (0), (by first | rfl | (simp; done) | (simp [*]; done)), H', ⟨Nat.le_refl _⟩, ⟨by (with_reducible repeat (first | apply Kd.R_alloc | apply Kd.R_drewN | apply Kd.R_drew)); exact HO1113.out⟩, ⟨by (with_reducible repeat (first | refine blk_drewN ?_ _ | refine blk_drew ?_ | refine blk_alloc ?_ _)); exact BK1110.out⟩, ⟨by repeat (first | (with_reducible first | exact HB.out | apply below_alloc | apply pw_below_drewN | apply below_drew1 | refine below_set ?_ GE1110.out) | exact HB.out)⟩⟩
  case round =>
    clear H'
    try clear c2
    try clear p2
    obtain ⟨x5_1, x6_1, rfl, HA, HK1, HO_5, BK1110, HB⟩ := hrel
    cases gk with
    | zero => exact absurd HA.out (by simp [spec_PrevBlocks.l0])
    | succ k1 =>
      have H := HA.out
      clear HA
      simp only [spec_PrevBlocks.l0] at H
      by_cases c6 : x6_1 < (l0_4.length : Int)
      · rw [if_pos c6] at H
        have c6b0 : decide (x6_1 < (l0_4.length : Int)) = true := decide_eq_true c6
        clear c6
        replace H := Option.bind_eq_some_iff.mp H
        obtain ⟨t1114, A70, H⟩ := H
        replace H : ((spec_l4Has.f k1 t1114 a1).bind fun t1117 => (if t1117 = true then (if x5_1.length < 17592186044416 then (spec_PrevBlocks.l0 k1 a1 (x5_1 ++ [x6_1]) (wrap64 (x6_1 + 1)) a0_0 a0_1 l0_2 a0_3 l0_4) else (none)) else (spec_PrevBlocks.l0 k1 a1 x5_1 (wrap64 (x6_1 + 1)) a0_0 a0_1 l0_2 a0_3 l0_4))) = some r := H
        have A7 := Aside0.mk A70
        clear A70
        replace H := Option.bind_eq_some_iff.mp H
        obtain ⟨t1117, A80, H⟩ := H
        replace H : (if t1117 = true then (if x5_1.length < 17592186044416 then (spec_PrevBlocks.l0 k1 a1 (x5_1 ++ [x6_1]) (wrap64 (x6_1 + 1)) a0_0 a0_1 l0_2 a0_3 l0_4) else (none)) else (spec_PrevBlocks.l0 k1 a1 x5_1 (wrap64 (x6_1 + 1)) a0_0 a0_1 l0_2 a0_3 l0_4)) = some r := H
        have A8 := Aside0.mk A80
        clear A80
        by_cases c9 : t1117 = true
        · subst c9
          have H1 : (if x5_1.length < 17592186044416 then (spec_PrevBlocks.l0 k1 a1 (x5_1 ++ [x6_1]) (wrap64 (x6_1 + 1)) a0_0 a0_1 l0_2 a0_3 l0_4) else (none)) = some r := by rw [if_pos rfl] at H; exact H
          clear H
          have H := H1
          clear H1
          by_cases c10 : x5_1.length < 17592186044416
          · rw [if_pos c10] at H
            have LMc10 := Aside0.mk c10
            clear c10
            obtain ⟨y1118, hy1118⟩ : ∃ y_ : List Int, y_ = (x5_1 ++ [x6_1]) := ⟨_, rfl⟩
            replace H : (spec_PrevBlocks.l0 k1 a1 y1118 (wrap64 (x6_1 + 1)) a0_0 a0_1 l0_2 a0_3 l0_4) = some r := by first | (rw [hy1118]; with_reducible exact H) | (have H2_ := (Option.bind_some _ _).symm.trans H; rw [hy1118]; with_reducible exact H2_) | (have H2_ := (Option.bind_some _ _).symm.trans H; with_reducible exact H2_) | with_reducible exact H | (rw [hy1118]; exact H) | exact H
            have Ny1118 := Aside0.mk hy1118
            clear hy1118
            have H' := Aside0.mk H
            clear H
            have hcz11_0 : wr.cell? ⟨gb1110, 0, none⟩ = some (.string a0_0) := (blk_cell BK1110.out 0).trans rfl
            have hcz11_1 : wr.cell? ⟨gb1110, 1, none⟩ = some (.int .i64 a0_1) := (blk_cell BK1110.out 1).trans rfl
            have hcz11_2 : wr.cell? ⟨gb1110, 2, none⟩ = some (.slice A0_2 l0_2.length c0_2) := (blk_cell BK1110.out 2).trans rfl
            have hcz11_3 : wr.cell? ⟨gb1110, 3, none⟩ = some (.int .i64 a0_3) := (blk_cell BK1110.out 3).trans rfl
            have hcz11_4 : wr.cell? ⟨gb1110, 4, none⟩ = some (.slice A0_4 l0_4.length c0_4) := (blk_cell BK1110.out 4).trans rfl
            have hfz11_0 := blk_frozen BK1110.out 0
            have hfz11_1 := blk_frozen BK1110.out 1
            have hfz11_2 := blk_frozen BK1110.out 2
            have hfz11_3 := blk_frozen BK1110.out 3
            have hfz11_4 := blk_frozen BK1110.out 4
            go_wp2_with (first | ((with_reducible refine gate_callee (f := 17) rfl ?_); refine goesL_ (some 17) rfl rfl Try.func17 (by kernel_rfl) rfl #[.agg #[.string a0_0, .int .i64 a0_1, .slice A0_2 l0_2.length c0_2, .int .i64 a0_3, .slice A0_4 l0_4.length c0_4], .int .i64 x6_1] rfl (by (try simp only [List.map_toArray, List.map_cons, List.map_nil]); first | done | rfl | (simp only [List.length_drop, List.length_take]; rfl)) ?_; (with_reducible refine (spec_NextBlocks.calls k1 a0_0 a0_1 _ _ l0_2 a0_3 _ _ l0_4 x6_1 t1114 _ ?side1 ?side2 ?side3 ?side4 A7.out).mono ?_); (case side1 => repeat (first | exact (Kd.C_below HR0_2.out HB.out) | (with_reducible refine Kd.C_alloc ?_ _) | (with_reducible refine Kd.C_drewN ?_ _) | (with_reducible refine Kd.C_drew ?_))); (case side2 => exact HC0_2.out); (case side3 => repeat (first | exact (Kd.C_below HR0_4.out HB.out) | (with_reducible refine Kd.C_alloc ?_ _) | (with_reducible refine Kd.C_drewN ?_ _) | (with_reducible refine Kd.C_drew ?_))); (case side4 => exact HC0_4.out); rintro e w12 ⟨v1115, rfl, ho0, hb⟩; refine ⟨_, rfl, ?_⟩; have n0_ := Aside0.mk (Kd.R_elder' (by (with_reducible repeat (first | apply Kd.R_alloc | apply Kd.R_drewN | apply Kd.R_drew)); exact HO_5.out) (Kd.R_base ho0) hb); have n1_ := Aside0.mk (Kd.R_lower (Kd.R_new' ho0 (Kd.R_lt (by (with_reducible repeat (first | apply Kd.R_alloc | apply Kd.R_drewN | apply Kd.R_drew)); exact HO_5.out))) (below_size (by repeat (first | (with_reducible first | exact HB.out | apply below_alloc | apply pw_below_drewN | apply below_drew1 | refine below_set ?_ GE1110.out) | exact HB.out)))); have n2_ := Aside0.mk (blk_below (g := gb1110) (o := .cells #[.string a0_0, .int .i64 a0_1, .slice A0_2 l0_2.length c0_2, .int .i64 a0_3, .slice A0_4 l0_4.length c0_4] 30 (0, 0)) (by (with_reducible repeat (first | refine blk_drewN ?_ _ | refine blk_drew ?_ | refine blk_alloc ?_ _)); exact BK1110.out) hb); have n3_ := Aside0.mk (below_step (by repeat (first | (with_reducible first | exact HB.out | apply below_alloc | apply pw_below_drewN | apply below_drew1 | refine below_set ?_ GE1110.out) | exact HB.out)) hb); clear HO_5; clear BK1110; clear HB; have HO_5 := n0_; have HO1116 := n1_; have BK1110 := n2_; have HB := n3_; clear n0_ n1_ n2_ n3_; (try clear hb); (try clear hb2); (try clear hk); (try clear hi); (try clear ho0); obtain ⟨Ao13, co13, eo13⟩ := Kd.R_slice HO1116.out; subst eo13) | ((with_reducible refine gate_callee (f := 51) rfl ?_); refine goesL_ (some 19) rfl rfl Try.func51 (by kernel_rfl) rfl #[.slice Ao13 t1114.length co13, .int .i64 a1] rfl (by (try simp only [List.map_toArray, List.map_cons, List.map_nil]); first | done | rfl | (simp only [List.length_drop, List.length_take]; rfl)) ?_; (with_reducible refine (spec_l4Has.calls k1 _ _ t1114 a1 true _ ?side1 ?side2 A8.out).mono ?_); (case side1 => repeat (first | exact (Kd.R_reads' HO1116.out).2.2 | (with_reducible refine Kd.C_alloc ?_ _) | (with_reducible refine Kd.C_drewN ?_ _) | (with_reducible refine Kd.C_drew ?_))); (case side2 => exact (Kd.R_reads' HO1116.out).2.1); rintro e w' ⟨rfl, ⟨nd, rfl⟩⟩; refine ⟨_, rfl, ?_⟩) | ((with_reducible refine gate_builtin (b := .append) (xs := #[.tmp 20, .tmp 22]) rfl ?_); at_builtin; refine Kd.R_append (Kd.int .i64) (w0 := w) w.heap.size rfl (.tmp 20) (.tmp 22) 22 2 (.int .i64 0) 8 rfl Try.underlying22 info2 rfl (by decide) (by omega) u5 x5_1 x6_1 [.int .i64 x6_1] (fun k_ => some k_ ≠ (.slice Ao13 t1114.length co13 : Value).ownBlock) (fun _ => False) rfl rfl ?aP (fun _ hk => hk.elim) ?aF ?aO ?aB ?aS ?aL ?_; (case aP => exact rfl); (case aB => exact (by repeat (first | (with_reducible first | exact HB.out | apply below_alloc | apply pw_below_drewN | apply below_drew1 | refine below_set ?_ GE1110.out) | exact HB.out))); (case aF => exact (fun k_ hk => Kd.fresh' (Kd.R_lt (by (with_reducible repeat (first | apply Kd.R_alloc | apply Kd.R_drewN | apply Kd.R_drew)); exact HO1116.out)) k_ hk)); (case aO => exact (by (with_reducible repeat (first | apply Kd.R_alloc | apply Kd.R_drewN | apply Kd.R_drew)); exact Kd.R_mono HO_5.out (fun _ hk => hk.2))); (case aS => exact (below_size (by repeat (first | (with_reducible first | exact HB.out | apply below_alloc | apply pw_below_drewN | apply below_drew1 | refine below_set ?_ GE1110.out) | exact HB.out)))); (case aL => have := LMc10.out; omega); intro v1119 w14 ho hb hg hat; rw [← Ny1118.out] at ho; have n0_ := Aside0.mk (blk_grown (g := gb1110) (o := .cells #[.string a0_0, .int .i64 a0_1, .slice A0_2 l0_2.length c0_2, .int .i64 a0_3, .slice A0_4 l0_4.length c0_4] 30 (0, 0)) (by (with_reducible repeat (first | refine blk_drewN ?_ _ | refine blk_drew ?_ | refine blk_alloc ?_ _)); exact BK1110.out) hg (Kd.R_ne HO_5.out BK1110.out (by decide))); have n1_ := Aside0.mk (Kd.R_after (ok := (fun _ => True)) (by (with_reducible repeat (first | apply Kd.R_alloc | apply Kd.R_drewN | apply Kd.R_drew)); exact HO1116.out) hg hat); have n2_ := Aside0.mk (hb); have n3_ := Aside0.mk (ho); clear BK1110; clear HO1116; clear HB; clear HO_5; have BK1110 := n0_; have HO1116 := n1_; have HB := n2_; have HO1120 := n3_; clear n0_ n1_ n2_ n3_; clear ho hb hg hat))
            go_roundg k1
            case measure => have := HK1.out; omega
            case rel => exact ⟨(y1118), (wrap64 (x6_1 + 1)), (by first | rfl | (simp; done) | (simp [*]; done)), H', ⟨by have := HK1.out; omega⟩, ⟨by (with_reducible repeat (first | apply Kd.R_alloc | apply Kd.R_drewN | apply Kd.R_drew)); exact Kd.R_mono HO1120.out (fun _ hk => trivial)⟩, ⟨by (with_reducible repeat (first | refine blk_drewN ?_ _ | refine blk_drew ?_ | refine blk_alloc ?_ _)); exact BK1110.out⟩, ⟨by repeat (first | (with_reducible first | exact HB.out | apply below_alloc | apply pw_below_drewN | apply below_drew1 | refine below_set ?_ GE1110.out) | exact HB.out)⟩⟩
          · rw [if_neg c10] at H
            exact absurd H (by simp)
        · replace c9 := Bool.eq_false_iff.mpr c9
          subst c9
          have H1 : (spec_PrevBlocks.l0 k1 a1 x5_1 (wrap64 (x6_1 + 1)) a0_0 a0_1 l0_2 a0_3 l0_4) = some r := by rw [if_neg (show ¬ (false = true) by decide)] at H; exact H
          clear H
          have H := H1
          clear H1
          have H' := Aside0.mk H
          clear H
          have hcz15_0 : wr.cell? ⟨gb1110, 0, none⟩ = some (.string a0_0) := (blk_cell BK1110.out 0).trans rfl
          have hcz15_1 : wr.cell? ⟨gb1110, 1, none⟩ = some (.int .i64 a0_1) := (blk_cell BK1110.out 1).trans rfl
          have hcz15_2 : wr.cell? ⟨gb1110, 2, none⟩ = some (.slice A0_2 l0_2.length c0_2) := (blk_cell BK1110.out 2).trans rfl
          have hcz15_3 : wr.cell? ⟨gb1110, 3, none⟩ = some (.int .i64 a0_3) := (blk_cell BK1110.out 3).trans rfl
          have hcz15_4 : wr.cell? ⟨gb1110, 4, none⟩ = some (.slice A0_4 l0_4.length c0_4) := (blk_cell BK1110.out 4).trans rfl
          have hfz15_0 := blk_frozen BK1110.out 0
          have hfz15_1 := blk_frozen BK1110.out 1
          have hfz15_2 := blk_frozen BK1110.out 2
          have hfz15_3 := blk_frozen BK1110.out 3
          have hfz15_4 := blk_frozen BK1110.out 4
          go_wp2_with (first | ((with_reducible refine gate_callee (f := 17) rfl ?_); refine goesL_ (some 17) rfl rfl Try.func17 (by kernel_rfl) rfl #[.agg #[.string a0_0, .int .i64 a0_1, .slice A0_2 l0_2.length c0_2, .int .i64 a0_3, .slice A0_4 l0_4.length c0_4], .int .i64 x6_1] rfl (by (try simp only [List.map_toArray, List.map_cons, List.map_nil]); first | done | rfl | (simp only [List.length_drop, List.length_take]; rfl)) ?_; (with_reducible refine (spec_NextBlocks.calls k1 a0_0 a0_1 _ _ l0_2 a0_3 _ _ l0_4 x6_1 t1114 _ ?side1 ?side2 ?side3 ?side4 A7.out).mono ?_); (case side1 => repeat (first | exact (Kd.C_below HR0_2.out HB.out) | (with_reducible refine Kd.C_alloc ?_ _) | (with_reducible refine Kd.C_drewN ?_ _) | (with_reducible refine Kd.C_drew ?_))); (case side2 => exact HC0_2.out); (case side3 => repeat (first | exact (Kd.C_below HR0_4.out HB.out) | (with_reducible refine Kd.C_alloc ?_ _) | (with_reducible refine Kd.C_drewN ?_ _) | (with_reducible refine Kd.C_drew ?_))); (case side4 => exact HC0_4.out); rintro e w16 ⟨v1115, rfl, ho0, hb⟩; refine ⟨_, rfl, ?_⟩; have n0_ := Aside0.mk (Kd.R_elder' (by (with_reducible repeat (first | apply Kd.R_alloc | apply Kd.R_drewN | apply Kd.R_drew)); exact HO_5.out) (Kd.R_base ho0) hb); have n1_ := Aside0.mk (Kd.R_lower (Kd.R_new' ho0 (Kd.R_lt (by (with_reducible repeat (first | apply Kd.R_alloc | apply Kd.R_drewN | apply Kd.R_drew)); exact HO_5.out))) (below_size (by repeat (first | (with_reducible first | exact HB.out | apply below_alloc | apply pw_below_drewN | apply below_drew1 | refine below_set ?_ GE1110.out) | exact HB.out)))); have n2_ := Aside0.mk (blk_below (g := gb1110) (o := .cells #[.string a0_0, .int .i64 a0_1, .slice A0_2 l0_2.length c0_2, .int .i64 a0_3, .slice A0_4 l0_4.length c0_4] 30 (0, 0)) (by (with_reducible repeat (first | refine blk_drewN ?_ _ | refine blk_drew ?_ | refine blk_alloc ?_ _)); exact BK1110.out) hb); have n3_ := Aside0.mk (below_step (by repeat (first | (with_reducible first | exact HB.out | apply below_alloc | apply pw_below_drewN | apply below_drew1 | refine below_set ?_ GE1110.out) | exact HB.out)) hb); clear HO_5; clear BK1110; clear HB; have HO_5 := n0_; have HO1116 := n1_; have BK1110 := n2_; have HB := n3_; clear n0_ n1_ n2_ n3_; (try clear hb); (try clear hb2); (try clear hk); (try clear hi); (try clear ho0); obtain ⟨Ao17, co17, eo17⟩ := Kd.R_slice HO1116.out; subst eo17) | ((with_reducible refine gate_callee (f := 51) rfl ?_); refine goesL_ (some 19) rfl rfl Try.func51 (by kernel_rfl) rfl #[.slice Ao17 t1114.length co17, .int .i64 a1] rfl (by (try simp only [List.map_toArray, List.map_cons, List.map_nil]); first | done | rfl | (simp only [List.length_drop, List.length_take]; rfl)) ?_; (with_reducible refine (spec_l4Has.calls k1 _ _ t1114 a1 false _ ?side1 ?side2 A8.out).mono ?_); (case side1 => repeat (first | exact (Kd.R_reads' HO1116.out).2.2 | (with_reducible refine Kd.C_alloc ?_ _) | (with_reducible refine Kd.C_drewN ?_ _) | (with_reducible refine Kd.C_drew ?_))); (case side2 => exact (Kd.R_reads' HO1116.out).2.1); rintro e w' ⟨rfl, ⟨nd, rfl⟩⟩; refine ⟨_, rfl, ?_⟩))
          go_roundg k1
          case measure => have := HK1.out; omega
          case rel => exact ⟨(x5_1), (wrap64 (x6_1 + 1)), (by first | rfl | (simp; done) | (simp [*]; done)), H', ⟨by have := HK1.out; omega⟩, ⟨by (with_reducible repeat (first | apply Kd.R_alloc | apply Kd.R_drewN | apply Kd.R_drew)); exact Kd.R_mono HO_5.out (fun _ hk => trivial)⟩, ⟨by (with_reducible repeat (first | refine blk_drewN ?_ _ | refine blk_drew ?_ | refine blk_alloc ?_ _)); exact BK1110.out⟩, ⟨by repeat (first | (with_reducible first | exact HB.out | apply below_alloc | apply pw_below_drewN | apply below_drew1 | refine below_set ?_ GE1110.out) | exact HB.out)⟩⟩
      · rw [if_neg c6] at H
        have c6b0 : decide (x6_1 < (l0_4.length : Int)) = false := decide_eq_false c6
        clear c6
        obtain rfl := Option.some.inj H
        have hcz18_0 : wr.cell? ⟨gb1110, 0, none⟩ = some (.string a0_0) := (blk_cell BK1110.out 0).trans rfl
        have hcz18_1 : wr.cell? ⟨gb1110, 1, none⟩ = some (.int .i64 a0_1) := (blk_cell BK1110.out 1).trans rfl
        have hcz18_2 : wr.cell? ⟨gb1110, 2, none⟩ = some (.slice A0_2 l0_2.length c0_2) := (blk_cell BK1110.out 2).trans rfl
        have hcz18_3 : wr.cell? ⟨gb1110, 3, none⟩ = some (.int .i64 a0_3) := (blk_cell BK1110.out 3).trans rfl
        have hcz18_4 : wr.cell? ⟨gb1110, 4, none⟩ = some (.slice A0_4 l0_4.length c0_4) := (blk_cell BK1110.out 4).trans rfl
        have hfz18_0 := blk_frozen BK1110.out 0
        have hfz18_1 := blk_frozen BK1110.out 1
        have hfz18_2 := blk_frozen BK1110.out 2
        have hfz18_3 := blk_frozen BK1110.out 3
        have hfz18_4 := blk_frozen BK1110.out 4
        go_wp2
        go_ret
        exact ⟨_, by first | rfl | (simp [errW_none, errW_some] <;> rfl) | (simp [*, errW_none, errW_some] <;> rfl), by (with_reducible repeat (first | apply Kd.R_alloc | apply Kd.R_drewN | apply Kd.R_drew)); exact HO_5.out, by repeat (first | (with_reducible first | exact HB.out | apply below_alloc | apply pw_below_drewN | apply below_drew1 | refine below_set ?_ GE1110.out) | exact HB.out)⟩

end Go.Proofs.Ytoedcnhgobbnfaa.All
