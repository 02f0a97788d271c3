/- Part 3 of the proof of FnExactUsesOf: functions of the translation with what they return, and plain laws of these. Written by programs of this session over the kit's print, and by hand. -/
import Derived.Test.YtoedcnhgobbnfaaProg
import Derived.Test.YtoedcnhgobbnfaaWApart
import Derived.Test.YtoedcnhgobbnfaaWArr
import Derived.Test.YtoedcnhgobbnfaaWFoot
import Derived.Test.YtoedcnhgobbnfaaWKept
import Derived.Test.YtoedcnhgobbnfaaWLast
import Derived.Test.YtoedcnhgobbnfaaWMore
import Derived.Test.YtoedcnhgobbnfaaWN
import Derived.Test.YtoedcnhgobbnfaaWNEv
import Derived.Test.YtoedcnhgobbnfaaWQPut
import Derived.Test.YtoedcnhgobbnfaaWRepsOne
import Derived.Test.YtoedcnhgobbnfaaWShare
import Derived.Test.YtoedcnhgobbnfaaWTab
import Derived.Test.YtoedcnhgobbnfaaWWords
import Derived.Test.YtoedcnhgobbnfaaWZeros
import Derived.Below
import Derived.Deep.Draws
import Derived.Deep.AppendLies
import Derived.Maps.AppendAt
import Derived.OwnWalk
import Derived.Laws.BytesArg
import Derived.Laws.MakeOwn
import Derived.Laws.OwnMore
import Derived.Deep.OwnRows
import Derived.Tactics
import Derived.Lib.ConvBytes
import Derived.Laws.Slices
import Derived.WalkKit
import Derived.KernelRfl
import Derived.RowKit3
import Derived.Deep.LoopGhost
import Derived.Deep.QuietTactic
import Derived.BigQuiet
import Derived.WideLaws
import Derived.Deep.DeepCutAuto
import Derived.Deep.CutBlock
import Derived.Deep.RegionHeld3
import Derived.Laws.Rows
import Derived.Lib.AppendStr
import Derived.ArgAppend
import Derived.Laws.IdiomCopy
import Derived.OrdersHeld
import Derived.Laws.BitsLemmas
import Derived.RowKit
import Derived.Deep.Slices
import Derived.ChangeArms
import Derived.ProofKit
import Derived.OpenShut
import Derived.ShutString
import Derived.ChangeOld
import Derived.SizedLaws
import Derived.Test.YtoedcnhgobbnfaaCFnExactUsesOf1
import Derived.Test.YtoedcnhgobbnfaaCFnExactUsesOf2
namespace Go.Proofs.Ytoedcnhgobbnfaa.All
open Go.RowKit Go.Proofs.YtoedcnhgobbnfaaW.PrintWords Go.Proofs.YtoedcnhgobbnfaaW.PrintLast Go.Proofs.YtoedcnhgobbnfaaW.PrintMore
attribute [local go_sem] max2_int min2_int max_two min_two max_three min_three max_four min_four   -- for this text's walks alone
set_option linter.unusedVariables false
set_option linter.unusedSimpArgs false

/-! ### impl_UsesOf: function 26 -/
mutual
def impl_UsesOf.l0 : Nat → Int → List (S72) → List (S62) → Int → Int → Option ((List (S72)))
  | 0, _, _, _, _, _ => none
  | k + 1, x1, x5, x13, x14, x15 => if x15 < x14 then (if 0 ≤ x15 then (if x15 < (x13.length : Int) then (impl_UsesOf.l1 k x1 x5 x15 x13 x14 x15 ((rd_T62 x13 x15).f0) (((rd_T62 x13 x15).f0).length : Int) 0) else (none)) else (none)) else (some x5)
def impl_UsesOf.l1 : Nat → Int → List (S72) → Int → List (S62) → Int → Int → List (S66) → Int → Int → Option ((List (S72)))
  | 0, _, _, _, _, _, _, _, _, _ => none
  | k + 1, x1, x5, x6, x13, x14, x15, x21, x22, x23 => if x23 < x22 then (if 0 ≤ x23 then (if x23 < (x21.length : Int) then (impl_UsesOf.l2 k x1 x5 x6 x23 x13 x14 x15 x21 x22 x23 ((rd_T66 x21 x23).f6) (((rd_T66 x21 x23).f6).length : Int) 0) else (none)) else (none)) else (impl_UsesOf.l0 k x1 x5 x13 x14 (wrap64 (x15 + 1)))
def impl_UsesOf.l2 : Nat → Int → List (S72) → Int → Int → List (S62) → Int → Int → List (S66) → Int → Int → List (S75) → Int → Int → Option ((List (S72)))
  | 0, _, _, _, _, _, _, _, _, _, _, _, _, _ => none
  | k + 1, x1, x5, x6, x8, x13, x14, x15, x21, x22, x23, x29, x30, x31 => if x31 < x30 then (if 0 ≤ x31 then (if x31 < (x29.length : Int) then (if ((rd_T75 x29 x31).f0) = 4 then (if ((rd_T75 x29 x31).f2) = x1 then (if x5.length < 8796093022208 then (impl_UsesOf.l1 k x1 (x5 ++ [(⟨x6, x8⟩ : S72)]) x6 x13 x14 x15 x21 x22 (wrap64 (x23 + 1))) else (none)) else (impl_UsesOf.l2 k x1 x5 x6 x8 x13 x14 x15 x21 x22 x23 x29 x30 (wrap64 (x31 + 1)))) else (impl_UsesOf.l2 k x1 x5 x6 x8 x13 x14 x15 x21 x22 x23 x29 x30 (wrap64 (x31 + 1)))) else (none)) else (none)) else (impl_UsesOf.l1 k x1 x5 x6 x13 x14 x15 x21 x22 (wrap64 (x23 + 1)))
end
def impl_UsesOf.f (k : Nat) (a0_0 : ByteArray) (a0_1 : Int) (l0_2 : List Int) (a0_3 : Int) (l0_4 : List (S62)) (a1 : Int) : Option ((List (S72))) := impl_UsesOf.l0 k a1 ([] : List (S72)) l0_4 (l0_4.length : Int) 0
set_option maxHeartbeats 8000000 in
set_option maxRecDepth 100000 in
theorem impl_UsesOf.calls (k : Nat) (a0_0 : ByteArray) (a0_1 : Int) (A0_2 : Option Addr) (c0_2 : Nat) (l0_2 : List Int) (a0_3 : Int) (A0_4 : Option Addr) (c0_4 : Nat) (l0_4 : List (S62)) (a1 : Int) (r : List (S72)) (w : World) (hr0_2 : Kd.C (Kd.int .i64) w A0_2 l0_2.length l0_2) (hc0_2 : l0_2.length ≤ c0_2) (hr0_4 : Kd.C k62 w A0_4 l0_4.length l0_4) (hc0_4 : l0_4.length ≤ c0_4) (h : impl_UsesOf.f k a0_0 a0_1 l0_2 a0_3 l0_4 a1 = some r) :
    Calls Try.prog 26 #[.agg #[.string a0_0, .int .i64 a0_1, .slice A0_2 l0_2.length c0_2, .int .i64 a0_3, .slice A0_4 l0_4.length c0_4], .int .i64 a1] w fun e w' => ∃ v0_ : Value, e = .returned (v0_) ∧ Kd.R k72 72 w' w.heap.size (fun _ => True) v0_ r ∧ Below w.heap.size w w' := by
  have hu30 := Try.underlying30
  have hu62 := Try.underlying62
  have hu66 := Try.underlying66
  have hu75 := Try.underlying75
  have hu72 := Try.underlying72
  have HR0_2 := Aside0.mk hr0_2
  have HC0_2 := Aside0.mk hc0_2
  clear hr0_2 hc0_2
  have HR0_4 := Aside0.mk hr0_4
  have HC0_4 := Aside0.mk hc0_4
  clear hr0_4 hc0_4
  have HB := Aside0.mk (Below.refl w.heap.size w)
  have H : (impl_UsesOf.l0 k a1 ([] : List (S72)) l0_4 (l0_4.length : Int) 0) = some r := h
  clear h
  have H' := Aside0.mk H
  clear H
  go_enter Try.func26, Try.ntmps26
  go_wp2_with (first | ((with_reducible refine gate_dst (N := 2) rfl ?_); refine box_event ?hg (N := 2) ?hd (cs := #[.string a0_0, .int .i64 a0_1, .slice A0_2 l0_2.length c0_2, .int .i64 a0_3, .slice A0_4 l0_4.length c0_4]) (t := 30) ?hr ?_; (case hd => rfl); (case hg => rfl); (case hr => first | (go_simp; done) | (go_simp; rfl)); intro gb1192 hg w3 hbox hb; have n0_ := Aside0.mk (below_step (by repeat (first | (with_reducible first | exact HB.out | apply below_alloc | apply pw_below_drewN | apply below_drew1) | exact HB.out)) hb); have n1_ := Aside0.mk (hbox); have n2_ := Aside0.mk ((by rw [hg]; exact (below_size (by repeat (first | (with_reducible first | exact HB.out | apply below_alloc | apply pw_below_drewN | apply below_drew1) | exact HB.out))) : w.heap.size ≤ gb1192)); have n3_ := Aside0.mk ((by rw [hg]; exact (below_size (by repeat (first | (with_reducible first | exact HB.out | apply below_alloc | apply pw_below_drewN | apply below_drew1) | exact HB.out))) : w.heap.size ≤ gb1192)); clear HB; have HB := n0_; have BK1192 := n1_; have GW1192 := n2_; have GE1192 := n3_; clear n0_ n1_ n2_ n3_; clear hb hbox hg; have hcz4_0 : w3.cell? ⟨gb1192, 0, none⟩ = some (.string a0_0) := (blk_cell BK1192.out 0).trans rfl; have hcz4_1 : w3.cell? ⟨gb1192, 1, none⟩ = some (.int .i64 a0_1) := (blk_cell BK1192.out 1).trans rfl; have hcz4_2 : w3.cell? ⟨gb1192, 2, none⟩ = some (.slice A0_2 l0_2.length c0_2) := (blk_cell BK1192.out 2).trans rfl; have hcz4_3 : w3.cell? ⟨gb1192, 3, none⟩ = some (.int .i64 a0_3) := (blk_cell BK1192.out 3).trans rfl; have hcz4_4 : w3.cell? ⟨gb1192, 4, none⟩ = some (.slice A0_4 l0_4.length c0_4) := (blk_cell BK1192.out 4).trans rfl; have hfz4_0 := blk_frozen BK1192.out 0; have hfz4_1 := blk_frozen BK1192.out 1; have hfz4_2 := blk_frozen BK1192.out 2; have hfz4_3 := blk_frozen BK1192.out 3; have hfz4_4 := blk_frozen BK1192.out 4))
  go_loopg [5, 15] k (fun kq v5 v15 w' => ∃ (x5_1 : List (S72)) (x15_1 : Int), v15 = .int .i64 x15_1 ∧ Aside0 (impl_UsesOf.l0 kq a1 x5_1 l0_4 (l0_4.length : Int) x15_1 = some r) ∧ Aside0 (kq ≤ k) ∧ Aside0 (Kd.R k72 72 w' w.heap.size (fun _ => True) v5 x5_1) ∧ Aside0 (w'.heap[gb1192]? = some (.cells #[.string a0_0, .int .i64 a0_1, (.slice A0_2 l0_2.length c0_2), .int .i64 a0_3, (.slice A0_4 l0_4.length c0_4)] 30 (0, 0))) ∧ Aside0 (Below w.heap.size w w'))
  case atStart => exact ⟨(([] : List (S72))), (0), (by first | rfl | (simp; done) | (simp [*]; done)), H', ⟨Nat.le_refl _⟩, ⟨by first | exact Kd.R_nil _ _ _ _ _ | exact Kd.N_nil _ _ _ _ _ | exact Kd.V_nil _ _ _ _ _ | exact Kd.Q_nil _ _ _ _ _ | exact Kd.S_nil _ _ _ _ _⟩, ⟨by (with_reducible repeat (first | refine blk_drewN ?_ _ | refine blk_drew ?_ | refine blk_alloc ?_ _)); exact BK1192.out⟩, ⟨by repeat (first | (with_reducible first | exact HB.out | apply below_alloc | apply pw_below_drewN | apply below_drew1 | refine below_set ?_ GE1192.out) | exact HB.out)⟩⟩
  case round =>
    clear H'
    try clear c2
    try clear p2
    try clear hcz4_0
    try clear hcz4_1
    try clear hcz4_2
    try clear hcz4_3
    try clear hcz4_4
    try clear hfz4_0
    try clear hfz4_1
    try clear hfz4_2
    try clear hfz4_3
    try clear hfz4_4
    obtain ⟨x5_1, x15_1, rfl, HA, HK1, HO_5, BK1192, HB⟩ := hrel
    cases gk with
    | zero => exact absurd HA.out (by simp [impl_UsesOf.l0])
    | succ k1 =>
      have H := HA.out
      clear HA
      simp only [impl_UsesOf.l0] at H
      by_cases c5 : x15_1 < (l0_4.length : Int)
      · rw [if_pos c5] at H
        have c5b0 : decide (x15_1 < (l0_4.length : Int)) = true := decide_eq_true c5
        clear c5
        by_cases c6 : 0 ≤ x15_1
        · rw [if_pos c6] at H
          have c6b0 : decide (0 ≤ x15_1) = true := decide_eq_true c6
          clear c6
          by_cases c7 : x15_1 < (l0_4.length : Int)
          · rw [if_pos c7] at H
            have c7b0 : decide (x15_1 < (l0_4.length : Int)) = true := decide_eq_true c7
            clear c7
            have H' := Aside0.mk H
            clear H
            have p1193 : 0 ≤ (x15_1 : Int) := of_decide_eq_true (by first | (with_reducible assumption) | assumption)
            have q1193 : x15_1 < (l0_4.length : Int) := of_decide_eq_true (by first | (with_reducible assumption) | assumption)
            obtain ⟨ad1193, A1193_0, c1193_0, e1193, hx1193_0, hl1193_0, hi1193_0⟩ := at_T62 HR0_4.out x15_1 p1193 q1193
            cases e1193
            replace hx1193_0 := (HB.out.cell (World.block_lt_of_cell? w _ hx1193_0)).trans hx1193_0
            have HR1193_0 := Aside0.mk hi1193_0
            have HC1193_0 := Aside0.mk hl1193_0
            clear hi1193_0 hl1193_0
            replace p1193 := eq_true p1193
            replace q1193 := eq_true q1193
            go_wp2_with (first | ((with_reducible refine gate_dst (N := 7) rfl ?_); refine box_event ?hg (N := 7) ?hd (cs := #[.slice none 0 0]) (t := 62) ?hr ?_; (case hd => rfl); (case hg => rfl); (case hr => first | (go_simp; done) | (go_simp; rfl)); intro gb1194 hg w8 hbox hb; have n0_ := Aside0.mk (Kd.R_below (by (with_reducible repeat (first | apply Kd.R_alloc | apply Kd.R_drewN | apply Kd.R_drew)); exact HO_5.out) hb); have n1_ := Aside0.mk (blk_below (g := gb1192) (o := .cells #[.string a0_0, .int .i64 a0_1, .slice A0_2 l0_2.length c0_2, .int .i64 a0_3, .slice (some ad1193) l0_4.length c0_4] 30 (0, 0)) (by (with_reducible repeat (first | refine blk_drewN ?_ _ | refine blk_drew ?_ | refine blk_alloc ?_ _)); exact BK1192.out) hb); have n2_ := Aside0.mk (below_step (by repeat (first | (with_reducible first | exact HB.out | apply below_alloc | apply pw_below_drewN | apply below_drew1 | refine below_set ?_ GE1192.out) | exact HB.out)) hb); have n3_ := Aside0.mk (hbox); have n4_ := Aside0.mk ((by rw [hg]; exact (below_size (by repeat (first | (with_reducible first | exact HB.out | apply below_alloc | apply pw_below_drewN | apply below_drew1 | refine below_set ?_ GE1192.out) | exact HB.out))) : w.heap.size ≤ gb1194)); have n5_ := Aside0.mk ((by rw [hg]; exact (below_size (by repeat (first | (with_reducible first | exact HB.out | apply below_alloc | apply pw_below_drewN | apply below_drew1 | refine below_set ?_ GE1192.out) | exact HB.out))) : w.heap.size ≤ gb1194)); have n6_ := Aside0.mk ((by rw [hg]; exact Nat.ne_of_lt (blk_lt (g := gb1192) (o := .cells #[.string a0_0, .int .i64 a0_1, .slice A0_2 l0_2.length c0_2, .int .i64 a0_3, .slice (some ad1193) l0_4.length c0_4] 30 (0, 0)) (by (with_reducible repeat (first | refine blk_drewN ?_ _ | refine blk_drew ?_ | refine blk_alloc ?_ _)); exact BK1192.out)) : gb1192 ≠ gb1194)); have n7_ := Aside0.mk ((by rw [hg]; exact Nat.ne_of_gt (blk_lt (g := gb1192) (o := .cells #[.string a0_0, .int .i64 a0_1, .slice A0_2 l0_2.length c0_2, .int .i64 a0_3, .slice (some ad1193) l0_4.length c0_4] 30 (0, 0)) (by (with_reducible repeat (first | refine blk_drewN ?_ _ | refine blk_drew ?_ | refine blk_alloc ?_ _)); exact BK1192.out)) : gb1194 ≠ gb1192)); clear HO_5; clear BK1192; clear HB; have HO_5 := n0_; have BK1192 := n1_; have HB := n2_; have BK1194 := n3_; have GW1194 := n4_; have GE1194 := n5_; have NB1192_1194 := n6_; have NB1194_1192 := n7_; clear n0_ n1_ n2_ n3_ n4_ n5_ n6_ n7_; clear hb hbox hg; have hnb9 := NB1194_1192.out; have hnc9 := NB1192_1194.out; have hcz10_0 : w8.cell? ⟨gb1194, 0, none⟩ = some (.slice none 0 0) := (blk_cell BK1194.out 0).trans rfl; have hfz10_0 := blk_frozen BK1194.out 0))
            go_loopg [5, 23] k1 (fun kq v5 v23 w' => ∃ (x5_2 : List (S72)) (x23_2 : Int), v23 = .int .i64 x23_2 ∧ Aside0 (impl_UsesOf.l1 kq a1 x5_2 x15_1 l0_4 (l0_4.length : Int) x15_1 ((rd_T62 l0_4 x15_1).f0) (((rd_T62 l0_4 x15_1).f0).length : Int) x23_2 = some r) ∧ Aside0 (kq ≤ k1) ∧ Aside0 (Kd.R k72 72 w' w.heap.size (fun _ => True) v5 x5_2) ∧ Aside0 (w'.heap[gb1192]? = some (.cells #[.string a0_0, .int .i64 a0_1, (.slice A0_2 l0_2.length c0_2), .int .i64 a0_3, (.slice (some ad1193) l0_4.length c0_4)] 30 (0, 0))) ∧ Aside0 (w'.heap[gb1194]? = some (.cells #[(.slice A1193_0 ((rd_T62 l0_4 x15_1).f0).length c1193_0)] 62 (0, 0))) ∧ Aside0 (Below w.heap.size w w'))
            case atStart => exact ⟨(x5_1), (0), (by first | rfl | (simp; done) | (simp [*]; done)), H', ⟨Nat.le_refl _⟩, ⟨by (with_reducible repeat (first | apply Kd.R_alloc | apply Kd.R_drewN | apply Kd.R_drew)); exact Kd.R_mono (Kd.R_far (p := ⟨gb1194, 0, none⟩) (Kd.R_types HO_5.out BK1194.out (by decide)) (fun _ hk => hk.2) (.slice A1193_0 ((rd_T62 l0_4 x15_1).f0).length c1193_0)) (fun _ hk => trivial)⟩, ⟨by (with_reducible repeat (first | refine blk_drewN ?_ _ | refine blk_drew ?_ | refine blk_alloc ?_ _)); refine blk_far ?_ NB1192_1194.out _; (with_reducible repeat (first | refine blk_drewN ?_ _ | refine blk_drew ?_ | refine blk_alloc ?_ _)); exact BK1192.out⟩, ⟨by (with_reducible repeat (first | refine blk_drewN ?_ _ | refine blk_drew ?_ | refine blk_alloc ?_ _)); refine blk_put (cs := #[.slice none 0 0]) ?_ 0 _ rfl; (with_reducible repeat (first | refine blk_drewN ?_ _ | refine blk_drew ?_ | refine blk_alloc ?_ _)); exact BK1194.out⟩, ⟨by repeat (first | (with_reducible first | exact HB.out | apply below_alloc | apply pw_below_drewN | apply below_drew1 | refine below_set ?_ GE1192.out | refine below_set ?_ GE1194.out) | exact HB.out)⟩⟩
            case round =>
              clear H'
              try clear c1
              try clear p1
              try clear q1
              try clear hx1
              try clear c2
              try clear p2
              try clear c5
              try clear c5b0
              try clear c6
              try clear c6b0
              try clear c7
              try clear c7b0
              try clear c9
              try clear hcz10_0
              try clear hcz4_0
              try clear hcz4_1
              try clear hcz4_2
              try clear hcz4_3
              try clear hcz4_4
              try clear hfz10_0
              try clear hfz4_0
              try clear hfz4_1
              try clear hfz4_2
              try clear hfz4_3
              try clear hfz4_4
              try clear hx1193_0
              try clear p1193
              try clear p2
              try clear q1193
              obtain ⟨x5_2, x23_2, rfl, HA, HK2, HO_5, BK1192, BK1194, HB⟩ := hrel
              cases gk with
              | zero => exact absurd HA.out (by simp [impl_UsesOf.l1])
              | succ k2 =>
                have H := HA.out
                clear HA
                simp only [impl_UsesOf.l1] at H
                by_cases c11 : x23_2 < (((rd_T62 l0_4 x15_1).f0).length : Int)
                · rw [if_pos c11] at H
                  have c11b0 : decide (x23_2 < (((rd_T62 l0_4 x15_1).f0).length : Int)) = true := decide_eq_true c11
                  clear c11
                  by_cases c12 : 0 ≤ x23_2
                  · rw [if_pos c12] at H
                    have c12b0 : decide (0 ≤ x23_2) = true := decide_eq_true c12
                    clear c12
                    by_cases c13 : x23_2 < (((rd_T62 l0_4 x15_1).f0).length : Int)
                    · rw [if_pos c13] at H
                      have c13b0 : decide (x23_2 < (((rd_T62 l0_4 x15_1).f0).length : Int)) = true := decide_eq_true c13
                      clear c13
                      have H' := Aside0.mk H
                      clear H
                      have p1195 : 0 ≤ (x23_2 : Int) := of_decide_eq_true (by first | (with_reducible assumption) | assumption)
                      have q1195 : x23_2 < (((rd_T62 l0_4 x15_1).f0).length : Int) := of_decide_eq_true (by first | (with_reducible assumption) | assumption)
                      obtain ⟨ad1195, A1195_6, c1195_6, A1195_7, c1195_7, A1195_8, c1195_8, e1195, hx1195_0, hx1195_1, hx1195_2, hx1195_3, hx1195_4, hx1195_5, hx1195_6, hx1195_7, hx1195_8, hl1195_6, hi1195_6, hl1195_7, hi1195_7, hl1195_8, hi1195_8⟩ := at_T66 HR1193_0.out x23_2 p1195 q1195
                      cases e1195
                      replace hx1195_0 := (HB.out.cell (World.block_lt_of_cell? w _ hx1195_0)).trans hx1195_0
                      replace hx1195_1 := (HB.out.cell (World.block_lt_of_cell? w _ hx1195_1)).trans hx1195_1
                      replace hx1195_2 := (HB.out.cell (World.block_lt_of_cell? w _ hx1195_2)).trans hx1195_2
                      replace hx1195_3 := (HB.out.cell (World.block_lt_of_cell? w _ hx1195_3)).trans hx1195_3
                      replace hx1195_4 := (HB.out.cell (World.block_lt_of_cell? w _ hx1195_4)).trans hx1195_4
                      replace hx1195_5 := (HB.out.cell (World.block_lt_of_cell? w _ hx1195_5)).trans hx1195_5
                      replace hx1195_6 := (HB.out.cell (World.block_lt_of_cell? w _ hx1195_6)).trans hx1195_6
                      replace hx1195_7 := (HB.out.cell (World.block_lt_of_cell? w _ hx1195_7)).trans hx1195_7
                      replace hx1195_8 := (HB.out.cell (World.block_lt_of_cell? w _ hx1195_8)).trans hx1195_8
                      have HR1195_6 := Aside0.mk hi1195_6
                      have HC1195_6 := Aside0.mk hl1195_6
                      clear hi1195_6 hl1195_6
                      have HR1195_7 := Aside0.mk hi1195_7
                      have HC1195_7 := Aside0.mk hl1195_7
                      clear hi1195_7 hl1195_7
                      have HR1195_8 := Aside0.mk hi1195_8
                      have HC1195_8 := Aside0.mk hl1195_8
                      clear hi1195_8 hl1195_8
                      replace p1195 := eq_true p1195
                      replace q1195 := eq_true q1195
                      go_wp2_with (first | ((with_reducible refine gate_dst (N := 9) rfl ?_); refine box_event ?hg (N := 9) ?hd (cs := #[.int .i64 0, .int .i64 0, .int .i64 0, .int .i64 0, .int .i64 0, .int .i64 0, .slice none 0 0, .slice none 0 0, .slice none 0 0]) (t := 66) ?hr ?_; (case hd => rfl); (case hg => rfl); (case hr => first | (go_simp; done) | (go_simp; rfl)); intro gb1196 hg w14 hbox hb; have n0_ := Aside0.mk (Kd.R_below (by (with_reducible repeat (first | apply Kd.R_alloc | apply Kd.R_drewN | apply Kd.R_drew)); exact HO_5.out) hb); have n1_ := Aside0.mk (blk_below (g := gb1192) (o := .cells #[.string a0_0, .int .i64 a0_1, .slice A0_2 l0_2.length c0_2, .int .i64 a0_3, .slice (some ad1193) l0_4.length c0_4] 30 (0, 0)) (by (with_reducible repeat (first | refine blk_drewN ?_ _ | refine blk_drew ?_ | refine blk_alloc ?_ _)); exact BK1192.out) hb); have n2_ := Aside0.mk (blk_below (g := gb1194) (o := .cells #[.slice (some ad1195) ((rd_T62 l0_4 x15_1).f0).length c1193_0] 62 (0, 0)) (by (with_reducible repeat (first | refine blk_drewN ?_ _ | refine blk_drew ?_ | refine blk_alloc ?_ _)); exact BK1194.out) hb); have n3_ := Aside0.mk (below_step (by repeat (first | (with_reducible first | exact HB.out | apply below_alloc | apply pw_below_drewN | apply below_drew1 | refine below_set ?_ GE1192.out | refine below_set ?_ GE1194.out) | exact HB.out)) hb); have n4_ := Aside0.mk (hbox); have n5_ := Aside0.mk ((by rw [hg]; exact (below_size (by repeat (first | (with_reducible first | exact HB.out | apply below_alloc | apply pw_below_drewN | apply below_drew1 | refine below_set ?_ GE1192.out | refine below_set ?_ GE1194.out) | exact HB.out))) : w.heap.size ≤ gb1196)); have n6_ := Aside0.mk ((by rw [hg]; exact (below_size (by repeat (first | (with_reducible first | exact HB.out | apply below_alloc | apply pw_below_drewN | apply below_drew1 | refine below_set ?_ GE1192.out | refine below_set ?_ GE1194.out) | exact HB.out))) : w.heap.size ≤ gb1196)); have n7_ := Aside0.mk ((by rw [hg]; exact Nat.ne_of_lt (blk_lt (g := gb1192) (o := .cells #[.string a0_0, .int .i64 a0_1, .slice A0_2 l0_2.length c0_2, .int .i64 a0_3, .slice (some ad1193) l0_4.length c0_4] 30 (0, 0)) (by (with_reducible repeat (first | refine blk_drewN ?_ _ | refine blk_drew ?_ | refine blk_alloc ?_ _)); exact BK1192.out)) : gb1192 ≠ gb1196)); have n8_ := Aside0.mk ((by rw [hg]; exact Nat.ne_of_gt (blk_lt (g := gb1192) (o := .cells #[.string a0_0, .int .i64 a0_1, .slice A0_2 l0_2.length c0_2, .int .i64 a0_3, .slice (some ad1193) l0_4.length c0_4] 30 (0, 0)) (by (with_reducible repeat (first | refine blk_drewN ?_ _ | refine blk_drew ?_ | refine blk_alloc ?_ _)); exact BK1192.out)) : gb1196 ≠ gb1192)); have n9_ := Aside0.mk ((by rw [hg]; exact Nat.ne_of_lt (blk_lt (g := gb1194) (o := .cells #[.slice (some ad1195) ((rd_T62 l0_4 x15_1).f0).length c1193_0] 62 (0, 0)) (by (with_reducible repeat (first | refine blk_drewN ?_ _ | refine blk_drew ?_ | refine blk_alloc ?_ _)); exact BK1194.out)) : gb1194 ≠ gb1196)); have n10_ := Aside0.mk ((by rw [hg]; exact Nat.ne_of_gt (blk_lt (g := gb1194) (o := .cells #[.slice (some ad1195) ((rd_T62 l0_4 x15_1).f0).length c1193_0] 62 (0, 0)) (by (with_reducible repeat (first | refine blk_drewN ?_ _ | refine blk_drew ?_ | refine blk_alloc ?_ _)); exact BK1194.out)) : gb1196 ≠ gb1194)); clear HO_5; clear BK1192; clear BK1194; clear HB; have HO_5 := n0_; have BK1192 := n1_; have BK1194 := n2_; have HB := n3_; have BK1196 := n4_; have GW1196 := n5_; have GE1196 := n6_; have NB1192_1196 := n7_; have NB1196_1192 := n8_; have NB1194_1196 := n9_; have NB1196_1194 := n10_; clear n0_ n1_ n2_ n3_ n4_ n5_ n6_ n7_ n8_ n9_ n10_; clear hb hbox hg; have hnb15 := NB1196_1192.out; have hnc15 := NB1192_1196.out; have hnb16 := NB1196_1194.out; have hnc16 := NB1194_1196.out; have hcz17_0 : w14.cell? ⟨gb1196, 0, none⟩ = some (.int .i64 0) := (blk_cell BK1196.out 0).trans rfl; have hcz17_1 : w14.cell? ⟨gb1196, 1, none⟩ = some (.int .i64 0) := (blk_cell BK1196.out 1).trans rfl; have hcz17_2 : w14.cell? ⟨gb1196, 2, none⟩ = some (.int .i64 0) := (blk_cell BK1196.out 2).trans rfl; have hcz17_3 : w14.cell? ⟨gb1196, 3, none⟩ = some (.int .i64 0) := (blk_cell BK1196.out 3).trans rfl; have hcz17_4 : w14.cell? ⟨gb1196, 4, none⟩ = some (.int .i64 0) := (blk_cell BK1196.out 4).trans rfl; have hcz17_5 : w14.cell? ⟨gb1196, 5, none⟩ = some (.int .i64 0) := (blk_cell BK1196.out 5).trans rfl; have hcz17_6 : w14.cell? ⟨gb1196, 6, none⟩ = some (.slice none 0 0) := (blk_cell BK1196.out 6).trans rfl; have hcz17_7 : w14.cell? ⟨gb1196, 7, none⟩ = some (.slice none 0 0) := (blk_cell BK1196.out 7).trans rfl; have hcz17_8 : w14.cell? ⟨gb1196, 8, none⟩ = some (.slice none 0 0) := (blk_cell BK1196.out 8).trans rfl; have hfz17_0 := blk_frozen BK1196.out 0; have hfz17_1 := blk_frozen BK1196.out 1; have hfz17_2 := blk_frozen BK1196.out 2; have hfz17_3 := blk_frozen BK1196.out 3; have hfz17_4 := blk_frozen BK1196.out 4; have hfz17_5 := blk_frozen BK1196.out 5; have hfz17_6 := blk_frozen BK1196.out 6; have hfz17_7 := blk_frozen BK1196.out 7; have hfz17_8 := blk_frozen BK1196.out 8))
                      go_loopg [5, 31] k2 (fun kq v5 v31 w' => ∃ (x5_3 : List (S72)) (x31_3 : Int), v31 = .int .i64 x31_3 ∧ Aside0 (impl_UsesOf.l2 kq a1 x5_3 x15_1 x23_2 l0_4 (l0_4.length : Int) x15_1 ((rd_T62 l0_4 x15_1).f0) (((rd_T62 l0_4 x15_1).f0).length : Int) x23_2 ((rd_T66 ((rd_T62 l0_4 x15_1).f0) x23_2).f6) (((rd_T66 ((rd_T62 l0_4 x15_1).f0) x23_2).f6).length : Int) x31_3 = some r) ∧ Aside0 (kq ≤ k2) ∧ Aside0 (Kd.R k72 72 w' w.heap.size (fun _ => True) v5 x5_3) ∧ Aside0 (w'.heap[gb1192]? = some (.cells #[.string a0_0, .int .i64 a0_1, (.slice A0_2 l0_2.length c0_2), .int .i64 a0_3, (.slice (some ad1193) l0_4.length c0_4)] 30 (0, 0))) ∧ Aside0 (w'.heap[gb1194]? = some (.cells #[(.slice (some ad1195) ((rd_T62 l0_4 x15_1).f0).length c1193_0)] 62 (0, 0))) ∧ Aside0 (w'.heap[gb1196]? = some (.cells #[.int .i64 ((rd_T66 ((rd_T62 l0_4 x15_1).f0) x23_2).f0), .int .i64 ((rd_T66 ((rd_T62 l0_4 x15_1).f0) x23_2).f1), .int .i64 ((rd_T66 ((rd_T62 l0_4 x15_1).f0) x23_2).f2), .int .i64 ((rd_T66 ((rd_T62 l0_4 x15_1).f0) x23_2).f3), .int .i64 ((rd_T66 ((rd_T62 l0_4 x15_1).f0) x23_2).f4), .int .i64 ((rd_T66 ((rd_T62 l0_4 x15_1).f0) x23_2).f5), (.slice A1195_6 ((rd_T66 ((rd_T62 l0_4 x15_1).f0) x23_2).f6).length c1195_6), (.slice A1195_7 ((rd_T66 ((rd_T62 l0_4 x15_1).f0) x23_2).f7).length c1195_7), (.slice A1195_8 ((rd_T66 ((rd_T62 l0_4 x15_1).f0) x23_2).f8).length c1195_8)] 66 (0, 0))) ∧ Aside0 (Below w.heap.size w w'))
                      case atStart => exact ⟨(x5_2), (0), (by first | rfl | (simp; done) | (simp [*]; done)), H', ⟨Nat.le_refl _⟩, ⟨by (with_reducible repeat (first | apply Kd.R_alloc | apply Kd.R_drewN | apply Kd.R_drew)); exact Kd.R_mono (Kd.R_far (p := ⟨gb1196, 8, none⟩) (Kd.R_far (p := ⟨gb1196, 7, none⟩) (Kd.R_far (p := ⟨gb1196, 6, none⟩) (Kd.R_far (p := ⟨gb1196, 5, none⟩) (Kd.R_far (p := ⟨gb1196, 4, none⟩) (Kd.R_far (p := ⟨gb1196, 3, none⟩) (Kd.R_far (p := ⟨gb1196, 2, none⟩) (Kd.R_far (p := ⟨gb1196, 1, none⟩) (Kd.R_far (p := ⟨gb1196, 0, none⟩) (Kd.R_types HO_5.out BK1196.out (by decide)) (fun _ hk => hk.2) (.int .i64 ((rd_T66 ((rd_T62 l0_4 x15_1).f0) x23_2).f0))) (fun _ hk => hk.2) (.int .i64 ((rd_T66 ((rd_T62 l0_4 x15_1).f0) x23_2).f1))) (fun _ hk => hk.2) (.int .i64 ((rd_T66 ((rd_T62 l0_4 x15_1).f0) x23_2).f2))) (fun _ hk => hk.2) (.int .i64 ((rd_T66 ((rd_T62 l0_4 x15_1).f0) x23_2).f3))) (fun _ hk => hk.2) (.int .i64 ((rd_T66 ((rd_T62 l0_4 x15_1).f0) x23_2).f4))) (fun _ hk => hk.2) (.int .i64 ((rd_T66 ((rd_T62 l0_4 x15_1).f0) x23_2).f5))) (fun _ hk => hk.2) (.slice A1195_6 ((rd_T66 ((rd_T62 l0_4 x15_1).f0) x23_2).f6).length c1195_6)) (fun _ hk => hk.2) (.slice A1195_7 ((rd_T66 ((rd_T62 l0_4 x15_1).f0) x23_2).f7).length c1195_7)) (fun _ hk => hk.2) (.slice A1195_8 ((rd_T66 ((rd_T62 l0_4 x15_1).f0) x23_2).f8).length c1195_8)) (fun _ hk => trivial)⟩, ⟨by (with_reducible repeat (first | refine blk_drewN ?_ _ | refine blk_drew ?_ | refine blk_alloc ?_ _)); refine blk_far ?_ NB1192_1196.out _; (with_reducible repeat (first | refine blk_drewN ?_ _ | refine blk_drew ?_ | refine blk_alloc ?_ _)); refine blk_far ?_ NB1192_1196.out _; (with_reducible repeat (first | refine blk_drewN ?_ _ | refine blk_drew ?_ | refine blk_alloc ?_ _)); refine blk_far ?_ NB1192_1196.out _; (with_reducible repeat (first | refine blk_drewN ?_ _ | refine blk_drew ?_ | refine blk_alloc ?_ _)); refine blk_far ?_ NB1192_1196.out _; (with_reducible repeat (first | refine blk_drewN ?_ _ | refine blk_drew ?_ | refine blk_alloc ?_ _)); refine blk_far ?_ NB1192_1196.out _; (with_reducible repeat (first | refine blk_drewN ?_ _ | refine blk_drew ?_ | refine blk_alloc ?_ _)); refine blk_far ?_ NB1192_1196.out _; (with_reducible repeat (first | refine blk_drewN ?_ _ | refine blk_drew ?_ | refine blk_alloc ?_ _)); refine blk_far ?_ NB1192_1196.out _; (with_reducible repeat (first | refine blk_drewN ?_ _ | refine blk_drew ?_ | refine blk_alloc ?_ _)); refine blk_far ?_ NB1192_1196.out _; (with_reducible repeat (first | refine blk_drewN ?_ _ | refine blk_drew ?_ | refine blk_alloc ?_ _)); refine blk_far ?_ NB1192_1196.out _; (with_reducible repeat (first | refine blk_drewN ?_ _ | refine blk_drew ?_ | refine blk_alloc ?_ _)); exact BK1192.out⟩, ⟨by (with_reducible repeat (first | refine blk_drewN ?_ _ | refine blk_drew ?_ | refine blk_alloc ?_ _)); refine blk_far ?_ NB1194_1196.out _; (with_reducible repeat (first | refine blk_drewN ?_ _ | refine blk_drew ?_ | refine blk_alloc ?_ _)); refine blk_far ?_ NB1194_1196.out _; (with_reducible repeat (first | refine blk_drewN ?_ _ | refine blk_drew ?_ | refine blk_alloc ?_ _)); refine blk_far ?_ NB1194_1196.out _; (with_reducible repeat (first | refine blk_drewN ?_ _ | refine blk_drew ?_ | refine blk_alloc ?_ _)); refine blk_far ?_ NB1194_1196.out _; (with_reducible repeat (first | refine blk_drewN ?_ _ | refine blk_drew ?_ | refine blk_alloc ?_ _)); refine blk_far ?_ NB1194_1196.out _; (with_reducible repeat (first | refine blk_drewN ?_ _ | refine blk_drew ?_ | refine blk_alloc ?_ _)); refine blk_far ?_ NB1194_1196.out _; (with_reducible repeat (first | refine blk_drewN ?_ _ | refine blk_drew ?_ | refine blk_alloc ?_ _)); refine blk_far ?_ NB1194_1196.out _; (with_reducible repeat (first | refine blk_drewN ?_ _ | refine blk_drew ?_ | refine blk_alloc ?_ _)); refine blk_far ?_ NB1194_1196.out _; (with_reducible repeat (first | refine blk_drewN ?_ _ | refine blk_drew ?_ | refine blk_alloc ?_ _)); refine blk_far ?_ NB1194_1196.out _; (with_reducible repeat (first | refine blk_drewN ?_ _ | refine blk_drew ?_ | refine blk_alloc ?_ _)); exact BK1194.out⟩, ⟨by (with_reducible repeat (first | refine blk_drewN ?_ _ | refine blk_drew ?_ | refine blk_alloc ?_ _)); refine blk_put (cs := #[.int .i64 ((rd_T66 ((rd_T62 l0_4 x15_1).f0) x23_2).f0), .int .i64 ((rd_T66 ((rd_T62 l0_4 x15_1).f0) x23_2).f1), .int .i64 ((rd_T66 ((rd_T62 l0_4 x15_1).f0) x23_2).f2), .int .i64 ((rd_T66 ((rd_T62 l0_4 x15_1).f0) x23_2).f3), .int .i64 ((rd_T66 ((rd_T62 l0_4 x15_1).f0) x23_2).f4), .int .i64 ((rd_T66 ((rd_T62 l0_4 x15_1).f0) x23_2).f5), .slice A1195_6 ((rd_T66 ((rd_T62 l0_4 x15_1).f0) x23_2).f6).length c1195_6, .slice A1195_7 ((rd_T66 ((rd_T62 l0_4 x15_1).f0) x23_2).f7).length c1195_7, .slice none 0 0]) ?_ 8 _ rfl; (with_reducible repeat (first | refine blk_drewN ?_ _ | refine blk_drew ?_ | refine blk_alloc ?_ _)); refine blk_put (cs := #[.int .i64 ((rd_T66 ((rd_T62 l0_4 x15_1).f0) x23_2).f0), .int .i64 ((rd_T66 ((rd_T62 l0_4 x15_1).f0) x23_2).f1), .int .i64 ((rd_T66 ((rd_T62 l0_4 x15_1).f0) x23_2).f2), .int .i64 ((rd_T66 ((rd_T62 l0_4 x15_1).f0) x23_2).f3), .int .i64 ((rd_T66 ((rd_T62 l0_4 x15_1).f0) x23_2).f4), .int .i64 ((rd_T66 ((rd_T62 l0_4 x15_1).f0) x23_2).f5), .slice A1195_6 ((rd_T66 ((rd_T62 l0_4 x15_1).f0) x23_2).f6).length c1195_6, .slice none 0 0, .slice none 0 0]) ?_ 7 _ rfl; (with_reducible repeat (first | refine blk_drewN ?_ _ | refine blk_drew ?_ | refine blk_alloc ?_ _)); refine blk_put (cs := #[.int .i64 ((rd_T66 ((rd_T62 l0_4 x15_1).f0) x23_2).f0), .int .i64 ((rd_T66 ((rd_T62 l0_4 x15_1).f0) x23_2).f1), .int .i64 ((rd_T66 ((rd_T62 l0_4 x15_1).f0) x23_2).f2), .int .i64 ((rd_T66 ((rd_T62 l0_4 x15_1).f0) x23_2).f3), .int .i64 ((rd_T66 ((rd_T62 l0_4 x15_1).f0) x23_2).f4), .int .i64 ((rd_T66 ((rd_T62 l0_4 x15_1).f0) x23_2).f5), .slice none 0 0, .slice none 0 0, .slice none 0 0]) ?_ 6 _ rfl; (with_reducible repeat (first | refine blk_drewN ?_ _ | refine blk_drew ?_ | refine blk_alloc ?_ _)); refine blk_put (cs := #[.int .i64 ((rd_T66 ((rd_T62 l0_4 x15_1).f0) x23_2).f0), .int .i64 ((rd_T66 ((rd_T62 l0_4 x15_1).f0) x23_2).f1), .int .i64 ((rd_T66 ((rd_T62 l0_4 x15_1).f0) x23_2).f2), .int .i64 ((rd_T66 ((rd_T62 l0_4 x15_1).f0) x23_2).f3), .int .i64 ((rd_T66 ((rd_T62 l0_4 x15_1).f0) x23_2).f4), .int .i64 0, .slice none 0 0, .slice none 0 0, .slice none 0 0]) ?_ 5 _ rfl; (with_reducible repeat (first | refine blk_drewN ?_ _ | refine blk_drew ?_ | refine blk_alloc ?_ _)); refine blk_put (cs := #[.int .i64 ((rd_T66 ((rd_T62 l0_4 x15_1).f0) x23_2).f0), .int .i64 ((rd_T66 ((rd_T62 l0_4 x15_1).f0) x23_2).f1), .int .i64 ((rd_T66 ((rd_T62 l0_4 x15_1).f0) x23_2).f2), .int .i64 ((rd_T66 ((rd_T62 l0_4 x15_1).f0) x23_2).f3), .int .i64 0, .int .i64 0, .slice none 0 0, .slice none 0 0, .slice none 0 0]) ?_ 4 _ rfl; (with_reducible repeat (first | refine blk_drewN ?_ _ | refine blk_drew ?_ | refine blk_alloc ?_ _)); refine blk_put (cs := #[.int .i64 ((rd_T66 ((rd_T62 l0_4 x15_1).f0) x23_2).f0), .int .i64 ((rd_T66 ((rd_T62 l0_4 x15_1).f0) x23_2).f1), .int .i64 ((rd_T66 ((rd_T62 l0_4 x15_1).f0) x23_2).f2), .int .i64 0, .int .i64 0, .int .i64 0, .slice none 0 0, .slice none 0 0, .slice none 0 0]) ?_ 3 _ rfl; (with_reducible repeat (first | refine blk_drewN ?_ _ | refine blk_drew ?_ | refine blk_alloc ?_ _)); refine blk_put (cs := #[.int .i64 ((rd_T66 ((rd_T62 l0_4 x15_1).f0) x23_2).f0), .int .i64 ((rd_T66 ((rd_T62 l0_4 x15_1).f0) x23_2).f1), .int .i64 0, .int .i64 0, .int .i64 0, .int .i64 0, .slice none 0 0, .slice none 0 0, .slice none 0 0]) ?_ 2 _ rfl; (with_reducible repeat (first | refine blk_drewN ?_ _ | refine blk_drew ?_ | refine blk_alloc ?_ _)); refine blk_put (cs := #[.int .i64 ((rd_T66 ((rd_T62 l0_4 x15_1).f0) x23_2).f0), .int .i64 0, .int .i64 0, .int .i64 0, .int .i64 0, .int .i64 0, .slice none 0 0, .slice none 0 0, .slice none 0 0]) ?_ 1 _ rfl; (with_reducible repeat (first | refine blk_drewN ?_ _ | refine blk_drew ?_ | refine blk_alloc ?_ _)); refine blk_put (cs := #[.int .i64 0, .int .i64 0, .int .i64 0, .int .i64 0, .int .i64 0, .int .i64 0, .slice none 0 0, .slice none 0 0, .slice none 0 0]) ?_ 0 _ rfl; (with_reducible repeat (first | refine blk_drewN ?_ _ | refine blk_drew ?_ | refine blk_alloc ?_ _)); exact BK1196.out⟩, ⟨by repeat (first | (with_reducible first | exact HB.out | apply below_alloc | apply pw_below_drewN | apply below_drew1 | refine below_set ?_ GE1192.out | refine below_set ?_ GE1194.out | refine below_set ?_ GE1196.out) | exact HB.out)⟩⟩
                      case round =>
                        clear H'
                        try clear c1
                        try clear p1
                        try clear q1
                        try clear hx1
                        try clear c2
                        try clear p2
                        try clear c5
                        try clear c5b0
                        try clear c6
                        try clear c6b0
                        try clear c7
                        try clear c7b0
                        try clear c9
                        try clear c11
                        try clear c11b0
                        try clear p11
                        try clear q11
                        try clear hx11
                        try clear c12
                        try clear c12b0
                        try clear c13
                        try clear c13b0
                        try clear c15
                        try clear c16
                        try clear hcz10_0
                        try clear hcz17_0
                        try clear hcz17_1
                        try clear hcz17_2
                        try clear hcz17_3
                        try clear hcz17_4
                        try clear hcz17_5
                        try clear hcz17_6
                        try clear hcz17_7
                        try clear hcz17_8
                        try clear hcz4_0
                        try clear hcz4_1
                        try clear hcz4_2
                        try clear hcz4_3
                        try clear hcz4_4
                        try clear hfz10_0
                        try clear hfz17_0
                        try clear hfz17_1
                        try clear hfz17_2
                        try clear hfz17_3
                        try clear hfz17_4
                        try clear hfz17_5
                        try clear hfz17_6
                        try clear hfz17_7
                        try clear hfz17_8
                        try clear hfz4_0
                        try clear hfz4_1
                        try clear hfz4_2
                        try clear hfz4_3
                        try clear hfz4_4
                        try clear hx1193_0
                        try clear hx1195_0
                        try clear hx1195_1
                        try clear hx1195_2
                        try clear hx1195_3
                        try clear hx1195_4
                        try clear hx1195_5
                        try clear hx1195_6
                        try clear hx1195_7
                        try clear hx1195_8
                        try clear p1
                        try clear p1193
                        try clear p1195
                        try clear p2
                        try clear q1
                        try clear q1193
                        try clear q1195
                        obtain ⟨x5_3, x31_3, rfl, HA, HK3, HO_5, BK1192, BK1194, BK1196, HB⟩ := hrel
                        cases gk with
                        | zero => exact absurd HA.out (by simp [impl_UsesOf.l2])
                        | succ k3 =>
                          have H := HA.out
                          clear HA
                          simp only [impl_UsesOf.l2] at H
                          by_cases c18 : x31_3 < (((rd_T66 ((rd_T62 l0_4 x15_1).f0) x23_2).f6).length : Int)
                          · rw [if_pos c18] at H
                            have c18b0 : decide (x31_3 < (((rd_T66 ((rd_T62 l0_4 x15_1).f0) x23_2).f6).length : Int)) = true := decide_eq_true c18
                            clear c18
                            by_cases c19 : 0 ≤ x31_3
                            · rw [if_pos c19] at H
                              have c19b0 : decide (0 ≤ x31_3) = true := decide_eq_true c19
                              clear c19
                              by_cases c20 : x31_3 < (((rd_T66 ((rd_T62 l0_4 x15_1).f0) x23_2).f6).length : Int)
                              · rw [if_pos c20] at H
                                have c20b0 : decide (x31_3 < (((rd_T66 ((rd_T62 l0_4 x15_1).f0) x23_2).f6).length : Int)) = true := decide_eq_true c20
                                clear c20
                                by_cases c21 : ((rd_T75 ((rd_T66 ((rd_T62 l0_4 x15_1).f0) x23_2).f6) x31_3).f0) = 4
                                · rw [if_pos c21] at H
                                  have c21b0 : (((rd_T75 ((rd_T66 ((rd_T62 l0_4 x15_1).f0) x23_2).f6) x31_3).f0) == 4) = true := beq_iff_eq.mpr c21
                                  have c21b1 : (((rd_T75 ((rd_T66 ((rd_T62 l0_4 x15_1).f0) x23_2).f6) x31_3).f0) != 4) = false := bne_eq_false_iff_eq.mpr c21
                                  clear c21
                                  by_cases c22 : ((rd_T75 ((rd_T66 ((rd_T62 l0_4 x15_1).f0) x23_2).f6) x31_3).f2) = a1
                                  · rw [if_pos c22] at H
                                    have c22b0 : (((rd_T75 ((rd_T66 ((rd_T62 l0_4 x15_1).f0) x23_2).f6) x31_3).f2) == a1) = true := beq_iff_eq.mpr c22
                                    have c22b1 : (((rd_T75 ((rd_T66 ((rd_T62 l0_4 x15_1).f0) x23_2).f6) x31_3).f2) != a1) = false := bne_eq_false_iff_eq.mpr c22
                                    clear c22
                                    by_cases c23 : x5_3.length < 8796093022208
                                    · rw [if_pos c23] at H
                                      have LMc23 := Aside0.mk c23
                                      clear c23
                                      obtain ⟨y1199, hy1199⟩ : ∃ y_ : List (S72), y_ = (x5_3 ++ [(⟨x15_1, x23_2⟩ : S72)]) := ⟨_, rfl⟩
                                      replace H : (impl_UsesOf.l1 k3 a1 y1199 x15_1 l0_4 (l0_4.length : Int) x15_1 ((rd_T62 l0_4 x15_1).f0) (((rd_T62 l0_4 x15_1).f0).length : Int) (wrap64 (x23_2 + 1))) = some r := by first | (rw [hy1199]; with_reducible exact H) | (have H2_ := (Option.bind_some _ _).symm.trans H; rw [hy1199]; with_reducible exact H2_) | (have H2_ := (Option.bind_some _ _).symm.trans H; with_reducible exact H2_) | with_reducible exact H | (rw [hy1199]; exact H) | exact H
                                      have Ny1199 := Aside0.mk hy1199
                                      clear hy1199
                                      have H' := Aside0.mk H
                                      clear H
                                      have p1197 : 0 ≤ (x31_3 : Int) := of_decide_eq_true (by first | (with_reducible assumption) | assumption)
                                      have q1197 : x31_3 < (((rd_T66 ((rd_T62 l0_4 x15_1).f0) x23_2).f6).length : Int) := of_decide_eq_true (by first | (with_reducible assumption) | assumption)
                                      obtain ⟨ad1197, e1197, hx1197_0, hx1197_1, hx1197_2, hx1197_3⟩ := at_T75 HR1195_6.out x31_3 p1197 q1197
                                      cases e1197
                                      replace hx1197_0 := (HB.out.cell (World.block_lt_of_cell? w _ hx1197_0)).trans hx1197_0
                                      replace hx1197_1 := (HB.out.cell (World.block_lt_of_cell? w _ hx1197_1)).trans hx1197_1
                                      replace hx1197_2 := (HB.out.cell (World.block_lt_of_cell? w _ hx1197_2)).trans hx1197_2
                                      replace hx1197_3 := (HB.out.cell (World.block_lt_of_cell? w _ hx1197_3)).trans hx1197_3
                                      replace p1197 := eq_true p1197
                                      replace q1197 := eq_true q1197
                                      go_wp2_with (first | ((with_reducible refine gate_dst (N := 11) rfl ?_); refine box_event ?hg (N := 11) ?hd (cs := #[.int .i64 0, .int .i64 0, .int .i64 0, .int .u64 0]) (t := 75) ?hr ?_; (case hd => rfl); (case hg => rfl); (case hr => first | (go_simp; done) | (go_simp; rfl)); intro gb1198 hg w24 hbox hb; have n0_ := Aside0.mk (Kd.R_below (by (with_reducible repeat (first | apply Kd.R_alloc | apply Kd.R_drewN | apply Kd.R_drew)); exact HO_5.out) hb); have n1_ := Aside0.mk (blk_below (g := gb1192) (o := .cells #[.string a0_0, .int .i64 a0_1, .slice A0_2 l0_2.length c0_2, .int .i64 a0_3, .slice (some ad1193) l0_4.length c0_4] 30 (0, 0)) (by (with_reducible repeat (first | refine blk_drewN ?_ _ | refine blk_drew ?_ | refine blk_alloc ?_ _)); exact BK1192.out) hb); have n2_ := Aside0.mk (blk_below (g := gb1194) (o := .cells #[.slice (some ad1195) ((rd_T62 l0_4 x15_1).f0).length c1193_0] 62 (0, 0)) (by (with_reducible repeat (first | refine blk_drewN ?_ _ | refine blk_drew ?_ | refine blk_alloc ?_ _)); exact BK1194.out) hb); have n3_ := Aside0.mk (blk_below (g := gb1196) (o := .cells #[.int .i64 ((rd_T66 ((rd_T62 l0_4 x15_1).f0) x23_2).f0), .int .i64 ((rd_T66 ((rd_T62 l0_4 x15_1).f0) x23_2).f1), .int .i64 ((rd_T66 ((rd_T62 l0_4 x15_1).f0) x23_2).f2), .int .i64 ((rd_T66 ((rd_T62 l0_4 x15_1).f0) x23_2).f3), .int .i64 ((rd_T66 ((rd_T62 l0_4 x15_1).f0) x23_2).f4), .int .i64 ((rd_T66 ((rd_T62 l0_4 x15_1).f0) x23_2).f5), .slice (some ad1197) ((rd_T66 ((rd_T62 l0_4 x15_1).f0) x23_2).f6).length c1195_6, .slice A1195_7 ((rd_T66 ((rd_T62 l0_4 x15_1).f0) x23_2).f7).length c1195_7, .slice A1195_8 ((rd_T66 ((rd_T62 l0_4 x15_1).f0) x23_2).f8).length c1195_8] 66 (0, 0)) (by (with_reducible repeat (first | refine blk_drewN ?_ _ | refine blk_drew ?_ | refine blk_alloc ?_ _)); exact BK1196.out) hb); have n4_ := Aside0.mk (below_step (by repeat (first | (with_reducible first | exact HB.out | apply below_alloc | apply pw_below_drewN | apply below_drew1 | refine below_set ?_ GE1192.out | refine below_set ?_ GE1194.out | refine below_set ?_ GE1196.out) | exact HB.out)) hb); have n5_ := Aside0.mk (hbox); have n6_ := Aside0.mk ((by rw [hg]; exact (below_size (by repeat (first | (with_reducible first | exact HB.out | apply below_alloc | apply pw_below_drewN | apply below_drew1 | refine below_set ?_ GE1192.out | refine below_set ?_ GE1194.out | refine below_set ?_ GE1196.out) | exact HB.out))) : w.heap.size ≤ gb1198)); have n7_ := Aside0.mk ((by rw [hg]; exact (below_size (by repeat (first | (with_reducible first | exact HB.out | apply below_alloc | apply pw_below_drewN | apply below_drew1 | refine below_set ?_ GE1192.out | refine below_set ?_ GE1194.out | refine below_set ?_ GE1196.out) | exact HB.out))) : w.heap.size ≤ gb1198)); have n8_ := Aside0.mk ((by rw [hg]; exact Nat.ne_of_lt (blk_lt (g := gb1192) (o := .cells #[.string a0_0, .int .i64 a0_1, .slice A0_2 l0_2.length c0_2, .int .i64 a0_3, .slice (some ad1193) l0_4.length c0_4] 30 (0, 0)) (by (with_reducible repeat (first | refine blk_drewN ?_ _ | refine blk_drew ?_ | refine blk_alloc ?_ _)); exact BK1192.out)) : gb1192 ≠ gb1198)); have n9_ := Aside0.mk ((by rw [hg]; exact Nat.ne_of_gt (blk_lt (g := gb1192) (o := .cells #[.string a0_0, .int .i64 a0_1, .slice A0_2 l0_2.length c0_2, .int .i64 a0_3, .slice (some ad1193) l0_4.length c0_4] 30 (0, 0)) (by (with_reducible repeat (first | refine blk_drewN ?_ _ | refine blk_drew ?_ | refine blk_alloc ?_ _)); exact BK1192.out)) : gb1198 ≠ gb1192)); have n10_ := Aside0.mk ((by rw [hg]; exact Nat.ne_of_lt (blk_lt (g := gb1194) (o := .cells #[.slice (some ad1195) ((rd_T62 l0_4 x15_1).f0).length c1193_0] 62 (0, 0)) (by (with_reducible repeat (first | refine blk_drewN ?_ _ | refine blk_drew ?_ | refine blk_alloc ?_ _)); exact BK1194.out)) : gb1194 ≠ gb1198)); have n11_ := Aside0.mk ((by rw [hg]; exact Nat.ne_of_gt (blk_lt (g := gb1194) (o := .cells #[.slice (some ad1195) ((rd_T62 l0_4 x15_1).f0).length c1193_0] 62 (0, 0)) (by (with_reducible repeat (first | refine blk_drewN ?_ _ | refine blk_drew ?_ | refine blk_alloc ?_ _)); exact BK1194.out)) : gb1198 ≠ gb1194)); have n12_ := Aside0.mk ((by rw [hg]; exact Nat.ne_of_lt (blk_lt (g := gb1196) (o := .cells #[.int .i64 ((rd_T66 ((rd_T62 l0_4 x15_1).f0) x23_2).f0), .int .i64 ((rd_T66 ((rd_T62 l0_4 x15_1).f0) x23_2).f1), .int .i64 ((rd_T66 ((rd_T62 l0_4 x15_1).f0) x23_2).f2), .int .i64 ((rd_T66 ((rd_T62 l0_4 x15_1).f0) x23_2).f3), .int .i64 ((rd_T66 ((rd_T62 l0_4 x15_1).f0) x23_2).f4), .int .i64 ((rd_T66 ((rd_T62 l0_4 x15_1).f0) x23_2).f5), .slice (some ad1197) ((rd_T66 ((rd_T62 l0_4 x15_1).f0) x23_2).f6).length c1195_6, .slice A1195_7 ((rd_T66 ((rd_T62 l0_4 x15_1).f0) x23_2).f7).length c1195_7, .slice A1195_8 ((rd_T66 ((rd_T62 l0_4 x15_1).f0) x23_2).f8).length c1195_8] 66 (0, 0)) (by (with_reducible repeat (first | refine blk_drewN ?_ _ | refine blk_drew ?_ | refine blk_alloc ?_ _)); exact BK1196.out)) : gb1196 ≠ gb1198)); have n13_ := Aside0.mk ((by rw [hg]; exact Nat.ne_of_gt (blk_lt (g := gb1196) (o := .cells #[.int .i64 ((rd_T66 ((rd_T62 l0_4 x15_1).f0) x23_2).f0), .int .i64 ((rd_T66 ((rd_T62 l0_4 x15_1).f0) x23_2).f1), .int .i64 ((rd_T66 ((rd_T62 l0_4 x15_1).f0) x23_2).f2), .int .i64 ((rd_T66 ((rd_T62 l0_4 x15_1).f0) x23_2).f3), .int .i64 ((rd_T66 ((rd_T62 l0_4 x15_1).f0) x23_2).f4), .int .i64 ((rd_T66 ((rd_T62 l0_4 x15_1).f0) x23_2).f5), .slice (some ad1197) ((rd_T66 ((rd_T62 l0_4 x15_1).f0) x23_2).f6).length c1195_6, .slice A1195_7 ((rd_T66 ((rd_T62 l0_4 x15_1).f0) x23_2).f7).length c1195_7, .slice A1195_8 ((rd_T66 ((rd_T62 l0_4 x15_1).f0) x23_2).f8).length c1195_8] 66 (0, 0)) (by (with_reducible repeat (first | refine blk_drewN ?_ _ | refine blk_drew ?_ | refine blk_alloc ?_ _)); exact BK1196.out)) : gb1198 ≠ gb1196)); clear HO_5; clear BK1192; clear BK1194; clear BK1196; clear HB; have HO_5 := n0_; have BK1192 := n1_; have BK1194 := n2_; have BK1196 := n3_; have HB := n4_; have BK1198 := n5_; have GW1198 := n6_; have GE1198 := n7_; have NB1192_1198 := n8_; have NB1198_1192 := n9_; have NB1194_1198 := n10_; have NB1198_1194 := n11_; have NB1196_1198 := n12_; have NB1198_1196 := n13_; clear n0_ n1_ n2_ n3_ n4_ n5_ n6_ n7_ n8_ n9_ n10_ n11_ n12_ n13_; clear hb hbox hg; have hnb25 := NB1198_1192.out; have hnc25 := NB1192_1198.out; have hnb26 := NB1198_1194.out; have hnc26 := NB1194_1198.out; have hnb27 := NB1198_1196.out; have hnc27 := NB1196_1198.out; have hcz28_0 : w24.cell? ⟨gb1198, 0, none⟩ = some (.int .i64 0) := (blk_cell BK1198.out 0).trans rfl; have hcz28_1 : w24.cell? ⟨gb1198, 1, none⟩ = some (.int .i64 0) := (blk_cell BK1198.out 1).trans rfl; have hcz28_2 : w24.cell? ⟨gb1198, 2, none⟩ = some (.int .i64 0) := (blk_cell BK1198.out 2).trans rfl; have hcz28_3 : w24.cell? ⟨gb1198, 3, none⟩ = some (.int .u64 0) := (blk_cell BK1198.out 3).trans rfl; have hfz28_0 := blk_frozen BK1198.out 0; have hfz28_1 := blk_frozen BK1198.out 1; have hfz28_2 := blk_frozen BK1198.out 2; have hfz28_3 := blk_frozen BK1198.out 3) | ((with_reducible refine gate_builtin (b := .append) (xs := #[.tmp 44, .tmp 48]) rfl ?_); at_builtin; refine Kd.R_append k72 (w0 := w) w.heap.size rfl (.tmp 44) (.tmp 48) 39 72 (.agg #[(.int .i64 0), (.int .i64 0)]) 16 rfl Try.underlying39 info72 rfl (by decide) (by omega) u5 x5_3 (⟨x15_1, x23_2⟩ : S72) [.int .i64 x15_1, .int .i64 x23_2] (fun _ => True) (fun _ => False) rfl (by first | (go_simp; done) | (go_simp; rfl)) ?aP (fun _ hk => hk.elim) ?aF ?aO ?aB ?aS ?aL ?_; (case aP => exact k72_mkM _ _ _ (⟨x15_1, x23_2⟩ : S72)); (case aB => exact (by repeat (first | (with_reducible first | exact HB.out | apply below_alloc | apply pw_below_drewN | apply below_drew1 | refine below_set ?_ GE1192.out | refine below_set ?_ GE1194.out | refine below_set ?_ GE1196.out | refine below_set ?_ GE1198.out) | exact HB.out))); (case aF => exact (fun _ _ => trivial)); (case aO => exact (by (with_reducible repeat (first | apply Kd.R_alloc | apply Kd.R_drewN | apply Kd.R_drew)); exact Kd.R_mono (Kd.R_far (p := ⟨gb1198, 3, none⟩) (Kd.R_far (p := ⟨gb1198, 2, none⟩) (Kd.R_far (p := ⟨gb1198, 1, none⟩) (Kd.R_far (p := ⟨gb1198, 0, none⟩) (Kd.R_types HO_5.out BK1198.out (by decide)) (fun _ hk => hk.2) (.int .i64 ((rd_T75 ((rd_T66 ((rd_T62 l0_4 x15_1).f0) x23_2).f6) x31_3).f0))) (fun _ hk => hk.2) (.int .i64 ((rd_T75 ((rd_T66 ((rd_T62 l0_4 x15_1).f0) x23_2).f6) x31_3).f1))) (fun _ hk => hk.2) (.int .i64 ((rd_T75 ((rd_T66 ((rd_T62 l0_4 x15_1).f0) x23_2).f6) x31_3).f2))) (fun _ hk => hk.2) (.int .u64 ((rd_T75 ((rd_T66 ((rd_T62 l0_4 x15_1).f0) x23_2).f6) x31_3).f3))) (fun _ hk => trivial))); (case aS => exact (below_size (by repeat (first | (with_reducible first | exact HB.out | apply below_alloc | apply pw_below_drewN | apply below_drew1 | refine below_set ?_ GE1192.out | refine below_set ?_ GE1194.out | refine below_set ?_ GE1196.out | refine below_set ?_ GE1198.out) | exact HB.out)))); (case aL => have := LMc23.out; omega); intro v1200 w29 ho hb hg hat; rw [← Ny1199.out] at ho; have n0_ := Aside0.mk (blk_grown (g := gb1192) (o := .cells #[.string a0_0, .int .i64 a0_1, .slice A0_2 l0_2.length c0_2, .int .i64 a0_3, .slice (some ad1193) l0_4.length c0_4] 30 (0, 0)) (by (with_reducible repeat (first | refine blk_drewN ?_ _ | refine blk_drew ?_ | refine blk_alloc ?_ _)); refine blk_far ?_ NB1192_1198.out _; (with_reducible repeat (first | refine blk_drewN ?_ _ | refine blk_drew ?_ | refine blk_alloc ?_ _)); refine blk_far ?_ NB1192_1198.out _; (with_reducible repeat (first | refine blk_drewN ?_ _ | refine blk_drew ?_ | refine blk_alloc ?_ _)); refine blk_far ?_ NB1192_1198.out _; (with_reducible repeat (first | refine blk_drewN ?_ _ | refine blk_drew ?_ | refine blk_alloc ?_ _)); refine blk_far ?_ NB1192_1198.out _; (with_reducible repeat (first | refine blk_drewN ?_ _ | refine blk_drew ?_ | refine blk_alloc ?_ _)); exact BK1192.out) hg (Kd.R_ne HO_5.out BK1192.out (by decide))); have n1_ := Aside0.mk (blk_grown (g := gb1194) (o := .cells #[.slice (some ad1195) ((rd_T62 l0_4 x15_1).f0).length c1193_0] 62 (0, 0)) (by (with_reducible repeat (first | refine blk_drewN ?_ _ | refine blk_drew ?_ | refine blk_alloc ?_ _)); refine blk_far ?_ NB1194_1198.out _; (with_reducible repeat (first | refine blk_drewN ?_ _ | refine blk_drew ?_ | refine blk_alloc ?_ _)); refine blk_far ?_ NB1194_1198.out _; (with_reducible repeat (first | refine blk_drewN ?_ _ | refine blk_drew ?_ | refine blk_alloc ?_ _)); refine blk_far ?_ NB1194_1198.out _; (with_reducible repeat (first | refine blk_drewN ?_ _ | refine blk_drew ?_ | refine blk_alloc ?_ _)); refine blk_far ?_ NB1194_1198.out _; (with_reducible repeat (first | refine blk_drewN ?_ _ | refine blk_drew ?_ | refine blk_alloc ?_ _)); exact BK1194.out) hg (Kd.R_ne HO_5.out BK1194.out (by decide))); have n2_ := Aside0.mk (blk_grown (g := gb1196) (o := .cells #[.int .i64 ((rd_T66 ((rd_T62 l0_4 x15_1).f0) x23_2).f0), .int .i64 ((rd_T66 ((rd_T62 l0_4 x15_1).f0) x23_2).f1), .int .i64 ((rd_T66 ((rd_T62 l0_4 x15_1).f0) x23_2).f2), .int .i64 ((rd_T66 ((rd_T62 l0_4 x15_1).f0) x23_2).f3), .int .i64 ((rd_T66 ((rd_T62 l0_4 x15_1).f0) x23_2).f4), .int .i64 ((rd_T66 ((rd_T62 l0_4 x15_1).f0) x23_2).f5), .slice (some ad1197) ((rd_T66 ((rd_T62 l0_4 x15_1).f0) x23_2).f6).length c1195_6, .slice A1195_7 ((rd_T66 ((rd_T62 l0_4 x15_1).f0) x23_2).f7).length c1195_7, .slice A1195_8 ((rd_T66 ((rd_T62 l0_4 x15_1).f0) x23_2).f8).length c1195_8] 66 (0, 0)) (by (with_reducible repeat (first | refine blk_drewN ?_ _ | refine blk_drew ?_ | refine blk_alloc ?_ _)); refine blk_far ?_ NB1196_1198.out _; (with_reducible repeat (first | refine blk_drewN ?_ _ | refine blk_drew ?_ | refine blk_alloc ?_ _)); refine blk_far ?_ NB1196_1198.out _; (with_reducible repeat (first | refine blk_drewN ?_ _ | refine blk_drew ?_ | refine blk_alloc ?_ _)); refine blk_far ?_ NB1196_1198.out _; (with_reducible repeat (first | refine blk_drewN ?_ _ | refine blk_drew ?_ | refine blk_alloc ?_ _)); refine blk_far ?_ NB1196_1198.out _; (with_reducible repeat (first | refine blk_drewN ?_ _ | refine blk_drew ?_ | refine blk_alloc ?_ _)); exact BK1196.out) hg (Kd.R_ne HO_5.out BK1196.out (by decide))); have n3_ := Aside0.mk (blk_grown (g := gb1198) (o := .cells #[.int .i64 ((rd_T75 ((rd_T66 ((rd_T62 l0_4 x15_1).f0) x23_2).f6) x31_3).f0), .int .i64 ((rd_T75 ((rd_T66 ((rd_T62 l0_4 x15_1).f0) x23_2).f6) x31_3).f1), .int .i64 ((rd_T75 ((rd_T66 ((rd_T62 l0_4 x15_1).f0) x23_2).f6) x31_3).f2), .int .u64 ((rd_T75 ((rd_T66 ((rd_T62 l0_4 x15_1).f0) x23_2).f6) x31_3).f3)] 75 (0, 0)) (by (with_reducible repeat (first | refine blk_drewN ?_ _ | refine blk_drew ?_ | refine blk_alloc ?_ _)); refine blk_put (cs := #[.int .i64 ((rd_T75 ((rd_T66 ((rd_T62 l0_4 x15_1).f0) x23_2).f6) x31_3).f0), .int .i64 ((rd_T75 ((rd_T66 ((rd_T62 l0_4 x15_1).f0) x23_2).f6) x31_3).f1), .int .i64 ((rd_T75 ((rd_T66 ((rd_T62 l0_4 x15_1).f0) x23_2).f6) x31_3).f2), .int .u64 0]) ?_ 3 _ rfl; (with_reducible repeat (first | refine blk_drewN ?_ _ | refine blk_drew ?_ | refine blk_alloc ?_ _)); refine blk_put (cs := #[.int .i64 ((rd_T75 ((rd_T66 ((rd_T62 l0_4 x15_1).f0) x23_2).f6) x31_3).f0), .int .i64 ((rd_T75 ((rd_T66 ((rd_T62 l0_4 x15_1).f0) x23_2).f6) x31_3).f1), .int .i64 0, .int .u64 0]) ?_ 2 _ rfl; (with_reducible repeat (first | refine blk_drewN ?_ _ | refine blk_drew ?_ | refine blk_alloc ?_ _)); refine blk_put (cs := #[.int .i64 ((rd_T75 ((rd_T66 ((rd_T62 l0_4 x15_1).f0) x23_2).f6) x31_3).f0), .int .i64 0, .int .i64 0, .int .u64 0]) ?_ 1 _ rfl; (with_reducible repeat (first | refine blk_drewN ?_ _ | refine blk_drew ?_ | refine blk_alloc ?_ _)); refine blk_put (cs := #[.int .i64 0, .int .i64 0, .int .i64 0, .int .u64 0]) ?_ 0 _ rfl; (with_reducible repeat (first | refine blk_drewN ?_ _ | refine blk_drew ?_ | refine blk_alloc ?_ _)); exact BK1198.out) hg (Kd.R_ne HO_5.out BK1198.out (by decide))); have n4_ := Aside0.mk (hb); have n5_ := Aside0.mk (ho); clear BK1192; clear BK1194; clear BK1196; clear BK1198; clear HB; clear HO_5; have BK1192 := n0_; have BK1194 := n1_; have BK1196 := n2_; have BK1198 := n3_; have HB := n4_; have HO1201 := n5_; clear n0_ n1_ n2_ n3_ n4_ n5_; clear ho hb hg hat))
                                      go_roundg k3
                                      case measure => have := HK1.out; have := HK2.out; have := HK3.out; omega
                                      case rel => exact ⟨(y1199), (wrap64 (x23_2 + 1)), (by first | rfl | (simp; done) | (simp [*]; done)), H', ⟨by have := HK1.out; have := HK2.out; have := HK3.out; omega⟩, ⟨by (with_reducible repeat (first | apply Kd.R_alloc | apply Kd.R_drewN | apply Kd.R_drew)); exact HO1201.out⟩, ⟨by (with_reducible repeat (first | refine blk_drewN ?_ _ | refine blk_drew ?_ | refine blk_alloc ?_ _)); exact BK1192.out⟩, ⟨by (with_reducible repeat (first | refine blk_drewN ?_ _ | refine blk_drew ?_ | refine blk_alloc ?_ _)); exact BK1194.out⟩, ⟨by repeat (first | (with_reducible first | exact HB.out | apply below_alloc | apply pw_below_drewN | apply below_drew1 | refine below_set ?_ GE1192.out | refine below_set ?_ GE1194.out | refine below_set ?_ GE1196.out | refine below_set ?_ GE1198.out) | exact HB.out)⟩⟩
                                    · rw [if_neg c23] at H
                                      exact absurd H (by simp)
                                  · rw [if_neg c22] at H
                                    have c22b0 : (((rd_T75 ((rd_T66 ((rd_T62 l0_4 x15_1).f0) x23_2).f6) x31_3).f2) == a1) = false := beq_eq_false_iff_ne.mpr c22
                                    have c22b1 : (((rd_T75 ((rd_T66 ((rd_T62 l0_4 x15_1).f0) x23_2).f6) x31_3).f2) != a1) = true := bne_iff_ne.mpr c22
                                    have H' := Aside0.mk H
                                    clear H
                                    have p1197 : 0 ≤ (x31_3 : Int) := of_decide_eq_true (by first | (with_reducible assumption) | assumption)
                                    have q1197 : x31_3 < (((rd_T66 ((rd_T62 l0_4 x15_1).f0) x23_2).f6).length : Int) := of_decide_eq_true (by first | (with_reducible assumption) | assumption)
                                    obtain ⟨ad1197, e1197, hx1197_0, hx1197_1, hx1197_2, hx1197_3⟩ := at_T75 HR1195_6.out x31_3 p1197 q1197
                                    cases e1197
                                    replace hx1197_0 := (HB.out.cell (World.block_lt_of_cell? w _ hx1197_0)).trans hx1197_0
                                    replace hx1197_1 := (HB.out.cell (World.block_lt_of_cell? w _ hx1197_1)).trans hx1197_1
                                    replace hx1197_2 := (HB.out.cell (World.block_lt_of_cell? w _ hx1197_2)).trans hx1197_2
                                    replace hx1197_3 := (HB.out.cell (World.block_lt_of_cell? w _ hx1197_3)).trans hx1197_3
                                    replace p1197 := eq_true p1197
                                    replace q1197 := eq_true q1197
                                    go_wp2_with (first | ((with_reducible refine gate_dst (N := 11) rfl ?_); refine box_event ?hg (N := 11) ?hd (cs := #[.int .i64 0, .int .i64 0, .int .i64 0, .int .u64 0]) (t := 75) ?hr ?_; (case hd => rfl); (case hg => rfl); (case hr => first | (go_simp; done) | (go_simp; rfl)); intro gb1198 hg w30 hbox hb; have n0_ := Aside0.mk (Kd.R_below (by (with_reducible repeat (first | apply Kd.R_alloc | apply Kd.R_drewN | apply Kd.R_drew)); exact HO_5.out) hb); have n1_ := Aside0.mk (blk_below (g := gb1192) (o := .cells #[.string a0_0, .int .i64 a0_1, .slice A0_2 l0_2.length c0_2, .int .i64 a0_3, .slice (some ad1193) l0_4.length c0_4] 30 (0, 0)) (by (with_reducible repeat (first | refine blk_drewN ?_ _ | refine blk_drew ?_ | refine blk_alloc ?_ _)); exact BK1192.out) hb); have n2_ := Aside0.mk (blk_below (g := gb1194) (o := .cells #[.slice (some ad1195) ((rd_T62 l0_4 x15_1).f0).length c1193_0] 62 (0, 0)) (by (with_reducible repeat (first | refine blk_drewN ?_ _ | refine blk_drew ?_ | refine blk_alloc ?_ _)); exact BK1194.out) hb); have n3_ := Aside0.mk (blk_below (g := gb1196) (o := .cells #[.int .i64 ((rd_T66 ((rd_T62 l0_4 x15_1).f0) x23_2).f0), .int .i64 ((rd_T66 ((rd_T62 l0_4 x15_1).f0) x23_2).f1), .int .i64 ((rd_T66 ((rd_T62 l0_4 x15_1).f0) x23_2).f2), .int .i64 ((rd_T66 ((rd_T62 l0_4 x15_1).f0) x23_2).f3), .int .i64 ((rd_T66 ((rd_T62 l0_4 x15_1).f0) x23_2).f4), .int .i64 ((rd_T66 ((rd_T62 l0_4 x15_1).f0) x23_2).f5), .slice (some ad1197) ((rd_T66 ((rd_T62 l0_4 x15_1).f0) x23_2).f6).length c1195_6, .slice A1195_7 ((rd_T66 ((rd_T62 l0_4 x15_1).f0) x23_2).f7).length c1195_7, .slice A1195_8 ((rd_T66 ((rd_T62 l0_4 x15_1).f0) x23_2).f8).length c1195_8] 66 (0, 0)) (by (with_reducible repeat (first | refine blk_drewN ?_ _ | refine blk_drew ?_ | refine blk_alloc ?_ _)); exact BK1196.out) hb); have n4_ := Aside0.mk (below_step (by repeat (first | (with_reducible first | exact HB.out | apply below_alloc | apply pw_below_drewN | apply below_drew1 | refine below_set ?_ GE1192.out | refine below_set ?_ GE1194.out | refine below_set ?_ GE1196.out) | exact HB.out)) hb); have n5_ := Aside0.mk (hbox); have n6_ := Aside0.mk ((by rw [hg]; exact (below_size (by repeat (first | (with_reducible first | exact HB.out | apply below_alloc | apply pw_below_drewN | apply below_drew1 | refine below_set ?_ GE1192.out | refine below_set ?_ GE1194.out | refine below_set ?_ GE1196.out) | exact HB.out))) : w.heap.size ≤ gb1198)); have n7_ := Aside0.mk ((by rw [hg]; exact (below_size (by repeat (first | (with_reducible first | exact HB.out | apply below_alloc | apply pw_below_drewN | apply below_drew1 | refine below_set ?_ GE1192.out | refine below_set ?_ GE1194.out | refine below_set ?_ GE1196.out) | exact HB.out))) : w.heap.size ≤ gb1198)); have n8_ := Aside0.mk ((by rw [hg]; exact Nat.ne_of_lt (blk_lt (g := gb1192) (o := .cells #[.string a0_0, .int .i64 a0_1, .slice A0_2 l0_2.length c0_2, .int .i64 a0_3, .slice (some ad1193) l0_4.length c0_4] 30 (0, 0)) (by (with_reducible repeat (first | refine blk_drewN ?_ _ | refine blk_drew ?_ | refine blk_alloc ?_ _)); exact BK1192.out)) : gb1192 ≠ gb1198)); have n9_ := Aside0.mk ((by rw [hg]; exact Nat.ne_of_gt (blk_lt (g := gb1192) (o := .cells #[.string a0_0, .int .i64 a0_1, .slice A0_2 l0_2.length c0_2, .int .i64 a0_3, .slice (some ad1193) l0_4.length c0_4] 30 (0, 0)) (by (with_reducible repeat (first | refine blk_drewN ?_ _ | refine blk_drew ?_ | refine blk_alloc ?_ _)); exact BK1192.out)) : gb1198 ≠ gb1192)); have n10_ := Aside0.mk ((by rw [hg]; exact Nat.ne_of_lt (blk_lt (g := gb1194) (o := .cells #[.slice (some ad1195) ((rd_T62 l0_4 x15_1).f0).length c1193_0] 62 (0, 0)) (by (with_reducible repeat (first | refine blk_drewN ?_ _ | refine blk_drew ?_ | refine blk_alloc ?_ _)); exact BK1194.out)) : gb1194 ≠ gb1198)); have n11_ := Aside0.mk ((by rw [hg]; exact Nat.ne_of_gt (blk_lt (g := gb1194) (o := .cells #[.slice (some ad1195) ((rd_T62 l0_4 x15_1).f0).length c1193_0] 62 (0, 0)) (by (with_reducible repeat (first | refine blk_drewN ?_ _ | refine blk_drew ?_ | refine blk_alloc ?_ _)); exact BK1194.out)) : gb1198 ≠ gb1194)); have n12_ := Aside0.mk ((by rw [hg]; exact Nat.ne_of_lt (blk_lt (g := gb1196) (o := .cells #[.int .i64 ((rd_T66 ((rd_T62 l0_4 x15_1).f0) x23_2).f0), .int .i64 ((rd_T66 ((rd_T62 l0_4 x15_1).f0) x23_2).f1), .int .i64 ((rd_T66 ((rd_T62 l0_4 x15_1).f0) x23_2).f2), .int .i64 ((rd_T66 ((rd_T62 l0_4 x15_1).f0) x23_2).f3), .int .i64 ((rd_T66 ((rd_T62 l0_4 x15_1).f0) x23_2).f4), .int .i64 ((rd_T66 ((rd_T62 l0_4 x15_1).f0) x23_2).f5), .slice (some ad1197) ((rd_T66 ((rd_T62 l0_4 x15_1).f0) x23_2).f6).length c1195_6, .slice A1195_7 ((rd_T66 ((rd_T62 l0_4 x15_1).f0) x23_2).f7).length c1195_7, .slice A1195_8 ((rd_T66 ((rd_T62 l0_4 x15_1).f0) x23_2).f8).length c1195_8] 66 (0, 0)) (by (with_reducible repeat (first | refine blk_drewN ?_ _ | refine blk_drew ?_ | refine blk_alloc ?_ _)); exact BK1196.out)) : gb1196 ≠ gb1198)); have n13_ := Aside0.mk ((by rw [hg]; exact Nat.ne_of_gt (blk_lt (g := gb1196) (o := .cells #[.int .i64 ((rd_T66 ((rd_T62 l0_4 x15_1).f0) x23_2).f0), .int .i64 ((rd_T66 ((rd_T62 l0_4 x15_1).f0) x23_2).f1), .int .i64 ((rd_T66 ((rd_T62 l0_4 x15_1).f0) x23_2).f2), .int .i64 ((rd_T66 ((rd_T62 l0_4 x15_1).f0) x23_2).f3), .int .i64 ((rd_T66 ((rd_T62 l0_4 x15_1).f0) x23_2).f4), .int .i64 ((rd_T66 ((rd_T62 l0_4 x15_1).f0) x23_2).f5), .slice (some ad1197) ((rd_T66 ((rd_T62 l0_4 x15_1).f0) x23_2).f6).length c1195_6, .slice A1195_7 ((rd_T66 ((rd_T62 l0_4 x15_1).f0) x23_2).f7).length c1195_7, .slice A1195_8 ((rd_T66 ((rd_T62 l0_4 x15_1).f0) x23_2).f8).length c1195_8] 66 (0, 0)) (by (with_reducible repeat (first | refine blk_drewN ?_ _ | refine blk_drew ?_ | refine blk_alloc ?_ _)); exact BK1196.out)) : gb1198 ≠ gb1196)); clear HO_5; clear BK1192; clear BK1194; clear BK1196; clear HB; have HO_5 := n0_; have BK1192 := n1_; have BK1194 := n2_; have BK1196 := n3_; have HB := n4_; have BK1198 := n5_; have GW1198 := n6_; have GE1198 := n7_; have NB1192_1198 := n8_; have NB1198_1192 := n9_; have NB1194_1198 := n10_; have NB1198_1194 := n11_; have NB1196_1198 := n12_; have NB1198_1196 := n13_; clear n0_ n1_ n2_ n3_ n4_ n5_ n6_ n7_ n8_ n9_ n10_ n11_ n12_ n13_; clear hb hbox hg; have hnb31 := NB1198_1192.out; have hnc31 := NB1192_1198.out; have hnb32 := NB1198_1194.out; have hnc32 := NB1194_1198.out; have hnb33 := NB1198_1196.out; have hnc33 := NB1196_1198.out; have hcz34_0 : w30.cell? ⟨gb1198, 0, none⟩ = some (.int .i64 0) := (blk_cell BK1198.out 0).trans rfl; have hcz34_1 : w30.cell? ⟨gb1198, 1, none⟩ = some (.int .i64 0) := (blk_cell BK1198.out 1).trans rfl; have hcz34_2 : w30.cell? ⟨gb1198, 2, none⟩ = some (.int .i64 0) := (blk_cell BK1198.out 2).trans rfl; have hcz34_3 : w30.cell? ⟨gb1198, 3, none⟩ = some (.int .u64 0) := (blk_cell BK1198.out 3).trans rfl; have hfz34_0 := blk_frozen BK1198.out 0; have hfz34_1 := blk_frozen BK1198.out 1; have hfz34_2 := blk_frozen BK1198.out 2; have hfz34_3 := blk_frozen BK1198.out 3))
                                    go_roundg k3
                                    case measure => have := HK1.out; have := HK2.out; have := HK3.out; omega
                                    case rel => exact ⟨(x5_3), (wrap64 (x31_3 + 1)), (by first | rfl | (simp; done) | (simp [*]; done)), H', ⟨by have := HK1.out; have := HK2.out; have := HK3.out; omega⟩, ⟨by (with_reducible repeat (first | apply Kd.R_alloc | apply Kd.R_drewN | apply Kd.R_drew)); exact Kd.R_mono (Kd.R_far (p := ⟨gb1198, 3, none⟩) (Kd.R_far (p := ⟨gb1198, 2, none⟩) (Kd.R_far (p := ⟨gb1198, 1, none⟩) (Kd.R_far (p := ⟨gb1198, 0, none⟩) (Kd.R_types HO_5.out BK1198.out (by decide)) (fun _ hk => hk.2) (.int .i64 ((rd_T75 ((rd_T66 ((rd_T62 l0_4 x15_1).f0) x23_2).f6) x31_3).f0))) (fun _ hk => hk.2) (.int .i64 ((rd_T75 ((rd_T66 ((rd_T62 l0_4 x15_1).f0) x23_2).f6) x31_3).f1))) (fun _ hk => hk.2) (.int .i64 ((rd_T75 ((rd_T66 ((rd_T62 l0_4 x15_1).f0) x23_2).f6) x31_3).f2))) (fun _ hk => hk.2) (.int .u64 ((rd_T75 ((rd_T66 ((rd_T62 l0_4 x15_1).f0) x23_2).f6) x31_3).f3))) (fun _ hk => trivial)⟩, ⟨by (with_reducible repeat (first | refine blk_drewN ?_ _ | refine blk_drew ?_ | refine blk_alloc ?_ _)); refine blk_far ?_ NB1192_1198.out _; (with_reducible repeat (first | refine blk_drewN ?_ _ | refine blk_drew ?_ | refine blk_alloc ?_ _)); refine blk_far ?_ NB1192_1198.out _; (with_reducible repeat (first | refine blk_drewN ?_ _ | refine blk_drew ?_ | refine blk_alloc ?_ _)); refine blk_far ?_ NB1192_1198.out _; (with_reducible repeat (first | refine blk_drewN ?_ _ | refine blk_drew ?_ | refine blk_alloc ?_ _)); refine blk_far ?_ NB1192_1198.out _; (with_reducible repeat (first | refine blk_drewN ?_ _ | refine blk_drew ?_ | refine blk_alloc ?_ _)); exact BK1192.out⟩, ⟨by (with_reducible repeat (first | refine blk_drewN ?_ _ | refine blk_drew ?_ | refine blk_alloc ?_ _)); refine blk_far ?_ NB1194_1198.out _; (with_reducible repeat (first | refine blk_drewN ?_ _ | refine blk_drew ?_ | refine blk_alloc ?_ _)); refine blk_far ?_ NB1194_1198.out _; (with_reducible repeat (first | refine blk_drewN ?_ _ | refine blk_drew ?_ | refine blk_alloc ?_ _)); refine blk_far ?_ NB1194_1198.out _; (with_reducible repeat (first | refine blk_drewN ?_ _ | refine blk_drew ?_ | refine blk_alloc ?_ _)); refine blk_far ?_ NB1194_1198.out _; (with_reducible repeat (first | refine blk_drewN ?_ _ | refine blk_drew ?_ | refine blk_alloc ?_ _)); exact BK1194.out⟩, ⟨by (with_reducible repeat (first | refine blk_drewN ?_ _ | refine blk_drew ?_ | refine blk_alloc ?_ _)); refine blk_far ?_ NB1196_1198.out _; (with_reducible repeat (first | refine blk_drewN ?_ _ | refine blk_drew ?_ | refine blk_alloc ?_ _)); refine blk_far ?_ NB1196_1198.out _; (with_reducible repeat (first | refine blk_drewN ?_ _ | refine blk_drew ?_ | refine blk_alloc ?_ _)); refine blk_far ?_ NB1196_1198.out _; (with_reducible repeat (first | refine blk_drewN ?_ _ | refine blk_drew ?_ | refine blk_alloc ?_ _)); refine blk_far ?_ NB1196_1198.out _; (with_reducible repeat (first | refine blk_drewN ?_ _ | refine blk_drew ?_ | refine blk_alloc ?_ _)); exact BK1196.out⟩, ⟨by repeat (first | (with_reducible first | exact HB.out | apply below_alloc | apply pw_below_drewN | apply below_drew1 | refine below_set ?_ GE1192.out | refine below_set ?_ GE1194.out | refine below_set ?_ GE1196.out | refine below_set ?_ GE1198.out) | exact HB.out)⟩⟩
                                · rw [if_neg c21] at H
                                  have c21b0 : (((rd_T75 ((rd_T66 ((rd_T62 l0_4 x15_1).f0) x23_2).f6) x31_3).f0) == 4) = false := beq_eq_false_iff_ne.mpr c21
                                  have c21b1 : (((rd_T75 ((rd_T66 ((rd_T62 l0_4 x15_1).f0) x23_2).f6) x31_3).f0) != 4) = true := bne_iff_ne.mpr c21
                                  have H' := Aside0.mk H
                                  clear H
                                  have p1197 : 0 ≤ (x31_3 : Int) := of_decide_eq_true (by first | (with_reducible assumption) | assumption)
                                  have q1197 : x31_3 < (((rd_T66 ((rd_T62 l0_4 x15_1).f0) x23_2).f6).length : Int) := of_decide_eq_true (by first | (with_reducible assumption) | assumption)
                                  obtain ⟨ad1197, e1197, hx1197_0, hx1197_1, hx1197_2, hx1197_3⟩ := at_T75 HR1195_6.out x31_3 p1197 q1197
                                  cases e1197
                                  replace hx1197_0 := (HB.out.cell (World.block_lt_of_cell? w _ hx1197_0)).trans hx1197_0
                                  replace hx1197_1 := (HB.out.cell (World.block_lt_of_cell? w _ hx1197_1)).trans hx1197_1
                                  replace hx1197_2 := (HB.out.cell (World.block_lt_of_cell? w _ hx1197_2)).trans hx1197_2
                                  replace hx1197_3 := (HB.out.cell (World.block_lt_of_cell? w _ hx1197_3)).trans hx1197_3
                                  replace p1197 := eq_true p1197
                                  replace q1197 := eq_true q1197
                                  go_wp2_with (first | ((with_reducible refine gate_dst (N := 11) rfl ?_); refine box_event ?hg (N := 11) ?hd (cs := #[.int .i64 0, .int .i64 0, .int .i64 0, .int .u64 0]) (t := 75) ?hr ?_; (case hd => rfl); (case hg => rfl); (case hr => first | (go_simp; done) | (go_simp; rfl)); intro gb1198 hg w35 hbox hb; have n0_ := Aside0.mk (Kd.R_below (by (with_reducible repeat (first | apply Kd.R_alloc | apply Kd.R_drewN | apply Kd.R_drew)); exact HO_5.out) hb); have n1_ := Aside0.mk (blk_below (g := gb1192) (o := .cells #[.string a0_0, .int .i64 a0_1, .slice A0_2 l0_2.length c0_2, .int .i64 a0_3, .slice (some ad1193) l0_4.length c0_4] 30 (0, 0)) (by (with_reducible repeat (first | refine blk_drewN ?_ _ | refine blk_drew ?_ | refine blk_alloc ?_ _)); exact BK1192.out) hb); have n2_ := Aside0.mk (blk_below (g := gb1194) (o := .cells #[.slice (some ad1195) ((rd_T62 l0_4 x15_1).f0).length c1193_0] 62 (0, 0)) (by (with_reducible repeat (first | refine blk_drewN ?_ _ | refine blk_drew ?_ | refine blk_alloc ?_ _)); exact BK1194.out) hb); have n3_ := Aside0.mk (blk_below (g := gb1196) (o := .cells #[.int .i64 ((rd_T66 ((rd_T62 l0_4 x15_1).f0) x23_2).f0), .int .i64 ((rd_T66 ((rd_T62 l0_4 x15_1).f0) x23_2).f1), .int .i64 ((rd_T66 ((rd_T62 l0_4 x15_1).f0) x23_2).f2), .int .i64 ((rd_T66 ((rd_T62 l0_4 x15_1).f0) x23_2).f3), .int .i64 ((rd_T66 ((rd_T62 l0_4 x15_1).f0) x23_2).f4), .int .i64 ((rd_T66 ((rd_T62 l0_4 x15_1).f0) x23_2).f5), .slice (some ad1197) ((rd_T66 ((rd_T62 l0_4 x15_1).f0) x23_2).f6).length c1195_6, .slice A1195_7 ((rd_T66 ((rd_T62 l0_4 x15_1).f0) x23_2).f7).length c1195_7, .slice A1195_8 ((rd_T66 ((rd_T62 l0_4 x15_1).f0) x23_2).f8).length c1195_8] 66 (0, 0)) (by (with_reducible repeat (first | refine blk_drewN ?_ _ | refine blk_drew ?_ | refine blk_alloc ?_ _)); exact BK1196.out) hb); have n4_ := Aside0.mk (below_step (by repeat (first | (with_reducible first | exact HB.out | apply below_alloc | apply pw_below_drewN | apply below_drew1 | refine below_set ?_ GE1192.out | refine below_set ?_ GE1194.out | refine below_set ?_ GE1196.out) | exact HB.out)) hb); have n5_ := Aside0.mk (hbox); have n6_ := Aside0.mk ((by rw [hg]; exact (below_size (by repeat (first | (with_reducible first | exact HB.out | apply below_alloc | apply pw_below_drewN | apply below_drew1 | refine below_set ?_ GE1192.out | refine below_set ?_ GE1194.out | refine below_set ?_ GE1196.out) | exact HB.out))) : w.heap.size ≤ gb1198)); have n7_ := Aside0.mk ((by rw [hg]; exact (below_size (by repeat (first | (with_reducible first | exact HB.out | apply below_alloc | apply pw_below_drewN | apply below_drew1 | refine below_set ?_ GE1192.out | refine below_set ?_ GE1194.out | refine below_set ?_ GE1196.out) | exact HB.out))) : w.heap.size ≤ gb1198)); have n8_ := Aside0.mk ((by rw [hg]; exact Nat.ne_of_lt (blk_lt (g := gb1192) (o := .cells #[.string a0_0, .int .i64 a0_1, .slice A0_2 l0_2.length c0_2, .int .i64 a0_3, .slice (some ad1193) l0_4.length c0_4] 30 (0, 0)) (by (with_reducible repeat (first | refine blk_drewN ?_ _ | refine blk_drew ?_ | refine blk_alloc ?_ _)); exact BK1192.out)) : gb1192 ≠ gb1198)); have n9_ := Aside0.mk ((by rw [hg]; exact Nat.ne_of_gt (blk_lt (g := gb1192) (o := .cells #[.string a0_0, .int .i64 a0_1, .slice A0_2 l0_2.length c0_2, .int .i64 a0_3, .slice (some ad1193) l0_4.length c0_4] 30 (0, 0)) (by (with_reducible repeat (first | refine blk_drewN ?_ _ | refine blk_drew ?_ | refine blk_alloc ?_ _)); exact BK1192.out)) : gb1198 ≠ gb1192)); have n10_ := Aside0.mk ((by rw [hg]; exact Nat.ne_of_lt (blk_lt (g := gb1194) (o := .cells #[.slice (some ad1195) ((rd_T62 l0_4 x15_1).f0).length c1193_0] 62 (0, 0)) (by (with_reducible repeat (first | refine blk_drewN ?_ _ | refine blk_drew ?_ | refine blk_alloc ?_ _)); exact BK1194.out)) : gb1194 ≠ gb1198)); have n11_ := Aside0.mk ((by rw [hg]; exact Nat.ne_of_gt (blk_lt (g := gb1194) (o := .cells #[.slice (some ad1195) ((rd_T62 l0_4 x15_1).f0).length c1193_0] 62 (0, 0)) (by (with_reducible repeat (first | refine blk_drewN ?_ _ | refine blk_drew ?_ | refine blk_alloc ?_ _)); exact BK1194.out)) : gb1198 ≠ gb1194)); have n12_ := Aside0.mk ((by rw [hg]; exact Nat.ne_of_lt (blk_lt (g := gb1196) (o := .cells #[.int .i64 ((rd_T66 ((rd_T62 l0_4 x15_1).f0) x23_2).f0), .int .i64 ((rd_T66 ((rd_T62 l0_4 x15_1).f0) x23_2).f1), .int .i64 ((rd_T66 ((rd_T62 l0_4 x15_1).f0) x23_2).f2), .int .i64 ((rd_T66 ((rd_T62 l0_4 x15_1).f0) x23_2).f3), .int .i64 ((rd_T66 ((rd_T62 l0_4 x15_1).f0) x23_2).f4), .int .i64 ((rd_T66 ((rd_T62 l0_4 x15_1).f0) x23_2).f5), .slice (some ad1197) ((rd_T66 ((rd_T62 l0_4 x15_1).f0) x23_2).f6).length c1195_6, .slice A1195_7 ((rd_T66 ((rd_T62 l0_4 x15_1).f0) x23_2).f7).length c1195_7, .slice A1195_8 ((rd_T66 ((rd_T62 l0_4 x15_1).f0) x23_2).f8).length c1195_8] 66 (0, 0)) (by (with_reducible repeat (first | refine blk_drewN ?_ _ | refine blk_drew ?_ | refine blk_alloc ?_ _)); exact BK1196.out)) : gb1196 ≠ gb1198)); have n13_ := Aside0.mk ((by rw [hg]; exact Nat.ne_of_gt (blk_lt (g := gb1196) (o := .cells #[.int .i64 ((rd_T66 ((rd_T62 l0_4 x15_1).f0) x23_2).f0), .int .i64 ((rd_T66 ((rd_T62 l0_4 x15_1).f0) x23_2).f1), .int .i64 ((rd_T66 ((rd_T62 l0_4 x15_1).f0) x23_2).f2), .int .i64 ((rd_T66 ((rd_T62 l0_4 x15_1).f0) x23_2).f3), .int .i64 ((rd_T66 ((rd_T62 l0_4 x15_1).f0) x23_2).f4), .int .i64 ((rd_T66 ((rd_T62 l0_4 x15_1).f0) x23_2).f5), .slice (some ad1197) ((rd_T66 ((rd_T62 l0_4 x15_1).f0) x23_2).f6).length c1195_6, .slice A1195_7 ((rd_T66 ((rd_T62 l0_4 x15_1).f0) x23_2).f7).length c1195_7, .slice A1195_8 ((rd_T66 ((rd_T62 l0_4 x15_1).f0) x23_2).f8).length c1195_8] 66 (0, 0)) (by (with_reducible repeat (first | refine blk_drewN ?_ _ | refine blk_drew ?_ | refine blk_alloc ?_ _)); exact BK1196.out)) : gb1198 ≠ gb1196)); clear HO_5; clear BK1192; clear BK1194; clear BK1196; clear HB; have HO_5 := n0_; have BK1192 := n1_; have BK1194 := n2_; have BK1196 := n3_; have HB := n4_; have BK1198 := n5_; have GW1198 := n6_; have GE1198 := n7_; have NB1192_1198 := n8_; have NB1198_1192 := n9_; have NB1194_1198 := n10_; have NB1198_1194 := n11_; have NB1196_1198 := n12_; have NB1198_1196 := n13_; clear n0_ n1_ n2_ n3_ n4_ n5_ n6_ n7_ n8_ n9_ n10_ n11_ n12_ n13_; clear hb hbox hg; have hnb36 := NB1198_1192.out; have hnc36 := NB1192_1198.out; have hnb37 := NB1198_1194.out; have hnc37 := NB1194_1198.out; have hnb38 := NB1198_1196.out; have hnc38 := NB1196_1198.out; have hcz39_0 : w35.cell? ⟨gb1198, 0, none⟩ = some (.int .i64 0) := (blk_cell BK1198.out 0).trans rfl; have hcz39_1 : w35.cell? ⟨gb1198, 1, none⟩ = some (.int .i64 0) := (blk_cell BK1198.out 1).trans rfl; have hcz39_2 : w35.cell? ⟨gb1198, 2, none⟩ = some (.int .i64 0) := (blk_cell BK1198.out 2).trans rfl; have hcz39_3 : w35.cell? ⟨gb1198, 3, none⟩ = some (.int .u64 0) := (blk_cell BK1198.out 3).trans rfl; have hfz39_0 := blk_frozen BK1198.out 0; have hfz39_1 := blk_frozen BK1198.out 1; have hfz39_2 := blk_frozen BK1198.out 2; have hfz39_3 := blk_frozen BK1198.out 3))
                                  go_roundg k3
                                  case measure => have := HK1.out; have := HK2.out; have := HK3.out; omega
                                  case rel => exact ⟨(x5_3), (wrap64 (x31_3 + 1)), (by first | rfl | (simp; done) | (simp [*]; done)), H', ⟨by have := HK1.out; have := HK2.out; have := HK3.out; omega⟩, ⟨by (with_reducible repeat (first | apply Kd.R_alloc | apply Kd.R_drewN | apply Kd.R_drew)); exact Kd.R_mono (Kd.R_far (p := ⟨gb1198, 3, none⟩) (Kd.R_far (p := ⟨gb1198, 2, none⟩) (Kd.R_far (p := ⟨gb1198, 1, none⟩) (Kd.R_far (p := ⟨gb1198, 0, none⟩) (Kd.R_types HO_5.out BK1198.out (by decide)) (fun _ hk => hk.2) (.int .i64 ((rd_T75 ((rd_T66 ((rd_T62 l0_4 x15_1).f0) x23_2).f6) x31_3).f0))) (fun _ hk => hk.2) (.int .i64 ((rd_T75 ((rd_T66 ((rd_T62 l0_4 x15_1).f0) x23_2).f6) x31_3).f1))) (fun _ hk => hk.2) (.int .i64 ((rd_T75 ((rd_T66 ((rd_T62 l0_4 x15_1).f0) x23_2).f6) x31_3).f2))) (fun _ hk => hk.2) (.int .u64 ((rd_T75 ((rd_T66 ((rd_T62 l0_4 x15_1).f0) x23_2).f6) x31_3).f3))) (fun _ hk => trivial)⟩, ⟨by (with_reducible repeat (first | refine blk_drewN ?_ _ | refine blk_drew ?_ | refine blk_alloc ?_ _)); refine blk_far ?_ NB1192_1198.out _; (with_reducible repeat (first | refine blk_drewN ?_ _ | refine blk_drew ?_ | refine blk_alloc ?_ _)); refine blk_far ?_ NB1192_1198.out _; (with_reducible repeat (first | refine blk_drewN ?_ _ | refine blk_drew ?_ | refine blk_alloc ?_ _)); refine blk_far ?_ NB1192_1198.out _; (with_reducible repeat (first | refine blk_drewN ?_ _ | refine blk_drew ?_ | refine blk_alloc ?_ _)); refine blk_far ?_ NB1192_1198.out _; (with_reducible repeat (first | refine blk_drewN ?_ _ | refine blk_drew ?_ | refine blk_alloc ?_ _)); exact BK1192.out⟩, ⟨by (with_reducible repeat (first | refine blk_drewN ?_ _ | refine blk_drew ?_ | refine blk_alloc ?_ _)); refine blk_far ?_ NB1194_1198.out _; (with_reducible repeat (first | refine blk_drewN ?_ _ | refine blk_drew ?_ | refine blk_alloc ?_ _)); refine blk_far ?_ NB1194_1198.out _; (with_reducible repeat (first | refine blk_drewN ?_ _ | refine blk_drew ?_ | refine blk_alloc ?_ _)); refine blk_far ?_ NB1194_1198.out _; (with_reducible repeat (first | refine blk_drewN ?_ _ | refine blk_drew ?_ | refine blk_alloc ?_ _)); refine blk_far ?_ NB1194_1198.out _; (with_reducible repeat (first | refine blk_drewN ?_ _ | refine blk_drew ?_ | refine blk_alloc ?_ _)); exact BK1194.out⟩, ⟨by (with_reducible repeat (first | refine blk_drewN ?_ _ | refine blk_drew ?_ | refine blk_alloc ?_ _)); refine blk_far ?_ NB1196_1198.out _; (with_reducible repeat (first | refine blk_drewN ?_ _ | refine blk_drew ?_ | refine blk_alloc ?_ _)); refine blk_far ?_ NB1196_1198.out _; (with_reducible repeat (first | refine blk_drewN ?_ _ | refine blk_drew ?_ | refine blk_alloc ?_ _)); refine blk_far ?_ NB1196_1198.out _; (with_reducible repeat (first | refine blk_drewN ?_ _ | refine blk_drew ?_ | refine blk_alloc ?_ _)); refine blk_far ?_ NB1196_1198.out _; (with_reducible repeat (first | refine blk_drewN ?_ _ | refine blk_drew ?_ | refine blk_alloc ?_ _)); exact BK1196.out⟩, ⟨by repeat (first | (with_reducible first | exact HB.out | apply below_alloc | apply pw_below_drewN | apply below_drew1 | refine below_set ?_ GE1192.out | refine below_set ?_ GE1194.out | refine below_set ?_ GE1196.out | refine below_set ?_ GE1198.out) | exact HB.out)⟩⟩
                              · rw [if_neg c20] at H
                                exact absurd H (by simp)
                            · rw [if_neg c19] at H
                              exact absurd H (by simp)
                          · rw [if_neg c18] at H
                            have c18b0 : decide (x31_3 < (((rd_T66 ((rd_T62 l0_4 x15_1).f0) x23_2).f6).length : Int)) = false := decide_eq_false c18
                            clear c18
                            have H' := Aside0.mk H
                            clear H
                            go_wp2
                            go_roundg k3
                            case measure => have := HK1.out; have := HK2.out; have := HK3.out; omega
                            case rel => exact ⟨(x5_3), (wrap64 (x23_2 + 1)), (by first | rfl | (simp; done) | (simp [*]; done)), H', ⟨by have := HK1.out; have := HK2.out; have := HK3.out; omega⟩, ⟨by (with_reducible repeat (first | apply Kd.R_alloc | apply Kd.R_drewN | apply Kd.R_drew)); exact HO_5.out⟩, ⟨by (with_reducible repeat (first | refine blk_drewN ?_ _ | refine blk_drew ?_ | refine blk_alloc ?_ _)); exact BK1192.out⟩, ⟨by (with_reducible repeat (first | refine blk_drewN ?_ _ | refine blk_drew ?_ | refine blk_alloc ?_ _)); exact BK1194.out⟩, ⟨by repeat (first | (with_reducible first | exact HB.out | apply below_alloc | apply pw_below_drewN | apply below_drew1 | refine below_set ?_ GE1192.out | refine below_set ?_ GE1194.out | refine below_set ?_ GE1196.out) | exact HB.out)⟩⟩
                    · rw [if_neg c13] at H
                      exact absurd H (by simp)
                  · rw [if_neg c12] at H
                    exact absurd H (by simp)
                · rw [if_neg c11] at H
                  have c11b0 : decide (x23_2 < (((rd_T62 l0_4 x15_1).f0).length : Int)) = false := decide_eq_false c11
                  clear c11
                  have H' := Aside0.mk H
                  clear H
                  go_wp2
                  go_roundg k2
                  case measure => have := HK1.out; have := HK2.out; omega
                  case rel => exact ⟨(x5_2), (wrap64 (x15_1 + 1)), (by first | rfl | (simp; done) | (simp [*]; done)), H', ⟨by have := HK1.out; have := HK2.out; omega⟩, ⟨by (with_reducible repeat (first | apply Kd.R_alloc | apply Kd.R_drewN | apply Kd.R_drew)); exact HO_5.out⟩, ⟨by (with_reducible repeat (first | refine blk_drewN ?_ _ | refine blk_drew ?_ | refine blk_alloc ?_ _)); exact BK1192.out⟩, ⟨by repeat (first | (with_reducible first | exact HB.out | apply below_alloc | apply pw_below_drewN | apply below_drew1 | refine below_set ?_ GE1192.out | refine below_set ?_ GE1194.out) | exact HB.out)⟩⟩
          · rw [if_neg c7] at H
            exact absurd H (by simp)
        · rw [if_neg c6] at H
          exact absurd H (by simp)
      · rw [if_neg c5] at H
        have c5b0 : decide (x15_1 < (l0_4.length : Int)) = false := decide_eq_false c5
        clear c5
        obtain rfl := Option.some.inj H
        go_wp2
        go_ret
        exact ⟨_, by first | rfl | (simp [errW_none, errW_some] <;> rfl) | (simp [*, errW_none, errW_some] <;> rfl), by (with_reducible repeat (first | apply Kd.R_alloc | apply Kd.R_drewN | apply Kd.R_drew)); exact HO_5.out, by repeat (first | (with_reducible first | exact HB.out | apply below_alloc | apply pw_below_drewN | apply below_drew1 | refine below_set ?_ GE1192.out) | exact HB.out)⟩

end Go.Proofs.Ytoedcnhgobbnfaa.All

namespace Go.Proofs.Ytoedcnhgobbnfaa.All
open Go.RowKit Go.Proofs.YtoedcnhgobbnfaaW.PrintWords Go.Proofs.YtoedcnhgobbnfaaW.PrintLast Go.Proofs.YtoedcnhgobbnfaaW.PrintMore
attribute [local go_sem] max2_int min2_int max_two min_two max_three min_three max_four min_four   -- for this text's walks alone
set_option linter.unusedVariables false
set_option linter.unusedSimpArgs false

/-! ### laws_eqPlace: function 54 -/
def laws_eqPlace.f (a0_0 : Int) (a0_1 : Int) (a1_0 : Int) (a1_1 : Int) : Option (Bool) := if a0_0 = a1_0 then (if a0_1 = a1_1 then (some true) else (some false)) else (some false)
set_option maxHeartbeats 8000000 in
set_option maxRecDepth 100000 in
theorem laws_eqPlace.calls (a0_0 : Int) (a0_1 : Int) (a1_0 : Int) (a1_1 : Int) (r : Bool) (w : World) (h : laws_eqPlace.f a0_0 a0_1 a1_0 a1_1 = some r) :
    Calls Try.prog 54 #[.agg #[.int .i64 a0_0, .int .i64 a0_1], .agg #[.int .i64 a1_0, .int .i64 a1_1]] w fun e w' => e = .returned (.bool r) ∧ Below w.heap.size w w' := by
  have hu72 := Try.underlying72
  have HB := Aside0.mk (Below.refl w.heap.size w)
  have H : (if a0_0 = a1_0 then (if a0_1 = a1_1 then (some true) else (some false)) else (some false)) = some r := h
  clear h
  by_cases c3 : a0_0 = a1_0
  · rw [if_pos c3] at H
    have c3b0 : (a0_0 == a1_0) = true := beq_iff_eq.mpr c3
    have c3b1 : (a0_0 != a1_0) = false := bne_eq_false_iff_eq.mpr c3
    clear c3
    by_cases c4 : a0_1 = a1_1
    · rw [if_pos c4] at H
      have c4b0 : (a0_1 == a1_1) = true := beq_iff_eq.mpr c4
      have c4b1 : (a0_1 != a1_1) = false := bne_eq_false_iff_eq.mpr c4
      clear c4
      obtain rfl := Option.some.inj H
      go_enter Try.func54, Try.ntmps54
      go_wp2_with (first | ((with_reducible refine gate_dst (N := 2) rfl ?_); refine box_event ?hg (N := 2) ?hd (cs := #[.int .i64 a0_0, .int .i64 a0_1]) (t := 72) ?hr ?_; (case hd => rfl); (case hg => rfl); (case hr => first | (go_simp; done) | (go_simp; rfl)); intro gb1202 hg w5 hbox hb; have n0_ := Aside0.mk (below_step (by repeat (first | (with_reducible first | exact HB.out | apply below_alloc | apply pw_below_drewN | apply below_drew1) | exact HB.out)) hb); have n1_ := Aside0.mk (hbox); have n2_ := Aside0.mk ((by rw [hg]; exact (below_size (by repeat (first | (with_reducible first | exact HB.out | apply below_alloc | apply pw_below_drewN | apply below_drew1) | exact HB.out))) : w.heap.size ≤ gb1202)); have n3_ := Aside0.mk ((by rw [hg]; exact (below_size (by repeat (first | (with_reducible first | exact HB.out | apply below_alloc | apply pw_below_drewN | apply below_drew1) | exact HB.out))) : w.heap.size ≤ gb1202)); clear HB; have HB := n0_; have BK1202 := n1_; have GW1202 := n2_; have GE1202 := n3_; clear n0_ n1_ n2_ n3_; clear hb hbox hg) | ((with_reducible refine gate_dst (N := 3) rfl ?_); refine box_event ?hg (N := 3) ?hd (cs := #[.int .i64 a1_0, .int .i64 a1_1]) (t := 72) ?hr ?_; (case hd => rfl); (case hg => rfl); (case hr => first | (go_simp; done) | (go_simp; rfl)); intro gb1203 hg w6 hbox hb; have n0_ := Aside0.mk (blk_below (g := gb1202) (o := .cells #[.int .i64 a0_0, .int .i64 a0_1] 72 (0, 0)) (by (with_reducible repeat (first | refine blk_drewN ?_ _ | refine blk_drew ?_ | refine blk_alloc ?_ _)); exact BK1202.out) hb); have n1_ := Aside0.mk (below_step (by repeat (first | (with_reducible first | exact HB.out | apply below_alloc | apply pw_below_drewN | apply below_drew1 | refine below_set ?_ GE1202.out) | exact HB.out)) hb); have n2_ := Aside0.mk (hbox); have n3_ := Aside0.mk ((by rw [hg]; exact (below_size (by repeat (first | (with_reducible first | exact HB.out | apply below_alloc | apply pw_below_drewN | apply below_drew1 | refine below_set ?_ GE1202.out) | exact HB.out))) : w.heap.size ≤ gb1203)); have n4_ := Aside0.mk ((by rw [hg]; exact (below_size (by repeat (first | (with_reducible first | exact HB.out | apply below_alloc | apply pw_below_drewN | apply below_drew1 | refine below_set ?_ GE1202.out) | exact HB.out))) : w.heap.size ≤ gb1203)); have n5_ := Aside0.mk ((by rw [hg]; exact Nat.ne_of_lt (blk_lt (g := gb1202) (o := .cells #[.int .i64 a0_0, .int .i64 a0_1] 72 (0, 0)) (by (with_reducible repeat (first | refine blk_drewN ?_ _ | refine blk_drew ?_ | refine blk_alloc ?_ _)); exact BK1202.out)) : gb1202 ≠ gb1203)); have n6_ := Aside0.mk ((by rw [hg]; exact Nat.ne_of_gt (blk_lt (g := gb1202) (o := .cells #[.int .i64 a0_0, .int .i64 a0_1] 72 (0, 0)) (by (with_reducible repeat (first | refine blk_drewN ?_ _ | refine blk_drew ?_ | refine blk_alloc ?_ _)); exact BK1202.out)) : gb1203 ≠ gb1202)); clear BK1202; clear HB; have BK1202 := n0_; have HB := n1_; have BK1203 := n2_; have GW1203 := n3_; have GE1203 := n4_; have NB1202_1203 := n5_; have NB1203_1202 := n6_; clear n0_ n1_ n2_ n3_ n4_ n5_ n6_; clear hb hbox hg; have hnb7 := NB1202_1203.out; have hnc7 := NB1203_1202.out; have hcz8_0 : w6.cell? ⟨gb1202, 0, none⟩ = some (.int .i64 a0_0) := (blk_cell BK1202.out 0).trans rfl; have hcz8_1 : w6.cell? ⟨gb1202, 1, none⟩ = some (.int .i64 a0_1) := (blk_cell BK1202.out 1).trans rfl; have hfz8_0 := blk_frozen BK1202.out 0; have hfz8_1 := blk_frozen BK1202.out 1; have hcz9_0 : w6.cell? ⟨gb1203, 0, none⟩ = some (.int .i64 a1_0) := (blk_cell BK1203.out 0).trans rfl; have hcz9_1 : w6.cell? ⟨gb1203, 1, none⟩ = some (.int .i64 a1_1) := (blk_cell BK1203.out 1).trans rfl; have hfz9_0 := blk_frozen BK1203.out 0; have hfz9_1 := blk_frozen BK1203.out 1))
      go_ret
      exact ⟨by first | rfl | (simp [errW_none, errW_some] <;> rfl) | (simp [*, errW_none, errW_some] <;> rfl), by repeat (first | (with_reducible first | exact HB.out | apply below_alloc | apply pw_below_drewN | apply below_drew1 | refine below_set ?_ GE1202.out | refine below_set ?_ GE1203.out) | exact HB.out)⟩
    · rw [if_neg c4] at H
      have c4b0 : (a0_1 == a1_1) = false := beq_eq_false_iff_ne.mpr c4
      have c4b1 : (a0_1 != a1_1) = true := bne_iff_ne.mpr c4
      obtain rfl := Option.some.inj H
      go_enter Try.func54, Try.ntmps54
      go_wp2_with (first | ((with_reducible refine gate_dst (N := 2) rfl ?_); refine box_event ?hg (N := 2) ?hd (cs := #[.int .i64 a0_0, .int .i64 a0_1]) (t := 72) ?hr ?_; (case hd => rfl); (case hg => rfl); (case hr => first | (go_simp; done) | (go_simp; rfl)); intro gb1202 hg w10 hbox hb; have n0_ := Aside0.mk (below_step (by repeat (first | (with_reducible first | exact HB.out | apply below_alloc | apply pw_below_drewN | apply below_drew1) | exact HB.out)) hb); have n1_ := Aside0.mk (hbox); have n2_ := Aside0.mk ((by rw [hg]; exact (below_size (by repeat (first | (with_reducible first | exact HB.out | apply below_alloc | apply pw_below_drewN | apply below_drew1) | exact HB.out))) : w.heap.size ≤ gb1202)); have n3_ := Aside0.mk ((by rw [hg]; exact (below_size (by repeat (first | (with_reducible first | exact HB.out | apply below_alloc | apply pw_below_drewN | apply below_drew1) | exact HB.out))) : w.heap.size ≤ gb1202)); clear HB; have HB := n0_; have BK1202 := n1_; have GW1202 := n2_; have GE1202 := n3_; clear n0_ n1_ n2_ n3_; clear hb hbox hg) | ((with_reducible refine gate_dst (N := 3) rfl ?_); refine box_event ?hg (N := 3) ?hd (cs := #[.int .i64 a1_0, .int .i64 a1_1]) (t := 72) ?hr ?_; (case hd => rfl); (case hg => rfl); (case hr => first | (go_simp; done) | (go_simp; rfl)); intro gb1203 hg w11 hbox hb; have n0_ := Aside0.mk (blk_below (g := gb1202) (o := .cells #[.int .i64 a0_0, .int .i64 a0_1] 72 (0, 0)) (by (with_reducible repeat (first | refine blk_drewN ?_ _ | refine blk_drew ?_ | refine blk_alloc ?_ _)); exact BK1202.out) hb); have n1_ := Aside0.mk (below_step (by repeat (first | (with_reducible first | exact HB.out | apply below_alloc | apply pw_below_drewN | apply below_drew1 | refine below_set ?_ GE1202.out) | exact HB.out)) hb); have n2_ := Aside0.mk (hbox); have n3_ := Aside0.mk ((by rw [hg]; exact (below_size (by repeat (first | (with_reducible first | exact HB.out | apply below_alloc | apply pw_below_drewN | apply below_drew1 | refine below_set ?_ GE1202.out) | exact HB.out))) : w.heap.size ≤ gb1203)); have n4_ := Aside0.mk ((by rw [hg]; exact (below_size (by repeat (first | (with_reducible first | exact HB.out | apply below_alloc | apply pw_below_drewN | apply below_drew1 | refine below_set ?_ GE1202.out) | exact HB.out))) : w.heap.size ≤ gb1203)); have n5_ := Aside0.mk ((by rw [hg]; exact Nat.ne_of_lt (blk_lt (g := gb1202) (o := .cells #[.int .i64 a0_0, .int .i64 a0_1] 72 (0, 0)) (by (with_reducible repeat (first | refine blk_drewN ?_ _ | refine blk_drew ?_ | refine blk_alloc ?_ _)); exact BK1202.out)) : gb1202 ≠ gb1203)); have n6_ := Aside0.mk ((by rw [hg]; exact Nat.ne_of_gt (blk_lt (g := gb1202) (o := .cells #[.int .i64 a0_0, .int .i64 a0_1] 72 (0, 0)) (by (with_reducible repeat (first | refine blk_drewN ?_ _ | refine blk_drew ?_ | refine blk_alloc ?_ _)); exact BK1202.out)) : gb1203 ≠ gb1202)); clear BK1202; clear HB; have BK1202 := n0_; have HB := n1_; have BK1203 := n2_; have GW1203 := n3_; have GE1203 := n4_; have NB1202_1203 := n5_; have NB1203_1202 := n6_; clear n0_ n1_ n2_ n3_ n4_ n5_ n6_; clear hb hbox hg; have hnb12 := NB1202_1203.out; have hnc12 := NB1203_1202.out; have hcz13_0 : w11.cell? ⟨gb1202, 0, none⟩ = some (.int .i64 a0_0) := (blk_cell BK1202.out 0).trans rfl; have hcz13_1 : w11.cell? ⟨gb1202, 1, none⟩ = some (.int .i64 a0_1) := (blk_cell BK1202.out 1).trans rfl; have hfz13_0 := blk_frozen BK1202.out 0; have hfz13_1 := blk_frozen BK1202.out 1; have hcz14_0 : w11.cell? ⟨gb1203, 0, none⟩ = some (.int .i64 a1_0) := (blk_cell BK1203.out 0).trans rfl; have hcz14_1 : w11.cell? ⟨gb1203, 1, none⟩ = some (.int .i64 a1_1) := (blk_cell BK1203.out 1).trans rfl; have hfz14_0 := blk_frozen BK1203.out 0; have hfz14_1 := blk_frozen BK1203.out 1))
      go_ret
      exact ⟨by first | rfl | (simp [errW_none, errW_some] <;> rfl) | (simp [*, errW_none, errW_some] <;> rfl), by repeat (first | (with_reducible first | exact HB.out | apply below_alloc | apply pw_below_drewN | apply below_drew1 | refine below_set ?_ GE1202.out | refine below_set ?_ GE1203.out) | exact HB.out)⟩
  · rw [if_neg c3] at H
    have c3b0 : (a0_0 == a1_0) = false := beq_eq_false_iff_ne.mpr c3
    have c3b1 : (a0_0 != a1_0) = true := bne_iff_ne.mpr c3
    obtain rfl := Option.some.inj H
    go_enter Try.func54, Try.ntmps54
    go_wp2_with (first | ((with_reducible refine gate_dst (N := 2) rfl ?_); refine box_event ?hg (N := 2) ?hd (cs := #[.int .i64 a0_0, .int .i64 a0_1]) (t := 72) ?hr ?_; (case hd => rfl); (case hg => rfl); (case hr => first | (go_simp; done) | (go_simp; rfl)); intro gb1202 hg w15 hbox hb; have n0_ := Aside0.mk (below_step (by repeat (first | (with_reducible first | exact HB.out | apply below_alloc | apply pw_below_drewN | apply below_drew1) | exact HB.out)) hb); have n1_ := Aside0.mk (hbox); have n2_ := Aside0.mk ((by rw [hg]; exact (below_size (by repeat (first | (with_reducible first | exact HB.out | apply below_alloc | apply pw_below_drewN | apply below_drew1) | exact HB.out))) : w.heap.size ≤ gb1202)); have n3_ := Aside0.mk ((by rw [hg]; exact (below_size (by repeat (first | (with_reducible first | exact HB.out | apply below_alloc | apply pw_below_drewN | apply below_drew1) | exact HB.out))) : w.heap.size ≤ gb1202)); clear HB; have HB := n0_; have BK1202 := n1_; have GW1202 := n2_; have GE1202 := n3_; clear n0_ n1_ n2_ n3_; clear hb hbox hg) | ((with_reducible refine gate_dst (N := 3) rfl ?_); refine box_event ?hg (N := 3) ?hd (cs := #[.int .i64 a1_0, .int .i64 a1_1]) (t := 72) ?hr ?_; (case hd => rfl); (case hg => rfl); (case hr => first | (go_simp; done) | (go_simp; rfl)); intro gb1203 hg w16 hbox hb; have n0_ := Aside0.mk (blk_below (g := gb1202) (o := .cells #[.int .i64 a0_0, .int .i64 a0_1] 72 (0, 0)) (by (with_reducible repeat (first | refine blk_drewN ?_ _ | refine blk_drew ?_ | refine blk_alloc ?_ _)); exact BK1202.out) hb); have n1_ := Aside0.mk (below_step (by repeat (first | (with_reducible first | exact HB.out | apply below_alloc | apply pw_below_drewN | apply below_drew1 | refine below_set ?_ GE1202.out) | exact HB.out)) hb); have n2_ := Aside0.mk (hbox); have n3_ := Aside0.mk ((by rw [hg]; exact (below_size (by repeat (first | (with_reducible first | exact HB.out | apply below_alloc | apply pw_below_drewN | apply below_drew1 | refine below_set ?_ GE1202.out) | exact HB.out))) : w.heap.size ≤ gb1203)); have n4_ := Aside0.mk ((by rw [hg]; exact (below_size (by repeat (first | (with_reducible first | exact HB.out | apply below_alloc | apply pw_below_drewN | apply below_drew1 | refine below_set ?_ GE1202.out) | exact HB.out))) : w.heap.size ≤ gb1203)); have n5_ := Aside0.mk ((by rw [hg]; exact Nat.ne_of_lt (blk_lt (g := gb1202) (o := .cells #[.int .i64 a0_0, .int .i64 a0_1] 72 (0, 0)) (by (with_reducible repeat (first | refine blk_drewN ?_ _ | refine blk_drew ?_ | refine blk_alloc ?_ _)); exact BK1202.out)) : gb1202 ≠ gb1203)); have n6_ := Aside0.mk ((by rw [hg]; exact Nat.ne_of_gt (blk_lt (g := gb1202) (o := .cells #[.int .i64 a0_0, .int .i64 a0_1] 72 (0, 0)) (by (with_reducible repeat (first | refine blk_drewN ?_ _ | refine blk_drew ?_ | refine blk_alloc ?_ _)); exact BK1202.out)) : gb1203 ≠ gb1202)); clear BK1202; clear HB; have BK1202 := n0_; have HB := n1_; have BK1203 := n2_; have GW1203 := n3_; have GE1203 := n4_; have NB1202_1203 := n5_; have NB1203_1202 := n6_; clear n0_ n1_ n2_ n3_ n4_ n5_ n6_; clear hb hbox hg; have hnb17 := NB1202_1203.out; have hnc17 := NB1203_1202.out; have hcz18_0 : w16.cell? ⟨gb1202, 0, none⟩ = some (.int .i64 a0_0) := (blk_cell BK1202.out 0).trans rfl; have hcz18_1 : w16.cell? ⟨gb1202, 1, none⟩ = some (.int .i64 a0_1) := (blk_cell BK1202.out 1).trans rfl; have hfz18_0 := blk_frozen BK1202.out 0; have hfz18_1 := blk_frozen BK1202.out 1; have hcz19_0 : w16.cell? ⟨gb1203, 0, none⟩ = some (.int .i64 a1_0) := (blk_cell BK1203.out 0).trans rfl; have hcz19_1 : w16.cell? ⟨gb1203, 1, none⟩ = some (.int .i64 a1_1) := (blk_cell BK1203.out 1).trans rfl; have hfz19_0 := blk_frozen BK1203.out 0; have hfz19_1 := blk_frozen BK1203.out 1))
    go_ret
    exact ⟨by first | rfl | (simp [errW_none, errW_some] <;> rfl) | (simp [*, errW_none, errW_some] <;> rfl), by repeat (first | (with_reducible first | exact HB.out | apply below_alloc | apply pw_below_drewN | apply below_drew1 | refine below_set ?_ GE1202.out | refine below_set ?_ GE1203.out) | exact HB.out)⟩

end Go.Proofs.Ytoedcnhgobbnfaa.All

namespace Go.Proofs.Ytoedcnhgobbnfaa.All
open Go.RowKit Go.Proofs.YtoedcnhgobbnfaaW.PrintWords Go.Proofs.YtoedcnhgobbnfaaW.PrintLast Go.Proofs.YtoedcnhgobbnfaaW.PrintMore
attribute [local go_sem] max2_int min2_int max_two min_two max_three min_three max_four min_four   -- for this text's walks alone
set_option linter.unusedVariables false
set_option linter.unusedSimpArgs false

/-! ### laws_eqPlaceS: function 27 -/
def laws_eqPlaceS.l0 : Nat → List (S72) → List (S72) → Int → Option (Bool)
  | 0, _, _, _ => none
  | k + 1, x0, x1, x5 => if x5 < (x0.length : Int) then (if 0 ≤ x5 then (if x5 < (x1.length : Int) then ((laws_eqPlace.f ((rd_T72 x0 x5).f0) ((rd_T72 x0 x5).f1) ((rd_T72 x1 x5).f0) ((rd_T72 x1 x5).f1)).bind fun t1206 => (if t1206 = true then (laws_eqPlaceS.l0 k x0 x1 (wrap64 (x5 + 1))) else (some false))) else (none)) else (none)) else (some true)
def laws_eqPlaceS.f (k : Nat) (l0 : List (S72)) (l1 : List (S72)) : Option (Bool) := if (l0.length : Int) = (l1.length : Int) then (laws_eqPlaceS.l0 k l0 l1 0) else (some false)
def laws_eqPlaceS.T6 : Bool × List (List Nat × List Nat) := (true, [([], []), ([], []), ([0, 1], [0, 1]), ([2], [2]), ([], []), ([], []), ([4, 5], [4, 5]), ([6], [6]), ([3, 7], [3, 7]), ([8], [8])])
def laws_eqPlaceS.B6 : List Nat := [0, 0, 3, 7, 0, 0, 48, 112, 255, 511]
theorem laws_eqPlaceS.tab6 : rtab .any (opsOf Try.f27 6) = laws_eqPlaceS.T6 := by kernel_rfl
theorem laws_eqPlaceS.bits6 : waitsOk laws_eqPlaceS.T6.2 laws_eqPlaceS.B6 = true := by kernel_rfl
set_option maxHeartbeats 8000000 in
set_option maxRecDepth 100000 in
theorem laws_eqPlaceS.calls (k : Nat) (A0 : Option Addr) (c0 : Nat) (l0 : List (S72)) (A1 : Option Addr) (c1 : Nat) (l1 : List (S72)) (r : Bool) (w : World) (hr0 : Kd.C k72 w A0 l0.length l0) (hc0 : l0.length ≤ c0) (hr1 : Kd.C k72 w A1 l1.length l1) (hc1 : l1.length ≤ c1) (h : laws_eqPlaceS.f k l0 l1 = some r) :
    Calls Try.prog 27 #[.slice A0 l0.length c0, .slice A1 l1.length c1] w fun e w' => e = .returned (.bool r) ∧ Below w.heap.size w w' := by
  have hu72 := Try.underlying72
  have HR0 := Aside0.mk hr0
  have HC0 := Aside0.mk hc0
  clear hr0 hc0
  have HR1 := Aside0.mk hr1
  have HC1 := Aside0.mk hc1
  clear hr1 hc1
  have HB := Aside0.mk (Below.refl w.heap.size w)
  have H : (if (l0.length : Int) = (l1.length : Int) then (laws_eqPlaceS.l0 k l0 l1 0) else (some false)) = some r := h
  clear h
  by_cases c3 : (l0.length : Int) = (l1.length : Int)
  · rw [if_pos c3] at H
    have c3b0 : ((l0.length : Int) == (l1.length : Int)) = true := beq_iff_eq.mpr c3
    have c3b1 : ((l0.length : Int) != (l1.length : Int)) = false := bne_eq_false_iff_eq.mpr c3
    have c3b2 : (l0.length == l1.length) = true := by first | simpa using c3 | (simp at c3 ⊢; omega)
    clear c3
    have H' := Aside0.mk H
    clear H
    go_enter Try.func27, Try.ntmps27
    go_wp2
    go_loopg [5] k (fun kq v5 w' => ∃ (x5_1 : Int), v5 = .int .i64 x5_1 ∧ Aside0 (laws_eqPlaceS.l0 kq l0 l1 x5_1 = some r) ∧ Aside0 (kq ≤ k) ∧ Aside0 (Below w.heap.size w w'))
    case atStart => exact ⟨(0), (by first | rfl | (simp; done) | (simp [*]; done)), H', ⟨Nat.le_refl _⟩, ⟨by repeat (first | (with_reducible first | exact HB.out | apply below_alloc | apply pw_below_drewN | apply below_drew1) | exact HB.out)⟩⟩
    case round =>
      clear H'
      try clear c1
      try clear c2
      try clear p2
      try clear c3
      try clear c3b0
      try clear c3b1
      try clear c3b2
      obtain ⟨x5_1, rfl, HA, HK1, HB⟩ := hrel
      cases gk with
      | zero => exact absurd HA.out (by simp [laws_eqPlaceS.l0])
      | succ k1 =>
        have H := HA.out
        clear HA
        simp only [laws_eqPlaceS.l0] at H
        by_cases c4 : x5_1 < (l0.length : Int)
        · rw [if_pos c4] at H
          have c4b0 : decide (x5_1 < (l0.length : Int)) = true := decide_eq_true c4
          clear c4
          by_cases c5 : 0 ≤ x5_1
          · rw [if_pos c5] at H
            have c5b0 : decide (0 ≤ x5_1) = true := decide_eq_true c5
            clear c5
            by_cases c6 : x5_1 < (l1.length : Int)
            · rw [if_pos c6] at H
              have c6b0 : decide (x5_1 < (l1.length : Int)) = true := decide_eq_true c6
              clear c6
              replace H := Option.bind_eq_some_iff.mp H
              obtain ⟨t1206, A70, H⟩ := H
              replace H : (if t1206 = true then (laws_eqPlaceS.l0 k1 l0 l1 (wrap64 (x5_1 + 1))) else (some false)) = some r := H
              have A7 := Aside0.mk A70
              clear A70
              by_cases c8 : t1206 = true
              · subst c8
                have H1 : (laws_eqPlaceS.l0 k1 l0 l1 (wrap64 (x5_1 + 1))) = some r := by rw [if_pos rfl] at H; exact H
                clear H
                have H := H1
                clear H1
                have H' := Aside0.mk H
                clear H
                try go_wp2
                have n0_ := Aside0.mk (below_drew1 HB.out)
                clear HB
                have HB := n0_
                clear n0_
                have p1204 : 0 ≤ (x5_1 : Int) := of_decide_eq_true (by first | (with_reducible assumption) | assumption)
                have q1204 : x5_1 < (l0.length : Int) := of_decide_eq_true (by first | (with_reducible assumption) | assumption)
                obtain ⟨ad1204, e1204, hx1204_0, hx1204_1⟩ := at_T72 HR0.out x5_1 p1204 q1204
                have hw1204_1 := hx1204_1
                have hw1204_0 := hx1204_0
                cases e1204
                replace hx1204_0 := (HB.out.cell (World.block_lt_of_cell? w _ hx1204_0)).trans hx1204_0
                replace hx1204_1 := (HB.out.cell (World.block_lt_of_cell? w _ hx1204_1)).trans hx1204_1
                replace p1204 := eq_true p1204
                replace q1204 := eq_true q1204
                have p1205 : 0 ≤ (x5_1 : Int) := of_decide_eq_true (by first | (with_reducible assumption) | assumption)
                have q1205 : x5_1 < (l1.length : Int) := of_decide_eq_true (by first | (with_reducible assumption) | assumption)
                obtain ⟨ad1205, e1205, hx1205_0, hx1205_1⟩ := at_T72 HR1.out x5_1 p1205 q1205
                have hw1205_1 := hx1205_1
                have hw1205_0 := hx1205_0
                cases e1205
                replace hx1205_0 := (HB.out.cell (World.block_lt_of_cell? w _ hx1205_0)).trans hx1205_0
                replace hx1205_1 := (HB.out.cell (World.block_lt_of_cell? w _ hx1205_1)).trans hx1205_1
                replace p1205 := eq_true p1205
                replace q1205 := eq_true q1205
                refine start_ (n := 10) (S := fun w' => w'.cell? (ad1204.add ((x5_1).toNat * 2)) = some (.int .i64 ((rd_T72 l0 x5_1).f0)) ∧ w'.cell? ⟨(ad1204.add ((x5_1).toNat * 2)).block, (ad1204.add ((x5_1).toNat * 2)).off + 1, none⟩ = some (.int .i64 ((rd_T72 l0 x5_1).f1)) ∧ w'.cell? (ad1205.add ((x5_1).toNat * 2)) = some (.int .i64 ((rd_T72 l1 x5_1).f0)) ∧ w'.cell? ⟨(ad1205.add ((x5_1).toNat * 2)).block, (ad1205.add ((x5_1).toNat * 2)).off + 1, none⟩ = some (.int .i64 ((rd_T72 l1 x5_1).f1))) (ds := []) #[false, false, false, false, false, false, false, false, false, false] (by kernel_rfl) rfl rfl ⟨((HB.out.cell (World.block_lt_of_cell? w _ hw1204_0)).trans hw1204_0), ((HB.out.cell (World.block_lt_of_cell? w _ hw1204_1)).trans hw1204_1), ((HB.out.cell (World.block_lt_of_cell? w _ hw1205_0)).trans hw1205_0), ((HB.out.cell (World.block_lt_of_cell? w _ hw1205_1)).trans hw1205_1)⟩ (fun hHeld => ?_); refine with_tabW laws_eqPlaceS.tab6 laws_eqPlaceS.bits6 (fun HT_ HW_ => ?_)
                generalize wr.drew = w9 at HB hx1204_0 hx1204_1 hx1205_0 hx1205_1 hHeld ⊢
                refine pure_ (i := 0) (N := some 17) (v := ?_) (a' := ?_) #[true, false, false, false, false, false, false, false, false, false] rfl rfl (any_of HT_.out (by kernel_rfl)) (fun _ _ _ h => h) (Or.inl ⟨by rfl, ?_⟩) ?_ ?_
                rotate_left
                · intro w'
                  go_simp
                  with_reducible rfl
                rotate_left
                · simp only [Act.put, List.setIfInBounds_toArray, List.set_cons_zero, List.set_cons_succ, i64_w, i32_w]
                  rfl
                refine pure_ (i := 1) (N := some 18) (v := ?_) (a' := ?_) #[true, true, false, false, false, false, false, false, false, false] rfl rfl (any_of HT_.out (by kernel_rfl)) (fun _ _ _ h => h) (Or.inl ⟨by rfl, ?_⟩) ?_ ?_
                rotate_left
                · intro w'
                  go_simp
                  with_reducible rfl
                rotate_left
                · simp only [Act.put, List.setIfInBounds_toArray, List.set_cons_zero, List.set_cons_succ, i64_w, i32_w]
                  rfl
                refine pure_ (i := 2) (N := some 19) (v := ?_) (a' := ?_) #[true, true, true, false, false, false, false, false, false, false] rfl rfl (any_of HT_.out (by kernel_rfl)) (fun _ _ _ h => h) (Or.inl ⟨by rfl, ?_⟩) ?_ ?_
                rotate_left
                · intro w'
                  go_simp
                  with_reducible rfl
                rotate_left
                · simp only [Act.put, List.setIfInBounds_toArray, List.set_cons_zero, List.set_cons_succ, i64_w, i32_w]
                  rfl
                refine pure_ (i := 4) (N := some 21) (v := ?_) (a' := ?_) #[true, true, true, false, true, false, false, false, false, false] rfl rfl (any_of HT_.out (by kernel_rfl)) (fun _ _ _ h => h) (Or.inl ⟨by rfl, ?_⟩) ?_ ?_
                rotate_left
                · intro w'
                  go_simp
                  with_reducible rfl
                rotate_left
                · simp only [Act.put, List.setIfInBounds_toArray, List.set_cons_zero, List.set_cons_succ, i64_w, i32_w]
                  rfl
                refine pure_ (i := 5) (N := some 22) (v := ?_) (a' := ?_) #[true, true, true, false, true, true, false, false, false, false] rfl rfl (any_of HT_.out (by kernel_rfl)) (fun _ _ _ h => h) (Or.inl ⟨by rfl, ?_⟩) ?_ ?_
                rotate_left
                · intro w'
                  go_simp
                  with_reducible rfl
                rotate_left
                · simp only [Act.put, List.setIfInBounds_toArray, List.set_cons_zero, List.set_cons_succ, i64_w, i32_w]
                  rfl
                refine pure_ (i := 6) (N := some 23) (v := ?_) (a' := ?_) #[true, true, true, false, true, true, true, false, false, false] rfl rfl (any_of HT_.out (by kernel_rfl)) (fun _ _ _ h => h) (Or.inl ⟨by rfl, ?_⟩) ?_ ?_
                rotate_left
                · intro w'
                  go_simp
                  with_reducible rfl
                rotate_left
                · simp only [Act.put, List.setIfInBounds_toArray, List.set_cons_zero, List.set_cons_succ, i64_w, i32_w]
                  rfl
                refine take_ (i := 3) (N := some 20) (v := ?_) (a' := ?_) #[true, true, true, true, true, true, true, false, false, false] rfl rfl (take_ofW HT_.out HW_.out (by kernel_rfl)) (fun _ _ _ h => h) (Or.inl ⟨by rfl, ?_⟩) hHeld ?_ ?_
                rotate_left
                · rintro w' ⟨s0, s1, s2, s3⟩
                  go_simp
                  with_reducible rfl
                rotate_left
                · simp only [Act.put, List.setIfInBounds_toArray, List.set_cons_zero, List.set_cons_succ, i64_w, i32_w]
                  rfl
                refine take_ (i := 7) (N := some 24) (v := ?_) (a' := ?_) #[true, true, true, true, true, true, true, true, false, false] rfl rfl (take_ofW HT_.out HW_.out (by kernel_rfl)) (fun _ _ _ h => h) (Or.inl ⟨by rfl, ?_⟩) hHeld ?_ ?_
                rotate_left
                · rintro w' ⟨s0, s1, s2, s3⟩
                  go_simp
                  with_reducible rfl
                rotate_left
                · simp only [Act.put, List.setIfInBounds_toArray, List.set_cons_zero, List.set_cons_succ, i64_w, i32_w]
                  rfl
                refine one_ (i := 8) (N := some 25) #[true, true, true, true, true, true, true, true, true, false] rfl rfl (one_of HT_.out (by kernel_rfl)) (by decide) (fun K hK => ?_)
                refine goes_ Try.func54 (by kernel_rfl) rfl #[.agg #[.int .i64 ((rd_T72 l0 x5_1).f0), .int .i64 ((rd_T72 l0 x5_1).f1)], .agg #[.int .i64 ((rd_T72 l1 x5_1).f0), .int .i64 ((rd_T72 l1 x5_1).f1)]] (by rfl) rfl rfl (by (try simp only [List.map_toArray, List.map_cons, List.map_nil]); first | done | rfl | (simp only [List.length_drop, List.length_take]; rfl)) ?_
                with_reducible refine (laws_eqPlace.calls ((rd_T72 l0 x5_1).f0) ((rd_T72 l0 x5_1).f1) ((rd_T72 l1 x5_1).f0) ((rd_T72 l1 x5_1).f1) true _ A7.out).mono ?_
                rintro e w10 ⟨rfl, hb⟩
                refine ⟨_, rfl, ?_⟩
                have n0_ := Aside0.mk (below_step (by repeat (first | (with_reducible first | exact HB.out | apply below_alloc | apply pw_below_drewN | apply below_drew1) | exact HB.out)) hb)
                clear HB
                have HB := n0_
                clear n0_
                (try clear hb)
                (try clear hb2)
                (try clear hk)
                (try clear hi)
                refine hK.out _ _ ⟨((HB.out.cell (World.block_lt_of_cell? w _ hw1204_0)).trans hw1204_0), ((HB.out.cell (World.block_lt_of_cell? w _ hw1204_1)).trans hw1204_1), ((HB.out.cell (World.block_lt_of_cell? w _ hw1205_0)).trans hw1205_0), ((HB.out.cell (World.block_lt_of_cell? w _ hw1205_1)).trans hw1205_1)⟩ (fun hHeld => ?_)
                clear hK K
                refine norm_ (a' := ?_) ?_ ?_
                rotate_left
                · show Act.put _ (some 25) _ = _
                  simp only [Act.put, List.setIfInBounds_toArray, List.set_cons_zero, List.set_cons_succ, i64_w, i32_w]
                  rfl
                refine pure_ (i := 9) (N := some 26) (v := ?_) (a' := ?_) #[true, true, true, true, true, true, true, true, true, true] rfl rfl (any_of HT_.out (by kernel_rfl)) (fun _ _ _ h => h) (Or.inl ⟨by rfl, ?_⟩) ?_ ?_
                rotate_left
                · intro w'
                  go_simp
                  with_reducible rfl
                rotate_left
                · simp only [Act.put, List.setIfInBounds_toArray, List.set_cons_zero, List.set_cons_succ, i64_w, i32_w]
                  rfl
                refine done_ (done_of HT_.out (by kernel_rfl)) ?_
                try go_wp2
                go_roundg k1
                case measure => have := HK1.out; omega
                case rel => exact ⟨(wrap64 (x5_1 + 1)), (by first | rfl | (simp; done) | (simp [*]; done)), H', ⟨by have := HK1.out; omega⟩, ⟨by repeat (first | (with_reducible first | exact HB.out | apply below_alloc | apply pw_below_drewN | apply below_drew1) | exact HB.out)⟩⟩
              · replace c8 := Bool.eq_false_iff.mpr c8
                subst c8
                have H1 : (some false) = some r := by rw [if_neg (show ¬ (false = true) by decide)] at H; exact H
                clear H
                have H := H1
                clear H1
                obtain rfl := Option.some.inj H
                try go_wp2
                have n0_ := Aside0.mk (below_drew1 HB.out)
                clear HB
                have HB := n0_
                clear n0_
                have p1204 : 0 ≤ (x5_1 : Int) := of_decide_eq_true (by first | (with_reducible assumption) | assumption)
                have q1204 : x5_1 < (l0.length : Int) := of_decide_eq_true (by first | (with_reducible assumption) | assumption)
                obtain ⟨ad1204, e1204, hx1204_0, hx1204_1⟩ := at_T72 HR0.out x5_1 p1204 q1204
                have hw1204_1 := hx1204_1
                have hw1204_0 := hx1204_0
                cases e1204
                replace hx1204_0 := (HB.out.cell (World.block_lt_of_cell? w _ hx1204_0)).trans hx1204_0
                replace hx1204_1 := (HB.out.cell (World.block_lt_of_cell? w _ hx1204_1)).trans hx1204_1
                replace p1204 := eq_true p1204
                replace q1204 := eq_true q1204
                have p1205 : 0 ≤ (x5_1 : Int) := of_decide_eq_true (by first | (with_reducible assumption) | assumption)
                have q1205 : x5_1 < (l1.length : Int) := of_decide_eq_true (by first | (with_reducible assumption) | assumption)
                obtain ⟨ad1205, e1205, hx1205_0, hx1205_1⟩ := at_T72 HR1.out x5_1 p1205 q1205
                have hw1205_1 := hx1205_1
                have hw1205_0 := hx1205_0
                cases e1205
                replace hx1205_0 := (HB.out.cell (World.block_lt_of_cell? w _ hx1205_0)).trans hx1205_0
                replace hx1205_1 := (HB.out.cell (World.block_lt_of_cell? w _ hx1205_1)).trans hx1205_1
                replace p1205 := eq_true p1205
                replace q1205 := eq_true q1205
                refine start_ (n := 10) (S := fun w' => w'.cell? (ad1204.add ((x5_1).toNat * 2)) = some (.int .i64 ((rd_T72 l0 x5_1).f0)) ∧ w'.cell? ⟨(ad1204.add ((x5_1).toNat * 2)).block, (ad1204.add ((x5_1).toNat * 2)).off + 1, none⟩ = some (.int .i64 ((rd_T72 l0 x5_1).f1)) ∧ w'.cell? (ad1205.add ((x5_1).toNat * 2)) = some (.int .i64 ((rd_T72 l1 x5_1).f0)) ∧ w'.cell? ⟨(ad1205.add ((x5_1).toNat * 2)).block, (ad1205.add ((x5_1).toNat * 2)).off + 1, none⟩ = some (.int .i64 ((rd_T72 l1 x5_1).f1))) (ds := []) #[false, false, false, false, false, false, false, false, false, false] (by kernel_rfl) rfl rfl ⟨((HB.out.cell (World.block_lt_of_cell? w _ hw1204_0)).trans hw1204_0), ((HB.out.cell (World.block_lt_of_cell? w _ hw1204_1)).trans hw1204_1), ((HB.out.cell (World.block_lt_of_cell? w _ hw1205_0)).trans hw1205_0), ((HB.out.cell (World.block_lt_of_cell? w _ hw1205_1)).trans hw1205_1)⟩ (fun hHeld => ?_); refine with_tabW laws_eqPlaceS.tab6 laws_eqPlaceS.bits6 (fun HT_ HW_ => ?_)
                generalize wr.drew = w11 at HB hx1204_0 hx1204_1 hx1205_0 hx1205_1 hHeld ⊢
                refine pure_ (i := 0) (N := some 17) (v := ?_) (a' := ?_) #[true, false, false, false, false, false, false, false, false, false] rfl rfl (any_of HT_.out (by kernel_rfl)) (fun _ _ _ h => h) (Or.inl ⟨by rfl, ?_⟩) ?_ ?_
                rotate_left
                · intro w'
                  go_simp
                  with_reducible rfl
                rotate_left
                · simp only [Act.put, List.setIfInBounds_toArray, List.set_cons_zero, List.set_cons_succ, i64_w, i32_w]
                  rfl
                refine pure_ (i := 1) (N := some 18) (v := ?_) (a' := ?_) #[true, true, false, false, false, false, false, false, false, false] rfl rfl (any_of HT_.out (by kernel_rfl)) (fun _ _ _ h => h) (Or.inl ⟨by rfl, ?_⟩) ?_ ?_
                rotate_left
                · intro w'
                  go_simp
                  with_reducible rfl
                rotate_left
                · simp only [Act.put, List.setIfInBounds_toArray, List.set_cons_zero, List.set_cons_succ, i64_w, i32_w]
                  rfl
                refine pure_ (i := 2) (N := some 19) (v := ?_) (a' := ?_) #[true, true, true, false, false, false, false, false, false, false] rfl rfl (any_of HT_.out (by kernel_rfl)) (fun _ _ _ h => h) (Or.inl ⟨by rfl, ?_⟩) ?_ ?_
                rotate_left
                · intro w'
                  go_simp
                  with_reducible rfl
                rotate_left
                · simp only [Act.put, List.setIfInBounds_toArray, List.set_cons_zero, List.set_cons_succ, i64_w, i32_w]
                  rfl
                refine pure_ (i := 4) (N := some 21) (v := ?_) (a' := ?_) #[true, true, true, false, true, false, false, false, false, false] rfl rfl (any_of HT_.out (by kernel_rfl)) (fun _ _ _ h => h) (Or.inl ⟨by rfl, ?_⟩) ?_ ?_
                rotate_left
                · intro w'
                  go_simp
                  with_reducible rfl
                rotate_left
                · simp only [Act.put, List.setIfInBounds_toArray, List.set_cons_zero, List.set_cons_succ, i64_w, i32_w]
                  rfl
                refine pure_ (i := 5) (N := some 22) (v := ?_) (a' := ?_) #[true, true, true, false, true, true, false, false, false, false] rfl rfl (any_of HT_.out (by kernel_rfl)) (fun _ _ _ h => h) (Or.inl ⟨by rfl, ?_⟩) ?_ ?_
                rotate_left
                · intro w'
                  go_simp
                  with_reducible rfl
                rotate_left
                · simp only [Act.put, List.setIfInBounds_toArray, List.set_cons_zero, List.set_cons_succ, i64_w, i32_w]
                  rfl
                refine pure_ (i := 6) (N := some 23) (v := ?_) (a' := ?_) #[true, true, true, false, true, true, true, false, false, false] rfl rfl (any_of HT_.out (by kernel_rfl)) (fun _ _ _ h => h) (Or.inl ⟨by rfl, ?_⟩) ?_ ?_
                rotate_left
                · intro w'
                  go_simp
                  with_reducible rfl
                rotate_left
                · simp only [Act.put, List.setIfInBounds_toArray, List.set_cons_zero, List.set_cons_succ, i64_w, i32_w]
                  rfl
                refine take_ (i := 3) (N := some 20) (v := ?_) (a' := ?_) #[true, true, true, true, true, true, true, false, false, false] rfl rfl (take_ofW HT_.out HW_.out (by kernel_rfl)) (fun _ _ _ h => h) (Or.inl ⟨by rfl, ?_⟩) hHeld ?_ ?_
                rotate_left
                · rintro w' ⟨s0, s1, s2, s3⟩
                  go_simp
                  with_reducible rfl
                rotate_left
                · simp only [Act.put, List.setIfInBounds_toArray, List.set_cons_zero, List.set_cons_succ, i64_w, i32_w]
                  rfl
                refine take_ (i := 7) (N := some 24) (v := ?_) (a' := ?_) #[true, true, true, true, true, true, true, true, false, false] rfl rfl (take_ofW HT_.out HW_.out (by kernel_rfl)) (fun _ _ _ h => h) (Or.inl ⟨by rfl, ?_⟩) hHeld ?_ ?_
                rotate_left
                · rintro w' ⟨s0, s1, s2, s3⟩
                  go_simp
                  with_reducible rfl
                rotate_left
                · simp only [Act.put, List.setIfInBounds_toArray, List.set_cons_zero, List.set_cons_succ, i64_w, i32_w]
                  rfl
                refine one_ (i := 8) (N := some 25) #[true, true, true, true, true, true, true, true, true, false] rfl rfl (one_of HT_.out (by kernel_rfl)) (by decide) (fun K hK => ?_)
                refine goes_ Try.func54 (by kernel_rfl) rfl #[.agg #[.int .i64 ((rd_T72 l0 x5_1).f0), .int .i64 ((rd_T72 l0 x5_1).f1)], .agg #[.int .i64 ((rd_T72 l1 x5_1).f0), .int .i64 ((rd_T72 l1 x5_1).f1)]] (by rfl) rfl rfl (by (try simp only [List.map_toArray, List.map_cons, List.map_nil]); first | done | rfl | (simp only [List.length_drop, List.length_take]; rfl)) ?_
                with_reducible refine (laws_eqPlace.calls ((rd_T72 l0 x5_1).f0) ((rd_T72 l0 x5_1).f1) ((rd_T72 l1 x5_1).f0) ((rd_T72 l1 x5_1).f1) false _ A7.out).mono ?_
                rintro e w12 ⟨rfl, hb⟩
                refine ⟨_, rfl, ?_⟩
                have n0_ := Aside0.mk (below_step (by repeat (first | (with_reducible first | exact HB.out | apply below_alloc | apply pw_below_drewN | apply below_drew1) | exact HB.out)) hb)
                clear HB
                have HB := n0_
                clear n0_
                (try clear hb)
                (try clear hb2)
                (try clear hk)
                (try clear hi)
                refine hK.out _ _ ⟨((HB.out.cell (World.block_lt_of_cell? w _ hw1204_0)).trans hw1204_0), ((HB.out.cell (World.block_lt_of_cell? w _ hw1204_1)).trans hw1204_1), ((HB.out.cell (World.block_lt_of_cell? w _ hw1205_0)).trans hw1205_0), ((HB.out.cell (World.block_lt_of_cell? w _ hw1205_1)).trans hw1205_1)⟩ (fun hHeld => ?_)
                clear hK K
                refine norm_ (a' := ?_) ?_ ?_
                rotate_left
                · show Act.put _ (some 25) _ = _
                  simp only [Act.put, List.setIfInBounds_toArray, List.set_cons_zero, List.set_cons_succ, i64_w, i32_w]
                  rfl
                refine pure_ (i := 9) (N := some 26) (v := ?_) (a' := ?_) #[true, true, true, true, true, true, true, true, true, true] rfl rfl (any_of HT_.out (by kernel_rfl)) (fun _ _ _ h => h) (Or.inl ⟨by rfl, ?_⟩) ?_ ?_
                rotate_left
                · intro w'
                  go_simp
                  with_reducible rfl
                rotate_left
                · simp only [Act.put, List.setIfInBounds_toArray, List.set_cons_zero, List.set_cons_succ, i64_w, i32_w]
                  rfl
                refine done_ (done_of HT_.out (by kernel_rfl)) ?_
                try go_wp2
                go_ret
                exact ⟨by first | rfl | (simp [errW_none, errW_some] <;> rfl) | (simp [*, errW_none, errW_some] <;> rfl), by repeat (first | (with_reducible first | exact HB.out | apply below_alloc | apply pw_below_drewN | apply below_drew1) | exact HB.out)⟩
            · rw [if_neg c6] at H
              exact absurd H (by simp)
          · rw [if_neg c5] at H
            exact absurd H (by simp)
        · rw [if_neg c4] at H
          have c4b0 : decide (x5_1 < (l0.length : Int)) = false := decide_eq_false c4
          clear c4
          obtain rfl := Option.some.inj H
          go_wp2
          go_ret
          exact ⟨by first | rfl | (simp [errW_none, errW_some] <;> rfl) | (simp [*, errW_none, errW_some] <;> rfl), by repeat (first | (with_reducible first | exact HB.out | apply below_alloc | apply pw_below_drewN | apply below_drew1) | exact HB.out)⟩
  · rw [if_neg c3] at H
    have c3b0 : ((l0.length : Int) == (l1.length : Int)) = false := beq_eq_false_iff_ne.mpr c3
    have c3b1 : ((l0.length : Int) != (l1.length : Int)) = true := bne_iff_ne.mpr c3
    have c3b2 : (l0.length == l1.length) = false := by first | simpa using c3 | (simp at c3 ⊢; omega)
    obtain rfl := Option.some.inj H
    go_enter Try.func27, Try.ntmps27
    go_wp2
    go_ret
    exact ⟨by first | rfl | (simp [errW_none, errW_some] <;> rfl) | (simp [*, errW_none, errW_some] <;> rfl), by repeat (first | (with_reducible first | exact HB.out | apply below_alloc | apply pw_below_drewN | apply below_drew1) | exact HB.out)⟩

end Go.Proofs.Ytoedcnhgobbnfaa.All

namespace Go.Proofs.Ytoedcnhgobbnfaa.All
open Go.RowKit Go.Proofs.YtoedcnhgobbnfaaW.PrintWords Go.Proofs.YtoedcnhgobbnfaaW.PrintLast Go.Proofs.YtoedcnhgobbnfaaW.PrintMore
attribute [local go_sem] max2_int min2_int max_two min_two max_three min_three max_four min_four   -- for this text's walks alone
set_option linter.unusedVariables false
set_option linter.unusedSimpArgs false

/-! ### laws_markPlaceS: function 28 -/
def laws_markPlaceS.l0 : Nat → List (S72) → Int → Int → Option (Int × (List (S72)))
  | 0, _, _, _ => none
  | k + 1, x0, x1, x5 => if x5 < (x0.length : Int) then (if 0 ≤ x5 then ((some (x0.set (x5 : Int).toNat (⟨x1, (rd_T72 x0 x5).f1⟩ : S72) : List (S72))).bind fun y1207 => (laws_markPlaceS.l0 k (y1207.set (x5 : Int).toNat (⟨(rd_T72 y1207 x5).f0, wrap64 (x1 + 1)⟩ : S72)) (wrap64 ((wrap64 (x1 + 1)) + 1)) (wrap64 (x5 + 1)))) else (none)) else (some (x1, x0))
def laws_markPlaceS.f (k : Nat) (l0 : List (S72)) (a1 : Int) : Option (Int × (List (S72))) := laws_markPlaceS.l0 k l0 a1 0
set_option maxHeartbeats 8000000 in
set_option maxRecDepth 100000 in
theorem laws_markPlaceS.calls (k : Nat) (P0_ : Nat → Prop) (u9000_ : Value) (l0 : List (S72)) (a1 : Int) (r1 : Int) (r2 : List (S72)) (w0 w : World) (hB : Below w0.heap.size w0 w) (ho0 : Kd.R k72 72 w w0.heap.size P0_ u9000_ l0) (h : laws_markPlaceS.f k l0 a1 = some (r1, r2)) :
    Calls Try.prog 28 #[u9000_, .int .i64 a1] w fun e w' => e = .returned (.int .i64 r1) ∧ Kd.R k72 72 w' w0.heap.size (fun k_ => (P0_ k_ ∨ w.heap.size ≤ k_)) u9000_ r2 ∧ Below w0.heap.size w0 w' ∧ Kept w w' (fun k_ => P0_ k_) := by
  have HO0 := Aside0.mk (show Kd.R k72 72 w w0.heap.size (fun k_ => (P0_ k_ ∨ w.heap.size ≤ k_)) u9000_ l0 from Kd.R_mono ho0 (fun k_ hk => (.inl hk)))
  have HK := Aside0.mk (Kept.refl w (fun k_ => P0_ k_))
  have HW0 := Aside0.mk hB.size
  have HB := Aside0.mk hB
  clear hB
  have H : (laws_markPlaceS.l0 k l0 a1 0) = some (r1, r2) := h
  clear h
  have H' := Aside0.mk H
  clear H
  go_enter Try.func28, Try.ntmps28
  go_wp2
  go_loopg [1, 5] k (fun kq v1 v5 w' => ∃ (x0_1 : List (S72)) (x1_1 : Int) (x5_1 : Int), v1 = .int .i64 x1_1 ∧ v5 = .int .i64 x5_1 ∧ Aside0 (laws_markPlaceS.l0 kq x0_1 x1_1 x5_1 = some (r1, r2)) ∧ Aside0 (kq ≤ k) ∧ Aside0 (Kd.R k72 72 w' w0.heap.size (fun k_ => (P0_ k_ ∨ w.heap.size ≤ k_)) u9000_ x0_1) ∧ Aside0 (Kept w w' (fun k_ => P0_ k_)) ∧ Aside0 (Below w0.heap.size w0 w'))
  case atStart => exact ⟨(l0), (a1), (0), (by first | rfl | (simp; done) | (simp [*]; done)), (by first | rfl | (simp; done) | (simp [*]; done)), H', ⟨Nat.le_refl _⟩, ⟨by (with_reducible repeat (first | apply Kd.R_alloc | apply Kd.R_drewN | apply Kd.R_drew)); exact HO0.out⟩, ⟨by repeat (first | (with_reducible first | exact HK.out | apply Kept.alloc | apply Kept.drewN | apply Kept.drew) | exact HK.out)⟩, ⟨by repeat (first | (with_reducible first | exact HB.out | apply below_alloc | apply pw_below_drewN | apply below_drew1) | exact HB.out)⟩⟩
  case round =>
    clear H'
    try clear c2
    try clear p2
    obtain ⟨x0_1, x1_1, x5_1, rfl, rfl, HA, HK1, HO_0, HK, HB⟩ := hrel
    cases gk with
    | zero => exact absurd HA.out (by simp [laws_markPlaceS.l0])
    | succ k1 =>
      have H := HA.out
      clear HA
      simp only [laws_markPlaceS.l0] at H
      by_cases c3 : x5_1 < (x0_1.length : Int)
      · rw [if_pos c3] at H
        have c3b0 : decide (x5_1 < (x0_1.length : Int)) = true := decide_eq_true c3
        clear c3
        by_cases c4 : 0 ≤ x5_1
        · rw [if_pos c4] at H
          have c4b0 : decide (0 ≤ x5_1) = true := decide_eq_true c4
          clear c4
          obtain ⟨y1207, hy1207⟩ : ∃ y_ : List (S72), y_ = (x0_1.set (x5_1 : Int).toNat (⟨x1_1, (rd_T72 x0_1 x5_1).f1⟩ : S72)) := ⟨_, rfl⟩
          replace H : (laws_markPlaceS.l0 k1 (y1207.set (x5_1 : Int).toNat (⟨(rd_T72 y1207 x5_1).f0, wrap64 (x1_1 + 1)⟩ : S72)) (wrap64 ((wrap64 (x1_1 + 1)) + 1)) (wrap64 (x5_1 + 1))) = some (r1, r2) := by first | (rw [hy1207]; with_reducible exact H) | (have H2_ := (Option.bind_some _ _).symm.trans H; rw [hy1207]; with_reducible exact H2_) | (have H2_ := (Option.bind_some _ _).symm.trans H; with_reducible exact H2_) | with_reducible exact H | (rw [hy1207]; exact H) | exact H
          have Ny1207 := Aside0.mk hy1207
          clear hy1207
          obtain ⟨y1208, hy1208⟩ : ∃ y_ : List (S72), y_ = (y1207.set (x5_1 : Int).toNat (⟨(rd_T72 y1207 x5_1).f0, wrap64 (x1_1 + 1)⟩ : S72)) := ⟨_, rfl⟩
          replace H : (laws_markPlaceS.l0 k1 y1208 (wrap64 ((wrap64 (x1_1 + 1)) + 1)) (wrap64 (x5_1 + 1))) = some (r1, r2) := by first | (rw [hy1208]; with_reducible exact H) | (have H2_ := (Option.bind_some _ _).symm.trans H; rw [hy1208]; with_reducible exact H2_) | (have H2_ := (Option.bind_some _ _).symm.trans H; with_reducible exact H2_) | with_reducible exact H | (rw [hy1208]; exact H) | exact H
          have Ny1208 := Aside0.mk hy1208
          clear hy1208
          have H' := Aside0.mk H
          clear H
          obtain ⟨Ao7, co7, eo7⟩ := Kd.R_slice HO_0.out
          subst eo7
          have p5 : 0 ≤ (x5_1 : Int) := of_decide_eq_true (by first | (with_reducible assumption) | assumption)
          have q5 : (x5_1 : Int) < ((x0_1.length : Int) : Int) := of_decide_eq_true (by first | (with_reducible assumption) | assumption)
          obtain ⟨go5, co5, eo5, gb5, gl5, cl5, HG5⟩ := Kd.R_form HO_0.out (by omega)
          (first | cases eo5 | (injection eo5 with ea_ en_ ec_; (first | subst ea_ | (injection ea_ with ea_; subst ea_)); subst ec_; clear en_))
          have GB5 := Aside0.mk gb5
          have GG5 := Aside0.mk HG5
          clear gb5 gl5 HG5
          have HMgo5 := Aside0.mk (show (P0_ go5 ∨ w.heap.size ≤ go5) from (HO_0.out.1 _ rfl))
          obtain ⟨ce5, hcl5, hM5, hcc5, hfr5⟩ := Kd.R_elem HO_0.out z72 (x5_1 : Int) p5 q5
          obtain rfl := k72_openM hM5
          have hx5_0 : wr.cell? ⟨go5, (x5_1 : Int).toNat * 2, none⟩ = some (.int .i64 ((rd_T72 x0_1 x5_1).f0)) := hcc5 0 _ rfl
          have hx5_1 : wr.cell? ⟨go5, (x5_1 : Int).toNat * 2 + 1, none⟩ = some (.int .i64 ((rd_T72 x0_1 x5_1).f1)) := hcc5 1 _ rfl
          have hf5_0 : wr.frozen? ⟨go5, (x5_1 : Int).toNat * 2, none⟩ = false := hfr5 0
          have hf5_1 : wr.frozen? ⟨go5, (x5_1 : Int).toNat * 2 + 1, none⟩ = false := hfr5 1
          clear hcl5 hcc5 hfr5 hM5
          replace p5 := eq_true p5
          replace q5 := eq_true q5
          have HX8 := Aside0.mk (show Kd.R k72 72 wr w0.heap.size (fun k_ => (P0_ k_ ∨ w.heap.size ≤ k_)) (.slice (some ⟨go5, 0, none⟩) x0_1.length co7) x0_1 from (by (with_reducible repeat (first | apply Kd.R_alloc | apply Kd.R_drewN | apply Kd.R_drew)); exact HO_0.out))
          obtain ⟨ce8, hcl8, hM8, hcc8, hfr8⟩ := Kd.R_elem HX8.out z72 (x5_1 : Int) (of_decide_eq_true (by first | (with_reducible assumption) | assumption)) (by have h_ : (x5_1 : Int) < ((x0_1.length : Int) : Int) := of_decide_eq_true (by first | (with_reducible assumption) | assumption); first | exact h_ | (have e_ := (Kd.R_reads' HO_0.out).1; omega) | simpa using h_)
          obtain rfl := k72_openM hM8
          have HP8 := Kd.R_seg HX8.out (x5_1 : Int) (of_decide_eq_true (by first | (with_reducible assumption) | assumption)) (by have h_ : (x5_1 : Int) < ((x0_1.length : Int) : Int) := of_decide_eq_true (by first | (with_reducible assumption) | assumption); first | exact h_ | (have e_ := (Kd.R_reads' HO_0.out).1; omega) | simpa using h_) (seg := [.int .i64 x1_1]) (j := 0) hcl8 hcc8 (show 1 ≤ 2 from by decide) (x' := (⟨x1_1, (rd_T72 x0_1 x5_1).f1⟩ : S72)) (k72_mkM _ _ _ (⟨x1_1, (rd_T72 x0_1 x5_1).f1⟩ : S72) ) (fun _ hk => hk)
          have hx8_0 := hcc8 0 _ rfl
          (try simp only [show (k72).sz = 2 from rfl, Nat.mul_one, Nat.add_zero] at hx8_0)
          have hf8_0 := hfr8 0
          (try simp only [show (k72).sz = 2 from rfl, Nat.mul_one, Nat.add_zero] at hf8_0)
          clear hcl8 hcc8 hfr8 hM8
          go_wp2_with (first | ((with_reducible refine gate_store (t := 2) (p := 16) rfl ?_); refine store_event (t := 2) (p := 16) (v := ?vo_w9) (w1 := (wr.setCell ⟨go5, (x5_1 : Int).toNat * 2, none⟩ (.int .i64 x1_1))) ?hg ?ho ?hn ?hr ?_; (case ho => rfl); (case hg => rfl); (case hn => rfl); (case hr => first | (go_simp; done) | (go_simp; rfl)); intro w9 hw; have hg : wr.grownBy w9 (some go5) := (by rw [hw]; exact HP8.2); have hp_ : Kd.R k72 72 w9 w0.heap.size (fun k_ => (P0_ k_ ∨ w.heap.size ≤ k_)) (.slice (some ⟨go5, 0, none⟩) x0_1.length co7) y1207 := (by rw [hw, Ny1207.out]; exact HP8.1); clear HP8; have n0_ := Aside0.mk (hp_); have n1_ := Aside0.mk ((by rw [hw]; exact below_set (HB.out) GB5.out : Below w0.heap.size w0 w9)); have n2_ := Aside0.mk (Kept.of_grown (S := (fun k_ => P0_ k_)) hg (by repeat (first | (with_reducible first | exact HK.out | apply Kept.alloc | apply Kept.drewN | apply Kept.drew) | exact HK.out)) (fun k_ e_ => (HO_0.out.1 k_ e_))); clear HO_0; clear HB; clear HK; have HO_0 := n0_; have HB := n1_; have HK := n2_; clear n0_ n1_ n2_; clear hg hw hp_; have p6 : 0 ≤ (x5_1 : Int) := of_decide_eq_true (by first | (with_reducible assumption) | assumption); have q6 : (x5_1 : Int) < ((x0_1.length : Int) : Int) := of_decide_eq_true (by first | (with_reducible assumption) | assumption); obtain ⟨ce6, hcl6, hM6, hcc6, hfr6⟩ := Kd.R_elem HO_0.out z72 (x5_1 : Int) p6 q6; obtain rfl := k72_openM hM6; have hx6_0 : w9.cell? ⟨go5, (x5_1 : Int).toNat * 2, none⟩ = some (.int .i64 ((rd_T72 y1207 x5_1).f0)) := hcc6 0 _ rfl; have hx6_1 : w9.cell? ⟨go5, (x5_1 : Int).toNat * 2 + 1, none⟩ = some (.int .i64 ((rd_T72 y1207 x5_1).f1)) := hcc6 1 _ rfl; have hf6_0 : w9.frozen? ⟨go5, (x5_1 : Int).toNat * 2, none⟩ = false := hfr6 0; have hf6_1 : w9.frozen? ⟨go5, (x5_1 : Int).toNat * 2 + 1, none⟩ = false := hfr6 1; clear hcl6 hcc6 hfr6 hM6; replace p6 := eq_true p6; replace q6 := eq_true q6; have HX10 := Aside0.mk (show Kd.R k72 72 w9 w0.heap.size (fun k_ => (P0_ k_ ∨ w.heap.size ≤ k_)) (.slice (some ⟨go5, 0, none⟩) x0_1.length co7) y1207 from (by (with_reducible repeat (first | apply Kd.R_alloc | apply Kd.R_drewN | apply Kd.R_drew)); exact HO_0.out)); obtain ⟨ce10, hcl10, hM10, hcc10, hfr10⟩ := Kd.R_elem HX10.out z72 (x5_1 : Int) (of_decide_eq_true (by first | (with_reducible assumption) | assumption)) (by have h_ : (x5_1 : Int) < ((x0_1.length : Int) : Int) := of_decide_eq_true (by first | (with_reducible assumption) | assumption); first | exact h_ | (have e_ := (Kd.R_reads' HO_0.out).1; omega) | simpa using h_); obtain rfl := k72_openM hM10; have HP10 := Kd.R_seg HX10.out (x5_1 : Int) (of_decide_eq_true (by first | (with_reducible assumption) | assumption)) (by have h_ : (x5_1 : Int) < ((x0_1.length : Int) : Int) := of_decide_eq_true (by first | (with_reducible assumption) | assumption); first | exact h_ | (have e_ := (Kd.R_reads' HO_0.out).1; omega) | simpa using h_) (seg := [.int .i64 (wrap64 (x1_1 + 1))]) (j := 1) hcl10 hcc10 (show 2 ≤ 2 from by decide) (x' := (⟨(rd_T72 y1207 x5_1).f0, wrap64 (x1_1 + 1)⟩ : S72)) (k72_mkM _ _ _ (⟨(rd_T72 y1207 x5_1).f0, wrap64 (x1_1 + 1)⟩ : S72) ) (fun _ hk => hk); have hx10_1 := hcc10 1 _ rfl; (try simp only [show (k72).sz = 2 from rfl, Nat.mul_one, Nat.add_zero] at hx10_1); have hf10_1 := hfr10 1; (try simp only [show (k72).sz = 2 from rfl, Nat.mul_one, Nat.add_zero] at hf10_1); clear hcl10 hcc10 hfr10 hM10) | ((with_reducible refine gate_store (t := 2) (p := 23) rfl ?_); refine store_event (t := 2) (p := 23) (v := ?vo_w11) (w1 := (w9.setCell ⟨go5, (x5_1 : Int).toNat * 2 + 1, none⟩ (.int .i64 (wrap64 (x1_1 + 1))))) ?hg ?ho ?hn ?hr ?_; (case ho => rfl); (case hg => rfl); (case hn => rfl); (case hr => first | (go_simp; done) | (go_simp; rfl)); intro w11 hw; have hg : w9.grownBy w11 (some go5) := (by rw [hw]; exact HP10.2); have hp_ : Kd.R k72 72 w11 w0.heap.size (fun k_ => (P0_ k_ ∨ w.heap.size ≤ k_)) (.slice (some ⟨go5, 0, none⟩) x0_1.length co7) y1208 := (by rw [hw, Ny1208.out]; exact HP10.1); clear HP10; have n0_ := Aside0.mk (hp_); have n1_ := Aside0.mk ((by rw [hw]; exact below_set (HB.out) GB5.out : Below w0.heap.size w0 w11)); have n2_ := Aside0.mk (Kept.of_grown (S := (fun k_ => P0_ k_)) hg (by repeat (first | (with_reducible first | exact HK.out | apply Kept.alloc | apply Kept.drewN | apply Kept.drew) | exact HK.out)) (fun k_ e_ => (HO_0.out.1 k_ e_))); clear HO_0; clear HB; clear HK; have HO_0 := n0_; have HB := n1_; have HK := n2_; clear n0_ n1_ n2_; clear hg hw hp_))
          go_roundg k1
          case measure => have := HK1.out; omega
          case rel => exact ⟨(y1208), (wrap64 ((wrap64 (x1_1 + 1)) + 1)), (wrap64 (x5_1 + 1)), (by first | rfl | (simp; done) | (simp [*]; done)), (by first | rfl | (simp; done) | (simp [*]; done)), H', ⟨by have := HK1.out; omega⟩, ⟨by (with_reducible repeat (first | apply Kd.R_alloc | apply Kd.R_drewN | apply Kd.R_drew)); exact HO_0.out⟩, ⟨by repeat (first | (with_reducible first | exact HK.out | apply Kept.alloc | apply Kept.drewN | apply Kept.drew) | exact HK.out)⟩, ⟨by repeat (first | (with_reducible first | exact HB.out | apply below_alloc | apply pw_below_drewN | apply below_drew1) | exact HB.out)⟩⟩
        · rw [if_neg c4] at H
          exact absurd H (by simp)
      · rw [if_neg c3] at H
        have c3b0 : decide (x5_1 < (x0_1.length : Int)) = false := decide_eq_false c3
        clear c3
        simp only [Option.some.injEq, Prod.mk.injEq] at H
        obtain ⟨rfl, rfl⟩ := H
        obtain ⟨Ao12, co12, eo12⟩ := Kd.R_slice HO_0.out
        subst eo12
        go_wp2
        go_ret
        exact ⟨by first | rfl | (simp [errW_none, errW_some] <;> rfl) | (simp [*, errW_none, errW_some] <;> rfl), by (with_reducible repeat (first | apply Kd.R_alloc | apply Kd.R_drewN | apply Kd.R_drew)); exact HO_0.out, by repeat (first | (with_reducible first | exact HB.out | apply below_alloc | apply pw_below_drewN | apply below_drew1) | exact HB.out), by repeat (first | (with_reducible first | exact HK.out | apply Kept.alloc | apply Kept.drewN | apply Kept.drew) | exact HK.out)⟩

end Go.Proofs.Ytoedcnhgobbnfaa.All

namespace Go.Proofs.Ytoedcnhgobbnfaa.All
open Go.RowKit Go.Proofs.YtoedcnhgobbnfaaW.PrintWords Go.Proofs.YtoedcnhgobbnfaaW.PrintLast Go.Proofs.YtoedcnhgobbnfaaW.PrintMore
attribute [local go_sem] max2_int min2_int max_two min_two max_three min_three max_four min_four   -- for this text's walks alone
set_option linter.unusedVariables false
set_option linter.unusedSimpArgs false

/-! ### laws_heldPlaceS: function 29 -/
def laws_heldPlaceS.l0 : Nat → List (S72) → Int → Int → Option (Int)
  | 0, _, _, _ => none
  | k + 1, x0, x1, x5 => if x5 < (x0.length : Int) then (if 0 ≤ x5 then (if ((rd_T72 x0 x5).f0) = x1 then (if ((rd_T72 x0 x5).f1) = (wrap64 (x1 + 1)) then (laws_heldPlaceS.l0 k x0 (wrap64 ((wrap64 (x1 + 1)) + 1)) (wrap64 (x5 + 1))) else (some (-1))) else (some (-1))) else (none)) else (some x1)
def laws_heldPlaceS.f (k : Nat) (l0 : List (S72)) (a1 : Int) : Option (Int) := laws_heldPlaceS.l0 k l0 a1 0
set_option maxHeartbeats 8000000 in
set_option maxRecDepth 100000 in
theorem laws_heldPlaceS.calls (k : Nat) (A0 : Option Addr) (c0 : Nat) (l0 : List (S72)) (a1 : Int) (r : Int) (w : World) (hr0 : Kd.C k72 w A0 l0.length l0) (hc0 : l0.length ≤ c0) (h : laws_heldPlaceS.f k l0 a1 = some r) :
    Calls Try.prog 29 #[.slice A0 l0.length c0, .int .i64 a1] w fun e w' => e = .returned (.int .i64 r) ∧ Drawn0 w w' := by
  have HR0 := Aside0.mk hr0
  have HC0 := Aside0.mk hc0
  clear hr0 hc0
  have H : (laws_heldPlaceS.l0 k l0 a1 0) = some r := h
  clear h
  have H' := Aside0.mk H
  clear H
  go_enter Try.func29, Try.ntmps29
  go_wp2
  go_loopg [1, 5] k (fun kq v1 v5 w' => ∃ (x1_1 : Int) (x5_1 : Int), v1 = .int .i64 x1_1 ∧ v5 = .int .i64 x5_1 ∧ Aside0 (laws_heldPlaceS.l0 kq l0 x1_1 x5_1 = some r) ∧ Aside0 (kq ≤ k) ∧ Drawn0 w w')
  case atStart => exact ⟨(a1), (0), (by first | rfl | (simp; done) | (simp [*]; done)), (by first | rfl | (simp; done) | (simp [*]; done)), H', ⟨Nat.le_refl _⟩, by repeat (first | exact Drawn0.refl _ | apply Drawn0.step)⟩
  case round =>
    clear H'
    try clear c2
    try clear p2
    obtain ⟨x1_1, x5_1, rfl, rfl, HA, HK1, ⟨m1, rfl⟩⟩ := hrel
    cases gk with
    | zero => exact absurd HA.out (by simp [laws_heldPlaceS.l0])
    | succ k1 =>
      have H := HA.out
      clear HA
      simp only [laws_heldPlaceS.l0] at H
      by_cases c3 : x5_1 < (l0.length : Int)
      · rw [if_pos c3] at H
        have c3b0 : decide (x5_1 < (l0.length : Int)) = true := decide_eq_true c3
        clear c3
        by_cases c4 : 0 ≤ x5_1
        · rw [if_pos c4] at H
          have c4b0 : decide (0 ≤ x5_1) = true := decide_eq_true c4
          clear c4
          by_cases c5 : ((rd_T72 l0 x5_1).f0) = x1_1
          · rw [if_pos c5] at H
            have c5b0 : (((rd_T72 l0 x5_1).f0) == x1_1) = true := beq_iff_eq.mpr c5
            have c5b1 : (((rd_T72 l0 x5_1).f0) != x1_1) = false := bne_eq_false_iff_eq.mpr c5
            clear c5
            by_cases c6 : ((rd_T72 l0 x5_1).f1) = (wrap64 (x1_1 + 1))
            · rw [if_pos c6] at H
              have c6b0 : (((rd_T72 l0 x5_1).f1) == (wrap64 (x1_1 + 1))) = true := beq_iff_eq.mpr c6
              have c6b1 : (((rd_T72 l0 x5_1).f1) != (wrap64 (x1_1 + 1))) = false := bne_eq_false_iff_eq.mpr c6
              clear c6
              have H' := Aside0.mk H
              clear H
              have p1209 : 0 ≤ (x5_1 : Int) := of_decide_eq_true (by first | (with_reducible assumption) | assumption)
              have q1209 : x5_1 < (l0.length : Int) := of_decide_eq_true (by first | (with_reducible assumption) | assumption)
              obtain ⟨ad1209, e1209, hx1209_0, hx1209_1⟩ := at_T72 HR0.out x5_1 p1209 q1209
              cases e1209
              replace p1209 := eq_true p1209
              replace q1209 := eq_true q1209
              have p1210 : 0 ≤ (x5_1 : Int) := of_decide_eq_true (by first | (with_reducible assumption) | assumption)
              have q1210 : x5_1 < (l0.length : Int) := of_decide_eq_true (by first | (with_reducible assumption) | assumption)
              obtain ⟨ad1210, e1210, hx1210_0, hx1210_1⟩ := at_T72 HR0.out x5_1 p1210 q1210
              obtain rfl : ad1209 = ad1210 := (by injection e1210)
              replace p1210 := eq_true p1210
              replace q1210 := eq_true q1210
              go_wp2
              go_roundg k1
              case measure => have := HK1.out; omega
              case rel => exact ⟨(wrap64 ((wrap64 (x1_1 + 1)) + 1)), (wrap64 (x5_1 + 1)), (by first | rfl | (simp; done) | (simp [*]; done)), (by first | rfl | (simp; done) | (simp [*]; done)), H', ⟨by have := HK1.out; omega⟩, by repeat (first | exact Drawn0.refl _ | apply Drawn0.step)⟩
            · rw [if_neg c6] at H
              have c6b0 : (((rd_T72 l0 x5_1).f1) == (wrap64 (x1_1 + 1))) = false := beq_eq_false_iff_ne.mpr c6
              have c6b1 : (((rd_T72 l0 x5_1).f1) != (wrap64 (x1_1 + 1))) = true := bne_iff_ne.mpr c6
              obtain rfl := Option.some.inj H
              have p1209 : 0 ≤ (x5_1 : Int) := of_decide_eq_true (by first | (with_reducible assumption) | assumption)
              have q1209 : x5_1 < (l0.length : Int) := of_decide_eq_true (by first | (with_reducible assumption) | assumption)
              obtain ⟨ad1209, e1209, hx1209_0, hx1209_1⟩ := at_T72 HR0.out x5_1 p1209 q1209
              cases e1209
              replace p1209 := eq_true p1209
              replace q1209 := eq_true q1209
              have p1210 : 0 ≤ (x5_1 : Int) := of_decide_eq_true (by first | (with_reducible assumption) | assumption)
              have q1210 : x5_1 < (l0.length : Int) := of_decide_eq_true (by first | (with_reducible assumption) | assumption)
              obtain ⟨ad1210, e1210, hx1210_0, hx1210_1⟩ := at_T72 HR0.out x5_1 p1210 q1210
              obtain rfl : ad1209 = ad1210 := (by injection e1210)
              replace p1210 := eq_true p1210
              replace q1210 := eq_true q1210
              go_wp2
              go_ret
              exact ⟨by first | rfl | (simp; done) | (simp [*]; done), by repeat (first | exact Drawn0.refl _ | apply Drawn0.step)⟩
          · rw [if_neg c5] at H
            have c5b0 : (((rd_T72 l0 x5_1).f0) == x1_1) = false := beq_eq_false_iff_ne.mpr c5
            have c5b1 : (((rd_T72 l0 x5_1).f0) != x1_1) = true := bne_iff_ne.mpr c5
            obtain rfl := Option.some.inj H
            have p1209 : 0 ≤ (x5_1 : Int) := of_decide_eq_true (by first | (with_reducible assumption) | assumption)
            have q1209 : x5_1 < (l0.length : Int) := of_decide_eq_true (by first | (with_reducible assumption) | assumption)
            obtain ⟨ad1209, e1209, hx1209_0, hx1209_1⟩ := at_T72 HR0.out x5_1 p1209 q1209
            cases e1209
            replace p1209 := eq_true p1209
            replace q1209 := eq_true q1209
            go_wp2
            go_ret
            exact ⟨by first | rfl | (simp; done) | (simp [*]; done), by repeat (first | exact Drawn0.refl _ | apply Drawn0.step)⟩
        · rw [if_neg c4] at H
          exact absurd H (by simp)
      · rw [if_neg c3] at H
        have c3b0 : decide (x5_1 < (l0.length : Int)) = false := decide_eq_false c3
        clear c3
        obtain rfl := Option.some.inj H
        go_wp2
        go_ret
        exact ⟨by first | rfl | (simp; done) | (simp [*]; done), by repeat (first | exact Drawn0.refl _ | apply Drawn0.step)⟩

end Go.Proofs.Ytoedcnhgobbnfaa.All
