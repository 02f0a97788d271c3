/- Part 5 of the proof of FnExactOrder: functions of the translation with what they return, and plain laws of these. Written by programs of this session over the kit's print, and by hand. -/
import Derived.Test.YtoedcnhgobbnfaaProg
import Derived.Test.YtoedcnhgobbnfaaCFnExactOrderWApart
import Derived.Test.YtoedcnhgobbnfaaCFnExactOrderWArr
import Derived.Test.YtoedcnhgobbnfaaCFnExactOrderWAt
import Derived.Test.YtoedcnhgobbnfaaCFnExactOrderWFoot
import Derived.Test.YtoedcnhgobbnfaaCFnExactOrderWFootNe
import Derived.Test.YtoedcnhgobbnfaaCFnExactOrderWGuard
import Derived.Test.YtoedcnhgobbnfaaCFnExactOrderWKept
import Derived.Test.YtoedcnhgobbnfaaCFnExactOrderWLast
import Derived.Test.YtoedcnhgobbnfaaCFnExactOrderWMore
import Derived.Test.YtoedcnhgobbnfaaCFnExactOrderWN
import Derived.Test.YtoedcnhgobbnfaaCFnExactOrderWNEv
import Derived.Test.YtoedcnhgobbnfaaCFnExactOrderWQPut
import Derived.Test.YtoedcnhgobbnfaaCFnExactOrderWRepsOne
import Derived.Test.YtoedcnhgobbnfaaCFnExactOrderWShare
import Derived.Test.YtoedcnhgobbnfaaCFnExactOrderWTab
import Derived.Test.YtoedcnhgobbnfaaCFnExactOrderWWords
import Derived.Test.YtoedcnhgobbnfaaCFnExactOrderWZeros
import Derived.Below
import Derived.Deep.Draws
import Derived.Deep.AppendLies
import Derived.Maps.AppendAt
import Derived.OwnWalk
import Derived.Laws.BytesArg
import Derived.Laws.MakeOwn
import Derived.Laws.OwnMore
import Derived.Deep.OwnRows
import Derived.Tactics
import Derived.Lib.ConvBytes
import Derived.Laws.Slices
import Derived.WalkKit
import Derived.KernelRfl
import Derived.RowKit3
import Derived.Deep.LoopGhost
import Derived.Deep.QuietTactic
import Derived.BigQuiet
import Derived.WideLaws
import Derived.Deep.DeepCutAuto
import Derived.Deep.CutBlock
import Derived.Deep.RegionHeld3
import Derived.Laws.Rows
import Derived.Lib.AppendStr
import Derived.ArgAppend
import Derived.Laws.IdiomCopy
import Derived.OrdersHeld
import Derived.Laws.BitsLemmas
import Derived.RowKit
import Derived.Maps.OwnSet
import Derived.Maps.OwnOps
import Derived.OneCell
import Derived.BigRegion
import Derived.Deep.Slices
import Derived.ChangeArms
import Derived.ProofKit
import Derived.OpenShut
import Derived.ShutString
import Derived.ChangeOld
import Derived.SizedLaws
import Derived.Test.YtoedcnhgobbnfaaCFnExactOrder1
import Derived.Test.YtoedcnhgobbnfaaCFnExactOrder2
import Derived.Test.YtoedcnhgobbnfaaCFnExactOrder3
import Derived.Test.YtoedcnhgobbnfaaCFnExactOrder4
namespace Go.Proofs.Ytoedcnhgobbnfaa.All
open Go.RowKit Go.Proofs.YtoedcnhgobbnfaaW.PrintWords Go.Proofs.YtoedcnhgobbnfaaW.PrintLast Go.Proofs.YtoedcnhgobbnfaaW.PrintMore
attribute [local go_sem] max2_int min2_int max_two min_two max_three min_three max_four min_four   -- for this text's walks alone
set_option linter.unusedVariables false
set_option linter.unusedSimpArgs false

/-! ### impl_reached: function 49 -/
mutual
def impl_reached.j0 : Nat → Int → List Bool → Bool → ByteArray → Int → List Int → Int → List (S62) → Option (List Bool)
 | 0, _, _, _, _, _, _, _, _ => none
 | k + 1, x1, x5, x21, x242000, x242001, x242002, x242003, x242004 => if x21 = true then (some x5) else (if 0 < (x5.length : Int) then (impl_reached.l0 k x1 (x5.set (0 : Int).toNat true) (([0] : List Int)) x242000 x242001 x242002 x242003 x242004) else (none))
def impl_reached.l0 : Nat → Int → List Bool → List Int → ByteArray → Int → List Int → Int → List (S62) → Option (List Bool)
 | 0, _, _, _, _, _, _, _, _ => none
 | k + 1, x1, x5, x6, x242000, x242001, x242002, x242003, x242004 => if (x6.length : Int) > 0 then (if 0 ≤ (wrap64 ((x6.length : Int) - 1)) then (if (wrap64 ((x6.length : Int) - 1)) < (x6.length : Int) then (if (wrap64 ((x6.length : Int) - 1)) ≤ (x6.length : Int) then ((impl_NextBlocks.f x242000 x242001 x242002 x242003 x242004 (rd x6 (wrap64 ((x6.length : Int) - 1)))).bind fun t253 => (impl_reached.l1 k x1 x5 (x6.take ((wrap64 ((x6.length : Int) - 1)) : Int).toNat) t253 (t253.length : Int) 0 x242000 x242001 x242002 x242003 x242004)) else (none)) else (none)) else (none)) else (some x5)
def impl_reached.l1 : Nat → Int → List Bool → List Int → List Int → Int → Int → ByteArray → Int → List Int → Int → List (S62) → Option (List Bool)
 | 0, _, _, _, _, _, _, _, _, _, _, _ => none
 | k + 1, x1, x5, x6, x42, x43, x44, x242000, x242001, x242002, x242003, x242004 => if x44 < x43 then (if 0 ≤ x44 then (if x44 < (x42.length : Int) then (if 0 ≤ (rd x42 x44) then (if (rd x42 x44) < (x5.length : Int) then (if (rdOf false x5 (rd x42 x44) = true) then (impl_reached.l1 k x1 x5 x6 x42 x43 (wrap64 (x44 + 1)) x242000 x242001 x242002 x242003 x242004) else (if (rd x42 x44) = x1 then (impl_reached.l1 k x1 x5 x6 x42 x43 (wrap64 (x44 + 1)) x242000 x242001 x242002 x242003 x242004) else (if x6.length < 17592186044416 then (impl_reached.l1 k x1 (x5.set ((rd x42 x44) : Int).toNat true) (x6 ++ [rd x42 x44]) x42 x43 (wrap64 (x44 + 1)) x242000 x242001 x242002 x242003 x242004) else (none)))) else (none)) else (none)) else (none)) else (none)) else (impl_reached.l0 k x1 x5 x6 x242000 x242001 x242002 x242003 x242004)
end
def impl_reached.f (k : Nat) (a0_0 : ByteArray) (a0_1 : Int) (l0_2 : List Int) (a0_3 : Int) (l0_4 : List (S62)) (a1 : Int) : Option (List Bool) := if 0 ≤ (l0_4.length : Int) then (if ((l0_4.length : Int) : Int).toNat ≤ 281474976710656 then ((some (List.replicate ((l0_4.length : Int) : Int).toNat false : List Bool)).bind fun y242 => (if (l0_4.length : Int) = 0 then (impl_reached.j0 k a1 y242 true a0_0 a0_1 l0_2 a0_3 l0_4) else (impl_reached.j0 k a1 y242 (a1 == 0) a0_0 a0_1 l0_2 a0_3 l0_4))) else (none)) else (none)
set_option maxHeartbeats 8000000 in
set_option maxRecDepth 100000 in
theorem impl_reached.calls (k : Nat) (a0_0 : ByteArray) (a0_1 : Int) (A0_2 : Option Addr) (c0_2 : Nat) (l0_2 : List Int) (a0_3 : Int) (A0_4 : Option Addr) (c0_4 : Nat) (l0_4 : List (S62)) (a1 : Int) (r : List Bool) (w : World) (hr0_2 : Kd.C (Kd.int .i64) w A0_2 l0_2.length l0_2) (hc0_2 : l0_2.length ≤ c0_2) (hr0_4 : Kd.C k62 w A0_4 l0_4.length l0_4) (hc0_4 : l0_4.length ≤ c0_4) (h : impl_reached.f k a0_0 a0_1 l0_2 a0_3 l0_4 a1 = some r) :
 Calls Try.prog 49 #[.agg #[.string a0_0, .int .i64 a0_1, .slice A0_2 l0_2.length c0_2, .int .i64 a0_3, .slice A0_4 l0_4.length c0_4], .int .i64 a1] w fun e w' => ∃ v0_ : Value, e = .returned (v0_) ∧ Kd.R Kd.bool 4 w' w.heap.size (fun _ => True) v0_ r ∧ Below w.heap.size w w' := by
 have hu30 := Try.underlying30
 have HR0_2 := Aside0.mk hr0_2
 have HC0_2 := Aside0.mk hc0_2
 clear hr0_2 hc0_2
 have HR0_4 := Aside0.mk hr0_4
 have HC0_4 := Aside0.mk hc0_4
 clear hr0_4 hc0_4
 have HB := Aside0.mk (Below.refl w.heap.size w)
 have H : (if 0 ≤ (l0_4.length : Int) then (if ((l0_4.length : Int) : Int).toNat ≤ 281474976710656 then ((some (List.replicate ((l0_4.length : Int) : Int).toNat false : List Bool)).bind fun y242 => (if (l0_4.length : Int) = 0 then (impl_reached.j0 k a1 y242 true a0_0 a0_1 l0_2 a0_3 l0_4) else (impl_reached.j0 k a1 y242 (a1 == 0) a0_0 a0_1 l0_2 a0_3 l0_4))) else (none)) else (none)) = some r := h
 clear h
 by_cases c3 : 0 ≤ (l0_4.length : Int)
 · rw [if_pos c3] at H
   have c3b0 := eq_true c3
   have c3b1 : decide (0 ≤ (l0_4.length : Int)) = true := decide_eq_true c3
   clear c3
   by_cases c4 : ((l0_4.length : Int) : Int).toNat ≤ 281474976710656
   · rw [if_pos c4] at H
     have c4b0 := eq_true c4
     have c4b1 : decide (((l0_4.length : Int) : Int).toNat ≤ 281474976710656) = true := decide_eq_true c4
     clear c4
     obtain ⟨y242, hy242⟩ : ∃ y_ : List Bool, y_ = (List.replicate ((l0_4.length : Int) : Int).toNat false) := ⟨_, rfl⟩
     replace H : (if (l0_4.length : Int) = 0 then (impl_reached.j0 k a1 y242 true a0_0 a0_1 l0_2 a0_3 l0_4) else (impl_reached.j0 k a1 y242 (a1 == 0) a0_0 a0_1 l0_2 a0_3 l0_4)) = some r := by first | (rw [hy242]; with_reducible exact H) | (have H2_ := (Option.bind_some _ _).symm.trans H; rw [hy242]; with_reducible exact H2_) | (have H2_ := (Option.bind_some _ _).symm.trans H; with_reducible exact H2_) | with_reducible exact H | (rw [hy242]; exact H) | exact H
     have Ny242 := Aside0.mk hy242
     clear hy242
     have HC5 := Aside0.mk H
     clear H
     go_enter Try.func49, Try.ntmps49
     go_upto_region 2 with (first | ((with_reducible refine gate_dst (N := 2) rfl ?_); refine box_event ?hg (N := 2) ?hd (cs := #[.string a0_0, .int .i64 a0_1, .slice A0_2 l0_2.length c0_2, .int .i64 a0_3, .slice A0_4 l0_4.length c0_4]) (t := 30) ?hr ?_; (case hd => rfl); (case hg => rfl); (case hr => first | (go_simp; done) | (go_simp; rfl)); intro gb241 hg w6 hbox hb; have n0_ := Aside0.mk (below_step (by repeat (first | (with_reducible first | exact HB.out | apply below_alloc | apply pw_below_drewN | apply below_drew1) | exact HB.out)) hb); have n1_ := Aside0.mk (hbox); have n2_ := Aside0.mk ((by rw [hg]; exact (below_size (by repeat (first | (with_reducible first | exact HB.out | apply below_alloc | apply pw_below_drewN | apply below_drew1) | exact HB.out))) : w.heap.size ≤ gb241)); have n3_ := Aside0.mk ((by rw [hg]; exact (below_size (by repeat (first | (with_reducible first | exact HB.out | apply below_alloc | apply pw_below_drewN | apply below_drew1) | exact HB.out))) : w.heap.size ≤ gb241)); clear HB; have HB := n0_; have BK241 := n1_; have GW241 := n2_; have GE241 := n3_; clear n0_ n1_ n2_ n3_; clear hb hbox hg; have hcz7_0 : w6.cell? ⟨gb241, 0, none⟩ = some (.string a0_0) := (blk_cell BK241.out 0).trans rfl; have hcz7_1 : w6.cell? ⟨gb241, 1, none⟩ = some (.int .i64 a0_1) := (blk_cell BK241.out 1).trans rfl; have hcz7_2 : w6.cell? ⟨gb241, 2, none⟩ = some (.slice A0_2 l0_2.length c0_2) := (blk_cell BK241.out 2).trans rfl; have hcz7_3 : w6.cell? ⟨gb241, 3, none⟩ = some (.int .i64 a0_3) := (blk_cell BK241.out 3).trans rfl; have hcz7_4 : w6.cell? ⟨gb241, 4, none⟩ = some (.slice A0_4 l0_4.length c0_4) := (blk_cell BK241.out 4).trans rfl; have hfz7_0 := blk_frozen BK241.out 0; have hfz7_1 := blk_frozen BK241.out 1; have hfz7_2 := blk_frozen BK241.out 2; have hfz7_3 := blk_frozen BK241.out 3; have hfz7_4 := blk_frozen BK241.out 4) | ((with_reducible refine gate_dst (N := 13) rfl ?_); refine Kd.R_make Kd.bool _ 4 rfl (N := 13) rfl 54 _ _ rfl (l0_4.length : Int) rfl rfl Try.underlying54 (.bool false) 1 info4 rfl (by decide) (by omega) false (ok := fun _ => True) (okp := fun _ => True) rfl (fun _ hk => hk) trivial (of_decide_eq_true (by first | (with_reducible assumption) | assumption)) (Nat.le_trans (Nat.mul_le_mul_right _ (of_decide_eq_true (by first | (with_reducible assumption) | assumption) : (l0_4.length : Int).toNat ≤ 281474976710656)) (by omega)) (Below.refl _ _) (Nat.le_refl _) ?_; intro v243 w8 ho9 hb hg_ hnew_; clear hg_ hnew_; (first | rw [← Ny242.out] at ho9 | (simp only [Int.reduceToNat] at ho9; rw [← Ny242.out] at ho9)); have n0_ := Aside0.mk (Kd.R_lower ho9 (below_size (by repeat (first | (with_reducible first | exact HB.out | apply below_alloc | apply pw_below_drewN | apply below_drew1 | refine below_set ?_ GE241.out) | exact HB.out)))); have n1_ := Aside0.mk (blk_below (g := gb241) (o := .cells #[.string a0_0, .int .i64 a0_1, .slice A0_2 l0_2.length c0_2, .int .i64 a0_3, .slice A0_4 l0_4.length c0_4] 30 (0, 0)) (by (with_reducible repeat (first | refine blk_drewN ?_ _ | refine blk_drew ?_ | refine blk_alloc ?_ _)); exact BK241.out) hb); have n2_ := Aside0.mk (below_step (by repeat (first | (with_reducible first | exact HB.out | apply below_alloc | apply pw_below_drewN | apply below_drew1 | refine below_set ?_ GE241.out) | exact HB.out)) hb); clear BK241; clear HB; have HO244 := n0_; have BK241 := n1_; have HB := n2_; clear n0_ n1_ n2_; clear hb ho9))
     (try simp only [Act.put, List.setIfInBounds_toArray, List.set_cons_zero, List.set_cons_succ])
     go_cut [21] (fun v21 wc => ∃ (kq : Nat) (x21_4 : Bool), v21 = .bool x21_4 ∧ Aside0 (impl_reached.j0 kq a1 y242 x21_4 a0_0 a0_1 l0_2 a0_3 l0_4 = some r) ∧ Aside0 (kq ≤ k) ∧ Aside0 (Kd.R Kd.bool 4 wc w.heap.size (fun _ => True) v243 y242) ∧ Aside0 (wc.heap[gb241]? = some (.cells #[.string a0_0, .int .i64 a0_1, (.slice A0_2 l0_2.length c0_2), .int .i64 a0_3, (.slice A0_4 l0_4.length c0_4)] 30 (0, 0))) ∧ Aside0 (Below w.heap.size w wc))
     case first =>
      have H := HC5.out
      clear HC5
      by_cases c10 : (l0_4.length : Int) = 0
      · rw [if_pos c10] at H
        have c10b0 : ((l0_4.length : Int) == 0) = true := beq_iff_eq.mpr c10
        have c10b1 : ((l0_4.length : Int) != 0) = false := bne_eq_false_iff_eq.mpr c10
        clear c10
        (first | rw [c10b0] | (simp only [i64_w, i32_w]; rw [c10b0]) | skip)
        have H' := Aside0.mk H
        clear H
        have hcz11_0 : w8.cell? ⟨gb241, 0, none⟩ = some (.string a0_0) := (blk_cell BK241.out 0).trans rfl
        have hcz11_1 : w8.cell? ⟨gb241, 1, none⟩ = some (.int .i64 a0_1) := (blk_cell BK241.out 1).trans rfl
        have hcz11_2 : w8.cell? ⟨gb241, 2, none⟩ = some (.slice A0_2 l0_2.length c0_2) := (blk_cell BK241.out 2).trans rfl
        have hcz11_3 : w8.cell? ⟨gb241, 3, none⟩ = some (.int .i64 a0_3) := (blk_cell BK241.out 3).trans rfl
        have hcz11_4 : w8.cell? ⟨gb241, 4, none⟩ = some (.slice A0_4 l0_4.length c0_4) := (blk_cell BK241.out 4).trans rfl
        have hfz11_0 := blk_frozen BK241.out 0
        have hfz11_1 := blk_frozen BK241.out 1
        have hfz11_2 := blk_frozen BK241.out 2
        have hfz11_3 := blk_frozen BK241.out 3
        have hfz11_4 := blk_frozen BK241.out 4
        go_wp2
        go_meet
        case rel => exact ⟨_, (true), (by first | rfl | (simp; done) | (simp [*]; done)), H', ⟨by first | omega | exact Nat.le_refl _⟩, ⟨by (with_reducible repeat (first | apply Kd.R_alloc | apply Kd.R_drewN | apply Kd.R_drew)); exact HO244.out⟩, ⟨by (with_reducible repeat (first | refine blk_drewN ?_ _ | refine blk_drew ?_ | refine blk_alloc ?_ _)); exact BK241.out⟩, ⟨by repeat (first | (with_reducible first | exact HB.out | apply below_alloc | apply pw_below_drewN | apply below_drew1 | refine below_set ?_ GE241.out) | exact HB.out)⟩⟩
      · rw [if_neg c10] at H
        have c10b0 : ((l0_4.length : Int) == 0) = false := beq_eq_false_iff_ne.mpr c10
        have c10b1 : ((l0_4.length : Int) != 0) = true := bne_iff_ne.mpr c10
        have c10b2 : ¬ (l0_4 = []) := fun h_ => c10 (by rw [h_]; rfl)
        (first | rw [c10b0] | (simp only [i64_w, i32_w]; rw [c10b0]) | skip)
        have H' := Aside0.mk H
        clear H
        have hcz12_0 : w8.cell? ⟨gb241, 0, none⟩ = some (.string a0_0) := (blk_cell BK241.out 0).trans rfl
        have hcz12_1 : w8.cell? ⟨gb241, 1, none⟩ = some (.int .i64 a0_1) := (blk_cell BK241.out 1).trans rfl
        have hcz12_2 : w8.cell? ⟨gb241, 2, none⟩ = some (.slice A0_2 l0_2.length c0_2) := (blk_cell BK241.out 2).trans rfl
        have hcz12_3 : w8.cell? ⟨gb241, 3, none⟩ = some (.int .i64 a0_3) := (blk_cell BK241.out 3).trans rfl
        have hcz12_4 : w8.cell? ⟨gb241, 4, none⟩ = some (.slice A0_4 l0_4.length c0_4) := (blk_cell BK241.out 4).trans rfl
        have hfz12_0 := blk_frozen BK241.out 0
        have hfz12_1 := blk_frozen BK241.out 1
        have hfz12_2 := blk_frozen BK241.out 2
        have hfz12_3 := blk_frozen BK241.out 3
        have hfz12_4 := blk_frozen BK241.out 4
        go_wp2
        go_meet
        case rel => exact ⟨_, ((a1 == 0)), (by first | rfl | (simp; done) | (simp [*]; done)), H', ⟨by first | omega | exact Nat.le_refl _⟩, ⟨by (with_reducible repeat (first | apply Kd.R_alloc | apply Kd.R_drewN | apply Kd.R_drew)); exact HO244.out⟩, ⟨by (with_reducible repeat (first | refine blk_drewN ?_ _ | refine blk_drew ?_ | refine blk_alloc ?_ _)); exact BK241.out⟩, ⟨by repeat (first | (with_reducible first | exact HB.out | apply below_alloc | apply pw_below_drewN | apply below_drew1 | refine below_set ?_ GE241.out) | exact HB.out)⟩⟩
     case rest =>
      clear HC5
      try clear c1
      try clear p2
      try clear c3
      try clear c3b0
      try clear c3b1
      try clear c4
      try clear c4b0
      try clear c4b1
      try clear c10
      try clear c10b0
      try clear c10b1
      try clear c10b2
      try clear hcz11_0
      try clear hcz11_1
      try clear hcz11_2
      try clear hcz11_3
      try clear hcz11_4
      try clear hcz12_0
      try clear hcz12_1
      try clear hcz12_2
      try clear hcz12_3
      try clear hcz12_4
      try clear hcz7_0
      try clear hcz7_1
      try clear hcz7_2
      try clear hcz7_3
      try clear hcz7_4
      try clear hfz11_0
      try clear hfz11_1
      try clear hfz11_2
      try clear hfz11_3
      try clear hfz11_4
      try clear hfz12_0
      try clear hfz12_1
      try clear hfz12_2
      try clear hfz12_3
      try clear hfz12_4
      try clear hfz7_0
      try clear hfz7_1
      try clear hfz7_2
      try clear hfz7_3
      try clear hfz7_4
      obtain ⟨kq, x21_4, rfl, HA, HJ4, HO_5, BK241, HB⟩ := hcut
      cases kq with
      | zero => exact absurd HA.out (by simp [impl_reached.j0])
      | succ kj4 =>
       have H := HA.out
       clear HA
       simp only [impl_reached.j0] at H
       by_cases c13 : x21_4 = true
       · subst c13
         have H1 : (some y242) = some r := by rw [if_pos rfl] at H; exact H
         clear H
         have H := H1
         clear H1
         obtain rfl := Option.some.inj H
         go_wp2
         go_ret
         exact ⟨_, by first | rfl | (simp [errW_none, errW_some] <;> rfl) | (simp [*, errW_none, errW_some] <;> rfl), by (with_reducible repeat (first | apply Kd.R_alloc | apply Kd.R_drewN | apply Kd.R_drew)); exact HO_5.out, by repeat (first | (with_reducible first | exact HB.out | apply below_alloc | apply pw_below_drewN | apply below_drew1 | refine below_set ?_ GE241.out) | exact HB.out)⟩
       · replace c13 := Bool.eq_false_iff.mpr c13
         subst c13
         have H1 : (if 0 < (y242.length : Int) then (impl_reached.l0 kj4 a1 (y242.set (0 : Int).toNat true) (([0] : List Int)) a0_0 a0_1 l0_2 a0_3 l0_4) else (none)) = some r := by rw [if_neg (show ¬ (false = true) by decide)] at H; exact H
         clear H
         have H := H1
         clear H1
         obtain ⟨y245, hy245⟩ : ∃ y_ : List Int, y_ = (([0] : List Int)) := ⟨_, rfl⟩
         replace H : (if 0 < (y242.length : Int) then (impl_reached.l0 kj4 a1 (y242.set (0 : Int).toNat true) y245 a0_0 a0_1 l0_2 a0_3 l0_4) else (none)) = some r := by first | (rw [hy245]; with_reducible exact H) | (have H2_ := (Option.bind_some _ _).symm.trans H; rw [hy245]; with_reducible exact H2_) | (have H2_ := (Option.bind_some _ _).symm.trans H; with_reducible exact H2_) | with_reducible exact H | (rw [hy245]; exact H) | exact H
         have Ny245 := Aside0.mk hy245
         clear hy245
         by_cases c14 : 0 < (y242.length : Int)
         · rw [if_pos c14] at H
           have c14b0 : decide (0 < (y242.length : Int)) = true := decide_eq_true c14
           have c14b1 : decide (0 < y242.length) = true := decide_eq_true (by omega)
           clear c14
           obtain ⟨y248, hy248⟩ : ∃ y_ : List Bool, y_ = (y242.set (0 : Int).toNat true) := ⟨_, rfl⟩
           replace H : (impl_reached.l0 kj4 a1 y248 y245 a0_0 a0_1 l0_2 a0_3 l0_4) = some r := by first | (rw [hy248]; with_reducible exact H) | (have H2_ := (Option.bind_some _ _).symm.trans H; rw [hy248]; with_reducible exact H2_) | (have H2_ := (Option.bind_some _ _).symm.trans H; with_reducible exact H2_) | with_reducible exact H | (rw [hy248]; exact H) | exact H
           have Ny248 := Aside0.mk hy248
           clear hy248
           have H' := Aside0.mk H
           clear H
           go_wp2_with (first | ((with_reducible refine gate_dst (N := 23) rfl ?_); refine Kd.R_lit (Kd.int .i64) _ 2 ?hg (N := 23) ?hd (xs := ([0] : List Int)) (inner := [.int .i64 0]) (ok := fun _ => True) (okp := fun _ => True) ?hr ?hp (fun _ hk => hk) trivial (Below.refl _ _) (Nat.le_refl _) (by simp) ?_; (case hd => rfl); (case hg => rfl); (case hr => first | (go_simp; done) | (go_simp; rfl)); (case hp => exact (Reps.one (show Kd.M (Kd.int .i64) _ _ _ 0 [.int .i64 0] from rfl) (Reps.none _ _))); intro v246 w16 ho17 hb hg_ hnew_; clear hg_ hnew_; (first | rw [← Ny245.out] at ho17 | (simp only [Int.reduceToNat] at ho17; rw [← Ny245.out] at ho17)); have n0_ := Aside0.mk (Kd.R_below (by (with_reducible repeat (first | apply Kd.R_alloc | apply Kd.R_drewN | apply Kd.R_drew)); exact HO_5.out) hb); have n1_ := Aside0.mk (Kd.R_lower ho17 (below_size (by repeat (first | (with_reducible first | exact HB.out | apply below_alloc | apply pw_below_drewN | apply below_drew1 | refine below_set ?_ GE241.out) | exact HB.out)))); have n2_ := Aside0.mk (blk_below (g := gb241) (o := .cells #[.string a0_0, .int .i64 a0_1, .slice A0_2 l0_2.length c0_2, .int .i64 a0_3, .slice A0_4 l0_4.length c0_4] 30 (0, 0)) (by (with_reducible repeat (first | refine blk_drewN ?_ _ | refine blk_drew ?_ | refine blk_alloc ?_ _)); exact BK241.out) hb); have n3_ := Aside0.mk (below_step (by repeat (first | (with_reducible first | exact HB.out | apply below_alloc | apply pw_below_drewN | apply below_drew1 | refine below_set ?_ GE241.out) | exact HB.out)) hb); clear HO_5; clear BK241; clear HB; have HO_5 := n0_; have HO247 := n1_; have BK241 := n2_; have HB := n3_; clear n0_ n1_ n2_ n3_; clear hb ho17; have p15 : 0 ≤ (0 : Int) := (by omega); have q15 : (0 : Int) < ((y242.length : Int) : Int) := of_decide_eq_true (by first | (with_reducible assumption) | assumption); have qi15 : (0 < y242.length) = True := eq_true (by omega); obtain ⟨go15, co15, eo15, gb15, gl15, cl15, HG15⟩ := Kd.R_form HO_5.out (by omega); (first | cases eo15 | (injection eo15 with ea_ en_ ec_; (first | subst ea_ | (injection ea_ with ea_; subst ea_)); subst ec_; clear en_)); have GB15 := Aside0.mk gb15; have GG15 := Aside0.mk HG15; clear gb15 gl15 HG15; obtain ⟨hx15_0, hf15_0⟩ := Kd.R_celln false HO_5.out (0 : Int) p15 q15; (try rw [show ((0 : Int)).toNat = 0 from rfl] at hx15_0); (try simp only [Nat.reduceMul, Nat.zero_mul, Nat.zero_add, Nat.reduceAdd] at hx15_0); (try rw [show ((0 : Int)).toNat = 0 from rfl] at hf15_0); (try simp only [Nat.reduceMul, Nat.zero_mul, Nat.zero_add, Nat.reduceAdd] at hf15_0); replace p15 := eq_true p15; replace q15 := eq_true q15; obtain ⟨hy18_, hz18_⟩ := Kd.R_celln false HO_5.out (0 : Int) (by omega) (of_decide_eq_true (by first | (with_reducible assumption) | assumption)); (try simp only [Int.reduceToNat, Int.toNat_zero, Int.toNat_ofNat, Nat.reduceMul, Nat.zero_mul, Nat.zero_add] at hy18_ hz18_); (try rw [show ((0 : Int)).toNat = 0 from rfl] at hy18_); (try rw [show ((0 : Int)).toNat = 0 from rfl] at hz18_); have HP18 := Kd.R_putg HO_5.out (0 : Int) true) | ((with_reducible refine gate_store (t := 4) (p := 25) rfl ?_); refine store_event (t := 4) (p := 25) (v := ?vo_w19) (w1 := (w16.setCell ⟨go15, (0 : Int).toNat, none⟩ (.bool true))) ?hg ?ho ?hn ?hr ?_; (case ho => rfl); (case hg => rfl); (case hn => rfl); (case hr => first | (go_simp; done) | (go_simp; rfl)); intro w19 hw; have hg : w16.grownBy w19 (some go15) := (by rw [hw]; exact HP18.2); have hp_ : Kd.R Kd.bool 4 w19 w.heap.size (fun _ => True) (.slice (some ⟨go15, 0, none⟩) y242.length co15) y248 := (by rw [hw, Ny248.out]; exact HP18.1); clear HP18; have n0_ := Aside0.mk (hp_); have n1_ := Aside0.mk (blk_grown (g := gb241) (o := .cells #[.string a0_0, .int .i64 a0_1, .slice A0_2 l0_2.length c0_2, .int .i64 a0_3, .slice A0_4 l0_4.length c0_4] 30 (0, 0)) (by (with_reducible repeat (first | refine blk_drewN ?_ _ | refine blk_drew ?_ | refine blk_alloc ?_ _)); exact BK241.out) hg (Kd.R_ne HO_5.out BK241.out (by decide))); have n2_ := Aside0.mk (Kd.R_over' (v := (.slice (some ⟨go15, 0, none⟩) y242.length co15)) (by (with_reducible repeat (first | apply Kd.R_alloc | apply Kd.R_drewN | apply Kd.R_drew)); exact HO247.out) (Kd.R_typed HO_5.out) (by decide) hg); have n3_ := Aside0.mk ((by rw [hw]; exact below_set (HB.out) GB15.out : Below w.heap.size w w19)); clear HO_5; clear BK241; clear HO247; clear HB; have HO_5 := n0_; have BK241 := n1_; have HO247 := n2_; have HB := n3_; clear n0_ n1_ n2_ n3_; clear hg hw hp_))
           go_loopg [6] kj4 (fun kq v6 w' => ∃ (x5_2 : List Bool) (x6_2 : List Int), Aside0 (impl_reached.l0 kq a1 x5_2 x6_2 a0_0 a0_1 l0_2 a0_3 l0_4 = some r) ∧ Aside0 (kq ≤ kj4) ∧ Aside0 (Kd.R Kd.bool 4 w' w.heap.size (fun _ => True) (.slice (some ⟨go15, 0, none⟩) y242.length co15) x5_2) ∧ Aside0 (Kd.R (Kd.int .i64) 2 w' w.heap.size (fun _ => True) v6 x6_2) ∧ Aside0 (w'.heap[gb241]? = some (.cells #[.string a0_0, .int .i64 a0_1, (.slice A0_2 l0_2.length c0_2), .int .i64 a0_3, (.slice A0_4 l0_4.length c0_4)] 30 (0, 0))) ∧ Aside0 (Below w.heap.size w w'))
           case atStart => exact ⟨(y248), (y245), H', ⟨Nat.le_refl _⟩, ⟨by (with_reducible repeat (first | apply Kd.R_alloc | apply Kd.R_drewN | apply Kd.R_drew)); exact HO_5.out⟩, ⟨by (with_reducible repeat (first | apply Kd.R_alloc | apply Kd.R_drewN | apply Kd.R_drew)); exact HO247.out⟩, ⟨by (with_reducible repeat (first | refine blk_drewN ?_ _ | refine blk_drew ?_ | refine blk_alloc ?_ _)); exact BK241.out⟩, ⟨by repeat (first | (with_reducible first | exact HB.out | apply below_alloc | apply pw_below_drewN | apply below_drew1 | refine below_set ?_ GE241.out) | exact HB.out)⟩⟩
           case round =>
            clear H'
            try clear c1
            try clear p1
            try clear q1
            try clear hx1
            try clear qi1
            try clear p2
            try clear c3
            try clear c3b0
            try clear c3b1
            try clear c4
            try clear c4b0
            try clear c4b1
            try clear c10
            try clear c10b0
            try clear c10b1
            try clear c10b2
            try clear c13
            try clear c14
            try clear c14b0
            try clear c14b1
            try clear p15
            try clear q15
            try clear hx15
            try clear qi15
            try clear hf15
            try clear hcz11_0
            try clear hcz11_1
            try clear hcz11_2
            try clear hcz11_3
            try clear hcz11_4
            try clear hcz12_0
            try clear hcz12_1
            try clear hcz12_2
            try clear hcz12_3
            try clear hcz12_4
            try clear hcz7_0
            try clear hcz7_1
            try clear hcz7_2
            try clear hcz7_3
            try clear hcz7_4
            try clear hfz11_0
            try clear hfz11_1
            try clear hfz11_2
            try clear hfz11_3
            try clear hfz11_4
            try clear hfz12_0
            try clear hfz12_1
            try clear hfz12_2
            try clear hfz12_3
            try clear hfz12_4
            try clear hfz7_0
            try clear hfz7_1
            try clear hfz7_2
            try clear hfz7_3
            try clear hfz7_4
            try clear hx15_0
            try clear p15
            try clear p2
            try clear q15
            obtain ⟨x5_2, x6_2, HA, HK2, HO_5, HO_6, BK241, HB⟩ := hrel
            have hl5_2 := (Kd.R_reads' HO_5.out).1
            rw [hl5_2] at HO_5
            (try simp only [hl5_2])
            (try simp only [hl5_2] at BK241)
            (try simp only [hl5_2] at HO_6)
            cases gk with
            | zero => exact absurd HA.out (by simp [impl_reached.l0])
            | succ k2 =>
             have H := HA.out
             clear HA
             simp only [impl_reached.l0] at H
             by_cases c20 : (x6_2.length : Int) > 0
             · rw [if_pos c20] at H
               have c20b0 : decide (0 < (x6_2.length : Int)) = true := decide_eq_true c20
               have c20b1 : decide (0 < x6_2.length) = true := decide_eq_true (by omega)
               clear c20
               obtain ⟨ji21, hji21⟩ : ∃ j_ : Int, (wrap64 ((x6_2.length : Int) - 1)) = j_ := ⟨_, rfl⟩
               replace H : (if 0 ≤ (ji21) then (if (ji21) < (x6_2.length : Int) then (if (ji21) ≤ (x6_2.length : Int) then ((impl_NextBlocks.f a0_0 a0_1 l0_2 a0_3 l0_4 (rd x6_2 (ji21))).bind fun t253 => (impl_reached.l1 k2 a1 x5_2 (x6_2.take ((ji21) : Int).toNat) t253 (t253.length : Int) 0 a0_0 a0_1 l0_2 a0_3 l0_4)) else (none)) else (none)) else (none)) = some r := by first | (rw [hji21] at H; exact H) | (simp only [hji21] at H ⊢; exact H)
               have hji21w : (IntKind.i64.wrap ((x6_2.length : Int) - 1)) = ji21 := (i64_w _).trans hji21
               by_cases c22 : 0 ≤ (ji21)
               · rw [if_pos c22] at H
                 have c22b0 : decide (0 ≤ (ji21)) = true := decide_eq_true c22
                 clear c22
                 by_cases c23 : (ji21) < (x6_2.length : Int)
                 · rw [if_pos c23] at H
                   have c23b0 : decide ((ji21) < (x6_2.length : Int)) = true := decide_eq_true c23
                   clear c23
                   by_cases c24 : (ji21) ≤ (x6_2.length : Int)
                   · rw [if_pos c24] at H
                     have c24b0 := eq_true c24
                     have c24b1 : decide ((ji21) ≤ (x6_2.length : Int)) = true := decide_eq_true c24
                     clear c24
                     obtain ⟨y250, hy250⟩ : ∃ y_ : List Int, y_ = (x6_2.take ((ji21) : Int).toNat) := ⟨_, rfl⟩
                     replace H : ((impl_NextBlocks.f a0_0 a0_1 l0_2 a0_3 l0_4 (rd x6_2 (ji21))).bind fun t253 => (impl_reached.l1 k2 a1 x5_2 y250 t253 (t253.length : Int) 0 a0_0 a0_1 l0_2 a0_3 l0_4)) = some r := by first | (rw [hy250]; with_reducible exact H) | (have H2_ := (Option.bind_some _ _).symm.trans H; rw [hy250]; with_reducible exact H2_) | (have H2_ := (Option.bind_some _ _).symm.trans H; with_reducible exact H2_) | with_reducible exact H | (rw [hy250]; exact H) | exact H
                     have Ny250 := Aside0.mk hy250
                     clear hy250
                     replace H := Option.bind_eq_some_iff.mp H
                     obtain ⟨t253, A250, H⟩ := H
                     replace H : (impl_reached.l1 k2 a1 x5_2 y250 t253 (t253.length : Int) 0 a0_0 a0_1 l0_2 a0_3 l0_4) = some r := H
                     have A25 := Aside0.mk A250
                     clear A250
                     have H' := Aside0.mk H
                     clear H
                     obtain ⟨Ao26, co26, eo26⟩ := Kd.R_slice HO_6.out
                     subst eo26
                     have p249 : 0 ≤ ((ji21) : Int) := of_decide_eq_true (by first | (with_reducible assumption) | assumption)
                     have q249 : (ji21) < (x6_2.length : Int) := of_decide_eq_true (by first | (with_reducible assumption) | assumption)
                     obtain ⟨ad249, e249, hx249_0⟩ := Kd.at_int (Kd.R_reads' HO_6.out).2.2 (ji21) p249 q249
                     cases e249
                     replace p249 := eq_true p249
                     replace q249 := eq_true q249
                     have q27 : ((ji21) : Int) ≤ ((x6_2.length : Int) : Int) := of_decide_eq_true (by first | (with_reducible assumption) | assumption)
                     obtain ⟨i027, hi027, _, hsz27, _⟩ := info_parts info2
                     have hcut27 := cut_to (P := Try.prog) 22 2 .i64 Try.underlying22 hi027 (some ad249) x6_2.length co26 (ji21) (of_decide_eq_true (by first | (with_reducible assumption) | assumption)) q27 (Kd.R_reads' HO_6.out).2.1
                     have hr27 := Kd.R_take (m := ((ji21) : Int).toNat) HO_6.out (by omega)
                     have hy27 : y250.length = ((ji21) : Int).toNat := (by rw [Ny250.out, List.length_take]; omega)
                     rw [← Ny250.out] at hr27
                     rw [← hy27] at hr27 hcut27
                     clear hy27 hi027 hsz27 HO_6
                     have HO252 := Aside0.mk hr27
                     clear hr27
                     replace q27 := eq_true q27
                     have hcz28_0 : wr.cell? ⟨gb241, 0, none⟩ = some (.string a0_0) := (blk_cell BK241.out 0).trans rfl
                     have hcz28_1 : wr.cell? ⟨gb241, 1, none⟩ = some (.int .i64 a0_1) := (blk_cell BK241.out 1).trans rfl
                     have hcz28_2 : wr.cell? ⟨gb241, 2, none⟩ = some (.slice A0_2 l0_2.length c0_2) := (blk_cell BK241.out 2).trans rfl
                     have hcz28_3 : wr.cell? ⟨gb241, 3, none⟩ = some (.int .i64 a0_3) := (blk_cell BK241.out 3).trans rfl
                     have hcz28_4 : wr.cell? ⟨gb241, 4, none⟩ = some (.slice A0_4 l0_4.length c0_4) := (blk_cell BK241.out 4).trans rfl
                     have hfz28_0 := blk_frozen BK241.out 0
                     have hfz28_1 := blk_frozen BK241.out 1
                     have hfz28_2 := blk_frozen BK241.out 2
                     have hfz28_3 := blk_frozen BK241.out 3
                     have hfz28_4 := blk_frozen BK241.out 4
                     go_wp2_with (first | ((with_reducible refine gate_callee (f := 18) rfl ?_); refine goesL_ (some 42) rfl rfl Try.func18 (by kernel_rfl) rfl #[.agg #[.string a0_0, .int .i64 a0_1, .slice A0_2 l0_2.length c0_2, .int .i64 a0_3, .slice A0_4 l0_4.length c0_4], .int .i64 (rd x6_2 (ji21))] rfl (by (try simp only [List.map_toArray, List.map_cons, List.map_nil]); first | done | (simp only [hji21]; rfl) | rfl | (simp only [List.length_drop, List.length_take]; rfl)) ?_; (with_reducible refine (impl_NextBlocks.calls a0_0 a0_1 _ _ l0_2 a0_3 _ _ l0_4 (rd x6_2 (ji21)) t253 _ ?side1 ?side2 ?side3 ?side4 A25.out).mono ?_); (case side1 => repeat (first | exact (Kd.C_below HR0_2.out HB.out) | (with_reducible refine Kd.C_alloc ?_ _) | (with_reducible refine Kd.C_drewN ?_ _) | (with_reducible refine Kd.C_drew ?_))); (case side2 => exact HC0_2.out); (case side3 => repeat (first | exact (Kd.C_below HR0_4.out HB.out) | (with_reducible refine Kd.C_alloc ?_ _) | (with_reducible refine Kd.C_drewN ?_ _) | (with_reducible refine Kd.C_drew ?_))); (case side4 => exact HC0_4.out); rintro e w29 ⟨v254, rfl, ho0, hb⟩; refine ⟨_, rfl, ?_⟩; have n0_ := Aside0.mk (Kd.R_below (by (with_reducible repeat (first | apply Kd.R_alloc | apply Kd.R_drewN | apply Kd.R_drew)); exact HO_5.out) hb); have n1_ := Aside0.mk (Kd.R_elder' (by (with_reducible repeat (first | apply Kd.R_alloc | apply Kd.R_drewN | apply Kd.R_drew)); exact HO252.out) (Kd.R_base ho0) hb); have n2_ := Aside0.mk (Kd.R_lower (Kd.R_new' ho0 (Kd.R_lt (by (with_reducible repeat (first | apply Kd.R_alloc | apply Kd.R_drewN | apply Kd.R_drew)); exact HO252.out))) (below_size (by repeat (first | (with_reducible first | exact HB.out | apply below_alloc | apply pw_below_drewN | apply below_drew1 | refine below_set ?_ GE241.out) | exact HB.out)))); have n3_ := Aside0.mk (blk_below (g := gb241) (o := .cells #[.string a0_0, .int .i64 a0_1, .slice A0_2 l0_2.length c0_2, .int .i64 a0_3, .slice A0_4 l0_4.length c0_4] 30 (0, 0)) (by (with_reducible repeat (first | refine blk_drewN ?_ _ | refine blk_drew ?_ | refine blk_alloc ?_ _)); exact BK241.out) hb); have n4_ := Aside0.mk (below_step (by repeat (first | (with_reducible first | exact HB.out | apply below_alloc | apply pw_below_drewN | apply below_drew1 | refine below_set ?_ GE241.out) | exact HB.out)) hb); clear HO_5; clear HO252; clear BK241; clear HB; have HO_5 := n0_; have HO252 := n1_; have HO255 := n2_; have BK241 := n3_; have HB := n4_; clear n0_ n1_ n2_ n3_ n4_; (try clear hb); (try clear hb2); (try clear hk); (try clear hi); (try clear ho0); obtain ⟨Ao30, co30, eo30⟩ := Kd.R_slice HO255.out; subst eo30))
                     go_loopg [6, 44] k2 (fun kq v6 v44 w' => ∃ (x5_3 : List Bool) (x6_3 : List Int) (x44_3 : Int), v44 = .int .i64 x44_3 ∧ Aside0 (impl_reached.l1 kq a1 x5_3 x6_3 t253 (t253.length : Int) x44_3 a0_0 a0_1 l0_2 a0_3 l0_4 = some r) ∧ Aside0 (kq ≤ k2) ∧ Aside0 (Kd.R Kd.bool 4 w' w.heap.size (fun _ => True) (.slice (some ⟨go15, 0, none⟩) x5_2.length co15) x5_3) ∧ Aside0 (Kd.R (Kd.int .i64) 2 w' w.heap.size (fun k_ => some k_ ≠ ((.slice Ao30 t253.length co30) : Value).ownBlock) v6 x6_3) ∧ Aside0 (Kd.R (Kd.int .i64) 2 w' w.heap.size (fun k_ => some k_ ≠ (v6 : Value).ownBlock) (.slice Ao30 t253.length co30) t253) ∧ Aside0 (w'.heap[gb241]? = some (.cells #[.string a0_0, .int .i64 a0_1, (.slice A0_2 l0_2.length c0_2), .int .i64 a0_3, (.slice A0_4 l0_4.length c0_4)] 30 (0, 0))) ∧ Aside0 (Below w.heap.size w w'))
                     case atStart => exact ⟨(x5_2), (y250), (0), (by first | rfl | (simp; done) | (simp [*]; done)), H', ⟨Nat.le_refl _⟩, ⟨by (try simp only [hl5_2]); (with_reducible repeat (first | apply Kd.R_alloc | apply Kd.R_drewN | apply Kd.R_drew)); exact HO_5.out⟩, ⟨by (try simp only [hl5_2]); (with_reducible repeat (first | apply Kd.R_alloc | apply Kd.R_drewN | apply Kd.R_drew)); exact Kd.R_mono HO252.out (fun _ hk => hk.2)⟩, ⟨by (try simp only [hl5_2]); (with_reducible repeat (first | apply Kd.R_alloc | apply Kd.R_drewN | apply Kd.R_drew)); exact Kd.R_mono HO255.out (fun _ hk => hk.2)⟩, ⟨by (try simp only [hl5_2]); (with_reducible repeat (first | refine blk_drewN ?_ _ | refine blk_drew ?_ | refine blk_alloc ?_ _)); exact BK241.out⟩, ⟨by repeat (first | (with_reducible first | exact HB.out | apply below_alloc | apply pw_below_drewN | apply below_drew1 | refine below_set ?_ GE241.out) | exact HB.out)⟩⟩
                     case round =>
                      clear H'
                      try clear c1
                      try clear p1
                      try clear q1
                      try clear hx1
                      try clear qi1
                      try clear c2
                      try clear p2
                      try clear q2
                      try clear hx2
                      try clear c3
                      try clear c3b0
                      try clear c3b1
                      try clear c4
                      try clear c4b0
                      try clear c4b1
                      try clear p6
                      try clear c10
                      try clear c10b0
                      try clear c10b1
                      try clear c10b2
                      try clear c13
                      try clear c14
                      try clear c14b0
                      try clear c14b1
                      try clear p15
                      try clear q15
                      try clear hx15
                      try clear qi15
                      try clear hf15
                      try clear c18
                      try clear c20
                      try clear c20b0
                      try clear c20b1
                      try clear c22
                      try clear c22b0
                      try clear c23
                      try clear c23b0
                      try clear c24
                      try clear c24b0
                      try clear c24b1
                      try clear p24
                      try clear q24
                      try clear hx24
                      try clear q27
                      try clear hcz11_0
                      try clear hcz11_1
                      try clear hcz11_2
                      try clear hcz11_3
                      try clear hcz11_4
                      try clear hcz12_0
                      try clear hcz12_1
                      try clear hcz12_2
                      try clear hcz12_3
                      try clear hcz12_4
                      try clear hcz28_0
                      try clear hcz28_1
                      try clear hcz28_2
                      try clear hcz28_3
                      try clear hcz28_4
                      try clear hcz7_0
                      try clear hcz7_1
                      try clear hcz7_2
                      try clear hcz7_3
                      try clear hcz7_4
                      try clear hfz11_0
                      try clear hfz11_1
                      try clear hfz11_2
                      try clear hfz11_3
                      try clear hfz11_4
                      try clear hfz12_0
                      try clear hfz12_1
                      try clear hfz12_2
                      try clear hfz12_3
                      try clear hfz12_4
                      try clear hfz28_0
                      try clear hfz28_1
                      try clear hfz28_2
                      try clear hfz28_3
                      try clear hfz28_4
                      try clear hfz7_0
                      try clear hfz7_1
                      try clear hfz7_2
                      try clear hfz7_3
                      try clear hfz7_4
                      try clear hx15_0
                      try clear hx249_0
                      try clear p1
                      try clear p15
                      try clear p2
                      try clear p249
                      try clear q1
                      try clear q15
                      try clear q249
                      try clear q27
                      obtain ⟨x5_3, x6_3, x44_3, rfl, HA, HK3, HO_5, HO_6, HO_42, BK241, HB⟩ := hrel
                      have hl5_3 := (Kd.R_reads' HO_5.out).1
                      rw [hl5_3] at HO_5
                      (try simp only [hl5_3])
                      (try simp only [hl5_3] at BK241)
                      (try simp only [hl5_3] at HO_6)
                      (try simp only [hl5_3] at HO_42)
                      cases gk with
                      | zero => exact absurd HA.out (by simp [impl_reached.l1])
                      | succ k3 =>
                       have H := HA.out
                       clear HA
                       simp only [impl_reached.l1] at H
                       by_cases c31 : x44_3 < (t253.length : Int)
                       · rw [if_pos c31] at H
                         have c31b0 : decide (x44_3 < (t253.length : Int)) = true := decide_eq_true c31
                         clear c31
                         by_cases c32 : 0 ≤ x44_3
                         · rw [if_pos c32] at H
                           have c32b0 : decide (0 ≤ x44_3) = true := decide_eq_true c32
                           clear c32
                           by_cases c33 : x44_3 < (t253.length : Int)
                           · rw [if_pos c33] at H
                             have c33b0 : decide (x44_3 < (t253.length : Int)) = true := decide_eq_true c33
                             clear c33
                             by_cases c34 : 0 ≤ (rd t253 x44_3)
                             · rw [if_pos c34] at H
                               have c34b0 : decide (0 ≤ (rd t253 x44_3)) = true := decide_eq_true c34
                               clear c34
                               by_cases c35 : (rd t253 x44_3) < (x5_3.length : Int)
                               · rw [if_pos c35] at H
                                 have c35b0 : decide ((rd t253 x44_3) < (x5_3.length : Int)) = true := decide_eq_true c35
                                 clear c35
                                 obtain ⟨bq36, hbq36⟩ : ∃ b_ : Bool, b_ = (rdOf false x5_3 (rd t253 x44_3)) := ⟨_, rfl⟩
                                 replace H : (if (bq36 = true) then (impl_reached.l1 k3 a1 x5_3 x6_3 t253 (t253.length : Int) (wrap64 (x44_3 + 1)) a0_0 a0_1 l0_2 a0_3 l0_4) else (if (rd t253 x44_3) = a1 then (impl_reached.l1 k3 a1 x5_3 x6_3 t253 (t253.length : Int) (wrap64 (x44_3 + 1)) a0_0 a0_1 l0_2 a0_3 l0_4) else (if x6_3.length < 17592186044416 then (impl_reached.l1 k3 a1 (x5_3.set ((rd t253 x44_3) : Int).toNat true) (x6_3 ++ [rd t253 x44_3]) t253 (t253.length : Int) (wrap64 (x44_3 + 1)) a0_0 a0_1 l0_2 a0_3 l0_4) else (none)))) = some r := by rw [← hbq36] at H; exact H
                                 have Nbq36 := Aside0.mk hbq36
                                 clear hbq36
                                 by_cases c37 : (bq36 = true)
                                 · subst c37
                                   have H1 : (impl_reached.l1 k3 a1 x5_3 x6_3 t253 (t253.length : Int) (wrap64 (x44_3 + 1)) a0_0 a0_1 l0_2 a0_3 l0_4) = some r := by rw [if_pos rfl] at H; exact H
                                   clear H
                                   have H := H1
                                   clear H1
                                   have H' := Aside0.mk H
                                   clear H
                                   have p256 : 0 ≤ (x44_3 : Int) := of_decide_eq_true (by first | (with_reducible assumption) | assumption)
                                   have q256 : x44_3 < (t253.length : Int) := of_decide_eq_true (by first | (with_reducible assumption) | assumption)
                                   obtain ⟨ad256, e256, hx256_0⟩ := Kd.at_int (Kd.R_reads' HO_42.out).2.2 x44_3 p256 q256
                                   cases e256
                                   replace p256 := eq_true p256
                                   replace q256 := eq_true q256
                                   have p257 : 0 ≤ ((rd t253 x44_3) : Int) := of_decide_eq_true (by first | (with_reducible assumption) | assumption)
                                   have q257 : (rd t253 x44_3) < (x5_3.length : Int) := of_decide_eq_true (by first | (with_reducible assumption) | assumption)
                                   obtain ⟨ad257, e257, hx257_0⟩ := Kd.at_bool (Kd.R_reads' HO_5.out).2.2 (rd t253 x44_3) p257 q257
                                   (try rw [← Nbq36.out] at hx257_0)
                                   obtain rfl : (⟨go15, 0, none⟩ : Addr) = ad257 := (by injection e257)
                                   (first | simp only [add_plain] at hx257_0 | simp only [add_at] at hx257_0 | simp only [Addr.add, Nat.zero_add] at hx257_0 | skip)
                                   replace p257 := eq_true p257
                                   replace q257 := eq_true q257
                                   go_wp2
                                   (try simp only [← hl5_3])
                                   go_roundg k3
                                   case measure => have := HJ4.out; have := HK2.out; have := HK3.out; omega
                                   case rel => exact ⟨(x5_3), (x6_3), (wrap64 (x44_3 + 1)), (by first | rfl | (simp; done) | (simp [*]; done)), H', ⟨by have := HJ4.out; have := HK2.out; have := HK3.out; omega⟩, ⟨by (try simp only [hl5_2]); (try simp only [hl5_3]); (with_reducible repeat (first | apply Kd.R_alloc | apply Kd.R_drewN | apply Kd.R_drew)); exact HO_5.out⟩, ⟨by (try simp only [hl5_2]); (try simp only [hl5_3]); (with_reducible repeat (first | apply Kd.R_alloc | apply Kd.R_drewN | apply Kd.R_drew)); exact HO_6.out⟩, ⟨by (try simp only [hl5_2]); (try simp only [hl5_3]); (with_reducible repeat (first | apply Kd.R_alloc | apply Kd.R_drewN | apply Kd.R_drew)); exact HO_42.out⟩, ⟨by (try simp only [hl5_2]); (try simp only [hl5_3]); (with_reducible repeat (first | refine blk_drewN ?_ _ | refine blk_drew ?_ | refine blk_alloc ?_ _)); exact BK241.out⟩, ⟨by repeat (first | (with_reducible first | exact HB.out | apply below_alloc | apply pw_below_drewN | apply below_drew1 | refine below_set ?_ GE241.out) | exact HB.out)⟩⟩
                                 · replace c37 := Bool.eq_false_iff.mpr c37
                                   subst c37
                                   have H1 : (if (rd t253 x44_3) = a1 then (impl_reached.l1 k3 a1 x5_3 x6_3 t253 (t253.length : Int) (wrap64 (x44_3 + 1)) a0_0 a0_1 l0_2 a0_3 l0_4) else (if x6_3.length < 17592186044416 then (impl_reached.l1 k3 a1 (x5_3.set ((rd t253 x44_3) : Int).toNat true) (x6_3 ++ [rd t253 x44_3]) t253 (t253.length : Int) (wrap64 (x44_3 + 1)) a0_0 a0_1 l0_2 a0_3 l0_4) else (none))) = some r := by rw [if_neg (show ¬ (false = true) by decide)] at H; exact H
                                   clear H
                                   have H := H1
                                   clear H1
                                   by_cases c38 : (rd t253 x44_3) = a1
                                   · rw [if_pos c38] at H
                                     have c38b0 : ((rd t253 x44_3) == a1) = true := beq_iff_eq.mpr c38
                                     have c38b1 : ((rd t253 x44_3) != a1) = false := bne_eq_false_iff_eq.mpr c38
                                     clear c38
                                     have H' := Aside0.mk H
                                     clear H
                                     have p256 : 0 ≤ (x44_3 : Int) := of_decide_eq_true (by first | (with_reducible assumption) | assumption)
                                     have q256 : x44_3 < (t253.length : Int) := of_decide_eq_true (by first | (with_reducible assumption) | assumption)
                                     obtain ⟨ad256, e256, hx256_0⟩ := Kd.at_int (Kd.R_reads' HO_42.out).2.2 x44_3 p256 q256
                                     cases e256
                                     replace p256 := eq_true p256
                                     replace q256 := eq_true q256
                                     have p257 : 0 ≤ ((rd t253 x44_3) : Int) := of_decide_eq_true (by first | (with_reducible assumption) | assumption)
                                     have q257 : (rd t253 x44_3) < (x5_3.length : Int) := of_decide_eq_true (by first | (with_reducible assumption) | assumption)
                                     obtain ⟨ad257, e257, hx257_0⟩ := Kd.at_bool (Kd.R_reads' HO_5.out).2.2 (rd t253 x44_3) p257 q257
                                     (try rw [← Nbq36.out] at hx257_0)
                                     obtain rfl : (⟨go15, 0, none⟩ : Addr) = ad257 := (by injection e257)
                                     (first | simp only [add_plain] at hx257_0 | simp only [add_at] at hx257_0 | simp only [Addr.add, Nat.zero_add] at hx257_0 | skip)
                                     replace p257 := eq_true p257
                                     replace q257 := eq_true q257
                                     go_wp2
                                     (try simp only [← hl5_3])
                                     go_roundg k3
                                     case measure => have := HJ4.out; have := HK2.out; have := HK3.out; omega
                                     case rel => exact ⟨(x5_3), (x6_3), (wrap64 (x44_3 + 1)), (by first | rfl | (simp; done) | (simp [*]; done)), H', ⟨by have := HJ4.out; have := HK2.out; have := HK3.out; omega⟩, ⟨by (try simp only [hl5_2]); (try simp only [hl5_3]); (with_reducible repeat (first | apply Kd.R_alloc | apply Kd.R_drewN | apply Kd.R_drew)); exact HO_5.out⟩, ⟨by (try simp only [hl5_2]); (try simp only [hl5_3]); (with_reducible repeat (first | apply Kd.R_alloc | apply Kd.R_drewN | apply Kd.R_drew)); exact HO_6.out⟩, ⟨by (try simp only [hl5_2]); (try simp only [hl5_3]); (with_reducible repeat (first | apply Kd.R_alloc | apply Kd.R_drewN | apply Kd.R_drew)); exact HO_42.out⟩, ⟨by (try simp only [hl5_2]); (try simp only [hl5_3]); (with_reducible repeat (first | refine blk_drewN ?_ _ | refine blk_drew ?_ | refine blk_alloc ?_ _)); exact BK241.out⟩, ⟨by repeat (first | (with_reducible first | exact HB.out | apply below_alloc | apply pw_below_drewN | apply below_drew1 | refine below_set ?_ GE241.out) | exact HB.out)⟩⟩
                                   · rw [if_neg c38] at H
                                     have c38b0 : ((rd t253 x44_3) == a1) = false := beq_eq_false_iff_ne.mpr c38
                                     have c38b1 : ((rd t253 x44_3) != a1) = true := bne_iff_ne.mpr c38
                                     obtain ⟨y258, hy258⟩ : ∃ y_ : List Bool, y_ = (x5_3.set ((rd t253 x44_3) : Int).toNat true) := ⟨_, rfl⟩
                                     replace H : (if x6_3.length < 17592186044416 then (impl_reached.l1 k3 a1 y258 (x6_3 ++ [rd t253 x44_3]) t253 (t253.length : Int) (wrap64 (x44_3 + 1)) a0_0 a0_1 l0_2 a0_3 l0_4) else (none)) = some r := by first | (rw [hy258]; with_reducible exact H) | (have H2_ := (Option.bind_some _ _).symm.trans H; rw [hy258]; with_reducible exact H2_) | (have H2_ := (Option.bind_some _ _).symm.trans H; with_reducible exact H2_) | with_reducible exact H | (rw [hy258]; exact H) | exact H
                                     have Ny258 := Aside0.mk hy258
                                     clear hy258
                                     by_cases c40 : x6_3.length < 17592186044416
                                     · rw [if_pos c40] at H
                                       have LMc40 := Aside0.mk c40
                                       clear c40
                                       obtain ⟨y259, hy259⟩ : ∃ y_ : List Int, y_ = (x6_3 ++ [rd t253 x44_3]) := ⟨_, rfl⟩
                                       replace H : (impl_reached.l1 k3 a1 y258 y259 t253 (t253.length : Int) (wrap64 (x44_3 + 1)) a0_0 a0_1 l0_2 a0_3 l0_4) = some r := by first | (rw [hy259]; with_reducible exact H) | (have H2_ := (Option.bind_some _ _).symm.trans H; rw [hy259]; with_reducible exact H2_) | (have H2_ := (Option.bind_some _ _).symm.trans H; with_reducible exact H2_) | with_reducible exact H | (rw [hy259]; exact H) | exact H
                                       have Ny259 := Aside0.mk hy259
                                       clear hy259
                                       have H' := Aside0.mk H
                                       clear H
                                       have p256 : 0 ≤ (x44_3 : Int) := of_decide_eq_true (by first | (with_reducible assumption) | assumption)
                                       have q256 : x44_3 < (t253.length : Int) := of_decide_eq_true (by first | (with_reducible assumption) | assumption)
                                       obtain ⟨ad256, e256, hx256_0⟩ := Kd.at_int (Kd.R_reads' HO_42.out).2.2 x44_3 p256 q256
                                       cases e256
                                       replace p256 := eq_true p256
                                       replace q256 := eq_true q256
                                       have p257 : 0 ≤ ((rd t253 x44_3) : Int) := of_decide_eq_true (by first | (with_reducible assumption) | assumption)
                                       have q257 : (rd t253 x44_3) < (x5_3.length : Int) := of_decide_eq_true (by first | (with_reducible assumption) | assumption)
                                       obtain ⟨ad257, e257, hx257_0⟩ := Kd.at_bool (Kd.R_reads' HO_5.out).2.2 (rd t253 x44_3) p257 q257
                                       (try rw [← Nbq36.out] at hx257_0)
                                       obtain rfl : (⟨go15, 0, none⟩ : Addr) = ad257 := (by injection e257)
                                       (first | simp only [add_plain] at hx257_0 | simp only [add_at] at hx257_0 | simp only [Addr.add, Nat.zero_add] at hx257_0 | skip)
                                       replace p257 := eq_true p257
                                       replace q257 := eq_true q257
                                       have p39 : 0 ≤ ((rd t253 x44_3) : Int) := of_decide_eq_true (by first | (with_reducible assumption) | assumption)
                                       have q39 : ((rd t253 x44_3) : Int) < ((x5_3.length : Int) : Int) := of_decide_eq_true (by first | (with_reducible assumption) | assumption)
                                       obtain ⟨hx39_0, hf39_0⟩ := Kd.R_celln false HO_5.out ((rd t253 x44_3) : Int) p39 q39
                                       replace p39 := eq_true p39
                                       replace q39 := eq_true q39
                                       have HP41 := Kd.R_putg HO_5.out ((rd t253 x44_3) : Int) true
                                       go_wp2_with (first | ((with_reducible refine gate_store (t := 4) (p := 60) rfl ?_); refine store_event (t := 4) (p := 60) (v := ?vo_w42) (w1 := (wr.setCell ⟨go15, ((rd t253 x44_3) : Int).toNat, none⟩ (.bool true))) ?hg ?ho ?hn ?hr ?_; (case ho => rfl); (case hg => rfl); (case hn => rfl); (case hr => first | (go_simp; done) | (go_simp; rfl)); intro w42 hw; have hg : wr.grownBy w42 (some go15) := (by rw [hw]; exact HP41.2); have hp_ : Kd.R Kd.bool 4 w42 w.heap.size (fun _ => True) (.slice (some ⟨go15, 0, none⟩) x5_3.length co15) y258 := (by rw [hw, Ny258.out]; exact HP41.1); clear HP41; have n0_ := Aside0.mk (hp_); have n1_ := Aside0.mk (Kd.R_over' (v := (.slice (some ⟨go15, 0, none⟩) x5_3.length co15)) (by (with_reducible repeat (first | apply Kd.R_alloc | apply Kd.R_drewN | apply Kd.R_drew)); exact HO_6.out) (Kd.R_typed HO_5.out) (by decide) hg); have n2_ := Aside0.mk (Kd.R_over' (v := (.slice (some ⟨go15, 0, none⟩) x5_3.length co15)) (by (with_reducible repeat (first | apply Kd.R_alloc | apply Kd.R_drewN | apply Kd.R_drew)); exact HO_42.out) (Kd.R_typed HO_5.out) (by decide) hg); have n3_ := Aside0.mk (blk_grown (g := gb241) (o := .cells #[.string a0_0, .int .i64 a0_1, .slice A0_2 l0_2.length c0_2, .int .i64 a0_3, .slice A0_4 l0_4.length c0_4] 30 (0, 0)) (by (with_reducible repeat (first | refine blk_drewN ?_ _ | refine blk_drew ?_ | refine blk_alloc ?_ _)); exact BK241.out) hg (Kd.R_ne HO_5.out BK241.out (by decide))); have n4_ := Aside0.mk ((by rw [hw]; exact below_set (HB.out) GB15.out : Below w.heap.size w w42)); clear HO_5; clear HO_6; clear HO_42; clear BK241; clear HB; have HO_5 := n0_; have HO_6 := n1_; have HO_42 := n2_; have BK241 := n3_; have HB := n4_; clear n0_ n1_ n2_ n3_ n4_; clear hg hw hp_) | ((with_reducible refine gate_builtin (b := .append) (xs := #[.tmp 61, .tmp 63]) rfl ?_); at_builtin; refine Kd.R_append (Kd.int .i64) (w0 := w) w.heap.size rfl (.tmp 61) (.tmp 63) 22 2 (.int .i64 0) 8 rfl Try.underlying22 info2 rfl (by decide) (by omega) u6 x6_3 (rd t253 x44_3) [.int .i64 (rd t253 x44_3)] (fun k_ => some k_ ≠ (.slice (some ad256) t253.length co30 : Value).ownBlock) (fun _ => False) rfl rfl ?aP (fun _ hk => hk.elim) ?aF ?aO ?aB ?aS ?aL ?_; (case aP => exact rfl); (case aB => exact (by repeat (first | (with_reducible first | exact HB.out | apply below_alloc | apply pw_below_drewN | apply below_drew1 | refine below_set ?_ GE241.out) | exact HB.out))); (case aF => exact (fun k_ hk => Kd.fresh' (Kd.R_lt (by (with_reducible repeat (first | apply Kd.R_alloc | apply Kd.R_drewN | apply Kd.R_drew)); exact HO_42.out)) k_ hk)); (case aO => exact (by (with_reducible repeat (first | apply Kd.R_alloc | apply Kd.R_drewN | apply Kd.R_drew)); exact HO_6.out)); (case aS => exact (below_size (by repeat (first | (with_reducible first | exact HB.out | apply below_alloc | apply pw_below_drewN | apply below_drew1 | refine below_set ?_ GE241.out) | exact HB.out)))); (case aL => have := LMc40.out; omega); intro v260 w43 ho hb hg hat; rw [← Ny259.out] at ho; have n0_ := Aside0.mk (Kd.R_over' (by (with_reducible repeat (first | apply Kd.R_alloc | apply Kd.R_drewN | apply Kd.R_drew)); exact HO_5.out) (Kd.R_typed (by (with_reducible repeat (first | apply Kd.R_alloc | apply Kd.R_drewN | apply Kd.R_drew)); exact HO_6.out)) (by decide) hg); have n1_ := Aside0.mk (Kd.R_after (ok := (fun _ => True)) (by (with_reducible repeat (first | apply Kd.R_alloc | apply Kd.R_drewN | apply Kd.R_drew)); exact Kd.R_mono HO_42.out (fun _ hk => ⟨trivial, hk⟩)) hg hat); have n2_ := Aside0.mk (blk_grown (g := gb241) (o := .cells #[.string a0_0, .int .i64 a0_1, .slice A0_2 l0_2.length c0_2, .int .i64 a0_3, .slice A0_4 l0_4.length c0_4] 30 (0, 0)) (by (with_reducible repeat (first | refine blk_drewN ?_ _ | refine blk_drew ?_ | refine blk_alloc ?_ _)); exact BK241.out) hg (Kd.R_ne HO_6.out BK241.out (by decide))); have n3_ := Aside0.mk (hb); have n4_ := Aside0.mk (ho); clear HO_5; clear HO_42; clear BK241; clear HB; clear HO_6; have HO_5 := n0_; have HO_42 := n1_; have BK241 := n2_; have HB := n3_; have HO261 := n4_; clear n0_ n1_ n2_ n3_ n4_; clear ho hb hg hat))
                                       (try simp only [← hl5_3])
                                       go_roundg k3
                                       case measure => have := HJ4.out; have := HK2.out; have := HK3.out; omega
                                       case rel => exact ⟨(y258), (y259), (wrap64 (x44_3 + 1)), (by first | rfl | (simp; done) | (simp [*]; done)), H', ⟨by have := HJ4.out; have := HK2.out; have := HK3.out; omega⟩, ⟨by (try simp only [hl5_2]); (try simp only [hl5_3]); (with_reducible repeat (first | apply Kd.R_alloc | apply Kd.R_drewN | apply Kd.R_drew)); exact HO_5.out⟩, ⟨by (try simp only [hl5_2]); (try simp only [hl5_3]); (with_reducible repeat (first | apply Kd.R_alloc | apply Kd.R_drewN | apply Kd.R_drew)); exact HO261.out⟩, ⟨by (try simp only [hl5_2]); (try simp only [hl5_3]); (with_reducible repeat (first | apply Kd.R_alloc | apply Kd.R_drewN | apply Kd.R_drew)); exact Kd.R_mono HO_42.out (fun _ hk => hk.2)⟩, ⟨by (try simp only [hl5_2]); (try simp only [hl5_3]); (with_reducible repeat (first | refine blk_drewN ?_ _ | refine blk_drew ?_ | refine blk_alloc ?_ _)); exact BK241.out⟩, ⟨by repeat (first | (with_reducible first | exact HB.out | apply below_alloc | apply pw_below_drewN | apply below_drew1 | refine below_set ?_ GE241.out) | exact HB.out)⟩⟩
                                     · rw [if_neg c40] at H
                                       exact absurd H (by simp)
                               · rw [if_neg c35] at H
                                 exact absurd H (by simp)
                             · rw [if_neg c34] at H
                               exact absurd H (by simp)
                           · rw [if_neg c33] at H
                             exact absurd H (by simp)
                         · rw [if_neg c32] at H
                           exact absurd H (by simp)
                       · rw [if_neg c31] at H
                         have c31b0 : decide (x44_3 < (t253.length : Int)) = false := decide_eq_false c31
                         clear c31
                         have H' := Aside0.mk H
                         clear H
                         go_wp2
                         (try simp only [← hl5_2, ← hl5_3])
                         go_roundg k3
                         case measure => have := HJ4.out; have := HK2.out; have := HK3.out; omega
                         case rel => exact ⟨(x5_3), (x6_3), H', ⟨by have := HJ4.out; have := HK2.out; have := HK3.out; omega⟩, ⟨by (try simp only [hl5_2]); (try simp only [hl5_3]); (with_reducible repeat (first | apply Kd.R_alloc | apply Kd.R_drewN | apply Kd.R_drew)); exact HO_5.out⟩, ⟨by (try simp only [hl5_2]); (try simp only [hl5_3]); (with_reducible repeat (first | apply Kd.R_alloc | apply Kd.R_drewN | apply Kd.R_drew)); exact Kd.R_mono HO_6.out (fun _ hk => trivial)⟩, ⟨by (try simp only [hl5_2]); (try simp only [hl5_3]); (with_reducible repeat (first | refine blk_drewN ?_ _ | refine blk_drew ?_ | refine blk_alloc ?_ _)); exact BK241.out⟩, ⟨by repeat (first | (with_reducible first | exact HB.out | apply below_alloc | apply pw_below_drewN | apply below_drew1 | refine below_set ?_ GE241.out) | exact HB.out)⟩⟩
                   · rw [if_neg c24] at H
                     exact absurd H (by simp)
                 · rw [if_neg c23] at H
                   exact absurd H (by simp)
               · rw [if_neg c22] at H
                 exact absurd H (by simp)
             · rw [if_neg c20] at H
               have c20b0 : decide (0 < (x6_2.length : Int)) = false := decide_eq_false c20
               have c20b1 : decide (0 < x6_2.length) = false := decide_eq_false (by omega)
               clear c20
               obtain rfl := Option.some.inj H
               obtain ⟨Ao44, co44, eo44⟩ := Kd.R_slice HO_6.out
               subst eo44
               go_wp2
               go_ret
               exact ⟨_, by first | rfl | (simp [errW_none, errW_some] <;> rfl) | (simp [*, errW_none, errW_some] <;> rfl), by (with_reducible repeat (first | apply Kd.R_alloc | apply Kd.R_drewN | apply Kd.R_drew)); exact HO_5.out, by repeat (first | (with_reducible first | exact HB.out | apply below_alloc | apply pw_below_drewN | apply below_drew1 | refine below_set ?_ GE241.out) | exact HB.out)⟩
         · rw [if_neg c14] at H
           exact absurd H (by simp)
   · rw [if_neg c4] at H
     exact absurd H (by simp)
 · rw [if_neg c3] at H
   exact absurd H (by simp)

end Go.Proofs.Ytoedcnhgobbnfaa.All


namespace Go.Proofs.Ytoedcnhgobbnfaa.All
open Go.RowKit Go.Proofs.YtoedcnhgobbnfaaW.PrintWords Go.Proofs.YtoedcnhgobbnfaaW.PrintLast Go.Proofs.YtoedcnhgobbnfaaW.PrintMore
attribute [local go_sem] max2_int min2_int max_two min_two max_three min_three max_four min_four   -- for this text's walks alone
set_option linter.unusedVariables false
set_option linter.unusedSimpArgs false

/-! ### spec_PrevBlocks: function 23 -/
end Go.Proofs.Ytoedcnhgobbnfaa.All


namespace Go.Proofs.Ytoedcnhgobbnfaa.All
open Go.RowKit Go.Proofs.YtoedcnhgobbnfaaW.PrintWords Go.Proofs.YtoedcnhgobbnfaaW.PrintLast Go.Proofs.YtoedcnhgobbnfaaW.PrintMore
attribute [local go_sem] max2_int min2_int max_two min_two max_three min_three max_four min_four   -- for this text's walks alone
set_option linter.unusedVariables false
set_option linter.unusedSimpArgs false

/-! ### impl_PrevBlocks: function 24 -/
mutual
def impl_PrevBlocks.l0 : Nat → Int → List Int → Int → Int → ByteArray → Int → List Int → Int → List (S62) → Option (List Int)
 | 0, _, _, _, _, _, _, _, _, _ => none
 | k + 1, x1, x5, x11, x12, x397000, x397001, x397002, x397003, x397004 => if x12 < x11 then ((impl_NextBlocks.f x397000 x397001 x397002 x397003 x397004 x12).bind fun t397 => (impl_PrevBlocks.l1 k x1 x5 x12 x11 x12 t397 (t397.length : Int) 0 x397000 x397001 x397002 x397003 x397004)) else (some x5)
def impl_PrevBlocks.l1 : Nat → Int → List Int → Int → Int → Int → List Int → Int → Int → ByteArray → Int → List Int → Int → List (S62) → Option (List Int)
 | 0, _, _, _, _, _, _, _, _, _, _, _, _, _ => none
 | k + 1, x1, x5, x6, x11, x12, x17, x18, x19, x397000, x397001, x397002, x397003, x397004 => if x19 < x18 then (if 0 ≤ x19 then (if x19 < (x17.length : Int) then (if (rd x17 x19) = x1 then (if x5.length < 17592186044416 then (impl_PrevBlocks.l1 k x1 (x5 ++ [x6]) x6 x11 x12 x17 x18 (wrap64 (x19 + 1)) x397000 x397001 x397002 x397003 x397004) else (none)) else (impl_PrevBlocks.l1 k x1 x5 x6 x11 x12 x17 x18 (wrap64 (x19 + 1)) x397000 x397001 x397002 x397003 x397004)) else (none)) else (none)) else (impl_PrevBlocks.l0 k x1 x5 x11 (wrap64 (x12 + 1)) x397000 x397001 x397002 x397003 x397004)
end
def impl_PrevBlocks.f (k : Nat) (a0_0 : ByteArray) (a0_1 : Int) (l0_2 : List Int) (a0_3 : Int) (l0_4 : List (S62)) (a1 : Int) : Option (List Int) := impl_PrevBlocks.l0 k a1 ([] : List Int) (l0_4.length : Int) 0 a0_0 a0_1 l0_2 a0_3 l0_4
set_option maxHeartbeats 8000000 in
set_option maxRecDepth 100000 in
theorem impl_PrevBlocks.calls (k : Nat) (a0_0 : ByteArray) (a0_1 : Int) (A0_2 : Option Addr) (c0_2 : Nat) (l0_2 : List Int) (a0_3 : Int) (A0_4 : Option Addr) (c0_4 : Nat) (l0_4 : List (S62)) (a1 : Int) (r : List Int) (w : World) (hr0_2 : Kd.C (Kd.int .i64) w A0_2 l0_2.length l0_2) (hc0_2 : l0_2.length ≤ c0_2) (hr0_4 : Kd.C k62 w A0_4 l0_4.length l0_4) (hc0_4 : l0_4.length ≤ c0_4) (h : impl_PrevBlocks.f k a0_0 a0_1 l0_2 a0_3 l0_4 a1 = some r) :
 Calls Try.prog 24 #[.agg #[.string a0_0, .int .i64 a0_1, .slice A0_2 l0_2.length c0_2, .int .i64 a0_3, .slice A0_4 l0_4.length c0_4], .int .i64 a1] w fun e w' => ∃ v0_ : Value, e = .returned (v0_) ∧ Kd.R (Kd.int .i64) 2 w' w.heap.size (fun _ => True) v0_ r ∧ Below w.heap.size w w' := by
 have hu30 := Try.underlying30
 have HR0_2 := Aside0.mk hr0_2
 have HC0_2 := Aside0.mk hc0_2
 clear hr0_2 hc0_2
 have HR0_4 := Aside0.mk hr0_4
 have HC0_4 := Aside0.mk hc0_4
 clear hr0_4 hc0_4
 have HB := Aside0.mk (Below.refl w.heap.size w)
 have H : (impl_PrevBlocks.l0 k a1 ([] : List Int) (l0_4.length : Int) 0 a0_0 a0_1 l0_2 a0_3 l0_4) = some r := h
 clear h
 have H' := Aside0.mk H
 clear H
 go_enter Try.func24, Try.ntmps24
 go_wp2_with (first | ((with_reducible refine gate_dst (N := 2) rfl ?_); refine box_event ?hg (N := 2) ?hd (cs := #[.string a0_0, .int .i64 a0_1, .slice A0_2 l0_2.length c0_2, .int .i64 a0_3, .slice A0_4 l0_4.length c0_4]) (t := 30) ?hr ?_; (case hd => rfl); (case hg => rfl); (case hr => first | (go_simp; done) | (go_simp; rfl)); intro gb396 hg w3 hbox hb; have n0_ := Aside0.mk (below_step (by repeat (first | (with_reducible first | exact HB.out | apply below_alloc | apply pw_below_drewN | apply below_drew1) | exact HB.out)) hb); have n1_ := Aside0.mk (hbox); have n2_ := Aside0.mk ((by rw [hg]; exact (below_size (by repeat (first | (with_reducible first | exact HB.out | apply below_alloc | apply pw_below_drewN | apply below_drew1) | exact HB.out))) : w.heap.size ≤ gb396)); have n3_ := Aside0.mk ((by rw [hg]; exact (below_size (by repeat (first | (with_reducible first | exact HB.out | apply below_alloc | apply pw_below_drewN | apply below_drew1) | exact HB.out))) : w.heap.size ≤ gb396)); clear HB; have HB := n0_; have BK396 := n1_; have GW396 := n2_; have GE396 := n3_; clear n0_ n1_ n2_ n3_; clear hb hbox hg; have hcz4_0 : w3.cell? ⟨gb396, 0, none⟩ = some (.string a0_0) := (blk_cell BK396.out 0).trans rfl; have hcz4_1 : w3.cell? ⟨gb396, 1, none⟩ = some (.int .i64 a0_1) := (blk_cell BK396.out 1).trans rfl; have hcz4_2 : w3.cell? ⟨gb396, 2, none⟩ = some (.slice A0_2 l0_2.length c0_2) := (blk_cell BK396.out 2).trans rfl; have hcz4_3 : w3.cell? ⟨gb396, 3, none⟩ = some (.int .i64 a0_3) := (blk_cell BK396.out 3).trans rfl; have hcz4_4 : w3.cell? ⟨gb396, 4, none⟩ = some (.slice A0_4 l0_4.length c0_4) := (blk_cell BK396.out 4).trans rfl; have hfz4_0 := blk_frozen BK396.out 0; have hfz4_1 := blk_frozen BK396.out 1; have hfz4_2 := blk_frozen BK396.out 2; have hfz4_3 := blk_frozen BK396.out 3; have hfz4_4 := blk_frozen BK396.out 4))
 go_loopg [5, 12] k (fun kq v5 v12 w' => ∃ (x5_1 : List Int) (x12_1 : Int), v12 = .int .i64 x12_1 ∧ Aside0 (impl_PrevBlocks.l0 kq a1 x5_1 (l0_4.length : Int) x12_1 a0_0 a0_1 l0_2 a0_3 l0_4 = some r) ∧ Aside0 (kq ≤ k) ∧ Aside0 (Kd.R (Kd.int .i64) 2 w' w.heap.size (fun _ => True) v5 x5_1) ∧ Aside0 (w'.heap[gb396]? = some (.cells #[.string a0_0, .int .i64 a0_1, (.slice A0_2 l0_2.length c0_2), .int .i64 a0_3, (.slice A0_4 l0_4.length c0_4)] 30 (0, 0))) ∧ Aside0 (Below w.heap.size w w'))
 case atStart => exact ⟨(([] : List Int)), (0), (by first | rfl | (simp; done) | (simp [*]; done)), H', ⟨Nat.le_refl _⟩, ⟨by first | exact Kd.R_nil _ _ _ _ _ | exact Kd.N_nil _ _ _ _ _ | exact Kd.V_nil _ _ _ _ _ | exact Kd.Q_nil _ _ _ _ _ | exact Kd.S_nil _ _ _ _ _⟩, ⟨by (with_reducible repeat (first | refine blk_drewN ?_ _ | refine blk_drew ?_ | refine blk_alloc ?_ _)); exact BK396.out⟩, ⟨by repeat (first | (with_reducible first | exact HB.out | apply below_alloc | apply pw_below_drewN | apply below_drew1 | refine below_set ?_ GE396.out) | exact HB.out)⟩⟩
 case round =>
  clear H'
  try clear c2
  try clear p2
  try clear hcz4_0
  try clear hcz4_1
  try clear hcz4_2
  try clear hcz4_3
  try clear hcz4_4
  try clear hfz4_0
  try clear hfz4_1
  try clear hfz4_2
  try clear hfz4_3
  try clear hfz4_4
  obtain ⟨x5_1, x12_1, rfl, HA, HK1, HO_5, BK396, HB⟩ := hrel
  cases gk with
  | zero => exact absurd HA.out (by simp [impl_PrevBlocks.l0])
  | succ k1 =>
   have H := HA.out
   clear HA
   simp only [impl_PrevBlocks.l0] at H
   by_cases c5 : x12_1 < (l0_4.length : Int)
   · rw [if_pos c5] at H
     have c5b0 : decide (x12_1 < (l0_4.length : Int)) = true := decide_eq_true c5
     clear c5
     replace H := Option.bind_eq_some_iff.mp H
     obtain ⟨t397, A60, H⟩ := H
     replace H : (impl_PrevBlocks.l1 k1 a1 x5_1 x12_1 (l0_4.length : Int) x12_1 t397 (t397.length : Int) 0 a0_0 a0_1 l0_2 a0_3 l0_4) = some r := H
     have A6 := Aside0.mk A60
     clear A60
     have H' := Aside0.mk H
     clear H
     have hcz7_0 : wr.cell? ⟨gb396, 0, none⟩ = some (.string a0_0) := (blk_cell BK396.out 0).trans rfl
     have hcz7_1 : wr.cell? ⟨gb396, 1, none⟩ = some (.int .i64 a0_1) := (blk_cell BK396.out 1).trans rfl
     have hcz7_2 : wr.cell? ⟨gb396, 2, none⟩ = some (.slice A0_2 l0_2.length c0_2) := (blk_cell BK396.out 2).trans rfl
     have hcz7_3 : wr.cell? ⟨gb396, 3, none⟩ = some (.int .i64 a0_3) := (blk_cell BK396.out 3).trans rfl
     have hcz7_4 : wr.cell? ⟨gb396, 4, none⟩ = some (.slice A0_4 l0_4.length c0_4) := (blk_cell BK396.out 4).trans rfl
     have hfz7_0 := blk_frozen BK396.out 0
     have hfz7_1 := blk_frozen BK396.out 1
     have hfz7_2 := blk_frozen BK396.out 2
     have hfz7_3 := blk_frozen BK396.out 3
     have hfz7_4 := blk_frozen BK396.out 4
     go_wp2_with (first | ((with_reducible refine gate_callee (f := 18) rfl ?_); refine goesL_ (some 17) rfl rfl Try.func18 (by kernel_rfl) rfl #[.agg #[.string a0_0, .int .i64 a0_1, .slice A0_2 l0_2.length c0_2, .int .i64 a0_3, .slice A0_4 l0_4.length c0_4], .int .i64 x12_1] rfl (by (try simp only [List.map_toArray, List.map_cons, List.map_nil]); first | done | rfl | (simp only [List.length_drop, List.length_take]; rfl)) ?_; (with_reducible refine (impl_NextBlocks.calls a0_0 a0_1 _ _ l0_2 a0_3 _ _ l0_4 x12_1 t397 _ ?side1 ?side2 ?side3 ?side4 A6.out).mono ?_); (case side1 => repeat (first | exact (Kd.C_below HR0_2.out HB.out) | (with_reducible refine Kd.C_alloc ?_ _) | (with_reducible refine Kd.C_drewN ?_ _) | (with_reducible refine Kd.C_drew ?_))); (case side2 => exact HC0_2.out); (case side3 => repeat (first | exact (Kd.C_below HR0_4.out HB.out) | (with_reducible refine Kd.C_alloc ?_ _) | (with_reducible refine Kd.C_drewN ?_ _) | (with_reducible refine Kd.C_drew ?_))); (case side4 => exact HC0_4.out); rintro e w8 ⟨v398, rfl, ho0, hb⟩; refine ⟨_, rfl, ?_⟩; have n0_ := Aside0.mk (Kd.R_elder' (by (with_reducible repeat (first | apply Kd.R_alloc | apply Kd.R_drewN | apply Kd.R_drew)); exact HO_5.out) (Kd.R_base ho0) hb); have n1_ := Aside0.mk (Kd.R_lower (Kd.R_new' ho0 (Kd.R_lt (by (with_reducible repeat (first | apply Kd.R_alloc | apply Kd.R_drewN | apply Kd.R_drew)); exact HO_5.out))) (below_size (by repeat (first | (with_reducible first | exact HB.out | apply below_alloc | apply pw_below_drewN | apply below_drew1 | refine below_set ?_ GE396.out) | exact HB.out)))); have n2_ := Aside0.mk (blk_below (g := gb396) (o := .cells #[.string a0_0, .int .i64 a0_1, .slice A0_2 l0_2.length c0_2, .int .i64 a0_3, .slice A0_4 l0_4.length c0_4] 30 (0, 0)) (by (with_reducible repeat (first | refine blk_drewN ?_ _ | refine blk_drew ?_ | refine blk_alloc ?_ _)); exact BK396.out) hb); have n3_ := Aside0.mk (below_step (by repeat (first | (with_reducible first | exact HB.out | apply below_alloc | apply pw_below_drewN | apply below_drew1 | refine below_set ?_ GE396.out) | exact HB.out)) hb); clear HO_5; clear BK396; clear HB; have HO_5 := n0_; have HO399 := n1_; have BK396 := n2_; have HB := n3_; clear n0_ n1_ n2_ n3_; (try clear hb); (try clear hb2); (try clear hk); (try clear hi); (try clear ho0); obtain ⟨Ao9, co9, eo9⟩ := Kd.R_slice HO399.out; subst eo9))
     go_loopg [5, 19] k1 (fun kq v5 v19 w' => ∃ (x5_2 : List Int) (x19_2 : Int), v19 = .int .i64 x19_2 ∧ Aside0 (impl_PrevBlocks.l1 kq a1 x5_2 x12_1 (l0_4.length : Int) x12_1 t397 (t397.length : Int) x19_2 a0_0 a0_1 l0_2 a0_3 l0_4 = some r) ∧ Aside0 (kq ≤ k1) ∧ Aside0 (Kd.R (Kd.int .i64) 2 w' w.heap.size (fun k_ => some k_ ≠ ((.slice Ao9 t397.length co9) : Value).ownBlock) v5 x5_2) ∧ Aside0 (Kd.R (Kd.int .i64) 2 w' w.heap.size (fun k_ => some k_ ≠ (v5 : Value).ownBlock) (.slice Ao9 t397.length co9) t397) ∧ Aside0 (w'.heap[gb396]? = some (.cells #[.string a0_0, .int .i64 a0_1, (.slice A0_2 l0_2.length c0_2), .int .i64 a0_3, (.slice A0_4 l0_4.length c0_4)] 30 (0, 0))) ∧ Aside0 (Below w.heap.size w w'))
     case atStart => exact ⟨(x5_1), (0), (by first | rfl | (simp; done) | (simp [*]; done)), H', ⟨Nat.le_refl _⟩, ⟨by (with_reducible repeat (first | apply Kd.R_alloc | apply Kd.R_drewN | apply Kd.R_drew)); exact Kd.R_mono HO_5.out (fun _ hk => hk.2)⟩, ⟨by (with_reducible repeat (first | apply Kd.R_alloc | apply Kd.R_drewN | apply Kd.R_drew)); exact Kd.R_mono HO399.out (fun _ hk => hk.2)⟩, ⟨by (with_reducible repeat (first | refine blk_drewN ?_ _ | refine blk_drew ?_ | refine blk_alloc ?_ _)); exact BK396.out⟩, ⟨by repeat (first | (with_reducible first | exact HB.out | apply below_alloc | apply pw_below_drewN | apply below_drew1 | refine below_set ?_ GE396.out) | exact HB.out)⟩⟩
     case round =>
      clear H'
      try clear c1
      try clear c2
      try clear p2
      try clear c5
      try clear c5b0
      try clear hcz4_0
      try clear hcz4_1
      try clear hcz4_2
      try clear hcz4_3
      try clear hcz4_4
      try clear hcz7_0
      try clear hcz7_1
      try clear hcz7_2
      try clear hcz7_3
      try clear hcz7_4
      try clear hfz4_0
      try clear hfz4_1
      try clear hfz4_2
      try clear hfz4_3
      try clear hfz4_4
      try clear hfz7_0
      try clear hfz7_1
      try clear hfz7_2
      try clear hfz7_3
      try clear hfz7_4
      try clear p2
      obtain ⟨x5_2, x19_2, rfl, HA, HK2, HO_5, HO_17, BK396, HB⟩ := hrel
      cases gk with
      | zero => exact absurd HA.out (by simp [impl_PrevBlocks.l1])
      | succ k2 =>
       have H := HA.out
       clear HA
       simp only [impl_PrevBlocks.l1] at H
       by_cases c10 : x19_2 < (t397.length : Int)
       · rw [if_pos c10] at H
         have c10b0 : decide (x19_2 < (t397.length : Int)) = true := decide_eq_true c10
         clear c10
         by_cases c11 : 0 ≤ x19_2
         · rw [if_pos c11] at H
           have c11b0 : decide (0 ≤ x19_2) = true := decide_eq_true c11
           clear c11
           by_cases c12 : x19_2 < (t397.length : Int)
           · rw [if_pos c12] at H
             have c12b0 : decide (x19_2 < (t397.length : Int)) = true := decide_eq_true c12
             clear c12
             by_cases c13 : (rd t397 x19_2) = a1
             · rw [if_pos c13] at H
               have c13b0 : ((rd t397 x19_2) == a1) = true := beq_iff_eq.mpr c13
               have c13b1 : ((rd t397 x19_2) != a1) = false := bne_eq_false_iff_eq.mpr c13
               clear c13
               by_cases c14 : x5_2.length < 17592186044416
               · rw [if_pos c14] at H
                 have LMc14 := Aside0.mk c14
                 clear c14
                 obtain ⟨y401, hy401⟩ : ∃ y_ : List Int, y_ = (x5_2 ++ [x12_1]) := ⟨_, rfl⟩
                 replace H : (impl_PrevBlocks.l1 k2 a1 y401 x12_1 (l0_4.length : Int) x12_1 t397 (t397.length : Int) (wrap64 (x19_2 + 1)) a0_0 a0_1 l0_2 a0_3 l0_4) = some r := by first | (rw [hy401]; with_reducible exact H) | (have H2_ := (Option.bind_some _ _).symm.trans H; rw [hy401]; with_reducible exact H2_) | (have H2_ := (Option.bind_some _ _).symm.trans H; with_reducible exact H2_) | with_reducible exact H | (rw [hy401]; exact H) | exact H
                 have Ny401 := Aside0.mk hy401
                 clear hy401
                 have H' := Aside0.mk H
                 clear H
                 have p400 : 0 ≤ (x19_2 : Int) := of_decide_eq_true (by first | (with_reducible assumption) | assumption)
                 have q400 : x19_2 < (t397.length : Int) := of_decide_eq_true (by first | (with_reducible assumption) | assumption)
                 obtain ⟨ad400, e400, hx400_0⟩ := Kd.at_int (Kd.R_reads' HO_17.out).2.2 x19_2 p400 q400
                 cases e400
                 replace p400 := eq_true p400
                 replace q400 := eq_true q400
                 go_wp2_with (first | ((with_reducible refine gate_builtin (b := .append) (xs := #[.tmp 26, .tmp 28]) rfl ?_); at_builtin; refine Kd.R_append (Kd.int .i64) (w0 := w) w.heap.size rfl (.tmp 26) (.tmp 28) 22 2 (.int .i64 0) 8 rfl Try.underlying22 info2 rfl (by decide) (by omega) u5 x5_2 x12_1 [.int .i64 x12_1] (fun k_ => some k_ ≠ (.slice (some ad400) t397.length co9 : Value).ownBlock) (fun _ => False) rfl rfl ?aP (fun _ hk => hk.elim) ?aF ?aO ?aB ?aS ?aL ?_; (case aP => exact rfl); (case aB => exact (by repeat (first | (with_reducible first | exact HB.out | apply below_alloc | apply pw_below_drewN | apply below_drew1 | refine below_set ?_ GE396.out) | exact HB.out))); (case aF => exact (fun k_ hk => Kd.fresh' (Kd.R_lt (by (with_reducible repeat (first | apply Kd.R_alloc | apply Kd.R_drewN | apply Kd.R_drew)); exact HO_17.out)) k_ hk)); (case aO => exact (by (with_reducible repeat (first | apply Kd.R_alloc | apply Kd.R_drewN | apply Kd.R_drew)); exact HO_5.out)); (case aS => exact (below_size (by repeat (first | (with_reducible first | exact HB.out | apply below_alloc | apply pw_below_drewN | apply below_drew1 | refine below_set ?_ GE396.out) | exact HB.out)))); (case aL => have := LMc14.out; omega); intro v402 w15 ho hb hg hat; rw [← Ny401.out] at ho; have n0_ := Aside0.mk (Kd.R_after (ok := (fun _ => True)) (by (with_reducible repeat (first | apply Kd.R_alloc | apply Kd.R_drewN | apply Kd.R_drew)); exact Kd.R_mono HO_17.out (fun _ hk => ⟨trivial, hk⟩)) hg hat); have n1_ := Aside0.mk (blk_grown (g := gb396) (o := .cells #[.string a0_0, .int .i64 a0_1, .slice A0_2 l0_2.length c0_2, .int .i64 a0_3, .slice A0_4 l0_4.length c0_4] 30 (0, 0)) (by (with_reducible repeat (first | refine blk_drewN ?_ _ | refine blk_drew ?_ | refine blk_alloc ?_ _)); exact BK396.out) hg (Kd.R_ne HO_5.out BK396.out (by decide))); have n2_ := Aside0.mk (hb); have n3_ := Aside0.mk (ho); clear HO_17; clear BK396; clear HB; clear HO_5; have HO_17 := n0_; have BK396 := n1_; have HB := n2_; have HO403 := n3_; clear n0_ n1_ n2_ n3_; clear ho hb hg hat))
                 go_roundg k2
                 case measure => have := HK1.out; have := HK2.out; omega
                 case rel => exact ⟨(y401), (wrap64 (x19_2 + 1)), (by first | rfl | (simp; done) | (simp [*]; done)), H', ⟨by have := HK1.out; have := HK2.out; omega⟩, ⟨by (with_reducible repeat (first | apply Kd.R_alloc | apply Kd.R_drewN | apply Kd.R_drew)); exact HO403.out⟩, ⟨by (with_reducible repeat (first | apply Kd.R_alloc | apply Kd.R_drewN | apply Kd.R_drew)); exact Kd.R_mono HO_17.out (fun _ hk => hk.2)⟩, ⟨by (with_reducible repeat (first | refine blk_drewN ?_ _ | refine blk_drew ?_ | refine blk_alloc ?_ _)); exact BK396.out⟩, ⟨by repeat (first | (with_reducible first | exact HB.out | apply below_alloc | apply pw_below_drewN | apply below_drew1 | refine below_set ?_ GE396.out) | exact HB.out)⟩⟩
               · rw [if_neg c14] at H
                 exact absurd H (by simp)
             · rw [if_neg c13] at H
               have c13b0 : ((rd t397 x19_2) == a1) = false := beq_eq_false_iff_ne.mpr c13
               have c13b1 : ((rd t397 x19_2) != a1) = true := bne_iff_ne.mpr c13
               have H' := Aside0.mk H
               clear H
               have p400 : 0 ≤ (x19_2 : Int) := of_decide_eq_true (by first | (with_reducible assumption) | assumption)
               have q400 : x19_2 < (t397.length : Int) := of_decide_eq_true (by first | (with_reducible assumption) | assumption)
               obtain ⟨ad400, e400, hx400_0⟩ := Kd.at_int (Kd.R_reads' HO_17.out).2.2 x19_2 p400 q400
               cases e400
               replace p400 := eq_true p400
               replace q400 := eq_true q400
               go_wp2
               go_roundg k2
               case measure => have := HK1.out; have := HK2.out; omega
               case rel => exact ⟨(x5_2), (wrap64 (x19_2 + 1)), (by first | rfl | (simp; done) | (simp [*]; done)), H', ⟨by have := HK1.out; have := HK2.out; omega⟩, ⟨by (with_reducible repeat (first | apply Kd.R_alloc | apply Kd.R_drewN | apply Kd.R_drew)); exact HO_5.out⟩, ⟨by (with_reducible repeat (first | apply Kd.R_alloc | apply Kd.R_drewN | apply Kd.R_drew)); exact HO_17.out⟩, ⟨by (with_reducible repeat (first | refine blk_drewN ?_ _ | refine blk_drew ?_ | refine blk_alloc ?_ _)); exact BK396.out⟩, ⟨by repeat (first | (with_reducible first | exact HB.out | apply below_alloc | apply pw_below_drewN | apply below_drew1 | refine below_set ?_ GE396.out) | exact HB.out)⟩⟩
           · rw [if_neg c12] at H
             exact absurd H (by simp)
         · rw [if_neg c11] at H
           exact absurd H (by simp)
       · rw [if_neg c10] at H
         have c10b0 : decide (x19_2 < (t397.length : Int)) = false := decide_eq_false c10
         clear c10
         have H' := Aside0.mk H
         clear H
         go_wp2
         go_roundg k2
         case measure => have := HK1.out; have := HK2.out; omega
         case rel => exact ⟨(x5_2), (wrap64 (x12_1 + 1)), (by first | rfl | (simp; done) | (simp [*]; done)), H', ⟨by have := HK1.out; have := HK2.out; omega⟩, ⟨by (with_reducible repeat (first | apply Kd.R_alloc | apply Kd.R_drewN | apply Kd.R_drew)); exact Kd.R_mono HO_5.out (fun _ hk => trivial)⟩, ⟨by (with_reducible repeat (first | refine blk_drewN ?_ _ | refine blk_drew ?_ | refine blk_alloc ?_ _)); exact BK396.out⟩, ⟨by repeat (first | (with_reducible first | exact HB.out | apply below_alloc | apply pw_below_drewN | apply below_drew1 | refine below_set ?_ GE396.out) | exact HB.out)⟩⟩
   · rw [if_neg c5] at H
     have c5b0 : decide (x12_1 < (l0_4.length : Int)) = false := decide_eq_false c5
     clear c5
     obtain rfl := Option.some.inj H
     go_wp2
     go_ret
     exact ⟨_, by first | rfl | (simp [errW_none, errW_some] <;> rfl) | (simp [*, errW_none, errW_some] <;> rfl), by (with_reducible repeat (first | apply Kd.R_alloc | apply Kd.R_drewN | apply Kd.R_drew)); exact HO_5.out, by repeat (first | (with_reducible first | exact HB.out | apply below_alloc | apply pw_below_drewN | apply below_drew1 | refine below_set ?_ GE396.out) | exact HB.out)⟩

end Go.Proofs.Ytoedcnhgobbnfaa.All


/- Next and previous blocks: the reference's and the program's lists are one. -/
namespace Go.Proofs.Ytoedcnhgobbnfaa.All
open Go.RowKit Go.Proofs.YtoedcnhgobbnfaaW.PrintWords Go.Proofs.YtoedcnhgobbnfaaW.PrintLast Go.Proofs.YtoedcnhgobbnfaaW.PrintMore
set_option linter.unusedVariables false
set_option linter.unusedSimpArgs false
def gOk (bs : List S62) : Prop := bs.length ≤ 1048576 ∧ ∀ b ∈ bs, bBlock b
def nextOf (bs : List S62) (a : Int) : List Int :=
  if a < 0 then [] else if (bs.length : Int) ≤ a then [] else if (rd_T62 bs a).f0.length = 0 then [] else nextL bs.length (rd_T66 (rd_T62 bs a).f0 (((rd_T62 bs a).f0.length : Int) - 1)).f7
theorem getD_mem {α : Type} {xs : List α} {i : Nat} (h : i < xs.length) (z : α) : xs.getD i z ∈ xs := by rw [getD_eq h]; exact List.getElem_mem h
theorem gOk_at {bs : List S62} (h : gOk bs) {a : Int} (h0 : 0 ≤ a) (h1 : a < (bs.length : Int)) : bBlock (rd_T62 bs a) := h.2 _ (getD_mem (by omega) _)
theorem gOk_last {bs : List S62} (h : gOk bs) {a : Int} (h0 : 0 ≤ a) (h1 : a < (bs.length : Int)) (h2 : (rd_T62 bs a).f0.length ≠ 0) : bInstr (rd_T66 (rd_T62 bs a).f0 (((rd_T62 bs a).f0.length : Int) - 1)) := (gOk_at h h0 h1).2 _ (getD_mem (by omega) _)
theorem nextOf_len {bs : List S62} (h : gOk bs) (a : Int) : (nextOf bs a).length ≤ 1048576 := by
  unfold nextOf
  split
  · simp
  · split
    · simp
    · split
      · simp
      · have h1 := gOk_last h (a := a) (by omega) (by omega) (by assumption)
        have h2 := nextL_len bs.length (rd_T66 (rd_T62 bs a).f0 (((rd_T62 bs a).f0.length : Int) - 1)).f7
        have := h1.2.1
        omega
theorem nextOf_range (bs : List S62) (a : Int) : ∀ x ∈ nextOf bs a, 0 ≤ x ∧ x < (bs.length : Int) := by
  unfold nextOf
  split
  · simp
  · split
    · simp
    · split
      · simp
      · exact nextL_range _ _
theorem implNext_f (n : ByteArray) (y : Int) (ps : List Int) (c : Int) (bs : List S62) (a : Int) (h : gOk bs) : impl_NextBlocks.f n y ps c bs a = some (nextOf bs a) := by
  unfold impl_NextBlocks.f nextOf
  by_cases h1 : a < 0
  · rw [if_pos h1, if_pos h1]
  rw [if_neg h1, if_neg h1]
  by_cases h2 : (bs.length : Int) ≤ a
  · rw [if_pos h2, if_pos h2]
  rw [if_neg h2, if_neg h2]
  by_cases h3 : (rd_T62 bs a).f0.length = 0
  · rw [if_pos h3, if_pos h3]
  rw [if_neg h3, if_neg h3]
  have h4 := gOk_last h (a := a) (by omega) (by omega) h3
  have h5 := gOk_at h (a := a) (by omega) (by omega)
  have := h.1
  have := h5.1
  have := h4.2.1
  rw [if_pos ⟨by omega, by omega, by omega⟩]
theorem l4Has_f (l : List Int) (v : Int) (hl : l.length ≤ 9223372036854775806) : Ev (fun k => spec_l4Has.f k l v) (l.contains v) := by
  unfold spec_l4Has.f
  have key : ∀ d i : Nat, i + d = l.length → Ev (fun k => spec_l4Has.l0 k l v (i : Int)) ((l.drop i).contains v) := by
    intro d
    induction d with
    | zero =>
      intro i hi
      obtain rfl : i = l.length := by omega
      refine Ev.succ ?_
      simp only [spec_l4Has.l0]
      rw [List.drop_length]
      exact Ev.neg (by omega) (Ev.some (by simp))
    | succ d ih =>
      intro i hi
      have hlt : i < l.length := by omega
      refine Ev.succ ?_
      simp only [spec_l4Has.l0]
      have e : rd l i = l[i] := by simp [rd, List.getElem?_eq_getElem hlt]
      rw [e, wrap64_nat (by omega), List.drop_eq_getElem_cons hlt, List.contains_cons]
      refine Ev.pos (by omega) (Ev.pos (by omega) ?_)
      by_cases c : l[i] = v
      · exact Ev.pos c (Ev.some (by simp [c]))
      · refine Ev.neg c ?_
        rw [beq_eq_false_iff_ne.2 (Ne.symm c), Bool.false_or]
        exact ih (i + 1) (by omega)
  exact key l.length 0 (by omega)
theorem specNext_f (n : ByteArray) (y : Int) (ps : List Int) (c : Int) (bs : List S62) (a : Int) (h : gOk bs) : Ev (fun k => spec_NextBlocks.f k n y ps c bs a) (nextOf bs a) := by
  unfold spec_NextBlocks.f nextOf
  refine Ev.some_bind ?_
  have done : Ev (fun k => spec_NextBlocks.j0 k a [] true n y ps c bs) [] := by
    refine Ev.succ ?_
    simp only [spec_NextBlocks.j0]
    exact Ev.pos trivial (Ev.now _)
  by_cases h1 : a < 0
  · rw [if_pos h1]
    exact Ev.pos h1 done
  rw [if_neg h1]
  refine Ev.neg h1 ?_
  by_cases h2 : (bs.length : Int) ≤ a
  · rw [if_pos h2]
    exact Ev.pos h2 done
  rw [if_neg h2]
  refine Ev.neg (by omega) (Ev.pos (by omega) (Ev.pos (by omega) ?_))
  by_cases h3 : (rd_T62 bs a).f0.length = 0
  · rw [if_pos h3]
    have e : (((rd_T62 bs a).f0.length : Int) == 0) = true := by rw [h3]; rfl
    rw [e]
    exact done
  rw [if_neg h3]
  have e : (((rd_T62 bs a).f0.length : Int) == 0) = false := by rw [beq_eq_false_iff_ne]; omega
  rw [e]
  have h4 := gOk_last h (a := a) (by omega) (by omega) h3
  have h5 := gOk_at h (a := a) (by omega) (by omega)
  have h6 := h5.1
  have h7 := h4.2.1
  have hb := h.1
  refine Ev.succ ?_
  simp only [spec_NextBlocks.j0]
  rw [wrap64_id (x := ((rd_T62 bs a).f0.length : Int) - 1) (by omega) (by omega)]
  refine Ev.neg (by simp) (Ev.pos (by omega) (Ev.pos (by omega) (Ev.pos (by omega) (Ev.pos (by omega) ?_))))
  generalize rd_T66 (rd_T62 bs a).f0 (((rd_T62 bs a).f0.length : Int) - 1) = x at h4 h7
  have key : ∀ d i : Nat, i + d = x.f7.length → Ev (fun k => spec_NextBlocks.l0 k (nextL bs.length (x.f7.take i)) (i : Int) n y ps c bs x.f0 x.f1 x.f2 x.f3 x.f4 x.f5 x.f6 x.f7 x.f8) (nextL bs.length x.f7) := by
    intro d
    induction d with
    | zero =>
      intro i hi
      obtain rfl : i = x.f7.length := by omega
      refine Ev.succ ?_
      simp only [spec_NextBlocks.l0]
      rw [List.take_length]
      exact Ev.neg (by omega) (Ev.now _)
    | succ d ih =>
      intro i hi
      have hlt : i < x.f7.length := by omega
      have h8 := ih (i + 1) (by omega)
      rw [nextL_take bs.length x.f7 i hlt] at h8
      refine Ev.succ ?_
      simp only [spec_NextBlocks.l0]
      have e1 : rd x.f7 i = x.f7[i] := by simp [rd, List.getElem?_eq_getElem hlt]
      have hlen := nextL_len bs.length (x.f7.take i)
      rw [List.length_take] at hlen
      rw [e1, wrap64_nat (by omega)]
      refine Ev.pos (by omega) (Ev.pos (by omega) ?_)
      unfold stepN at h8
      by_cases c0 : 0 ≤ x.f7[i]
      · by_cases c1 : x.f7[i] < (bs.length : Int)
        · refine Ev.pos c0 (Ev.pos c1 (Ev.bind (l4Has_f _ _ (by omega)) ?_))
          by_cases c2 : (nextL bs.length (x.f7.take i)).contains x.f7[i] = true
          · rw [if_neg (by rw [c2]; simp)] at h8
            exact Ev.pos c2 h8
          · rw [if_pos ⟨c0, c1, by simpa using c2⟩] at h8
            exact Ev.neg c2 (Ev.pos (by omega) h8)
        · rw [if_neg (fun h => c1 h.2.1)] at h8
          exact Ev.pos c0 (Ev.neg c1 h8)
      · rw [if_neg (fun h => c0 h.1)] at h8
        exact Ev.neg c0 h8
  exact key x.f7.length 0 (by omega)
end Go.Proofs.Ytoedcnhgobbnfaa.All


/- Which blocks can be come to: the reference's walk and the program's are one. -/
namespace Go.Proofs.Ytoedcnhgobbnfaa.All
open Go.RowKit Go.Proofs.YtoedcnhgobbnfaaW.PrintWords Go.Proofs.YtoedcnhgobbnfaaW.PrintLast Go.Proofs.YtoedcnhgobbnfaaW.PrintMore
set_option linter.unusedVariables false
set_option linter.unusedSimpArgs false
def rsOf (bs : List S62) : List (List Int) := (List.range bs.length).map fun (b : Nat) => nextOf bs (b : Int)
theorem rsOf_len (bs : List S62) : (rsOf bs).length = bs.length := by simp [rsOf]
theorem rsOf_getD (bs : List S62) (i : Nat) (h : i < bs.length) : (rsOf bs).getD i [] = nextOf bs (i : Int) := by
  unfold rsOf
  rw [List.getD_eq_getElem?_getD, List.getElem?_map, List.getElem?_eq_getElem (by simpa using h)]
  simp
theorem rsOf_ok {bs : List S62} (h : gOk bs) : okRows bs.length (rsOf bs) = true := by
  unfold okRows rsOf
  rw [List.all_eq_true]
  intro r hr
  obtain ⟨b, _, rfl⟩ := List.mem_map.1 hr
  rw [Bool.and_eq_true, decide_eq_true_eq, List.all_eq_true]
  have := nextOf_len h (b : Int)
  exact ⟨by omega, fun t ht => by simpa using nextOf_range bs (b : Int) t ht⟩
theorem l4Build_f (n : ByteArray) (y : Int) (ps : List Int) (c : Int) (bs : List S62) (h : gOk bs) : Ev (fun k => spec_l4Build.f k n y ps c bs) (rsOf bs, prevUp (rsOf bs) bs.length) := by
  unfold spec_l4Build.f
  have hb := h.1
  refine Ev.pos (by omega) ?_
  have key : ∀ m : Nat, Ev (fun k => rowsOf (fun b => spec_NextBlocks.f k n y ps c bs b) m) ((List.range m).map fun (b : Nat) => nextOf bs (b : Int)) := by
    intro m
    induction m with
    | zero => exact Ev.now _
    | succ m ih =>
      simp only [rowsOf]
      refine Ev.bind ih (Ev.bind (specNext_f n y ps c bs (m : Int) h) ?_)
      rw [List.range_succ, List.map_append]
      exact Ev.now _
  exact Ev.bind (key bs.length) (Ev.pos (rsOf_ok h) (Ev.now _))
end Go.Proofs.Ytoedcnhgobbnfaa.All


/- Plain laws: spec.Order and impl.Order answer alike. -/
namespace Go.Proofs.Ytoedcnhgobbnfaa.All
open Go.RowKit Go.Proofs.YtoedcnhgobbnfaaW.PrintWords Go.Proofs.YtoedcnhgobbnfaaW.PrintLast Go.Proofs.YtoedcnhgobbnfaaW.PrintMore
set_option linter.unusedVariables false
set_option linter.unusedSimpArgs false
theorem rdL4_nat (nx : List (List Int)) {b : Int} : rd_L4 nx b = nx.getD b.toNat [] := rfl
theorem rd_nat (l : List Int) (j : Nat) (h : j < l.length) : rd l (j : Int) = l[j] := by simp [rd, List.getElem?_eq_getElem h]
theorem rdOfB (s : List Bool) {b : Int} : rdOf false s b = s.getD b.toNat false := by simp [rdOf, List.getD_eq_getElem?_getD]
section
variable {nx ps : List (List Int)} {n : Nat}
theorem specWalk_f (hn : nx.length = n) (hn9 : n ≤ 1048576) (hx : ∀ b : Int, 0 ≤ b → b < (n : Int) → ∀ x ∈ nx.getD b.toNat [], 0 ≤ x ∧ x < (n : Int)) (hl : ∀ b : Int, 0 ≤ b → b < (n : Int) → (nx.getD b.toNat []).length ≤ 1048576) :
    ∀ (k : Nat) (b : Int) (s : List Bool) (o : List Int) (r : List Bool × List Int), walkO k nx b s o = some r → s.length = n → 0 ≤ b → b < (n : Int) → r.2.length ≤ 1000000000 → Ev (fun K => spec_l4Walk.f K nx ps b s o) (r.2, r.1)
  | 0, _, _, _, _, h, _, _, _, _ => by simp [walkO] at h
  | k + 1, b, s, o, r, h, hs, h0, h1, h9 => by
    rw [walkO] at h
    obtain ⟨q, hq, h⟩ := Option.bind_eq_some_iff.1 h
    obtain rfl := Option.some.inj h
    obtain ⟨ns, hns⟩ : ∃ ns, ns = nx.getD b.toNat [] := ⟨_, rfl⟩
    rw [← hns] at hq
    have hv := hx b h0 h1
    have hll := hl b h0 h1
    rw [← hns] at hv hll
    have key : ∀ (d m : Nat) (s1 : List Bool) (o1 : List Int), m + d = ns.length → foldO (walkO k nx) (ns.drop m) s1 o1 = some q → s1.length = n → Ev (fun K => spec_l4Walk.l0 K b s1 o1 (m : Int) nx ps) (q.2 ++ [b], q.1) := by
      intro d
      induction d with
      | zero =>
        intro m s1 o1 hm hf hs1
        rw [List.drop_eq_nil_of_le (by omega), foldO] at hf
        obtain rfl := Option.some.inj hf
        refine Ev.succ ?_
        simp only [spec_l4Walk.l0]
        rw [rdL4_nat, ← hns]
        refine Ev.pos h0 (Ev.pos (by omega) (Ev.neg (by omega) (Ev.pos ?_ (Ev.now _))))
        simp at h9
        omega
      | succ d ih =>
        intro m s1 o1 hm hf hs1
        have hlt : m < ns.length := by omega
        rw [List.drop_eq_getElem_cons hlt, foldO] at hf
        have hxv := hv ns[m] (List.getElem_mem _)
        refine Ev.succ ?_
        simp only [spec_l4Walk.l0]
        rw [rdL4_nat, ← hns, rd_nat ns m hlt, rdOfB, wrap64_nat (i := m) (by omega)]
        refine Ev.pos h0 (Ev.pos (by omega) (Ev.pos (by omega) (Ev.pos (by omega) (Ev.pos hxv.1 (Ev.pos (by omega) ?_)))))
        by_cases hc : s1.getD ns[m].toNat false = true
        · rw [if_pos hc] at hf
          exact Ev.pos hc (ih (m + 1) s1 o1 (by omega) hf hs1)
        · rw [if_neg hc] at hf
          obtain ⟨q1, hq1, hf⟩ := Option.bind_eq_some_iff.1 hf
          have hlen := walkO_len nx k ns[m] s1 o1 q1 hq1
          have hlen2 := foldO_len (fun b s o r h => walkO_len nx k b s o r h) _ _ _ q hf
          have h9' : q.2.length ≤ 1000000000 := by have := h9; simp at this; omega
          exact Ev.neg hc (Ev.bind (specWalk_f hn hn9 hx hl k ns[m] s1 o1 q1 hq1 hs1 hxv.1 hxv.2 (by omega)) (ih (m + 1) q1.1 q1.2 (by omega) hf (by omega)))
    refine Ev.succ ?_
    simp only [spec_l4Walk.f]
    exact Ev.pos h0 (Ev.pos (by omega) (key ns.length 0 (s.set b.toNat true) o (by omega) (by rw [List.drop_zero]; exact hq) (by simp [hs])))
theorem rev_f (L : List Int) (hL : L.length ≤ 1000000000) : ∀ (i : Nat) (acc : List Int), i ≤ L.length → acc.length + i ≤ 2000000000 → Ev (fun K => spec_l4Order.l0 K acc L ((i : Int) - 1)) (acc ++ (L.take i).reverse)
  | 0, acc, _, _ => by
    refine Ev.succ ?_
    simp only [spec_l4Order.l0]
    exact Ev.neg (by omega) (Ev.some (by simp))
  | i + 1, acc, hi, ha => by
    have hlt : i < L.length := by omega
    have e : ((i + 1 : Nat) : Int) - 1 = (i : Int) := by omega
    have ih := rev_f L hL i (acc ++ [L[i]]) (by omega) (by simp; omega)
    rw [List.take_succ_eq_append_getElem hlt, List.reverse_append]
    refine Ev.succ ?_
    simp only [spec_l4Order.l0]
    rw [e, rd_nat L i hlt, wrap64_id (by omega) (by omega)]
    refine Ev.pos (by omega) (Ev.pos (by omega) (Ev.pos (by omega) (Ev.pos (by omega) ?_)))
    simpa [List.append_assoc] using ih
theorem rev_f' (L : List Int) (hL : L.length ≤ 1000000000) : ∀ (i : Nat) (acc : List Int), i ≤ L.length → acc.length + i ≤ 2000000000 → Ev (fun K => spec_l4LongOrder.l1 K L acc ((i : Int) - 1)) (acc ++ (L.take i).reverse)
  | 0, acc, _, _ => by
    refine Ev.succ ?_
    simp only [spec_l4LongOrder.l1]
    exact Ev.neg (by omega) (Ev.some (by simp))
  | i + 1, acc, hi, ha => by
    have hlt : i < L.length := by omega
    have e : ((i + 1 : Nat) : Int) - 1 = (i : Int) := by omega
    have ih := rev_f' L hL i (acc ++ [L[i]]) (by omega) (by simp; omega)
    rw [List.take_succ_eq_append_getElem hlt, List.reverse_append]
    refine Ev.succ ?_
    simp only [spec_l4LongOrder.l1]
    rw [e, rd_nat L i hlt, wrap64_id (by omega) (by omega)]
    refine Ev.pos (by omega) (Ev.pos (by omega) (Ev.pos (by omega) (Ev.pos (by omega) ?_)))
    simpa [List.append_assoc] using ih
theorem rd_last (a : List Int) (x : Int) : rd (a ++ [x]) (a.length : Int) = x := by simp [rd]
theorem set_last (a : List Int) (x y : Int) : (a ++ [x]).set a.length y = a ++ [y] := by simp [List.set_append]
theorem sim_pop {b : Int} {ns : List Int} {stk nxt : List Int} {s : List Bool} {o : List Int} {j : Nat} {R : List Int} (hn : nx.length = n) (hns : ns = nx.getD b.toNat []) (h0 : 0 ≤ b) (h1 : b < (n : Int)) (hj : j = ns.length) (hsn : stk.length = nxt.length) (hu : stk.length ≤ 2000000) (hq : o.length ≤ 1000000000)
    (hR : Ev (fun K => spec_l4LongOrder.l0 K s stk nxt (o ++ [b]) nx ps) R) : Ev (fun K => spec_l4LongOrder.l0 K s (stk ++ [b]) (nxt ++ [(j : Int)]) o nx ps) R := by
  have e1 : wrap64 (((stk ++ [b]).length : Int) - 1) = (stk.length : Int) := by rw [wrap64_id (by rw [List.length_append, List.length_singleton]; omega) (by rw [List.length_append, List.length_singleton]; omega), List.length_append, List.length_singleton]; omega
  have e2 : rd (nxt ++ [(j : Int)]) (stk.length : Int) = (j : Int) := by rw [hsn]; exact rd_last nxt _
  have e3 : (stk ++ [b]).take (stk.length : Int).toNat = stk := by simp
  have e4 : (nxt ++ [(j : Int)]).take (stk.length : Int).toNat = nxt := by rw [hsn]; simp
  refine Ev.succ ?_
  simp only [spec_l4LongOrder.l0]
  rw [e1, rd_last stk b, rdL4_nat, ← hns, e2, e3, e4]
  exact Ev.pos (by rw [List.length_append, List.length_singleton]; omega) (Ev.pos (by omega) (Ev.pos (by rw [List.length_append, List.length_singleton]; omega) (Ev.pos (by rw [List.length_append, List.length_singleton]; omega) (Ev.pos h0 (Ev.pos (by omega) (Ev.pos (by omega) (Ev.pos (by omega) (Ev.pos (by rw [List.length_append, List.length_singleton]; omega) (Ev.pos (by rw [List.length_append, List.length_singleton]; omega) hR)))))))))
theorem sim_seen {b : Int} {ns : List Int} {stk nxt : List Int} {s : List Bool} {o : List Int} {j : Nat} {R : List Int} (hn : nx.length = n) (hns : ns = nx.getD b.toNat []) (h0 : 0 ≤ b) (h1 : b < (n : Int)) (hj : j < ns.length) (hj9 : j ≤ 1048576) (hsn : stk.length = nxt.length) (hu : stk.length ≤ 2000000) (hxv : 0 ≤ ns[j] ∧ ns[j] < (n : Int)) (hs : s.length = n)
    (hc : s.getD ns[j].toNat false = true) (hR : Ev (fun K => spec_l4LongOrder.l0 K s (stk ++ [b]) (nxt ++ [((j + 1 : Nat) : Int)]) o nx ps) R) : Ev (fun K => spec_l4LongOrder.l0 K s (stk ++ [b]) (nxt ++ [(j : Int)]) o nx ps) R := by
  have e1 : wrap64 (((stk ++ [b]).length : Int) - 1) = (stk.length : Int) := by rw [wrap64_id (by rw [List.length_append, List.length_singleton]; omega) (by rw [List.length_append, List.length_singleton]; omega), List.length_append, List.length_singleton]; omega
  have e2 : rd (nxt ++ [(j : Int)]) (stk.length : Int) = (j : Int) := by rw [hsn]; exact rd_last nxt _
  have e5 : (nxt ++ [(j : Int)]).set (stk.length : Int).toNat ((j + 1 : Nat) : Int) = nxt ++ [((j + 1 : Nat) : Int)] := by rw [Int.toNat_natCast, hsn]; exact set_last nxt _ _
  refine Ev.succ ?_
  simp only [spec_l4LongOrder.l0]
  rw [e1, rd_last stk b, rdL4_nat, ← hns, e2, wrap64_nat (i := j) (by omega), e5, rd_nat ns j hj, rdOfB]
  exact Ev.pos (by rw [List.length_append, List.length_singleton]; omega) (Ev.pos (by omega) (Ev.pos (by rw [List.length_append, List.length_singleton]; omega) (Ev.pos (by rw [List.length_append, List.length_singleton]; omega) (Ev.pos h0 (Ev.pos (by omega) (Ev.neg (by omega) (Ev.pos (by omega) (Ev.pos (by omega) (Ev.some_bind (Ev.pos hxv.1 (Ev.pos (by omega) (Ev.pos hc hR))))))))))))
theorem sim_push {b : Int} {ns : List Int} {stk nxt : List Int} {s : List Bool} {o : List Int} {j : Nat} {R : List Int} (hn : nx.length = n) (hns : ns = nx.getD b.toNat []) (h0 : 0 ≤ b) (h1 : b < (n : Int)) (hj : j < ns.length) (hj9 : j ≤ 1048576) (hsn : stk.length = nxt.length) (hu : stk.length ≤ 2000000) (hxv : 0 ≤ ns[j] ∧ ns[j] < (n : Int)) (hs : s.length = n)
    (hc : ¬ s.getD ns[j].toNat false = true) (hR : Ev (fun K => spec_l4LongOrder.l0 K (s.set ns[j].toNat true) ((stk ++ [b]) ++ [ns[j]]) ((nxt ++ [((j + 1 : Nat) : Int)]) ++ [((0 : Nat) : Int)]) o nx ps) R) : Ev (fun K => spec_l4LongOrder.l0 K s (stk ++ [b]) (nxt ++ [(j : Int)]) o nx ps) R := by
  have e1 : wrap64 (((stk ++ [b]).length : Int) - 1) = (stk.length : Int) := by rw [wrap64_id (by rw [List.length_append, List.length_singleton]; omega) (by rw [List.length_append, List.length_singleton]; omega), List.length_append, List.length_singleton]; omega
  have e2 : rd (nxt ++ [(j : Int)]) (stk.length : Int) = (j : Int) := by rw [hsn]; exact rd_last nxt _
  have e5 : (nxt ++ [(j : Int)]).set (stk.length : Int).toNat ((j + 1 : Nat) : Int) = nxt ++ [((j + 1 : Nat) : Int)] := by rw [Int.toNat_natCast, hsn]; exact set_last nxt _ _
  refine Ev.succ ?_
  simp only [spec_l4LongOrder.l0]
  rw [e1, rd_last stk b, rdL4_nat, ← hns, e2, wrap64_nat (i := j) (by omega), e5, rd_nat ns j hj, rdOfB]
  exact Ev.pos (by rw [List.length_append, List.length_singleton]; omega) (Ev.pos (by omega) (Ev.pos (by rw [List.length_append, List.length_singleton]; omega) (Ev.pos (by rw [List.length_append, List.length_singleton]; omega) (Ev.pos h0 (Ev.pos (by omega) (Ev.neg (by omega) (Ev.pos (by omega) (Ev.pos (by omega) (Ev.some_bind (Ev.pos hxv.1 (Ev.pos (by omega) (Ev.neg hc (Ev.pos (by rw [List.length_append, List.length_singleton]; omega) (Ev.pos (by rw [List.length_append, List.length_singleton]; omega) hR))))))))))))))
theorem sim_f (hn : nx.length = n) (hn9 : n ≤ 1048576) (hx : ∀ b : Int, 0 ≤ b → b < (n : Int) → ∀ x ∈ nx.getD b.toNat [], 0 ≤ x ∧ x < (n : Int)) (hl : ∀ b : Int, 0 ≤ b → b < (n : Int) → (nx.getD b.toNat []).length ≤ 1048576) {R : List Int} :
    ∀ (k : Nat) (b : Int) (ns : List Int), ns = nx.getD b.toNat [] → 0 ≤ b → b < (n : Int) → ∀ (d j : Nat) (stk nxt : List Int) (s : List Bool) (o : List Int) (q : List Bool × List Int), j + d = ns.length → stk.length = nxt.length → s.length = n → stk.length + 1 + unseen s ≤ 2000000 →
      foldO (walkO k nx) (ns.drop j) s o = some q → q.2.length ≤ 1000000000 → Ev (fun K => spec_l4LongOrder.l0 K q.1 stk nxt (q.2 ++ [b]) nx ps) R → Ev (fun K => spec_l4LongOrder.l0 K s (stk ++ [b]) (nxt ++ [(j : Int)]) o nx ps) R := by
  intro k
  induction k with
  | zero =>
    intro b ns hns h0 h1 d
    have hv := hx b h0 h1
    have hll := hl b h0 h1
    rw [← hns] at hv hll
    induction d with
    | zero =>
      intro j stk nxt s o q hj hsn hs hu hf hq hR
      rw [List.drop_eq_nil_of_le (by omega), foldO] at hf
      obtain rfl := Option.some.inj hf
      exact sim_pop hn hns h0 h1 (by omega) hsn (by omega) hq hR
    | succ d ih =>
      intro j stk nxt s o q hj hsn hs hu hf hq hR
      have hlt : j < ns.length := by omega
      rw [List.drop_eq_getElem_cons hlt, foldO] at hf
      by_cases hc : s.getD ns[j].toNat false = true
      · rw [if_pos hc] at hf
        exact sim_seen hn hns h0 h1 hlt (by omega) hsn (by omega) (hv ns[j] (List.getElem_mem _)) (by omega) hc (ih (j + 1) stk nxt s o q (by omega) hsn hs hu hf hq hR)
      · rw [if_neg hc] at hf
        simp [walkO] at hf
  | succ k ihk =>
    intro b ns hns h0 h1 d
    have hv := hx b h0 h1
    have hll := hl b h0 h1
    rw [← hns] at hv hll
    induction d with
    | zero =>
      intro j stk nxt s o q hj hsn hs hu hf hq hR
      rw [List.drop_eq_nil_of_le (by omega), foldO] at hf
      obtain rfl := Option.some.inj hf
      exact sim_pop hn hns h0 h1 (by omega) hsn (by omega) hq hR
    | succ d ih =>
      intro j stk nxt s o q hj hsn hs hu hf hq hR
      have hlt : j < ns.length := by omega
      have hxv := hv ns[j] (List.getElem_mem _)
      rw [List.drop_eq_getElem_cons hlt, foldO] at hf
      by_cases hc : s.getD ns[j].toNat false = true
      · rw [if_pos hc] at hf
        exact sim_seen hn hns h0 h1 hlt (by omega) hsn (by omega) hxv (by omega) hc (ih (j + 1) stk nxt s o q (by omega) hsn hs hu hf hq hR)
      · rw [if_neg hc] at hf
        obtain ⟨q1, hq1, hf⟩ := Option.bind_eq_some_iff.1 hf
        have hok := walkO_ok (n := n) nx (k + 1) ns[j] s o q1 hs hq1
        have hle := unseen_le (n := n) (hs.trans hok.1.symm) hok.2
        have hlen2 := foldO_len (fun b s o r h => walkO_len nx (k + 1) b s o r h) _ _ _ q hf
        rw [walkO] at hq1
        obtain ⟨q2, hq2, hq1⟩ := Option.bind_eq_some_iff.1 hq1
        obtain rfl := Option.some.inj hq1
        have hset := unseen_set (s := s) (i := ns[j].toNat) (by omega) (by simpa using hc)
        have hle' : unseen q2.1 ≤ unseen s := hle
        have hrest := ih (j + 1) stk nxt q2.1 (q2.2 ++ [ns[j]]) q (by omega) hsn hok.1 (by omega) hf hq hR
        refine sim_push hn hns h0 h1 hlt (by omega) hsn (by omega) hxv (by omega) hc ?_
        refine ihk ns[j] (nx.getD ns[j].toNat []) rfl hxv.1 hxv.2 (nx.getD ns[j].toNat []).length 0 (stk ++ [b]) (nxt ++ [((j + 1 : Nat) : Int)]) (s.set ns[j].toNat true) o q2 (by omega) (by simp [hsn]) (by simp [hs]) (by simp; omega) (by rw [List.drop_zero]; exact hq2) (by have := hlen2.2; simp at this; omega) hrest
end
theorem unseen_rep (n : Nat) : unseen (List.replicate n false) = n := by simp [unseen]
theorem nxOf_eq (a0_0 : ByteArray) (a0_1 : Int) (l0_2 : List Int) (a0_3 : Int) (bs : List S62) (h : gOk bs) : nxOf a0_0 a0_1 l0_2 a0_3 bs = rsOf bs := by
  unfold nxOf rsOf
  refine List.map_congr_left (fun b _ => ?_)
  rw [implNext_f a0_0 a0_1 l0_2 a0_3 bs (b : Int) h]
  rfl
theorem okNx_of (a0_0 : ByteArray) (a0_1 : Int) (l0_2 : List Int) (a0_3 : Int) (bs : List S62) (h : gOk bs) : okNx a0_0 a0_1 l0_2 a0_3 bs := by
  refine ⟨by have := h.1; omega, fun b _ => ?_⟩
  rw [implNext_f a0_0 a0_1 l0_2 a0_3 bs (b : Int) h]
  exact ⟨rfl, by have := nextOf_len h (b : Int); simp only [Option.getD_some]; omega, nextOf_range bs (b : Int)⟩
theorem rsOf_at (bs : List S62) {b : Int} (h0 : 0 ≤ b) (h1 : b < (bs.length : Int)) : (rsOf bs).getD b.toNat [] = nextOf bs b := by
  obtain ⟨m, rfl⟩ : ∃ m : Nat, b = (m : Int) := ⟨b.toNat, by omega⟩
  rw [Int.toNat_natCast]
  exact rsOf_getD bs m (by omega)
/-- Both answer the same. -/
theorem order_f (a0_0 : ByteArray) (a0_1 : Int) (l0_2 : List Int) (a0_3 : Int) (bs : List S62) (h : gOk bs) : ∃ r : List Int, r.length ≤ 1048576 ∧ Ev (fun K => spec_Order.f K a0_0 a0_1 l0_2 a0_3 bs) r ∧ Ev (fun K => impl_Order.f K a0_0 a0_1 l0_2 a0_3 bs) r := by
  have hB := l4Build_f a0_0 a0_1 l0_2 a0_3 bs h
  have hbl := h.1
  by_cases hz : bs.length = 0
  · refine ⟨[], by simp, ?_, ?_⟩
    · unfold spec_Order.f
      refine Ev.neg (by omega) (Ev.bind hB (Ev.bind ?_ (Ev.now _)))
      unfold spec_l4Order.f
      refine Ev.some_bind (Ev.pos ?_ (Ev.now _))
      rw [rsOf_len]; omega
    · unfold impl_Order.f
      exact Ev.pos hz (Ev.now _)
  · have hn : (rsOf bs).length = bs.length := rsOf_len bs
    have hxm : ∀ ns ∈ rsOf bs, ∀ x ∈ ns, 0 ≤ x ∧ x < (bs.length : Int) := by
      intro ns hns
      unfold rsOf at hns
      obtain ⟨b, _, rfl⟩ := List.mem_map.1 hns
      exact nextOf_range bs (b : Int)
    have hx : ∀ b : Int, 0 ≤ b → b < (bs.length : Int) → ∀ x ∈ (rsOf bs).getD b.toNat [], 0 ≤ x ∧ x < (bs.length : Int) := fun b h0 h1 => by rw [rsOf_at bs h0 h1]; exact nextOf_range bs b
    have hl : ∀ b : Int, 0 ≤ b → b < (bs.length : Int) → ((rsOf bs).getD b.toNat []).length ≤ 1048576 := fun b h0 h1 => by rw [rsOf_at bs h0 h1]; exact nextOf_len h b
    have hu := unseen_rep bs.length
    obtain ⟨q, hq, hq2, hq3⟩ := walkO_ends hn hxm bs.length 0 (List.replicate bs.length false) [] (by simp) (by omega) (by omega) (by rw [List.getD_eq_getElem?_getD, List.getElem?_replicate]; split <;> rfl) (by omega)
    have hql : q.2.length ≤ bs.length := by rw [hu] at hq3; simp at hq3; omega
    refine ⟨q.2.reverse, by rw [List.length_reverse]; omega, ?_, ?_⟩
    · unfold spec_Order.f
      by_cases hc : (bs.length : Int) > 4096
      · refine Ev.pos hc (Ev.bind ?_ (Ev.now _))
        unfold spec_l4LongOrder.f
        refine Ev.bind hB ?_
        rw [rsOf_len, Int.toNat_natCast]
        refine Ev.pos (by omega) (Ev.pos (by omega) (Ev.some_bind (Ev.pos (by simp; omega) ?_)))
        rw [walkO] at hq
        obtain ⟨q0, hq0, hq1⟩ := Option.bind_eq_some_iff.1 hq
        obtain rfl := Option.some.inj hq1
        refine sim_f hn hbl hx hl bs.length 0 ((rsOf bs).getD (0 : Int).toNat []) rfl (by omega) (by omega) _ 0 [] [] ((List.replicate bs.length false).set (0 : Int).toNat true) [] q0 (Nat.zero_add _) rfl (by simp) ?_ (by rw [List.drop_zero]; exact hq0) (by have := hql; simp at this; omega) ?_
        · have := unseen_set (s := List.replicate bs.length false) (i := (0 : Int).toNat) (by simp; omega) (by rw [List.getD_eq_getElem?_getD, List.getElem?_replicate]; split <;> rfl)
          simp only [List.length_nil]
          omega
        · refine Ev.succ ?_
          simp only [spec_l4LongOrder.l0]
          have hql' : (q0.2 ++ [(0 : Int)]).length ≤ 1000000000 := by have := hql; simp only at this; omega
          have ew : wrap64 (((q0.2 ++ [(0 : Int)]).length : Int) - 1) = ((q0.2 ++ [(0 : Int)]).length : Int) - 1 := wrap64_id (by omega) (by omega)
          rw [ew]
          have := rev_f' (q0.2 ++ [(0 : Int)]) hql' (q0.2 ++ [(0 : Int)]).length [] (Nat.le_refl _) (by simp only [List.length_nil]; omega)
          rw [List.take_length, List.nil_append] at this
          exact Ev.neg (by simp) this
      · refine Ev.neg hc (Ev.bind hB (Ev.bind ?_ (Ev.now _)))
        unfold spec_l4Order.f
        rw [rsOf_len, Int.toNat_natCast]
        have hW := specWalk_f (ps := prevUp (rsOf bs) bs.length) hn hbl hx hl _ _ _ _ q hq (by simp) (by omega) (by omega) (by omega)
        refine Ev.some_bind (Ev.neg (by omega) (Ev.pos (by omega) (Ev.pos (by omega) (Ev.bind hW ?_))))
        have := rev_f q.2 (by omega) q.2.length [] (Nat.le_refl _) (by simp only [List.length_nil]; omega)
        rw [List.take_length, List.nil_append] at this
        have ew : wrap64 ((q.2.length : Int) - 1) = (q.2.length : Int) - 1 := wrap64_id (by omega) (by omega)
        show Ev (fun K => spec_l4Order.l0 K [] q.2 (wrap64 ((q.2.length : Int) - 1))) _
        rw [ew]
        exact this
    · refine ⟨bs.length + 1, fun k hk => ?_⟩
      obtain ⟨m, rfl⟩ : ∃ m, k = bs.length + 1 + m := ⟨k - (bs.length + 1), by omega⟩
      show impl_Order.f (bs.length + 1 + m) a0_0 a0_1 l0_2 a0_3 bs = some _
      unfold impl_Order.f
      rw [if_neg hz, if_pos (okNx_of a0_0 a0_1 l0_2 a0_3 bs h), nxOf_eq a0_0 a0_1 l0_2 a0_3 bs h, walkO_ge hq m, Option.bind_some, if_pos (by omega)]
end Go.Proofs.Ytoedcnhgobbnfaa.All


/- FnExactOrder: the printed law is true of all arguments. -/
namespace Go.Proofs.Ytoedcnhgobbnfaa.Pure
open Go.Proofs.Ytoedcnhgobbnfaa.All
open Go.RowKit Go.Proofs.YtoedcnhgobbnfaaW.PrintWords Go.Proofs.YtoedcnhgobbnfaaW.PrintLast Go.Proofs.YtoedcnhgobbnfaaW.PrintMore
set_option linter.unusedVariables false
set_option linter.unusedSimpArgs false
theorem FnExactOrder (a0_0 : ByteArray) (a0_1 : Int) (l0_2 : List Int) (a0_3 : Int) (l0_4 : List S96) (h0 : a0_0.size ≤ 9223372036854775807) (_ : (Lit.int .i64 a0_1).wf = true) (h2 : l0_2.length ≤ 9223372036854775807 ∧ ∀ y ∈ l0_2, (Lit.int .i64 y).wf = true) (_ : (Lit.int .i64 a0_3).wf = true) (h4 : l0_4.length ≤ 9223372036854775807 ∧ ∀ y ∈ l0_4, ok96 y) :
    ∃ k, laws_FnExactOrder.f k a0_0 a0_1 l0_2 a0_3 l0_4 = some true := by
  refine Ev.rounds ?_
  obtain ⟨r, hr, hc⟩ := szFunc_f a0_0 a0_1 l0_2 a0_3 l0_4 h0 h2.1 (lBlockS_ok h4)
  unfold laws_FnExactOrder.f
  refine Ev.bind hr ?_
  by_cases hneg : r < 0
  · exact Ev.pos hneg (Ev.now _)
  refine Ev.neg hneg ?_
  have hs : a0_0.size + l0_2.length + sBlockS l0_4 ≤ 1048576 := by omega
  have ht := toFunc_f a0_0 a0_1 l0_2 a0_3 l0_4 hs
  have hb := bBlock_of l0_4 (by omega)
  have hc := cnt_of_s l0_4
  have hl : (l0_4.map iBlock).length ≤ 1048576 := by rw [List.length_map]; unfold sBlockS at hs; omega
  have hg : gOk (l0_4.map iBlock) := ⟨hl, hb⟩
  obtain ⟨y, hu, hS, hI⟩ := order_f a0_0 a0_1 l0_2 a0_3 (l0_4.map iBlock) hg
  have hE := eqInt64S_f y (by omega)
  have hM := markInt64S_f y (by omega)
  have hH := heldInt64S_f y.length (by omega)
  have hF := eqFunc_f a0_0 a0_1 l0_2 a0_3 (l0_4.map iBlock) (by omega) hl hb
  have hK : laws_markFunc.f a0_0 a0_1 l0_2 a0_3 (l0_4.map iBlock) 1 = some ((1 : Int) + (cntL_int64 l0_2 : Nat) + (cntL_Block (l0_4.map iBlock) : Nat)) := by
    have e : cntL_int64 l0_2 = l0_2.length := rfl
    unfold laws_markFunc.f
    rw [if_pos (by omega), if_pos (by omega)]
  refine Ev.bind ht (Ev.bind hS (Ev.bind ht (Ev.bind hI (Ev.bind hE (Ev.pos rfl (Ev.bind ht (Ev.bind hF (Ev.pos rfl (Ev.eq_bind hK (Ev.neg (by omega) (Ev.bind hE ?_)))))))))))
  refine Ev.succ ?_
  simp only [laws_FnExactOrder.j0]
  refine Ev.neg (by simp) (Ev.bind hM (Ev.bind hH (Ev.neg (by omega) (Ev.pos rfl ?_))))
  refine Ev.bind ht (Ev.bind hI (Ev.bind hE (Ev.pos rfl (Ev.bind hH ?_))))
  exact Ev.neg (by omega) (Ev.pos rfl (Ev.now _))
end Go.Proofs.Ytoedcnhgobbnfaa.Pure

