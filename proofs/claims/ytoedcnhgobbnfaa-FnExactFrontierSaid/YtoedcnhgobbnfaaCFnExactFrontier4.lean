/- Part 4 of the proof of FnExactFrontier: functions of the translation with what they return, and plain laws of these. Written by programs of this session over the kit's print, and by hand. -/
import Derived.Test.YtoedcnhgobbnfaaProg
import Derived.Test.YtoedcnhgobbnfaaCFnExactFrontierWApart
import Derived.Test.YtoedcnhgobbnfaaCFnExactFrontierWArr
import Derived.Test.YtoedcnhgobbnfaaCFnExactFrontierWFoot
import Derived.Test.YtoedcnhgobbnfaaCFnExactFrontierWGuard
import Derived.Test.YtoedcnhgobbnfaaCFnExactFrontierWKept
import Derived.Test.YtoedcnhgobbnfaaCFnExactFrontierWLast
import Derived.Test.YtoedcnhgobbnfaaCFnExactFrontierWMore
import Derived.Test.YtoedcnhgobbnfaaCFnExactFrontierWN
import Derived.Test.YtoedcnhgobbnfaaCFnExactFrontierWNEv
import Derived.Test.YtoedcnhgobbnfaaCFnExactFrontierWQPut
import Derived.Test.YtoedcnhgobbnfaaCFnExactFrontierWRepsOne
import Derived.Test.YtoedcnhgobbnfaaCFnExactFrontierWShare
import Derived.Test.YtoedcnhgobbnfaaCFnExactFrontierWTab
import Derived.Test.YtoedcnhgobbnfaaCFnExactFrontierWWords
import Derived.Test.YtoedcnhgobbnfaaCFnExactFrontierWZeros
import Derived.Below
import Derived.Deep.Draws
import Derived.Deep.AppendLies
import Derived.Maps.AppendAt
import Derived.OwnWalk
import Derived.Laws.BytesArg
import Derived.Laws.MakeOwn
import Derived.Laws.OwnMore
import Derived.Deep.OwnRows
import Derived.Tactics
import Derived.Lib.ConvBytes
import Derived.Laws.Slices
import Derived.WalkKit
import Derived.KernelRfl
import Derived.RowKit3
import Derived.Deep.LoopGhost
import Derived.Deep.QuietTactic
import Derived.BigQuiet
import Derived.WideLaws
import Derived.Deep.DeepCutAuto
import Derived.Deep.CutBlock
import Derived.Deep.RegionHeld3
import Derived.Laws.Rows
import Derived.Lib.AppendStr
import Derived.ArgAppend
import Derived.Laws.IdiomCopy
import Derived.OrdersHeld
import Derived.Laws.BitsLemmas
import Derived.RowKit
import Derived.Maps.OwnSet
import Derived.Maps.OwnOps
import Derived.Deep.Slices
import Derived.ChangeArms
import Derived.ProofKit
import Derived.OpenShut
import Derived.ShutString
import Derived.ChangeOld
import Derived.SizedLaws
import Derived.Test.YtoedcnhgobbnfaaCFnExactFrontier1
import Derived.Test.YtoedcnhgobbnfaaCFnExactFrontier2
import Derived.Test.YtoedcnhgobbnfaaCFnExactFrontier3
namespace Go.Proofs.Ytoedcnhgobbnfaa.All
open Go.RowKit Go.Proofs.YtoedcnhgobbnfaaW.PrintWords Go.Proofs.YtoedcnhgobbnfaaW.PrintLast Go.Proofs.YtoedcnhgobbnfaaW.PrintMore
attribute [local go_sem] max2_int min2_int max_two min_two max_three min_three max_four min_four   -- for this text's walks alone
set_option linter.unusedVariables false
set_option linter.unusedSimpArgs false

/-! ### impl_reached: function 49 -/
mutual
def impl_reached.j0 : Nat → Int → List Bool → Bool → ByteArray → Int → List Int → Int → List (S62) → Option (List Bool)
 | 0, _, _, _, _, _, _, _, _ => none
 | k + 1, x1, x5, x21, x242000, x242001, x242002, x242003, x242004 => if x21 = true then (some x5) else (if 0 < (x5.length : Int) then (impl_reached.l0 k x1 (x5.set (0 : Int).toNat true) (([0] : List Int)) x242000 x242001 x242002 x242003 x242004) else (none))
def impl_reached.l0 : Nat → Int → List Bool → List Int → ByteArray → Int → List Int → Int → List (S62) → Option (List Bool)
 | 0, _, _, _, _, _, _, _, _ => none
 | k + 1, x1, x5, x6, x242000, x242001, x242002, x242003, x242004 => if (x6.length : Int) > 0 then (if 0 ≤ (wrap64 ((x6.length : Int) - 1)) then (if (wrap64 ((x6.length : Int) - 1)) < (x6.length : Int) then (if (wrap64 ((x6.length : Int) - 1)) ≤ (x6.length : Int) then ((impl_NextBlocks.f x242000 x242001 x242002 x242003 x242004 (rd x6 (wrap64 ((x6.length : Int) - 1)))).bind fun t253 => (impl_reached.l1 k x1 x5 (x6.take ((wrap64 ((x6.length : Int) - 1)) : Int).toNat) t253 (t253.length : Int) 0 x242000 x242001 x242002 x242003 x242004)) else (none)) else (none)) else (none)) else (some x5)
def impl_reached.l1 : Nat → Int → List Bool → List Int → List Int → Int → Int → ByteArray → Int → List Int → Int → List (S62) → Option (List Bool)
 | 0, _, _, _, _, _, _, _, _, _, _, _ => none
 | k + 1, x1, x5, x6, x42, x43, x44, x242000, x242001, x242002, x242003, x242004 => if x44 < x43 then (if 0 ≤ x44 then (if x44 < (x42.length : Int) then (if 0 ≤ (rd x42 x44) then (if (rd x42 x44) < (x5.length : Int) then (if (rdOf false x5 (rd x42 x44) = true) then (impl_reached.l1 k x1 x5 x6 x42 x43 (wrap64 (x44 + 1)) x242000 x242001 x242002 x242003 x242004) else (if (rd x42 x44) = x1 then (impl_reached.l1 k x1 x5 x6 x42 x43 (wrap64 (x44 + 1)) x242000 x242001 x242002 x242003 x242004) else (if x6.length < 17592186044416 then (impl_reached.l1 k x1 (x5.set ((rd x42 x44) : Int).toNat true) (x6 ++ [rd x42 x44]) x42 x43 (wrap64 (x44 + 1)) x242000 x242001 x242002 x242003 x242004) else (none)))) else (none)) else (none)) else (none)) else (none)) else (impl_reached.l0 k x1 x5 x6 x242000 x242001 x242002 x242003 x242004)
end
def impl_reached.f (k : Nat) (a0_0 : ByteArray) (a0_1 : Int) (l0_2 : List Int) (a0_3 : Int) (l0_4 : List (S62)) (a1 : Int) : Option (List Bool) := if 0 ≤ (l0_4.length : Int) then (if ((l0_4.length : Int) : Int).toNat ≤ 281474976710656 then ((some (List.replicate ((l0_4.length : Int) : Int).toNat false : List Bool)).bind fun y242 => (if (l0_4.length : Int) = 0 then (impl_reached.j0 k a1 y242 true a0_0 a0_1 l0_2 a0_3 l0_4) else (impl_reached.j0 k a1 y242 (a1 == 0) a0_0 a0_1 l0_2 a0_3 l0_4))) else (none)) else (none)
set_option maxHeartbeats 8000000 in
set_option maxRecDepth 100000 in
theorem impl_reached.calls (k : Nat) (a0_0 : ByteArray) (a0_1 : Int) (A0_2 : Option Addr) (c0_2 : Nat) (l0_2 : List Int) (a0_3 : Int) (A0_4 : Option Addr) (c0_4 : Nat) (l0_4 : List (S62)) (a1 : Int) (r : List Bool) (w : World) (hr0_2 : Kd.C (Kd.int .i64) w A0_2 l0_2.length l0_2) (hc0_2 : l0_2.length ≤ c0_2) (hr0_4 : Kd.C k62 w A0_4 l0_4.length l0_4) (hc0_4 : l0_4.length ≤ c0_4) (h : impl_reached.f k a0_0 a0_1 l0_2 a0_3 l0_4 a1 = some r) :
 Calls Try.prog 49 #[.agg #[.string a0_0, .int .i64 a0_1, .slice A0_2 l0_2.length c0_2, .int .i64 a0_3, .slice A0_4 l0_4.length c0_4], .int .i64 a1] w fun e w' => ∃ v0_ : Value, e = .returned (v0_) ∧ Kd.R Kd.bool 4 w' w.heap.size (fun _ => True) v0_ r ∧ Below w.heap.size w w' := by
 have hu30 := Try.underlying30
 have HR0_2 := Aside0.mk hr0_2
 have HC0_2 := Aside0.mk hc0_2
 clear hr0_2 hc0_2
 have HR0_4 := Aside0.mk hr0_4
 have HC0_4 := Aside0.mk hc0_4
 clear hr0_4 hc0_4
 have HB := Aside0.mk (Below.refl w.heap.size w)
 have H : (if 0 ≤ (l0_4.length : Int) then (if ((l0_4.length : Int) : Int).toNat ≤ 281474976710656 then ((some (List.replicate ((l0_4.length : Int) : Int).toNat false : List Bool)).bind fun y242 => (if (l0_4.length : Int) = 0 then (impl_reached.j0 k a1 y242 true a0_0 a0_1 l0_2 a0_3 l0_4) else (impl_reached.j0 k a1 y242 (a1 == 0) a0_0 a0_1 l0_2 a0_3 l0_4))) else (none)) else (none)) = some r := h
 clear h
 by_cases c3 : 0 ≤ (l0_4.length : Int)
 · rw [if_pos c3] at H
   have c3b0 := eq_true c3
   have c3b1 : decide (0 ≤ (l0_4.length : Int)) = true := decide_eq_true c3
   clear c3
   by_cases c4 : ((l0_4.length : Int) : Int).toNat ≤ 281474976710656
   · rw [if_pos c4] at H
     have c4b0 := eq_true c4
     have c4b1 : decide (((l0_4.length : Int) : Int).toNat ≤ 281474976710656) = true := decide_eq_true c4
     clear c4
     obtain ⟨y242, hy242⟩ : ∃ y_ : List Bool, y_ = (List.replicate ((l0_4.length : Int) : Int).toNat false) := ⟨_, rfl⟩
     replace H : (if (l0_4.length : Int) = 0 then (impl_reached.j0 k a1 y242 true a0_0 a0_1 l0_2 a0_3 l0_4) else (impl_reached.j0 k a1 y242 (a1 == 0) a0_0 a0_1 l0_2 a0_3 l0_4)) = some r := by first | (rw [hy242]; with_reducible exact H) | (have H2_ := (Option.bind_some _ _).symm.trans H; rw [hy242]; with_reducible exact H2_) | (have H2_ := (Option.bind_some _ _).symm.trans H; with_reducible exact H2_) | with_reducible exact H | (rw [hy242]; exact H) | exact H
     have Ny242 := Aside0.mk hy242
     clear hy242
     have HC5 := Aside0.mk H
     clear H
     go_enter Try.func49, Try.ntmps49
     go_upto_region 2 with (first | ((with_reducible refine gate_dst (N := 2) rfl ?_); refine box_event ?hg (N := 2) ?hd (cs := #[.string a0_0, .int .i64 a0_1, .slice A0_2 l0_2.length c0_2, .int .i64 a0_3, .slice A0_4 l0_4.length c0_4]) (t := 30) ?hr ?_; (case hd => rfl); (case hg => rfl); (case hr => first | (go_simp; done) | (go_simp; rfl)); intro gb241 hg w6 hbox hb; have n0_ := Aside0.mk (below_step (by repeat (first | (with_reducible first | exact HB.out | apply below_alloc | apply pw_below_drewN | apply below_drew1) | exact HB.out)) hb); have n1_ := Aside0.mk (hbox); have n2_ := Aside0.mk ((by rw [hg]; exact (below_size (by repeat (first | (with_reducible first | exact HB.out | apply below_alloc | apply pw_below_drewN | apply below_drew1) | exact HB.out))) : w.heap.size ≤ gb241)); have n3_ := Aside0.mk ((by rw [hg]; exact (below_size (by repeat (first | (with_reducible first | exact HB.out | apply below_alloc | apply pw_below_drewN | apply below_drew1) | exact HB.out))) : w.heap.size ≤ gb241)); clear HB; have HB := n0_; have BK241 := n1_; have GW241 := n2_; have GE241 := n3_; clear n0_ n1_ n2_ n3_; clear hb hbox hg; have hcz7_0 : w6.cell? ⟨gb241, 0, none⟩ = some (.string a0_0) := (blk_cell BK241.out 0).trans rfl; have hcz7_1 : w6.cell? ⟨gb241, 1, none⟩ = some (.int .i64 a0_1) := (blk_cell BK241.out 1).trans rfl; have hcz7_2 : w6.cell? ⟨gb241, 2, none⟩ = some (.slice A0_2 l0_2.length c0_2) := (blk_cell BK241.out 2).trans rfl; have hcz7_3 : w6.cell? ⟨gb241, 3, none⟩ = some (.int .i64 a0_3) := (blk_cell BK241.out 3).trans rfl; have hcz7_4 : w6.cell? ⟨gb241, 4, none⟩ = some (.slice A0_4 l0_4.length c0_4) := (blk_cell BK241.out 4).trans rfl; have hfz7_0 := blk_frozen BK241.out 0; have hfz7_1 := blk_frozen BK241.out 1; have hfz7_2 := blk_frozen BK241.out 2; have hfz7_3 := blk_frozen BK241.out 3; have hfz7_4 := blk_frozen BK241.out 4) | ((with_reducible refine gate_dst (N := 13) rfl ?_); refine Kd.R_make Kd.bool _ 4 rfl (N := 13) rfl 54 _ _ rfl (l0_4.length : Int) rfl rfl Try.underlying54 (.bool false) 1 info4 rfl (by decide) (by omega) false (ok := fun _ => True) (okp := fun _ => True) rfl (fun _ hk => hk) trivial (of_decide_eq_true (by first | (with_reducible assumption) | assumption)) (Nat.le_trans (Nat.mul_le_mul_right _ (of_decide_eq_true (by first | (with_reducible assumption) | assumption) : (l0_4.length : Int).toNat ≤ 281474976710656)) (by omega)) (Below.refl _ _) (Nat.le_refl _) ?_; intro v243 w8 ho9 hb hg_ hnew_; clear hg_ hnew_; (first | rw [← Ny242.out] at ho9 | (simp only [Int.reduceToNat] at ho9; rw [← Ny242.out] at ho9)); have n0_ := Aside0.mk (Kd.R_lower ho9 (below_size (by repeat (first | (with_reducible first | exact HB.out | apply below_alloc | apply pw_below_drewN | apply below_drew1 | refine below_set ?_ GE241.out) | exact HB.out)))); have n1_ := Aside0.mk (blk_below (g := gb241) (o := .cells #[.string a0_0, .int .i64 a0_1, .slice A0_2 l0_2.length c0_2, .int .i64 a0_3, .slice A0_4 l0_4.length c0_4] 30 (0, 0)) (by (with_reducible repeat (first | refine blk_drewN ?_ _ | refine blk_drew ?_ | refine blk_alloc ?_ _)); exact BK241.out) hb); have n2_ := Aside0.mk (below_step (by repeat (first | (with_reducible first | exact HB.out | apply below_alloc | apply pw_below_drewN | apply below_drew1 | refine below_set ?_ GE241.out) | exact HB.out)) hb); clear BK241; clear HB; have HO244 := n0_; have BK241 := n1_; have HB := n2_; clear n0_ n1_ n2_; clear hb ho9))
     (try simp only [Act.put, List.setIfInBounds_toArray, List.set_cons_zero, List.set_cons_succ])
     go_cut [21] (fun v21 wc => ∃ (kq : Nat) (x21_4 : Bool), v21 = .bool x21_4 ∧ Aside0 (impl_reached.j0 kq a1 y242 x21_4 a0_0 a0_1 l0_2 a0_3 l0_4 = some r) ∧ Aside0 (kq ≤ k) ∧ Aside0 (Kd.R Kd.bool 4 wc w.heap.size (fun _ => True) v243 y242) ∧ Aside0 (wc.heap[gb241]? = some (.cells #[.string a0_0, .int .i64 a0_1, (.slice A0_2 l0_2.length c0_2), .int .i64 a0_3, (.slice A0_4 l0_4.length c0_4)] 30 (0, 0))) ∧ Aside0 (Below w.heap.size w wc))
     case first =>
      have H := HC5.out
      clear HC5
      by_cases c10 : (l0_4.length : Int) = 0
      · rw [if_pos c10] at H
        have c10b0 : ((l0_4.length : Int) == 0) = true := beq_iff_eq.mpr c10
        have c10b1 : ((l0_4.length : Int) != 0) = false := bne_eq_false_iff_eq.mpr c10
        clear c10
        (first | rw [c10b0] | (simp only [i64_w, i32_w]; rw [c10b0]) | skip)
        have H' := Aside0.mk H
        clear H
        have hcz11_0 : w8.cell? ⟨gb241, 0, none⟩ = some (.string a0_0) := (blk_cell BK241.out 0).trans rfl
        have hcz11_1 : w8.cell? ⟨gb241, 1, none⟩ = some (.int .i64 a0_1) := (blk_cell BK241.out 1).trans rfl
        have hcz11_2 : w8.cell? ⟨gb241, 2, none⟩ = some (.slice A0_2 l0_2.length c0_2) := (blk_cell BK241.out 2).trans rfl
        have hcz11_3 : w8.cell? ⟨gb241, 3, none⟩ = some (.int .i64 a0_3) := (blk_cell BK241.out 3).trans rfl
        have hcz11_4 : w8.cell? ⟨gb241, 4, none⟩ = some (.slice A0_4 l0_4.length c0_4) := (blk_cell BK241.out 4).trans rfl
        have hfz11_0 := blk_frozen BK241.out 0
        have hfz11_1 := blk_frozen BK241.out 1
        have hfz11_2 := blk_frozen BK241.out 2
        have hfz11_3 := blk_frozen BK241.out 3
        have hfz11_4 := blk_frozen BK241.out 4
        go_wp2
        go_meet
        case rel => exact ⟨_, (true), (by first | rfl | (simp; done) | (simp [*]; done)), H', ⟨by first | omega | exact Nat.le_refl _⟩, ⟨by (with_reducible repeat (first | apply Kd.R_alloc | apply Kd.R_drewN | apply Kd.R_drew)); exact HO244.out⟩, ⟨by (with_reducible repeat (first | refine blk_drewN ?_ _ | refine blk_drew ?_ | refine blk_alloc ?_ _)); exact BK241.out⟩, ⟨by repeat (first | (with_reducible first | exact HB.out | apply below_alloc | apply pw_below_drewN | apply below_drew1 | refine below_set ?_ GE241.out) | exact HB.out)⟩⟩
      · rw [if_neg c10] at H
        have c10b0 : ((l0_4.length : Int) == 0) = false := beq_eq_false_iff_ne.mpr c10
        have c10b1 : ((l0_4.length : Int) != 0) = true := bne_iff_ne.mpr c10
        have c10b2 : ¬ (l0_4 = []) := fun h_ => c10 (by rw [h_]; rfl)
        (first | rw [c10b0] | (simp only [i64_w, i32_w]; rw [c10b0]) | skip)
        have H' := Aside0.mk H
        clear H
        have hcz12_0 : w8.cell? ⟨gb241, 0, none⟩ = some (.string a0_0) := (blk_cell BK241.out 0).trans rfl
        have hcz12_1 : w8.cell? ⟨gb241, 1, none⟩ = some (.int .i64 a0_1) := (blk_cell BK241.out 1).trans rfl
        have hcz12_2 : w8.cell? ⟨gb241, 2, none⟩ = some (.slice A0_2 l0_2.length c0_2) := (blk_cell BK241.out 2).trans rfl
        have hcz12_3 : w8.cell? ⟨gb241, 3, none⟩ = some (.int .i64 a0_3) := (blk_cell BK241.out 3).trans rfl
        have hcz12_4 : w8.cell? ⟨gb241, 4, none⟩ = some (.slice A0_4 l0_4.length c0_4) := (blk_cell BK241.out 4).trans rfl
        have hfz12_0 := blk_frozen BK241.out 0
        have hfz12_1 := blk_frozen BK241.out 1
        have hfz12_2 := blk_frozen BK241.out 2
        have hfz12_3 := blk_frozen BK241.out 3
        have hfz12_4 := blk_frozen BK241.out 4
        go_wp2
        go_meet
        case rel => exact ⟨_, ((a1 == 0)), (by first | rfl | (simp; done) | (simp [*]; done)), H', ⟨by first | omega | exact Nat.le_refl _⟩, ⟨by (with_reducible repeat (first | apply Kd.R_alloc | apply Kd.R_drewN | apply Kd.R_drew)); exact HO244.out⟩, ⟨by (with_reducible repeat (first | refine blk_drewN ?_ _ | refine blk_drew ?_ | refine blk_alloc ?_ _)); exact BK241.out⟩, ⟨by repeat (first | (with_reducible first | exact HB.out | apply below_alloc | apply pw_below_drewN | apply below_drew1 | refine below_set ?_ GE241.out) | exact HB.out)⟩⟩
     case rest =>
      clear HC5
      try clear c1
      try clear p2
      try clear c3
      try clear c3b0
      try clear c3b1
      try clear c4
      try clear c4b0
      try clear c4b1
      try clear c10
      try clear c10b0
      try clear c10b1
      try clear c10b2
      try clear hcz11_0
      try clear hcz11_1
      try clear hcz11_2
      try clear hcz11_3
      try clear hcz11_4
      try clear hcz12_0
      try clear hcz12_1
      try clear hcz12_2
      try clear hcz12_3
      try clear hcz12_4
      try clear hcz7_0
      try clear hcz7_1
      try clear hcz7_2
      try clear hcz7_3
      try clear hcz7_4
      try clear hfz11_0
      try clear hfz11_1
      try clear hfz11_2
      try clear hfz11_3
      try clear hfz11_4
      try clear hfz12_0
      try clear hfz12_1
      try clear hfz12_2
      try clear hfz12_3
      try clear hfz12_4
      try clear hfz7_0
      try clear hfz7_1
      try clear hfz7_2
      try clear hfz7_3
      try clear hfz7_4
      obtain ⟨kq, x21_4, rfl, HA, HJ4, HO_5, BK241, HB⟩ := hcut
      cases kq with
      | zero => exact absurd HA.out (by simp [impl_reached.j0])
      | succ kj4 =>
       have H := HA.out
       clear HA
       simp only [impl_reached.j0] at H
       by_cases c13 : x21_4 = true
       · subst c13
         have H1 : (some y242) = some r := by rw [if_pos rfl] at H; exact H
         clear H
         have H := H1
         clear H1
         obtain rfl := Option.some.inj H
         go_wp2
         go_ret
         exact ⟨_, by first | rfl | (simp [errW_none, errW_some] <;> rfl) | (simp [*, errW_none, errW_some] <;> rfl), by (with_reducible repeat (first | apply Kd.R_alloc | apply Kd.R_drewN | apply Kd.R_drew)); exact HO_5.out, by repeat (first | (with_reducible first | exact HB.out | apply below_alloc | apply pw_below_drewN | apply below_drew1 | refine below_set ?_ GE241.out) | exact HB.out)⟩
       · replace c13 := Bool.eq_false_iff.mpr c13
         subst c13
         have H1 : (if 0 < (y242.length : Int) then (impl_reached.l0 kj4 a1 (y242.set (0 : Int).toNat true) (([0] : List Int)) a0_0 a0_1 l0_2 a0_3 l0_4) else (none)) = some r := by rw [if_neg (show ¬ (false = true) by decide)] at H; exact H
         clear H
         have H := H1
         clear H1
         obtain ⟨y245, hy245⟩ : ∃ y_ : List Int, y_ = (([0] : List Int)) := ⟨_, rfl⟩
         replace H : (if 0 < (y242.length : Int) then (impl_reached.l0 kj4 a1 (y242.set (0 : Int).toNat true) y245 a0_0 a0_1 l0_2 a0_3 l0_4) else (none)) = some r := by first | (rw [hy245]; with_reducible exact H) | (have H2_ := (Option.bind_some _ _).symm.trans H; rw [hy245]; with_reducible exact H2_) | (have H2_ := (Option.bind_some _ _).symm.trans H; with_reducible exact H2_) | with_reducible exact H | (rw [hy245]; exact H) | exact H
         have Ny245 := Aside0.mk hy245
         clear hy245
         by_cases c14 : 0 < (y242.length : Int)
         · rw [if_pos c14] at H
           have c14b0 : decide (0 < (y242.length : Int)) = true := decide_eq_true c14
           have c14b1 : decide (0 < y242.length) = true := decide_eq_true (by omega)
           clear c14
           obtain ⟨y248, hy248⟩ : ∃ y_ : List Bool, y_ = (y242.set (0 : Int).toNat true) := ⟨_, rfl⟩
           replace H : (impl_reached.l0 kj4 a1 y248 y245 a0_0 a0_1 l0_2 a0_3 l0_4) = some r := by first | (rw [hy248]; with_reducible exact H) | (have H2_ := (Option.bind_some _ _).symm.trans H; rw [hy248]; with_reducible exact H2_) | (have H2_ := (Option.bind_some _ _).symm.trans H; with_reducible exact H2_) | with_reducible exact H | (rw [hy248]; exact H) | exact H
           have Ny248 := Aside0.mk hy248
           clear hy248
           have H' := Aside0.mk H
           clear H
           go_wp2_with (first | ((with_reducible refine gate_dst (N := 23) rfl ?_); refine Kd.R_lit (Kd.int .i64) _ 2 ?hg (N := 23) ?hd (xs := ([0] : List Int)) (inner := [.int .i64 0]) (ok := fun _ => True) (okp := fun _ => True) ?hr ?hp (fun _ hk => hk) trivial (Below.refl _ _) (Nat.le_refl _) (by simp) ?_; (case hd => rfl); (case hg => rfl); (case hr => first | (go_simp; done) | (go_simp; rfl)); (case hp => exact (Reps.one (show Kd.M (Kd.int .i64) _ _ _ 0 [.int .i64 0] from rfl) (Reps.none _ _))); intro v246 w16 ho17 hb hg_ hnew_; clear hg_ hnew_; (first | rw [← Ny245.out] at ho17 | (simp only [Int.reduceToNat] at ho17; rw [← Ny245.out] at ho17)); have n0_ := Aside0.mk (Kd.R_below (by (with_reducible repeat (first | apply Kd.R_alloc | apply Kd.R_drewN | apply Kd.R_drew)); exact HO_5.out) hb); have n1_ := Aside0.mk (Kd.R_lower ho17 (below_size (by repeat (first | (with_reducible first | exact HB.out | apply below_alloc | apply pw_below_drewN | apply below_drew1 | refine below_set ?_ GE241.out) | exact HB.out)))); have n2_ := Aside0.mk (blk_below (g := gb241) (o := .cells #[.string a0_0, .int .i64 a0_1, .slice A0_2 l0_2.length c0_2, .int .i64 a0_3, .slice A0_4 l0_4.length c0_4] 30 (0, 0)) (by (with_reducible repeat (first | refine blk_drewN ?_ _ | refine blk_drew ?_ | refine blk_alloc ?_ _)); exact BK241.out) hb); have n3_ := Aside0.mk (below_step (by repeat (first | (with_reducible first | exact HB.out | apply below_alloc | apply pw_below_drewN | apply below_drew1 | refine below_set ?_ GE241.out) | exact HB.out)) hb); clear HO_5; clear BK241; clear HB; have HO_5 := n0_; have HO247 := n1_; have BK241 := n2_; have HB := n3_; clear n0_ n1_ n2_ n3_; clear hb ho17; have p15 : 0 ≤ (0 : Int) := (by omega); have q15 : (0 : Int) < ((y242.length : Int) : Int) := of_decide_eq_true (by first | (with_reducible assumption) | assumption); have qi15 : (0 < y242.length) = True := eq_true (by omega); obtain ⟨go15, co15, eo15, gb15, gl15, cl15, HG15⟩ := Kd.R_form HO_5.out (by omega); (first | cases eo15 | (injection eo15 with ea_ en_ ec_; (first | subst ea_ | (injection ea_ with ea_; subst ea_)); subst ec_; clear en_)); have GB15 := Aside0.mk gb15; have GG15 := Aside0.mk HG15; clear gb15 gl15 HG15; obtain ⟨hx15_0, hf15_0⟩ := Kd.R_celln false HO_5.out (0 : Int) p15 q15; (try rw [show ((0 : Int)).toNat = 0 from rfl] at hx15_0); (try simp only [Nat.reduceMul, Nat.zero_mul, Nat.zero_add, Nat.reduceAdd] at hx15_0); (try rw [show ((0 : Int)).toNat = 0 from rfl] at hf15_0); (try simp only [Nat.reduceMul, Nat.zero_mul, Nat.zero_add, Nat.reduceAdd] at hf15_0); replace p15 := eq_true p15; replace q15 := eq_true q15; obtain ⟨hy18_, hz18_⟩ := Kd.R_celln false HO_5.out (0 : Int) (by omega) (of_decide_eq_true (by first | (with_reducible assumption) | assumption)); (try simp only [Int.reduceToNat, Int.toNat_zero, Int.toNat_ofNat, Nat.reduceMul, Nat.zero_mul, Nat.zero_add] at hy18_ hz18_); (try rw [show ((0 : Int)).toNat = 0 from rfl] at hy18_); (try rw [show ((0 : Int)).toNat = 0 from rfl] at hz18_); have HP18 := Kd.R_putg HO_5.out (0 : Int) true) | ((with_reducible refine gate_store (t := 4) (p := 25) rfl ?_); refine store_event (t := 4) (p := 25) (v := ?vo_w19) (w1 := (w16.setCell ⟨go15, (0 : Int).toNat, none⟩ (.bool true))) ?hg ?ho ?hn ?hr ?_; (case ho => rfl); (case hg => rfl); (case hn => rfl); (case hr => first | (go_simp; done) | (go_simp; rfl)); intro w19 hw; have hg : w16.grownBy w19 (some go15) := (by rw [hw]; exact HP18.2); have hp_ : Kd.R Kd.bool 4 w19 w.heap.size (fun _ => True) (.slice (some ⟨go15, 0, none⟩) y242.length co15) y248 := (by rw [hw, Ny248.out]; exact HP18.1); clear HP18; have n0_ := Aside0.mk (hp_); have n1_ := Aside0.mk (blk_grown (g := gb241) (o := .cells #[.string a0_0, .int .i64 a0_1, .slice A0_2 l0_2.length c0_2, .int .i64 a0_3, .slice A0_4 l0_4.length c0_4] 30 (0, 0)) (by (with_reducible repeat (first | refine blk_drewN ?_ _ | refine blk_drew ?_ | refine blk_alloc ?_ _)); exact BK241.out) hg (Kd.R_ne HO_5.out BK241.out (by decide))); have n2_ := Aside0.mk (Kd.R_over' (v := (.slice (some ⟨go15, 0, none⟩) y242.length co15)) (by (with_reducible repeat (first | apply Kd.R_alloc | apply Kd.R_drewN | apply Kd.R_drew)); exact HO247.out) (Kd.R_typed HO_5.out) (by decide) hg); have n3_ := Aside0.mk ((by rw [hw]; exact below_set (HB.out) GB15.out : Below w.heap.size w w19)); clear HO_5; clear BK241; clear HO247; clear HB; have HO_5 := n0_; have BK241 := n1_; have HO247 := n2_; have HB := n3_; clear n0_ n1_ n2_ n3_; clear hg hw hp_))
           go_loopg [6] kj4 (fun kq v6 w' => ∃ (x5_2 : List Bool) (x6_2 : List Int), Aside0 (impl_reached.l0 kq a1 x5_2 x6_2 a0_0 a0_1 l0_2 a0_3 l0_4 = some r) ∧ Aside0 (kq ≤ kj4) ∧ Aside0 (Kd.R Kd.bool 4 w' w.heap.size (fun _ => True) (.slice (some ⟨go15, 0, none⟩) y242.length co15) x5_2) ∧ Aside0 (Kd.R (Kd.int .i64) 2 w' w.heap.size (fun _ => True) v6 x6_2) ∧ Aside0 (w'.heap[gb241]? = some (.cells #[.string a0_0, .int .i64 a0_1, (.slice A0_2 l0_2.length c0_2), .int .i64 a0_3, (.slice A0_4 l0_4.length c0_4)] 30 (0, 0))) ∧ Aside0 (Below w.heap.size w w'))
           case atStart => exact ⟨(y248), (y245), H', ⟨Nat.le_refl _⟩, ⟨by (with_reducible repeat (first | apply Kd.R_alloc | apply Kd.R_drewN | apply Kd.R_drew)); exact HO_5.out⟩, ⟨by (with_reducible repeat (first | apply Kd.R_alloc | apply Kd.R_drewN | apply Kd.R_drew)); exact HO247.out⟩, ⟨by (with_reducible repeat (first | refine blk_drewN ?_ _ | refine blk_drew ?_ | refine blk_alloc ?_ _)); exact BK241.out⟩, ⟨by repeat (first | (with_reducible first | exact HB.out | apply below_alloc | apply pw_below_drewN | apply below_drew1 | refine below_set ?_ GE241.out) | exact HB.out)⟩⟩
           case round =>
            clear H'
            try clear c1
            try clear p1
            try clear q1
            try clear hx1
            try clear qi1
            try clear p2
            try clear c3
            try clear c3b0
            try clear c3b1
            try clear c4
            try clear c4b0
            try clear c4b1
            try clear c10
            try clear c10b0
            try clear c10b1
            try clear c10b2
            try clear c13
            try clear c14
            try clear c14b0
            try clear c14b1
            try clear p15
            try clear q15
            try clear hx15
            try clear qi15
            try clear hf15
            try clear hcz11_0
            try clear hcz11_1
            try clear hcz11_2
            try clear hcz11_3
            try clear hcz11_4
            try clear hcz12_0
            try clear hcz12_1
            try clear hcz12_2
            try clear hcz12_3
            try clear hcz12_4
            try clear hcz7_0
            try clear hcz7_1
            try clear hcz7_2
            try clear hcz7_3
            try clear hcz7_4
            try clear hfz11_0
            try clear hfz11_1
            try clear hfz11_2
            try clear hfz11_3
            try clear hfz11_4
            try clear hfz12_0
            try clear hfz12_1
            try clear hfz12_2
            try clear hfz12_3
            try clear hfz12_4
            try clear hfz7_0
            try clear hfz7_1
            try clear hfz7_2
            try clear hfz7_3
            try clear hfz7_4
            try clear hx15_0
            try clear p15
            try clear p2
            try clear q15
            obtain ⟨x5_2, x6_2, HA, HK2, HO_5, HO_6, BK241, HB⟩ := hrel
            have hl5_2 := (Kd.R_reads' HO_5.out).1
            rw [hl5_2] at HO_5
            (try simp only [hl5_2])
            (try simp only [hl5_2] at BK241)
            (try simp only [hl5_2] at HO_6)
            cases gk with
            | zero => exact absurd HA.out (by simp [impl_reached.l0])
            | succ k2 =>
             have H := HA.out
             clear HA
             simp only [impl_reached.l0] at H
             by_cases c20 : (x6_2.length : Int) > 0
             · rw [if_pos c20] at H
               have c20b0 : decide (0 < (x6_2.length : Int)) = true := decide_eq_true c20
               have c20b1 : decide (0 < x6_2.length) = true := decide_eq_true (by omega)
               clear c20
               obtain ⟨ji21, hji21⟩ : ∃ j_ : Int, (wrap64 ((x6_2.length : Int) - 1)) = j_ := ⟨_, rfl⟩
               replace H : (if 0 ≤ (ji21) then (if (ji21) < (x6_2.length : Int) then (if (ji21) ≤ (x6_2.length : Int) then ((impl_NextBlocks.f a0_0 a0_1 l0_2 a0_3 l0_4 (rd x6_2 (ji21))).bind fun t253 => (impl_reached.l1 k2 a1 x5_2 (x6_2.take ((ji21) : Int).toNat) t253 (t253.length : Int) 0 a0_0 a0_1 l0_2 a0_3 l0_4)) else (none)) else (none)) else (none)) = some r := by first | (rw [hji21] at H; exact H) | (simp only [hji21] at H ⊢; exact H)
               have hji21w : (IntKind.i64.wrap ((x6_2.length : Int) - 1)) = ji21 := (i64_w _).trans hji21
               by_cases c22 : 0 ≤ (ji21)
               · rw [if_pos c22] at H
                 have c22b0 : decide (0 ≤ (ji21)) = true := decide_eq_true c22
                 clear c22
                 by_cases c23 : (ji21) < (x6_2.length : Int)
                 · rw [if_pos c23] at H
                   have c23b0 : decide ((ji21) < (x6_2.length : Int)) = true := decide_eq_true c23
                   clear c23
                   by_cases c24 : (ji21) ≤ (x6_2.length : Int)
                   · rw [if_pos c24] at H
                     have c24b0 := eq_true c24
                     have c24b1 : decide ((ji21) ≤ (x6_2.length : Int)) = true := decide_eq_true c24
                     clear c24
                     obtain ⟨y250, hy250⟩ : ∃ y_ : List Int, y_ = (x6_2.take ((ji21) : Int).toNat) := ⟨_, rfl⟩
                     replace H : ((impl_NextBlocks.f a0_0 a0_1 l0_2 a0_3 l0_4 (rd x6_2 (ji21))).bind fun t253 => (impl_reached.l1 k2 a1 x5_2 y250 t253 (t253.length : Int) 0 a0_0 a0_1 l0_2 a0_3 l0_4)) = some r := by first | (rw [hy250]; with_reducible exact H) | (have H2_ := (Option.bind_some _ _).symm.trans H; rw [hy250]; with_reducible exact H2_) | (have H2_ := (Option.bind_some _ _).symm.trans H; with_reducible exact H2_) | with_reducible exact H | (rw [hy250]; exact H) | exact H
                     have Ny250 := Aside0.mk hy250
                     clear hy250
                     replace H := Option.bind_eq_some_iff.mp H
                     obtain ⟨t253, A250, H⟩ := H
                     replace H : (impl_reached.l1 k2 a1 x5_2 y250 t253 (t253.length : Int) 0 a0_0 a0_1 l0_2 a0_3 l0_4) = some r := H
                     have A25 := Aside0.mk A250
                     clear A250
                     have H' := Aside0.mk H
                     clear H
                     obtain ⟨Ao26, co26, eo26⟩ := Kd.R_slice HO_6.out
                     subst eo26
                     have p249 : 0 ≤ ((ji21) : Int) := of_decide_eq_true (by first | (with_reducible assumption) | assumption)
                     have q249 : (ji21) < (x6_2.length : Int) := of_decide_eq_true (by first | (with_reducible assumption) | assumption)
                     obtain ⟨ad249, e249, hx249_0⟩ := Kd.at_int (Kd.R_reads' HO_6.out).2.2 (ji21) p249 q249
                     cases e249
                     replace p249 := eq_true p249
                     replace q249 := eq_true q249
                     have q27 : ((ji21) : Int) ≤ ((x6_2.length : Int) : Int) := of_decide_eq_true (by first | (with_reducible assumption) | assumption)
                     obtain ⟨i027, hi027, _, hsz27, _⟩ := info_parts info2
                     have hcut27 := cut_to (P := Try.prog) 22 2 .i64 Try.underlying22 hi027 (some ad249) x6_2.length co26 (ji21) (of_decide_eq_true (by first | (with_reducible assumption) | assumption)) q27 (Kd.R_reads' HO_6.out).2.1
                     have hr27 := Kd.R_take (m := ((ji21) : Int).toNat) HO_6.out (by omega)
                     have hy27 : y250.length = ((ji21) : Int).toNat := (by rw [Ny250.out, List.length_take]; omega)
                     rw [← Ny250.out] at hr27
                     rw [← hy27] at hr27 hcut27
                     clear hy27 hi027 hsz27 HO_6
                     have HO252 := Aside0.mk hr27
                     clear hr27
                     replace q27 := eq_true q27
                     have hcz28_0 : wr.cell? ⟨gb241, 0, none⟩ = some (.string a0_0) := (blk_cell BK241.out 0).trans rfl
                     have hcz28_1 : wr.cell? ⟨gb241, 1, none⟩ = some (.int .i64 a0_1) := (blk_cell BK241.out 1).trans rfl
                     have hcz28_2 : wr.cell? ⟨gb241, 2, none⟩ = some (.slice A0_2 l0_2.length c0_2) := (blk_cell BK241.out 2).trans rfl
                     have hcz28_3 : wr.cell? ⟨gb241, 3, none⟩ = some (.int .i64 a0_3) := (blk_cell BK241.out 3).trans rfl
                     have hcz28_4 : wr.cell? ⟨gb241, 4, none⟩ = some (.slice A0_4 l0_4.length c0_4) := (blk_cell BK241.out 4).trans rfl
                     have hfz28_0 := blk_frozen BK241.out 0
                     have hfz28_1 := blk_frozen BK241.out 1
                     have hfz28_2 := blk_frozen BK241.out 2
                     have hfz28_3 := blk_frozen BK241.out 3
                     have hfz28_4 := blk_frozen BK241.out 4
                     go_wp2_with (first | ((with_reducible refine gate_callee (f := 18) rfl ?_); refine goesL_ (some 42) rfl rfl Try.func18 (by kernel_rfl) rfl #[.agg #[.string a0_0, .int .i64 a0_1, .slice A0_2 l0_2.length c0_2, .int .i64 a0_3, .slice A0_4 l0_4.length c0_4], .int .i64 (rd x6_2 (ji21))] rfl (by (try simp only [List.map_toArray, List.map_cons, List.map_nil]); first | done | (simp only [hji21]; rfl) | rfl | (simp only [List.length_drop, List.length_take]; rfl)) ?_; (with_reducible refine (impl_NextBlocks.calls a0_0 a0_1 _ _ l0_2 a0_3 _ _ l0_4 (rd x6_2 (ji21)) t253 _ ?side1 ?side2 ?side3 ?side4 A25.out).mono ?_); (case side1 => repeat (first | exact (Kd.C_below HR0_2.out HB.out) | (with_reducible refine Kd.C_alloc ?_ _) | (with_reducible refine Kd.C_drewN ?_ _) | (with_reducible refine Kd.C_drew ?_))); (case side2 => exact HC0_2.out); (case side3 => repeat (first | exact (Kd.C_below HR0_4.out HB.out) | (with_reducible refine Kd.C_alloc ?_ _) | (with_reducible refine Kd.C_drewN ?_ _) | (with_reducible refine Kd.C_drew ?_))); (case side4 => exact HC0_4.out); rintro e w29 ⟨v254, rfl, ho0, hb⟩; refine ⟨_, rfl, ?_⟩; have n0_ := Aside0.mk (Kd.R_below (by (with_reducible repeat (first | apply Kd.R_alloc | apply Kd.R_drewN | apply Kd.R_drew)); exact HO_5.out) hb); have n1_ := Aside0.mk (Kd.R_elder' (by (with_reducible repeat (first | apply Kd.R_alloc | apply Kd.R_drewN | apply Kd.R_drew)); exact HO252.out) (Kd.R_base ho0) hb); have n2_ := Aside0.mk (Kd.R_lower (Kd.R_new' ho0 (Kd.R_lt (by (with_reducible repeat (first | apply Kd.R_alloc | apply Kd.R_drewN | apply Kd.R_drew)); exact HO252.out))) (below_size (by repeat (first | (with_reducible first | exact HB.out | apply below_alloc | apply pw_below_drewN | apply below_drew1 | refine below_set ?_ GE241.out) | exact HB.out)))); have n3_ := Aside0.mk (blk_below (g := gb241) (o := .cells #[.string a0_0, .int .i64 a0_1, .slice A0_2 l0_2.length c0_2, .int .i64 a0_3, .slice A0_4 l0_4.length c0_4] 30 (0, 0)) (by (with_reducible repeat (first | refine blk_drewN ?_ _ | refine blk_drew ?_ | refine blk_alloc ?_ _)); exact BK241.out) hb); have n4_ := Aside0.mk (below_step (by repeat (first | (with_reducible first | exact HB.out | apply below_alloc | apply pw_below_drewN | apply below_drew1 | refine below_set ?_ GE241.out) | exact HB.out)) hb); clear HO_5; clear HO252; clear BK241; clear HB; have HO_5 := n0_; have HO252 := n1_; have HO255 := n2_; have BK241 := n3_; have HB := n4_; clear n0_ n1_ n2_ n3_ n4_; (try clear hb); (try clear hb2); (try clear hk); (try clear hi); (try clear ho0); obtain ⟨Ao30, co30, eo30⟩ := Kd.R_slice HO255.out; subst eo30))
                     go_loopg [6, 44] k2 (fun kq v6 v44 w' => ∃ (x5_3 : List Bool) (x6_3 : List Int) (x44_3 : Int), v44 = .int .i64 x44_3 ∧ Aside0 (impl_reached.l1 kq a1 x5_3 x6_3 t253 (t253.length : Int) x44_3 a0_0 a0_1 l0_2 a0_3 l0_4 = some r) ∧ Aside0 (kq ≤ k2) ∧ Aside0 (Kd.R Kd.bool 4 w' w.heap.size (fun _ => True) (.slice (some ⟨go15, 0, none⟩) x5_2.length co15) x5_3) ∧ Aside0 (Kd.R (Kd.int .i64) 2 w' w.heap.size (fun k_ => some k_ ≠ ((.slice Ao30 t253.length co30) : Value).ownBlock) v6 x6_3) ∧ Aside0 (Kd.R (Kd.int .i64) 2 w' w.heap.size (fun k_ => some k_ ≠ (v6 : Value).ownBlock) (.slice Ao30 t253.length co30) t253) ∧ Aside0 (w'.heap[gb241]? = some (.cells #[.string a0_0, .int .i64 a0_1, (.slice A0_2 l0_2.length c0_2), .int .i64 a0_3, (.slice A0_4 l0_4.length c0_4)] 30 (0, 0))) ∧ Aside0 (Below w.heap.size w w'))
                     case atStart => exact ⟨(x5_2), (y250), (0), (by first | rfl | (simp; done) | (simp [*]; done)), H', ⟨Nat.le_refl _⟩, ⟨by (try simp only [hl5_2]); (with_reducible repeat (first | apply Kd.R_alloc | apply Kd.R_drewN | apply Kd.R_drew)); exact HO_5.out⟩, ⟨by (try simp only [hl5_2]); (with_reducible repeat (first | apply Kd.R_alloc | apply Kd.R_drewN | apply Kd.R_drew)); exact Kd.R_mono HO252.out (fun _ hk => hk.2)⟩, ⟨by (try simp only [hl5_2]); (with_reducible repeat (first | apply Kd.R_alloc | apply Kd.R_drewN | apply Kd.R_drew)); exact Kd.R_mono HO255.out (fun _ hk => hk.2)⟩, ⟨by (try simp only [hl5_2]); (with_reducible repeat (first | refine blk_drewN ?_ _ | refine blk_drew ?_ | refine blk_alloc ?_ _)); exact BK241.out⟩, ⟨by repeat (first | (with_reducible first | exact HB.out | apply below_alloc | apply pw_below_drewN | apply below_drew1 | refine below_set ?_ GE241.out) | exact HB.out)⟩⟩
                     case round =>
                      clear H'
                      try clear c1
                      try clear p1
                      try clear q1
                      try clear hx1
                      try clear qi1
                      try clear c2
                      try clear p2
                      try clear q2
                      try clear hx2
                      try clear c3
                      try clear c3b0
                      try clear c3b1
                      try clear c4
                      try clear c4b0
                      try clear c4b1
                      try clear p6
                      try clear c10
                      try clear c10b0
                      try clear c10b1
                      try clear c10b2
                      try clear c13
                      try clear c14
                      try clear c14b0
                      try clear c14b1
                      try clear p15
                      try clear q15
                      try clear hx15
                      try clear qi15
                      try clear hf15
                      try clear c18
                      try clear c20
                      try clear c20b0
                      try clear c20b1
                      try clear c22
                      try clear c22b0
                      try clear c23
                      try clear c23b0
                      try clear c24
                      try clear c24b0
                      try clear c24b1
                      try clear p24
                      try clear q24
                      try clear hx24
                      try clear q27
                      try clear hcz11_0
                      try clear hcz11_1
                      try clear hcz11_2
                      try clear hcz11_3
                      try clear hcz11_4
                      try clear hcz12_0
                      try clear hcz12_1
                      try clear hcz12_2
                      try clear hcz12_3
                      try clear hcz12_4
                      try clear hcz28_0
                      try clear hcz28_1
                      try clear hcz28_2
                      try clear hcz28_3
                      try clear hcz28_4
                      try clear hcz7_0
                      try clear hcz7_1
                      try clear hcz7_2
                      try clear hcz7_3
                      try clear hcz7_4
                      try clear hfz11_0
                      try clear hfz11_1
                      try clear hfz11_2
                      try clear hfz11_3
                      try clear hfz11_4
                      try clear hfz12_0
                      try clear hfz12_1
                      try clear hfz12_2
                      try clear hfz12_3
                      try clear hfz12_4
                      try clear hfz28_0
                      try clear hfz28_1
                      try clear hfz28_2
                      try clear hfz28_3
                      try clear hfz28_4
                      try clear hfz7_0
                      try clear hfz7_1
                      try clear hfz7_2
                      try clear hfz7_3
                      try clear hfz7_4
                      try clear hx15_0
                      try clear hx249_0
                      try clear p1
                      try clear p15
                      try clear p2
                      try clear p249
                      try clear q1
                      try clear q15
                      try clear q249
                      try clear q27
                      obtain ⟨x5_3, x6_3, x44_3, rfl, HA, HK3, HO_5, HO_6, HO_42, BK241, HB⟩ := hrel
                      have hl5_3 := (Kd.R_reads' HO_5.out).1
                      rw [hl5_3] at HO_5
                      (try simp only [hl5_3])
                      (try simp only [hl5_3] at BK241)
                      (try simp only [hl5_3] at HO_6)
                      (try simp only [hl5_3] at HO_42)
                      cases gk with
                      | zero => exact absurd HA.out (by simp [impl_reached.l1])
                      | succ k3 =>
                       have H := HA.out
                       clear HA
                       simp only [impl_reached.l1] at H
                       by_cases c31 : x44_3 < (t253.length : Int)
                       · rw [if_pos c31] at H
                         have c31b0 : decide (x44_3 < (t253.length : Int)) = true := decide_eq_true c31
                         clear c31
                         by_cases c32 : 0 ≤ x44_3
                         · rw [if_pos c32] at H
                           have c32b0 : decide (0 ≤ x44_3) = true := decide_eq_true c32
                           clear c32
                           by_cases c33 : x44_3 < (t253.length : Int)
                           · rw [if_pos c33] at H
                             have c33b0 : decide (x44_3 < (t253.length : Int)) = true := decide_eq_true c33
                             clear c33
                             by_cases c34 : 0 ≤ (rd t253 x44_3)
                             · rw [if_pos c34] at H
                               have c34b0 : decide (0 ≤ (rd t253 x44_3)) = true := decide_eq_true c34
                               clear c34
                               by_cases c35 : (rd t253 x44_3) < (x5_3.length : Int)
                               · rw [if_pos c35] at H
                                 have c35b0 : decide ((rd t253 x44_3) < (x5_3.length : Int)) = true := decide_eq_true c35
                                 clear c35
                                 obtain ⟨bq36, hbq36⟩ : ∃ b_ : Bool, b_ = (rdOf false x5_3 (rd t253 x44_3)) := ⟨_, rfl⟩
                                 replace H : (if (bq36 = true) then (impl_reached.l1 k3 a1 x5_3 x6_3 t253 (t253.length : Int) (wrap64 (x44_3 + 1)) a0_0 a0_1 l0_2 a0_3 l0_4) else (if (rd t253 x44_3) = a1 then (impl_reached.l1 k3 a1 x5_3 x6_3 t253 (t253.length : Int) (wrap64 (x44_3 + 1)) a0_0 a0_1 l0_2 a0_3 l0_4) else (if x6_3.length < 17592186044416 then (impl_reached.l1 k3 a1 (x5_3.set ((rd t253 x44_3) : Int).toNat true) (x6_3 ++ [rd t253 x44_3]) t253 (t253.length : Int) (wrap64 (x44_3 + 1)) a0_0 a0_1 l0_2 a0_3 l0_4) else (none)))) = some r := by rw [← hbq36] at H; exact H
                                 have Nbq36 := Aside0.mk hbq36
                                 clear hbq36
                                 by_cases c37 : (bq36 = true)
                                 · subst c37
                                   have H1 : (impl_reached.l1 k3 a1 x5_3 x6_3 t253 (t253.length : Int) (wrap64 (x44_3 + 1)) a0_0 a0_1 l0_2 a0_3 l0_4) = some r := by rw [if_pos rfl] at H; exact H
                                   clear H
                                   have H := H1
                                   clear H1
                                   have H' := Aside0.mk H
                                   clear H
                                   have p256 : 0 ≤ (x44_3 : Int) := of_decide_eq_true (by first | (with_reducible assumption) | assumption)
                                   have q256 : x44_3 < (t253.length : Int) := of_decide_eq_true (by first | (with_reducible assumption) | assumption)
                                   obtain ⟨ad256, e256, hx256_0⟩ := Kd.at_int (Kd.R_reads' HO_42.out).2.2 x44_3 p256 q256
                                   cases e256
                                   replace p256 := eq_true p256
                                   replace q256 := eq_true q256
                                   have p257 : 0 ≤ ((rd t253 x44_3) : Int) := of_decide_eq_true (by first | (with_reducible assumption) | assumption)
                                   have q257 : (rd t253 x44_3) < (x5_3.length : Int) := of_decide_eq_true (by first | (with_reducible assumption) | assumption)
                                   obtain ⟨ad257, e257, hx257_0⟩ := Kd.at_bool (Kd.R_reads' HO_5.out).2.2 (rd t253 x44_3) p257 q257
                                   (try rw [← Nbq36.out] at hx257_0)
                                   obtain rfl : (⟨go15, 0, none⟩ : Addr) = ad257 := (by injection e257)
                                   (first | simp only [add_plain] at hx257_0 | simp only [add_at] at hx257_0 | simp only [Addr.add, Nat.zero_add] at hx257_0 | skip)
                                   replace p257 := eq_true p257
                                   replace q257 := eq_true q257
                                   go_wp2
                                   (try simp only [← hl5_3])
                                   go_roundg k3
                                   case measure => have := HJ4.out; have := HK2.out; have := HK3.out; omega
                                   case rel => exact ⟨(x5_3), (x6_3), (wrap64 (x44_3 + 1)), (by first | rfl | (simp; done) | (simp [*]; done)), H', ⟨by have := HJ4.out; have := HK2.out; have := HK3.out; omega⟩, ⟨by (try simp only [hl5_2]); (try simp only [hl5_3]); (with_reducible repeat (first | apply Kd.R_alloc | apply Kd.R_drewN | apply Kd.R_drew)); exact HO_5.out⟩, ⟨by (try simp only [hl5_2]); (try simp only [hl5_3]); (with_reducible repeat (first | apply Kd.R_alloc | apply Kd.R_drewN | apply Kd.R_drew)); exact HO_6.out⟩, ⟨by (try simp only [hl5_2]); (try simp only [hl5_3]); (with_reducible repeat (first | apply Kd.R_alloc | apply Kd.R_drewN | apply Kd.R_drew)); exact HO_42.out⟩, ⟨by (try simp only [hl5_2]); (try simp only [hl5_3]); (with_reducible repeat (first | refine blk_drewN ?_ _ | refine blk_drew ?_ | refine blk_alloc ?_ _)); exact BK241.out⟩, ⟨by repeat (first | (with_reducible first | exact HB.out | apply below_alloc | apply pw_below_drewN | apply below_drew1 | refine below_set ?_ GE241.out) | exact HB.out)⟩⟩
                                 · replace c37 := Bool.eq_false_iff.mpr c37
                                   subst c37
                                   have H1 : (if (rd t253 x44_3) = a1 then (impl_reached.l1 k3 a1 x5_3 x6_3 t253 (t253.length : Int) (wrap64 (x44_3 + 1)) a0_0 a0_1 l0_2 a0_3 l0_4) else (if x6_3.length < 17592186044416 then (impl_reached.l1 k3 a1 (x5_3.set ((rd t253 x44_3) : Int).toNat true) (x6_3 ++ [rd t253 x44_3]) t253 (t253.length : Int) (wrap64 (x44_3 + 1)) a0_0 a0_1 l0_2 a0_3 l0_4) else (none))) = some r := by rw [if_neg (show ¬ (false = true) by decide)] at H; exact H
                                   clear H
                                   have H := H1
                                   clear H1
                                   by_cases c38 : (rd t253 x44_3) = a1
                                   · rw [if_pos c38] at H
                                     have c38b0 : ((rd t253 x44_3) == a1) = true := beq_iff_eq.mpr c38
                                     have c38b1 : ((rd t253 x44_3) != a1) = false := bne_eq_false_iff_eq.mpr c38
                                     clear c38
                                     have H' := Aside0.mk H
                                     clear H
                                     have p256 : 0 ≤ (x44_3 : Int) := of_decide_eq_true (by first | (with_reducible assumption) | assumption)
                                     have q256 : x44_3 < (t253.length : Int) := of_decide_eq_true (by first | (with_reducible assumption) | assumption)
                                     obtain ⟨ad256, e256, hx256_0⟩ := Kd.at_int (Kd.R_reads' HO_42.out).2.2 x44_3 p256 q256
                                     cases e256
                                     replace p256 := eq_true p256
                                     replace q256 := eq_true q256
                                     have p257 : 0 ≤ ((rd t253 x44_3) : Int) := of_decide_eq_true (by first | (with_reducible assumption) | assumption)
                                     have q257 : (rd t253 x44_3) < (x5_3.length : Int) := of_decide_eq_true (by first | (with_reducible assumption) | assumption)
                                     obtain ⟨ad257, e257, hx257_0⟩ := Kd.at_bool (Kd.R_reads' HO_5.out).2.2 (rd t253 x44_3) p257 q257
                                     (try rw [← Nbq36.out] at hx257_0)
                                     obtain rfl : (⟨go15, 0, none⟩ : Addr) = ad257 := (by injection e257)
                                     (first | simp only [add_plain] at hx257_0 | simp only [add_at] at hx257_0 | simp only [Addr.add, Nat.zero_add] at hx257_0 | skip)
                                     replace p257 := eq_true p257
                                     replace q257 := eq_true q257
                                     go_wp2
                                     (try simp only [← hl5_3])
                                     go_roundg k3
                                     case measure => have := HJ4.out; have := HK2.out; have := HK3.out; omega
                                     case rel => exact ⟨(x5_3), (x6_3), (wrap64 (x44_3 + 1)), (by first | rfl | (simp; done) | (simp [*]; done)), H', ⟨by have := HJ4.out; have := HK2.out; have := HK3.out; omega⟩, ⟨by (try simp only [hl5_2]); (try simp only [hl5_3]); (with_reducible repeat (first | apply Kd.R_alloc | apply Kd.R_drewN | apply Kd.R_drew)); exact HO_5.out⟩, ⟨by (try simp only [hl5_2]); (try simp only [hl5_3]); (with_reducible repeat (first | apply Kd.R_alloc | apply Kd.R_drewN | apply Kd.R_drew)); exact HO_6.out⟩, ⟨by (try simp only [hl5_2]); (try simp only [hl5_3]); (with_reducible repeat (first | apply Kd.R_alloc | apply Kd.R_drewN | apply Kd.R_drew)); exact HO_42.out⟩, ⟨by (try simp only [hl5_2]); (try simp only [hl5_3]); (with_reducible repeat (first | refine blk_drewN ?_ _ | refine blk_drew ?_ | refine blk_alloc ?_ _)); exact BK241.out⟩, ⟨by repeat (first | (with_reducible first | exact HB.out | apply below_alloc | apply pw_below_drewN | apply below_drew1 | refine below_set ?_ GE241.out) | exact HB.out)⟩⟩
                                   · rw [if_neg c38] at H
                                     have c38b0 : ((rd t253 x44_3) == a1) = false := beq_eq_false_iff_ne.mpr c38
                                     have c38b1 : ((rd t253 x44_3) != a1) = true := bne_iff_ne.mpr c38
                                     obtain ⟨y258, hy258⟩ : ∃ y_ : List Bool, y_ = (x5_3.set ((rd t253 x44_3) : Int).toNat true) := ⟨_, rfl⟩
                                     replace H : (if x6_3.length < 17592186044416 then (impl_reached.l1 k3 a1 y258 (x6_3 ++ [rd t253 x44_3]) t253 (t253.length : Int) (wrap64 (x44_3 + 1)) a0_0 a0_1 l0_2 a0_3 l0_4) else (none)) = some r := by first | (rw [hy258]; with_reducible exact H) | (have H2_ := (Option.bind_some _ _).symm.trans H; rw [hy258]; with_reducible exact H2_) | (have H2_ := (Option.bind_some _ _).symm.trans H; with_reducible exact H2_) | with_reducible exact H | (rw [hy258]; exact H) | exact H
                                     have Ny258 := Aside0.mk hy258
                                     clear hy258
                                     by_cases c40 : x6_3.length < 17592186044416
                                     · rw [if_pos c40] at H
                                       have LMc40 := Aside0.mk c40
                                       clear c40
                                       obtain ⟨y259, hy259⟩ : ∃ y_ : List Int, y_ = (x6_3 ++ [rd t253 x44_3]) := ⟨_, rfl⟩
                                       replace H : (impl_reached.l1 k3 a1 y258 y259 t253 (t253.length : Int) (wrap64 (x44_3 + 1)) a0_0 a0_1 l0_2 a0_3 l0_4) = some r := by first | (rw [hy259]; with_reducible exact H) | (have H2_ := (Option.bind_some _ _).symm.trans H; rw [hy259]; with_reducible exact H2_) | (have H2_ := (Option.bind_some _ _).symm.trans H; with_reducible exact H2_) | with_reducible exact H | (rw [hy259]; exact H) | exact H
                                       have Ny259 := Aside0.mk hy259
                                       clear hy259
                                       have H' := Aside0.mk H
                                       clear H
                                       have p256 : 0 ≤ (x44_3 : Int) := of_decide_eq_true (by first | (with_reducible assumption) | assumption)
                                       have q256 : x44_3 < (t253.length : Int) := of_decide_eq_true (by first | (with_reducible assumption) | assumption)
                                       obtain ⟨ad256, e256, hx256_0⟩ := Kd.at_int (Kd.R_reads' HO_42.out).2.2 x44_3 p256 q256
                                       cases e256
                                       replace p256 := eq_true p256
                                       replace q256 := eq_true q256
                                       have p257 : 0 ≤ ((rd t253 x44_3) : Int) := of_decide_eq_true (by first | (with_reducible assumption) | assumption)
                                       have q257 : (rd t253 x44_3) < (x5_3.length : Int) := of_decide_eq_true (by first | (with_reducible assumption) | assumption)
                                       obtain ⟨ad257, e257, hx257_0⟩ := Kd.at_bool (Kd.R_reads' HO_5.out).2.2 (rd t253 x44_3) p257 q257
                                       (try rw [← Nbq36.out] at hx257_0)
                                       obtain rfl : (⟨go15, 0, none⟩ : Addr) = ad257 := (by injection e257)
                                       (first | simp only [add_plain] at hx257_0 | simp only [add_at] at hx257_0 | simp only [Addr.add, Nat.zero_add] at hx257_0 | skip)
                                       replace p257 := eq_true p257
                                       replace q257 := eq_true q257
                                       have p39 : 0 ≤ ((rd t253 x44_3) : Int) := of_decide_eq_true (by first | (with_reducible assumption) | assumption)
                                       have q39 : ((rd t253 x44_3) : Int) < ((x5_3.length : Int) : Int) := of_decide_eq_true (by first | (with_reducible assumption) | assumption)
                                       obtain ⟨hx39_0, hf39_0⟩ := Kd.R_celln false HO_5.out ((rd t253 x44_3) : Int) p39 q39
                                       replace p39 := eq_true p39
                                       replace q39 := eq_true q39
                                       have HP41 := Kd.R_putg HO_5.out ((rd t253 x44_3) : Int) true
                                       go_wp2_with (first | ((with_reducible refine gate_store (t := 4) (p := 60) rfl ?_); refine store_event (t := 4) (p := 60) (v := ?vo_w42) (w1 := (wr.setCell ⟨go15, ((rd t253 x44_3) : Int).toNat, none⟩ (.bool true))) ?hg ?ho ?hn ?hr ?_; (case ho => rfl); (case hg => rfl); (case hn => rfl); (case hr => first | (go_simp; done) | (go_simp; rfl)); intro w42 hw; have hg : wr.grownBy w42 (some go15) := (by rw [hw]; exact HP41.2); have hp_ : Kd.R Kd.bool 4 w42 w.heap.size (fun _ => True) (.slice (some ⟨go15, 0, none⟩) x5_3.length co15) y258 := (by rw [hw, Ny258.out]; exact HP41.1); clear HP41; have n0_ := Aside0.mk (hp_); have n1_ := Aside0.mk (Kd.R_over' (v := (.slice (some ⟨go15, 0, none⟩) x5_3.length co15)) (by (with_reducible repeat (first | apply Kd.R_alloc | apply Kd.R_drewN | apply Kd.R_drew)); exact HO_6.out) (Kd.R_typed HO_5.out) (by decide) hg); have n2_ := Aside0.mk (Kd.R_over' (v := (.slice (some ⟨go15, 0, none⟩) x5_3.length co15)) (by (with_reducible repeat (first | apply Kd.R_alloc | apply Kd.R_drewN | apply Kd.R_drew)); exact HO_42.out) (Kd.R_typed HO_5.out) (by decide) hg); have n3_ := Aside0.mk (blk_grown (g := gb241) (o := .cells #[.string a0_0, .int .i64 a0_1, .slice A0_2 l0_2.length c0_2, .int .i64 a0_3, .slice A0_4 l0_4.length c0_4] 30 (0, 0)) (by (with_reducible repeat (first | refine blk_drewN ?_ _ | refine blk_drew ?_ | refine blk_alloc ?_ _)); exact BK241.out) hg (Kd.R_ne HO_5.out BK241.out (by decide))); have n4_ := Aside0.mk ((by rw [hw]; exact below_set (HB.out) GB15.out : Below w.heap.size w w42)); clear HO_5; clear HO_6; clear HO_42; clear BK241; clear HB; have HO_5 := n0_; have HO_6 := n1_; have HO_42 := n2_; have BK241 := n3_; have HB := n4_; clear n0_ n1_ n2_ n3_ n4_; clear hg hw hp_) | ((with_reducible refine gate_builtin (b := .append) (xs := #[.tmp 61, .tmp 63]) rfl ?_); at_builtin; refine Kd.R_append (Kd.int .i64) (w0 := w) w.heap.size rfl (.tmp 61) (.tmp 63) 22 2 (.int .i64 0) 8 rfl Try.underlying22 info2 rfl (by decide) (by omega) u6 x6_3 (rd t253 x44_3) [.int .i64 (rd t253 x44_3)] (fun k_ => some k_ ≠ (.slice (some ad256) t253.length co30 : Value).ownBlock) (fun _ => False) rfl rfl ?aP (fun _ hk => hk.elim) ?aF ?aO ?aB ?aS ?aL ?_; (case aP => exact rfl); (case aB => exact (by repeat (first | (with_reducible first | exact HB.out | apply below_alloc | apply pw_below_drewN | apply below_drew1 | refine below_set ?_ GE241.out) | exact HB.out))); (case aF => exact (fun k_ hk => Kd.fresh' (Kd.R_lt (by (with_reducible repeat (first | apply Kd.R_alloc | apply Kd.R_drewN | apply Kd.R_drew)); exact HO_42.out)) k_ hk)); (case aO => exact (by (with_reducible repeat (first | apply Kd.R_alloc | apply Kd.R_drewN | apply Kd.R_drew)); exact HO_6.out)); (case aS => exact (below_size (by repeat (first | (with_reducible first | exact HB.out | apply below_alloc | apply pw_below_drewN | apply below_drew1 | refine below_set ?_ GE241.out) | exact HB.out)))); (case aL => have := LMc40.out; omega); intro v260 w43 ho hb hg hat; rw [← Ny259.out] at ho; have n0_ := Aside0.mk (Kd.R_over' (by (with_reducible repeat (first | apply Kd.R_alloc | apply Kd.R_drewN | apply Kd.R_drew)); exact HO_5.out) (Kd.R_typed (by (with_reducible repeat (first | apply Kd.R_alloc | apply Kd.R_drewN | apply Kd.R_drew)); exact HO_6.out)) (by decide) hg); have n1_ := Aside0.mk (Kd.R_after (ok := (fun _ => True)) (by (with_reducible repeat (first | apply Kd.R_alloc | apply Kd.R_drewN | apply Kd.R_drew)); exact Kd.R_mono HO_42.out (fun _ hk => ⟨trivial, hk⟩)) hg hat); have n2_ := Aside0.mk (blk_grown (g := gb241) (o := .cells #[.string a0_0, .int .i64 a0_1, .slice A0_2 l0_2.length c0_2, .int .i64 a0_3, .slice A0_4 l0_4.length c0_4] 30 (0, 0)) (by (with_reducible repeat (first | refine blk_drewN ?_ _ | refine blk_drew ?_ | refine blk_alloc ?_ _)); exact BK241.out) hg (Kd.R_ne HO_6.out BK241.out (by decide))); have n3_ := Aside0.mk (hb); have n4_ := Aside0.mk (ho); clear HO_5; clear HO_42; clear BK241; clear HB; clear HO_6; have HO_5 := n0_; have HO_42 := n1_; have BK241 := n2_; have HB := n3_; have HO261 := n4_; clear n0_ n1_ n2_ n3_ n4_; clear ho hb hg hat))
                                       (try simp only [← hl5_3])
                                       go_roundg k3
                                       case measure => have := HJ4.out; have := HK2.out; have := HK3.out; omega
                                       case rel => exact ⟨(y258), (y259), (wrap64 (x44_3 + 1)), (by first | rfl | (simp; done) | (simp [*]; done)), H', ⟨by have := HJ4.out; have := HK2.out; have := HK3.out; omega⟩, ⟨by (try simp only [hl5_2]); (try simp only [hl5_3]); (with_reducible repeat (first | apply Kd.R_alloc | apply Kd.R_drewN | apply Kd.R_drew)); exact HO_5.out⟩, ⟨by (try simp only [hl5_2]); (try simp only [hl5_3]); (with_reducible repeat (first | apply Kd.R_alloc | apply Kd.R_drewN | apply Kd.R_drew)); exact HO261.out⟩, ⟨by (try simp only [hl5_2]); (try simp only [hl5_3]); (with_reducible repeat (first | apply Kd.R_alloc | apply Kd.R_drewN | apply Kd.R_drew)); exact Kd.R_mono HO_42.out (fun _ hk => hk.2)⟩, ⟨by (try simp only [hl5_2]); (try simp only [hl5_3]); (with_reducible repeat (first | refine blk_drewN ?_ _ | refine blk_drew ?_ | refine blk_alloc ?_ _)); exact BK241.out⟩, ⟨by repeat (first | (with_reducible first | exact HB.out | apply below_alloc | apply pw_below_drewN | apply below_drew1 | refine below_set ?_ GE241.out) | exact HB.out)⟩⟩
                                     · rw [if_neg c40] at H
                                       exact absurd H (by simp)
                               · rw [if_neg c35] at H
                                 exact absurd H (by simp)
                             · rw [if_neg c34] at H
                               exact absurd H (by simp)
                           · rw [if_neg c33] at H
                             exact absurd H (by simp)
                         · rw [if_neg c32] at H
                           exact absurd H (by simp)
                       · rw [if_neg c31] at H
                         have c31b0 : decide (x44_3 < (t253.length : Int)) = false := decide_eq_false c31
                         clear c31
                         have H' := Aside0.mk H
                         clear H
                         go_wp2
                         (try simp only [← hl5_2, ← hl5_3])
                         go_roundg k3
                         case measure => have := HJ4.out; have := HK2.out; have := HK3.out; omega
                         case rel => exact ⟨(x5_3), (x6_3), H', ⟨by have := HJ4.out; have := HK2.out; have := HK3.out; omega⟩, ⟨by (try simp only [hl5_2]); (try simp only [hl5_3]); (with_reducible repeat (first | apply Kd.R_alloc | apply Kd.R_drewN | apply Kd.R_drew)); exact HO_5.out⟩, ⟨by (try simp only [hl5_2]); (try simp only [hl5_3]); (with_reducible repeat (first | apply Kd.R_alloc | apply Kd.R_drewN | apply Kd.R_drew)); exact Kd.R_mono HO_6.out (fun _ hk => trivial)⟩, ⟨by (try simp only [hl5_2]); (try simp only [hl5_3]); (with_reducible repeat (first | refine blk_drewN ?_ _ | refine blk_drew ?_ | refine blk_alloc ?_ _)); exact BK241.out⟩, ⟨by repeat (first | (with_reducible first | exact HB.out | apply below_alloc | apply pw_below_drewN | apply below_drew1 | refine below_set ?_ GE241.out) | exact HB.out)⟩⟩
                   · rw [if_neg c24] at H
                     exact absurd H (by simp)
                 · rw [if_neg c23] at H
                   exact absurd H (by simp)
               · rw [if_neg c22] at H
                 exact absurd H (by simp)
             · rw [if_neg c20] at H
               have c20b0 : decide (0 < (x6_2.length : Int)) = false := decide_eq_false c20
               have c20b1 : decide (0 < x6_2.length) = false := decide_eq_false (by omega)
               clear c20
               obtain rfl := Option.some.inj H
               obtain ⟨Ao44, co44, eo44⟩ := Kd.R_slice HO_6.out
               subst eo44
               go_wp2
               go_ret
               exact ⟨_, by first | rfl | (simp [errW_none, errW_some] <;> rfl) | (simp [*, errW_none, errW_some] <;> rfl), by (with_reducible repeat (first | apply Kd.R_alloc | apply Kd.R_drewN | apply Kd.R_drew)); exact HO_5.out, by repeat (first | (with_reducible first | exact HB.out | apply below_alloc | apply pw_below_drewN | apply below_drew1 | refine below_set ?_ GE241.out) | exact HB.out)⟩
         · rw [if_neg c14] at H
           exact absurd H (by simp)
   · rw [if_neg c4] at H
     exact absurd H (by simp)
 · rw [if_neg c3] at H
   exact absurd H (by simp)

end Go.Proofs.Ytoedcnhgobbnfaa.All


namespace Go.Proofs.Ytoedcnhgobbnfaa.All
open Go.RowKit Go.Proofs.YtoedcnhgobbnfaaW.PrintWords Go.Proofs.YtoedcnhgobbnfaaW.PrintLast Go.Proofs.YtoedcnhgobbnfaaW.PrintMore
attribute [local go_sem] max2_int min2_int max_two min_two max_three min_three max_four min_four   -- for this text's walks alone
set_option linter.unusedVariables false
set_option linter.unusedSimpArgs false

/-! ### impl_dominance: function 60 -/
mutual
def impl_dominance.l0 : Nat → List Bool → List (List Bool) → Int → Int → ByteArray → Int → List Int → Int → List (S62) → Option ((List (List Bool)))
 | 0, _, _, _, _, _, _, _, _, _ => none
 | k + 1, x3, x4, x13, x14, x375000, x375001, x375002, x375003, x375004 => if x14 < x13 then (if 0 ≤ (x375004.length : Int) then (if ((x375004.length : Int) : Int).toNat ≤ 281474976710656 then ((some (List.replicate ((x375004.length : Int) : Int).toNat false : List Bool)).bind fun y378 => (if 0 ≤ x14 then (if x14 < (x3.length : Int) then (if rdOf false x3 x14 = true then ((impl_reached.f k x375000 x375001 x375002 x375003 x375004 x14).bind fun t382 => (impl_dominance.l1 k x3 x4 y378 t382 x13 x14 (x375004.length : Int) 0 x375000 x375001 x375002 x375003 x375004)) else (if x4.length < 5864062014805 then (impl_dominance.l0 k x3 (x4 ++ [y378]) x13 (wrap64 (x14 + 1)) x375000 x375001 x375002 x375003 x375004) else (none))) else (none)) else (none))) else (none)) else (none)) else (some x4)
def impl_dominance.l1 : Nat → List Bool → List (List Bool) → List Bool → List Bool → Int → Int → Int → Int → ByteArray → Int → List Int → Int → List (S62) → Option ((List (List Bool)))
 | 0, _, _, _, _, _, _, _, _, _, _, _, _, _ => none
 | k + 1, x3, x4, x6, x7, x13, x14, x30, x31, x375000, x375001, x375002, x375003, x375004 => if x31 < x30 then (if 0 ≤ x31 then (if x31 < (x3.length : Int) then (if rdOf false x3 x31 = true then (if x31 < (x7.length : Int) then (if x31 < (x6.length : Int) then (impl_dominance.l1 k x3 x4 (x6.set (x31 : Int).toNat (!(rdOf false x7 x31))) x7 x13 x14 x30 (wrap64 (x31 + 1)) x375000 x375001 x375002 x375003 x375004) else (none)) else (none)) else (if x31 < (x6.length : Int) then (impl_dominance.l1 k x3 x4 (x6.set (x31 : Int).toNat false) x7 x13 x14 x30 (wrap64 (x31 + 1)) x375000 x375001 x375002 x375003 x375004) else (none))) else (none)) else (none)) else (if x4.length < 5864062014805 then (impl_dominance.l0 k x3 (x4 ++ [x6]) x13 (wrap64 (x14 + 1)) x375000 x375001 x375002 x375003 x375004) else (none))
end
def impl_dominance.f (k : Nat) (a0_0 : ByteArray) (a0_1 : Int) (l0_2 : List Int) (a0_3 : Int) (l0_4 : List (S62)) : Option ((List (List Bool))) := (impl_reached.f k a0_0 a0_1 l0_2 a0_3 l0_4 (-1)).bind fun t375 => (impl_dominance.l0 k t375 ([] : List (List Bool)) (l0_4.length : Int) 0 a0_0 a0_1 l0_2 a0_3 l0_4)
set_option maxHeartbeats 8000000 in
set_option maxRecDepth 100000 in
theorem impl_dominance.calls (k : Nat) (a0_0 : ByteArray) (a0_1 : Int) (A0_2 : Option Addr) (c0_2 : Nat) (l0_2 : List Int) (a0_3 : Int) (A0_4 : Option Addr) (c0_4 : Nat) (l0_4 : List (S62)) (r : List (List Bool)) (w : World) (hr0_2 : Kd.C (Kd.int .i64) w A0_2 l0_2.length l0_2) (hc0_2 : l0_2.length ≤ c0_2) (hr0_4 : Kd.C k62 w A0_4 l0_4.length l0_4) (hc0_4 : l0_4.length ≤ c0_4) (h : impl_dominance.f k a0_0 a0_1 l0_2 a0_3 l0_4 = some r) :
 Calls Try.prog 60 #[.agg #[.string a0_0, .int .i64 a0_1, .slice A0_2 l0_2.length c0_2, .int .i64 a0_3, .slice A0_4 l0_4.length c0_4]] w fun e w' => ∃ v0_ : Value, e = .returned (v0_) ∧ Kd.S (Kd.slice 4 Kd.bool) 54 w' w.heap.size (fun _ => True) v0_ r ∧ Below w.heap.size w w' := by
 have hu30 := Try.underlying30
 have HR0_2 := Aside0.mk hr0_2
 have HC0_2 := Aside0.mk hc0_2
 clear hr0_2 hc0_2
 have HR0_4 := Aside0.mk hr0_4
 have HC0_4 := Aside0.mk hc0_4
 clear hr0_4 hc0_4
 have HB := Aside0.mk (Below.refl w.heap.size w)
 have H : ((impl_reached.f k a0_0 a0_1 l0_2 a0_3 l0_4 (-1)).bind fun t375 => (impl_dominance.l0 k t375 ([] : List (List Bool)) (l0_4.length : Int) 0 a0_0 a0_1 l0_2 a0_3 l0_4)) = some r := h
 clear h
 replace H := Option.bind_eq_some_iff.mp H
 obtain ⟨t375, A20, H⟩ := H
 replace H : (impl_dominance.l0 k t375 ([] : List (List Bool)) (l0_4.length : Int) 0 a0_0 a0_1 l0_2 a0_3 l0_4) = some r := H
 have A2 := Aside0.mk A20
 clear A20
 have H' := Aside0.mk H
 clear H
 go_enter Try.func60, Try.ntmps60
 go_wp2_with (first | ((with_reducible refine gate_dst (N := 1) rfl ?_); refine box_event ?hg (N := 1) ?hd (cs := #[.string a0_0, .int .i64 a0_1, .slice A0_2 l0_2.length c0_2, .int .i64 a0_3, .slice A0_4 l0_4.length c0_4]) (t := 30) ?hr ?_; (case hd => rfl); (case hg => rfl); (case hr => first | (go_simp; done) | (go_simp; rfl)); intro gb374 hg w3 hbox hb; have n0_ := Aside0.mk (below_step (by repeat (first | (with_reducible first | exact HB.out | apply below_alloc | apply pw_below_drewN | apply below_drew1) | exact HB.out)) hb); have n1_ := Aside0.mk (hbox); have n2_ := Aside0.mk ((by rw [hg]; exact (below_size (by repeat (first | (with_reducible first | exact HB.out | apply below_alloc | apply pw_below_drewN | apply below_drew1) | exact HB.out))) : w.heap.size ≤ gb374)); have n3_ := Aside0.mk ((by rw [hg]; exact (below_size (by repeat (first | (with_reducible first | exact HB.out | apply below_alloc | apply pw_below_drewN | apply below_drew1) | exact HB.out))) : w.heap.size ≤ gb374)); clear HB; have HB := n0_; have BK374 := n1_; have GW374 := n2_; have GE374 := n3_; clear n0_ n1_ n2_ n3_; clear hb hbox hg; have hcz4_0 : w3.cell? ⟨gb374, 0, none⟩ = some (.string a0_0) := (blk_cell BK374.out 0).trans rfl; have hcz4_1 : w3.cell? ⟨gb374, 1, none⟩ = some (.int .i64 a0_1) := (blk_cell BK374.out 1).trans rfl; have hcz4_2 : w3.cell? ⟨gb374, 2, none⟩ = some (.slice A0_2 l0_2.length c0_2) := (blk_cell BK374.out 2).trans rfl; have hcz4_3 : w3.cell? ⟨gb374, 3, none⟩ = some (.int .i64 a0_3) := (blk_cell BK374.out 3).trans rfl; have hcz4_4 : w3.cell? ⟨gb374, 4, none⟩ = some (.slice A0_4 l0_4.length c0_4) := (blk_cell BK374.out 4).trans rfl; have hfz4_0 := blk_frozen BK374.out 0; have hfz4_1 := blk_frozen BK374.out 1; have hfz4_2 := blk_frozen BK374.out 2; have hfz4_3 := blk_frozen BK374.out 3; have hfz4_4 := blk_frozen BK374.out 4) | ((with_reducible refine gate_callee (f := 49) rfl ?_); refine goesL_ (some 10) rfl rfl Try.func49 (by kernel_rfl) rfl #[.agg #[.string a0_0, .int .i64 a0_1, .slice A0_2 l0_2.length c0_2, .int .i64 a0_3, .slice A0_4 l0_4.length c0_4], .int .i64 (-1)] rfl (by (try simp only [List.map_toArray, List.map_cons, List.map_nil]); first | done | rfl | (simp only [List.length_drop, List.length_take]; rfl)) ?_; (with_reducible refine (impl_reached.calls k a0_0 a0_1 _ _ l0_2 a0_3 _ _ l0_4 (-1) t375 _ ?side1 ?side2 ?side3 ?side4 A2.out).mono ?_); (case side1 => repeat (first | exact (Kd.C_below HR0_2.out HB.out) | (with_reducible refine Kd.C_alloc ?_ _) | (with_reducible refine Kd.C_drewN ?_ _) | (with_reducible refine Kd.C_drew ?_))); (case side2 => exact HC0_2.out); (case side3 => repeat (first | exact (Kd.C_below HR0_4.out HB.out) | (with_reducible refine Kd.C_alloc ?_ _) | (with_reducible refine Kd.C_drewN ?_ _) | (with_reducible refine Kd.C_drew ?_))); (case side4 => exact HC0_4.out); rintro e w5 ⟨v376, rfl, ho0, hb⟩; refine ⟨_, rfl, ?_⟩; have n0_ := Aside0.mk (Kd.R_lower ho0 (below_size (by repeat (first | (with_reducible first | exact HB.out | apply below_alloc | apply pw_below_drewN | apply below_drew1 | refine below_set ?_ GE374.out) | exact HB.out)))); have n1_ := Aside0.mk (blk_below (g := gb374) (o := .cells #[.string a0_0, .int .i64 a0_1, .slice A0_2 l0_2.length c0_2, .int .i64 a0_3, .slice A0_4 l0_4.length c0_4] 30 (0, 0)) (by (with_reducible repeat (first | refine blk_drewN ?_ _ | refine blk_drew ?_ | refine blk_alloc ?_ _)); exact BK374.out) hb); have n2_ := Aside0.mk (below_step (by repeat (first | (with_reducible first | exact HB.out | apply below_alloc | apply pw_below_drewN | apply below_drew1 | refine below_set ?_ GE374.out) | exact HB.out)) hb); clear BK374; clear HB; have HO377 := n0_; have BK374 := n1_; have HB := n2_; clear n0_ n1_ n2_; (try clear hb); (try clear hb2); (try clear hk); (try clear hi); (try clear ho0); have hcz6_0 : w5.cell? ⟨gb374, 0, none⟩ = some (.string a0_0) := (blk_cell BK374.out 0).trans rfl; have hcz6_1 : w5.cell? ⟨gb374, 1, none⟩ = some (.int .i64 a0_1) := (blk_cell BK374.out 1).trans rfl; have hcz6_2 : w5.cell? ⟨gb374, 2, none⟩ = some (.slice A0_2 l0_2.length c0_2) := (blk_cell BK374.out 2).trans rfl; have hcz6_3 : w5.cell? ⟨gb374, 3, none⟩ = some (.int .i64 a0_3) := (blk_cell BK374.out 3).trans rfl; have hcz6_4 : w5.cell? ⟨gb374, 4, none⟩ = some (.slice A0_4 l0_4.length c0_4) := (blk_cell BK374.out 4).trans rfl; have hfz6_0 := blk_frozen BK374.out 0; have hfz6_1 := blk_frozen BK374.out 1; have hfz6_2 := blk_frozen BK374.out 2; have hfz6_3 := blk_frozen BK374.out 3; have hfz6_4 := blk_frozen BK374.out 4))
 go_loopg [4, 14] k (fun kq v4 v14 w' => ∃ (x3_1 : List Bool) (x4_1 : List (List Bool)) (x14_1 : Int), v14 = .int .i64 x14_1 ∧ Aside0 (impl_dominance.l0 kq x3_1 x4_1 (l0_4.length : Int) x14_1 a0_0 a0_1 l0_2 a0_3 l0_4 = some r) ∧ Aside0 (kq ≤ k) ∧ Aside0 (Kd.R Kd.bool 4 w' w.heap.size (fun _ => True) v376 x3_1) ∧ Aside0 (Kd.S (Kd.slice 4 Kd.bool) 54 w' w.heap.size (fun k_ => some k_ ≠ (v376 : Value).ownBlock) v4 x4_1) ∧ Aside0 (w'.heap[gb374]? = some (.cells #[.string a0_0, .int .i64 a0_1, (.slice A0_2 l0_2.length c0_2), .int .i64 a0_3, (.slice A0_4 l0_4.length c0_4)] 30 (0, 0))) ∧ Aside0 (Below w.heap.size w w'))
 case atStart => exact ⟨(t375), (([] : List (List Bool))), (0), (by first | rfl | (simp; done) | (simp [*]; done)), H', ⟨Nat.le_refl _⟩, ⟨by (with_reducible repeat (first | apply Kd.R_alloc | apply Kd.R_drewN | apply Kd.R_drew)); exact HO377.out⟩, ⟨by first | exact Kd.S_nil _ _ _ _ _ | exact Kd.N_nil _ _ _ _ _ | exact Kd.V_nil _ _ _ _ _ | exact Kd.Q_nil _ _ _ _ _ | exact Kd.R_nil _ _ _ _ _⟩, ⟨by (with_reducible repeat (first | refine blk_drewN ?_ _ | refine blk_drew ?_ | refine blk_alloc ?_ _)); exact BK374.out⟩, ⟨by repeat (first | (with_reducible first | exact HB.out | apply below_alloc | apply pw_below_drewN | apply below_drew1 | refine below_set ?_ GE374.out) | exact HB.out)⟩⟩
 case round =>
  clear H'
  try clear p2
  try clear c4
  try clear c6
  try clear hcz4_0
  try clear hcz4_1
  try clear hcz4_2
  try clear hcz4_3
  try clear hcz4_4
  try clear hcz6_0
  try clear hcz6_1
  try clear hcz6_2
  try clear hcz6_3
  try clear hcz6_4
  try clear hfz4_0
  try clear hfz4_1
  try clear hfz4_2
  try clear hfz4_3
  try clear hfz4_4
  try clear hfz6_0
  try clear hfz6_1
  try clear hfz6_2
  try clear hfz6_3
  try clear hfz6_4
  obtain ⟨x3_1, x4_1, x14_1, rfl, HA, HK1, HO_3, HO_4, BK374, HB⟩ := hrel
  cases gk with
  | zero => exact absurd HA.out (by simp [impl_dominance.l0])
  | succ k1 =>
   have H := HA.out
   clear HA
   simp only [impl_dominance.l0] at H
   by_cases c7 : x14_1 < (l0_4.length : Int)
   · rw [if_pos c7] at H
     have c7b0 : decide (x14_1 < (l0_4.length : Int)) = true := decide_eq_true c7
     clear c7
     by_cases c8 : 0 ≤ (l0_4.length : Int)
     · rw [if_pos c8] at H
       have c8b0 := eq_true c8
       have c8b1 : decide (0 ≤ (l0_4.length : Int)) = true := decide_eq_true c8
       clear c8
       by_cases c9 : ((l0_4.length : Int) : Int).toNat ≤ 281474976710656
       · rw [if_pos c9] at H
         have c9b0 := eq_true c9
         have c9b1 : decide (((l0_4.length : Int) : Int).toNat ≤ 281474976710656) = true := decide_eq_true c9
         clear c9
         obtain ⟨y378, hy378⟩ : ∃ y_ : List Bool, y_ = (List.replicate ((l0_4.length : Int) : Int).toNat false) := ⟨_, rfl⟩
         replace H : (if 0 ≤ x14_1 then (if x14_1 < (x3_1.length : Int) then (if rdOf false x3_1 x14_1 = true then ((impl_reached.f k1 a0_0 a0_1 l0_2 a0_3 l0_4 x14_1).bind fun t382 => (impl_dominance.l1 k1 x3_1 x4_1 y378 t382 (l0_4.length : Int) x14_1 (l0_4.length : Int) 0 a0_0 a0_1 l0_2 a0_3 l0_4)) else (if x4_1.length < 5864062014805 then (impl_dominance.l0 k1 x3_1 (x4_1 ++ [y378]) (l0_4.length : Int) (wrap64 (x14_1 + 1)) a0_0 a0_1 l0_2 a0_3 l0_4) else (none))) else (none)) else (none)) = some r := by first | (rw [hy378]; with_reducible exact H) | (have H2_ := (Option.bind_some _ _).symm.trans H; rw [hy378]; with_reducible exact H2_) | (have H2_ := (Option.bind_some _ _).symm.trans H; with_reducible exact H2_) | with_reducible exact H | (rw [hy378]; exact H) | exact H
         have Ny378 := Aside0.mk hy378
         clear hy378
         by_cases c10 : 0 ≤ x14_1
         · rw [if_pos c10] at H
           have c10b0 : decide (0 ≤ x14_1) = true := decide_eq_true c10
           clear c10
           by_cases c11 : x14_1 < (x3_1.length : Int)
           · rw [if_pos c11] at H
             have c11b0 : decide (x14_1 < (x3_1.length : Int)) = true := decide_eq_true c11
             clear c11
             obtain ⟨bq12, hbq12⟩ : ∃ b_ : Bool, b_ = (rdOf false x3_1 x14_1) := ⟨_, rfl⟩
             replace H : (if bq12 = true then ((impl_reached.f k1 a0_0 a0_1 l0_2 a0_3 l0_4 x14_1).bind fun t382 => (impl_dominance.l1 k1 x3_1 x4_1 y378 t382 (l0_4.length : Int) x14_1 (l0_4.length : Int) 0 a0_0 a0_1 l0_2 a0_3 l0_4)) else (if x4_1.length < 5864062014805 then (impl_dominance.l0 k1 x3_1 (x4_1 ++ [y378]) (l0_4.length : Int) (wrap64 (x14_1 + 1)) a0_0 a0_1 l0_2 a0_3 l0_4) else (none))) = some r := by rw [← hbq12] at H; exact H
             have Nbq12 := Aside0.mk hbq12
             clear hbq12
             by_cases c13 : bq12 = true
             · subst c13
               have H1 : ((impl_reached.f k1 a0_0 a0_1 l0_2 a0_3 l0_4 x14_1).bind fun t382 => (impl_dominance.l1 k1 x3_1 x4_1 y378 t382 (l0_4.length : Int) x14_1 (l0_4.length : Int) 0 a0_0 a0_1 l0_2 a0_3 l0_4)) = some r := by rw [if_pos rfl] at H; exact H
               clear H
               have H := H1
               clear H1
               replace H := Option.bind_eq_some_iff.mp H
               obtain ⟨t382, A140, H⟩ := H
               replace H : (impl_dominance.l1 k1 x3_1 x4_1 y378 t382 (l0_4.length : Int) x14_1 (l0_4.length : Int) 0 a0_0 a0_1 l0_2 a0_3 l0_4) = some r := H
               have A14 := Aside0.mk A140
               clear A140
               have H' := Aside0.mk H
               clear H
               have hcz15_0 : wr.cell? ⟨gb374, 0, none⟩ = some (.string a0_0) := (blk_cell BK374.out 0).trans rfl
               have hcz15_1 : wr.cell? ⟨gb374, 1, none⟩ = some (.int .i64 a0_1) := (blk_cell BK374.out 1).trans rfl
               have hcz15_2 : wr.cell? ⟨gb374, 2, none⟩ = some (.slice A0_2 l0_2.length c0_2) := (blk_cell BK374.out 2).trans rfl
               have hcz15_3 : wr.cell? ⟨gb374, 3, none⟩ = some (.int .i64 a0_3) := (blk_cell BK374.out 3).trans rfl
               have hcz15_4 : wr.cell? ⟨gb374, 4, none⟩ = some (.slice A0_4 l0_4.length c0_4) := (blk_cell BK374.out 4).trans rfl
               have hfz15_0 := blk_frozen BK374.out 0
               have hfz15_1 := blk_frozen BK374.out 1
               have hfz15_2 := blk_frozen BK374.out 2
               have hfz15_3 := blk_frozen BK374.out 3
               have hfz15_4 := blk_frozen BK374.out 4
               go_wp2_with (first | ((with_reducible refine gate_dst (N := 20) rfl ?_); refine Kd.R_make Kd.bool _ 4 rfl (N := 20) rfl 54 _ _ rfl (l0_4.length : Int) rfl rfl Try.underlying54 (.bool false) 1 info4 rfl (by decide) (by omega) false (ok := fun _ => True) (okp := fun _ => True) rfl (fun _ hk => hk) trivial (of_decide_eq_true (by first | (with_reducible assumption) | assumption)) (Nat.le_trans (Nat.mul_le_mul_right _ (of_decide_eq_true (by first | (with_reducible assumption) | assumption) : (l0_4.length : Int).toNat ≤ 281474976710656)) (by omega)) (Below.refl _ _) (Nat.le_refl _) ?_; intro v379 w16 ho17 hb hg_ hnew_; clear hg_ hnew_; (first | rw [← Ny378.out] at ho17 | (simp only [Int.reduceToNat] at ho17; rw [← Ny378.out] at ho17)); have n0_ := Aside0.mk (Kd.R_elder' (by (with_reducible repeat (first | apply Kd.R_alloc | apply Kd.R_drewN | apply Kd.R_drew)); exact HO_3.out) (Kd.R_base ho17) hb); have n1_ := Aside0.mk (Kd.S_elder' (by (with_reducible repeat (first | apply Kd.S_alloc | apply Kd.S_drewN | apply Kd.S_drew)); exact HO_4.out) (Kd.R_base ho17) hb); have n2_ := Aside0.mk (Kd.R_lower (Kd.R_new' ho17 (Kd.R_lt (by (with_reducible repeat (first | apply Kd.R_alloc | apply Kd.R_drewN | apply Kd.R_drew)); exact HO_3.out))) (below_size (by repeat (first | (with_reducible first | exact HB.out | apply below_alloc | apply pw_below_drewN | apply below_drew1 | refine below_set ?_ GE374.out) | exact HB.out)))); have n3_ := Aside0.mk (blk_below (g := gb374) (o := .cells #[.string a0_0, .int .i64 a0_1, .slice A0_2 l0_2.length c0_2, .int .i64 a0_3, .slice A0_4 l0_4.length c0_4] 30 (0, 0)) (by (with_reducible repeat (first | refine blk_drewN ?_ _ | refine blk_drew ?_ | refine blk_alloc ?_ _)); exact BK374.out) hb); have n4_ := Aside0.mk (below_step (by repeat (first | (with_reducible first | exact HB.out | apply below_alloc | apply pw_below_drewN | apply below_drew1 | refine below_set ?_ GE374.out) | exact HB.out)) hb); clear HO_3; clear HO_4; clear BK374; clear HB; have HO_3 := n0_; have HO_4 := n1_; have HO380 := n2_; have BK374 := n3_; have HB := n4_; clear n0_ n1_ n2_ n3_ n4_; clear hb ho17; obtain ⟨Ao18, co18, eo18⟩ := Kd.R_slice HO_3.out; subst eo18; have p381 : 0 ≤ (x14_1 : Int) := of_decide_eq_true (by first | (with_reducible assumption) | assumption); have q381 : x14_1 < (x3_1.length : Int) := of_decide_eq_true (by first | (with_reducible assumption) | assumption); obtain ⟨ad381, e381, hx381_0⟩ := Kd.at_bool (Kd.R_reads' HO_3.out).2.2 x14_1 p381 q381; (try rw [← Nbq12.out] at hx381_0); cases e381; replace p381 := eq_true p381; replace q381 := eq_true q381; have hcz19_0 : w16.cell? ⟨gb374, 0, none⟩ = some (.string a0_0) := (blk_cell BK374.out 0).trans rfl; have hcz19_1 : w16.cell? ⟨gb374, 1, none⟩ = some (.int .i64 a0_1) := (blk_cell BK374.out 1).trans rfl; have hcz19_2 : w16.cell? ⟨gb374, 2, none⟩ = some (.slice A0_2 l0_2.length c0_2) := (blk_cell BK374.out 2).trans rfl; have hcz19_3 : w16.cell? ⟨gb374, 3, none⟩ = some (.int .i64 a0_3) := (blk_cell BK374.out 3).trans rfl; have hcz19_4 : w16.cell? ⟨gb374, 4, none⟩ = some (.slice A0_4 l0_4.length c0_4) := (blk_cell BK374.out 4).trans rfl; have hfz19_0 := blk_frozen BK374.out 0; have hfz19_1 := blk_frozen BK374.out 1; have hfz19_2 := blk_frozen BK374.out 2; have hfz19_3 := blk_frozen BK374.out 3; have hfz19_4 := blk_frozen BK374.out 4) | ((with_reducible refine gate_callee (f := 49) rfl ?_); refine goesL_ (some 27) rfl rfl Try.func49 (by kernel_rfl) rfl #[.agg #[.string a0_0, .int .i64 a0_1, .slice A0_2 l0_2.length c0_2, .int .i64 a0_3, .slice A0_4 l0_4.length c0_4], .int .i64 x14_1] rfl (by (try simp only [List.map_toArray, List.map_cons, List.map_nil]); first | done | rfl | (simp only [List.length_drop, List.length_take]; rfl)) ?_; (with_reducible refine (impl_reached.calls k1 a0_0 a0_1 _ _ l0_2 a0_3 _ _ l0_4 x14_1 t382 _ ?side1 ?side2 ?side3 ?side4 A14.out).mono ?_); (case side1 => repeat (first | exact (Kd.C_below HR0_2.out HB.out) | (with_reducible refine Kd.C_alloc ?_ _) | (with_reducible refine Kd.C_drewN ?_ _) | (with_reducible refine Kd.C_drew ?_))); (case side2 => exact HC0_2.out); (case side3 => repeat (first | exact (Kd.C_below HR0_4.out HB.out) | (with_reducible refine Kd.C_alloc ?_ _) | (with_reducible refine Kd.C_drewN ?_ _) | (with_reducible refine Kd.C_drew ?_))); (case side4 => exact HC0_4.out); rintro e w20 ⟨v383, rfl, ho0, hb⟩; refine ⟨_, rfl, ?_⟩; have n0_ := Aside0.mk (Kd.R_elder' (by (with_reducible repeat (first | apply Kd.R_alloc | apply Kd.R_drewN | apply Kd.R_drew)); exact HO_3.out) (Kd.R_base ho0) hb); have n1_ := Aside0.mk (Kd.S_elder' (by (with_reducible repeat (first | apply Kd.S_alloc | apply Kd.S_drewN | apply Kd.S_drew)); exact HO_4.out) (Kd.R_base ho0) hb); have n2_ := Aside0.mk (Kd.R_elder' (by (with_reducible repeat (first | apply Kd.R_alloc | apply Kd.R_drewN | apply Kd.R_drew)); exact HO380.out) (Kd.R_base ho0) hb); have n3_ := Aside0.mk (Kd.R_lower (Kd.R_new' (Kd.R_new' ho0 (Kd.R_lt (by (with_reducible repeat (first | apply Kd.R_alloc | apply Kd.R_drewN | apply Kd.R_drew)); exact HO_3.out))) (Kd.R_lt (by (with_reducible repeat (first | apply Kd.R_alloc | apply Kd.R_drewN | apply Kd.R_drew)); exact HO380.out))) (below_size (by repeat (first | (with_reducible first | exact HB.out | apply below_alloc | apply pw_below_drewN | apply below_drew1 | refine below_set ?_ GE374.out) | exact HB.out)))); have n4_ := Aside0.mk (blk_below (g := gb374) (o := .cells #[.string a0_0, .int .i64 a0_1, .slice A0_2 l0_2.length c0_2, .int .i64 a0_3, .slice A0_4 l0_4.length c0_4] 30 (0, 0)) (by (with_reducible repeat (first | refine blk_drewN ?_ _ | refine blk_drew ?_ | refine blk_alloc ?_ _)); exact BK374.out) hb); have n5_ := Aside0.mk (below_step (by repeat (first | (with_reducible first | exact HB.out | apply below_alloc | apply pw_below_drewN | apply below_drew1 | refine below_set ?_ GE374.out) | exact HB.out)) hb); clear HO_3; clear HO_4; clear HO380; clear BK374; clear HB; have HO_3 := n0_; have HO_4 := n1_; have HO380 := n2_; have HO384 := n3_; have BK374 := n4_; have HB := n5_; clear n0_ n1_ n2_ n3_ n4_ n5_; (try clear hb); (try clear hb2); (try clear hk); (try clear hi); (try clear ho0); have hcz21_0 : w20.cell? ⟨gb374, 0, none⟩ = some (.string a0_0) := (blk_cell BK374.out 0).trans rfl; have hcz21_1 : w20.cell? ⟨gb374, 1, none⟩ = some (.int .i64 a0_1) := (blk_cell BK374.out 1).trans rfl; have hcz21_2 : w20.cell? ⟨gb374, 2, none⟩ = some (.slice A0_2 l0_2.length c0_2) := (blk_cell BK374.out 2).trans rfl; have hcz21_3 : w20.cell? ⟨gb374, 3, none⟩ = some (.int .i64 a0_3) := (blk_cell BK374.out 3).trans rfl; have hcz21_4 : w20.cell? ⟨gb374, 4, none⟩ = some (.slice A0_4 l0_4.length c0_4) := (blk_cell BK374.out 4).trans rfl; have hfz21_0 := blk_frozen BK374.out 0; have hfz21_1 := blk_frozen BK374.out 1; have hfz21_2 := blk_frozen BK374.out 2; have hfz21_3 := blk_frozen BK374.out 3; have hfz21_4 := blk_frozen BK374.out 4))
               go_loopg [31] k1 (fun kq v31 w' => ∃ (x6_2 : List Bool) (x31_2 : Int), v31 = .int .i64 x31_2 ∧ Aside0 (impl_dominance.l1 kq x3_1 x4_1 x6_2 t382 (l0_4.length : Int) x14_1 (l0_4.length : Int) x31_2 a0_0 a0_1 l0_2 a0_3 l0_4 = some r) ∧ Aside0 (kq ≤ k1) ∧ Aside0 (Kd.R Kd.bool 4 w' w.heap.size (fun k_ => some k_ ≠ (v379 : Value).ownBlock ∧ some k_ ≠ (v383 : Value).ownBlock) (.slice (some ad381) x3_1.length co18) x3_1) ∧ Aside0 (Kd.S (Kd.slice 4 Kd.bool) 54 w' w.heap.size (fun k_ => some k_ ≠ ((.slice (some ad381) x3_1.length co18) : Value).ownBlock ∧ some k_ ≠ (v379 : Value).ownBlock ∧ some k_ ≠ (v383 : Value).ownBlock) u4 x4_1) ∧ Aside0 (Kd.R Kd.bool 4 w' w.heap.size (fun k_ => some k_ ≠ ((.slice (some ad381) x3_1.length co18) : Value).ownBlock ∧ some k_ ≠ (v383 : Value).ownBlock) v379 x6_2) ∧ Aside0 (Kd.R Kd.bool 4 w' w.heap.size (fun k_ => some k_ ≠ ((.slice (some ad381) x3_1.length co18) : Value).ownBlock ∧ some k_ ≠ (v379 : Value).ownBlock) v383 t382) ∧ Aside0 (w'.heap[gb374]? = some (.cells #[.string a0_0, .int .i64 a0_1, (.slice A0_2 l0_2.length c0_2), .int .i64 a0_3, (.slice A0_4 l0_4.length c0_4)] 30 (0, 0))) ∧ Aside0 (Below w.heap.size w w'))
               case atStart => exact ⟨(y378), (0), (by first | rfl | (simp; done) | (simp [*]; done)), H', ⟨Nat.le_refl _⟩, ⟨by (with_reducible repeat (first | apply Kd.R_alloc | apply Kd.R_drewN | apply Kd.R_drew)); exact Kd.R_mono HO_3.out (fun _ hk => ⟨hk.1.2, hk.2⟩)⟩, ⟨by (with_reducible repeat (first | apply Kd.S_alloc | apply Kd.S_drewN | apply Kd.S_drew)); exact Kd.S_mono HO_4.out (fun _ hk => ⟨hk.1.1, ⟨hk.1.2, hk.2⟩⟩)⟩, ⟨by (with_reducible repeat (first | apply Kd.R_alloc | apply Kd.R_drewN | apply Kd.R_drew)); exact Kd.R_mono HO380.out (fun _ hk => ⟨hk.1.2, hk.2⟩)⟩, ⟨by (with_reducible repeat (first | apply Kd.R_alloc | apply Kd.R_drewN | apply Kd.R_drew)); exact Kd.R_mono HO384.out (fun _ hk => ⟨hk.1.2, hk.2⟩)⟩, ⟨by (with_reducible repeat (first | refine blk_drewN ?_ _ | refine blk_drew ?_ | refine blk_alloc ?_ _)); exact BK374.out⟩, ⟨by repeat (first | (with_reducible first | exact HB.out | apply below_alloc | apply pw_below_drewN | apply below_drew1 | refine below_set ?_ GE374.out) | exact HB.out)⟩⟩
               case round =>
                clear H'
                try clear c1
                try clear q1
                try clear p2
                try clear p3
                try clear q3
                try clear hx3
                try clear c4
                try clear c6
                try clear p6
                try clear c7
                try clear c7b0
                try clear c8
                try clear c8b0
                try clear c8b1
                try clear c9
                try clear c9b0
                try clear c9b1
                try clear c10
                try clear c10b0
                try clear c11
                try clear c11b0
                try clear q12
                try clear c13
                try clear hcz15_0
                try clear hcz15_1
                try clear hcz15_2
                try clear hcz15_3
                try clear hcz15_4
                try clear hcz19_0
                try clear hcz19_1
                try clear hcz19_2
                try clear hcz19_3
                try clear hcz19_4
                try clear hcz21_0
                try clear hcz21_1
                try clear hcz21_2
                try clear hcz21_3
                try clear hcz21_4
                try clear hcz4_0
                try clear hcz4_1
                try clear hcz4_2
                try clear hcz4_3
                try clear hcz4_4
                try clear hcz6_0
                try clear hcz6_1
                try clear hcz6_2
                try clear hcz6_3
                try clear hcz6_4
                try clear hfz15_0
                try clear hfz15_1
                try clear hfz15_2
                try clear hfz15_3
                try clear hfz15_4
                try clear hfz19_0
                try clear hfz19_1
                try clear hfz19_2
                try clear hfz19_3
                try clear hfz19_4
                try clear hfz21_0
                try clear hfz21_1
                try clear hfz21_2
                try clear hfz21_3
                try clear hfz21_4
                try clear hfz4_0
                try clear hfz4_1
                try clear hfz4_2
                try clear hfz4_3
                try clear hfz4_4
                try clear hfz6_0
                try clear hfz6_1
                try clear hfz6_2
                try clear hfz6_3
                try clear hfz6_4
                try clear hx381_0
                try clear p2
                try clear p381
                try clear q381
                obtain ⟨x6_2, x31_2, rfl, HA, HK2, HO_3, HO_4, HO_6, HO_7, BK374, HB⟩ := hrel
                cases gk with
                | zero => exact absurd HA.out (by simp [impl_dominance.l1])
                | succ k2 =>
                 have H := HA.out
                 clear HA
                 simp only [impl_dominance.l1] at H
                 by_cases c22 : x31_2 < (l0_4.length : Int)
                 · rw [if_pos c22] at H
                   have c22b0 : decide (x31_2 < (l0_4.length : Int)) = true := decide_eq_true c22
                   clear c22
                   by_cases c23 : 0 ≤ x31_2
                   · rw [if_pos c23] at H
                     have c23b0 : decide (0 ≤ x31_2) = true := decide_eq_true c23
                     clear c23
                     by_cases c24 : x31_2 < (x3_1.length : Int)
                     · rw [if_pos c24] at H
                       have c24b0 : decide (x31_2 < (x3_1.length : Int)) = true := decide_eq_true c24
                       clear c24
                       obtain ⟨bq25, hbq25⟩ : ∃ b_ : Bool, b_ = (rdOf false x3_1 x31_2) := ⟨_, rfl⟩
                       replace H : (if bq25 = true then (if x31_2 < (t382.length : Int) then (if x31_2 < (x6_2.length : Int) then (impl_dominance.l1 k2 x3_1 x4_1 (x6_2.set (x31_2 : Int).toNat (!(rdOf false t382 x31_2))) t382 (l0_4.length : Int) x14_1 (l0_4.length : Int) (wrap64 (x31_2 + 1)) a0_0 a0_1 l0_2 a0_3 l0_4) else (none)) else (none)) else (if x31_2 < (x6_2.length : Int) then (impl_dominance.l1 k2 x3_1 x4_1 (x6_2.set (x31_2 : Int).toNat false) t382 (l0_4.length : Int) x14_1 (l0_4.length : Int) (wrap64 (x31_2 + 1)) a0_0 a0_1 l0_2 a0_3 l0_4) else (none))) = some r := by rw [← hbq25] at H; exact H
                       have Nbq25 := Aside0.mk hbq25
                       clear hbq25
                       by_cases c26 : bq25 = true
                       · subst c26
                         have H1 : (if x31_2 < (t382.length : Int) then (if x31_2 < (x6_2.length : Int) then (impl_dominance.l1 k2 x3_1 x4_1 (x6_2.set (x31_2 : Int).toNat (!(rdOf false t382 x31_2))) t382 (l0_4.length : Int) x14_1 (l0_4.length : Int) (wrap64 (x31_2 + 1)) a0_0 a0_1 l0_2 a0_3 l0_4) else (none)) else (none)) = some r := by rw [if_pos rfl] at H; exact H
                         clear H
                         have H := H1
                         clear H1
                         by_cases c27 : x31_2 < (t382.length : Int)
                         · rw [if_pos c27] at H
                           have c27b0 : decide (x31_2 < (t382.length : Int)) = true := decide_eq_true c27
                           clear c27
                           by_cases c28 : x31_2 < (x6_2.length : Int)
                           · rw [if_pos c28] at H
                             have c28b0 : decide (x31_2 < (x6_2.length : Int)) = true := decide_eq_true c28
                             clear c28
                             obtain ⟨y387, hy387⟩ : ∃ y_ : List Bool, y_ = (x6_2.set (x31_2 : Int).toNat (!(rdOf false t382 x31_2))) := ⟨_, rfl⟩
                             replace H : (impl_dominance.l1 k2 x3_1 x4_1 y387 t382 (l0_4.length : Int) x14_1 (l0_4.length : Int) (wrap64 (x31_2 + 1)) a0_0 a0_1 l0_2 a0_3 l0_4) = some r := by first | (rw [hy387]; with_reducible exact H) | (have H2_ := (Option.bind_some _ _).symm.trans H; rw [hy387]; with_reducible exact H2_) | (have H2_ := (Option.bind_some _ _).symm.trans H; with_reducible exact H2_) | with_reducible exact H | (rw [hy387]; exact H) | exact H
                             have Ny387 := Aside0.mk hy387
                             clear hy387
                             have H' := Aside0.mk H
                             clear H
                             have p385 : 0 ≤ (x31_2 : Int) := of_decide_eq_true (by first | (with_reducible assumption) | assumption)
                             have q385 : x31_2 < (x3_1.length : Int) := of_decide_eq_true (by first | (with_reducible assumption) | assumption)
                             obtain ⟨ad385, e385, hx385_0⟩ := Kd.at_bool (Kd.R_reads' HO_3.out).2.2 x31_2 p385 q385
                             (try rw [← Nbq12.out] at hx385_0)
                             (try rw [← Nbq25.out] at hx385_0)
                             obtain rfl : ad381 = ad385 := (by injection e385)
                             replace p385 := eq_true p385
                             replace q385 := eq_true q385
                             obtain ⟨Ao30, co30, eo30⟩ := Kd.R_slice HO_7.out
                             subst eo30
                             have p386 : 0 ≤ (x31_2 : Int) := of_decide_eq_true (by first | (with_reducible assumption) | assumption)
                             have q386 : x31_2 < (t382.length : Int) := of_decide_eq_true (by first | (with_reducible assumption) | assumption)
                             obtain ⟨ad386, e386, hx386_0⟩ := Kd.at_bool (Kd.R_reads' HO_7.out).2.2 x31_2 p386 q386
                             (try rw [← Nbq12.out] at hx386_0)
                             (try rw [← Nbq25.out] at hx386_0)
                             cases e386
                             replace p386 := eq_true p386
                             replace q386 := eq_true q386
                             have p29 : 0 ≤ (x31_2 : Int) := of_decide_eq_true (by first | (with_reducible assumption) | assumption)
                             have q29 : (x31_2 : Int) < ((x6_2.length : Int) : Int) := of_decide_eq_true (by first | (with_reducible assumption) | assumption)
                             obtain ⟨go29, co29, eo29, gb29, gl29, cl29, HG29⟩ := Kd.R_form HO_6.out (by omega)
                             (first | cases eo29 | (injection eo29 with ea_ en_ ec_; (first | subst ea_ | (injection ea_ with ea_; subst ea_)); subst ec_; clear en_))
                             have GB29 := Aside0.mk gb29
                             have GG29 := Aside0.mk HG29
                             clear gb29 gl29 HG29
                             obtain ⟨hx29_0, hf29_0⟩ := Kd.R_celln false HO_6.out (x31_2 : Int) p29 q29
                             replace p29 := eq_true p29
                             replace q29 := eq_true q29
                             have HP31 := Kd.R_putg HO_6.out (x31_2 : Int) (!(rdOf false t382 x31_2))
                             go_wp2_with (first | ((with_reducible refine gate_store (t := 4) (p := 47) rfl ?_); refine store_event (t := 4) (p := 47) (v := ?vo_w32) (w1 := (wr.setCell ⟨go29, (x31_2 : Int).toNat, none⟩ (.bool (!(rdOf false t382 x31_2))))) ?hg ?ho ?hn ?hr ?_; (case ho => rfl); (case hg => rfl); (case hn => rfl); (case hr => first | (go_simp; done) | (go_simp; rfl)); intro w32 hw; have hg : wr.grownBy w32 (some go29) := (by rw [hw]; exact HP31.2); have hp_ : Kd.R Kd.bool 4 w32 w.heap.size (fun k_ => some k_ ≠ (.slice (some ad381) x3_1.length co18 : Value).ownBlock ∧ some k_ ≠ (.slice (some ad386) t382.length co30 : Value).ownBlock) (.slice (some ⟨go29, 0, none⟩) x6_2.length co29) y387 := (by rw [hw, Ny387.out]; exact HP31.1); clear HP31; have n0_ := Aside0.mk (Kd.R_after (v := (.slice (some ⟨go29, 0, none⟩) x6_2.length co29)) (v1 := (.slice (some ⟨go29, 0, none⟩) x6_2.length co29)) (ok := (fun k_ => some k_ ≠ (.slice (some ad386) t382.length co30 : Value).ownBlock)) (by (with_reducible repeat (first | apply Kd.R_alloc | apply Kd.R_drewN | apply Kd.R_drew)); exact Kd.R_mono HO_3.out (fun _ hk => ⟨hk.2, hk.1⟩)) hg (.inl rfl)); have n1_ := Aside0.mk (Kd.S_after (v := (.slice (some ⟨go29, 0, none⟩) x6_2.length co29)) (v1 := (.slice (some ⟨go29, 0, none⟩) x6_2.length co29)) (ok := (fun k_ => some k_ ≠ (.slice (some ad381) x3_1.length co18 : Value).ownBlock ∧ some k_ ≠ (.slice (some ad386) t382.length co30 : Value).ownBlock)) (by (with_reducible repeat (first | apply Kd.S_alloc | apply Kd.S_drewN | apply Kd.S_drew)); exact Kd.S_mono HO_4.out (fun _ hk => ⟨⟨hk.1, hk.2.2⟩, hk.2.1⟩)) hg (.inl rfl)); have n2_ := Aside0.mk (hp_); have n3_ := Aside0.mk (Kd.R_after (v := (.slice (some ⟨go29, 0, none⟩) x6_2.length co29)) (v1 := (.slice (some ⟨go29, 0, none⟩) x6_2.length co29)) (ok := (fun k_ => some k_ ≠ (.slice (some ad381) x3_1.length co18 : Value).ownBlock)) (by (with_reducible repeat (first | apply Kd.R_alloc | apply Kd.R_drewN | apply Kd.R_drew)); exact HO_7.out) hg (.inl rfl)); have n4_ := Aside0.mk (blk_grown (g := gb374) (o := .cells #[.string a0_0, .int .i64 a0_1, .slice A0_2 l0_2.length c0_2, .int .i64 a0_3, .slice A0_4 l0_4.length c0_4] 30 (0, 0)) (by (with_reducible repeat (first | refine blk_drewN ?_ _ | refine blk_drew ?_ | refine blk_alloc ?_ _)); exact BK374.out) hg (Kd.R_ne HO_6.out BK374.out (by decide))); have n5_ := Aside0.mk ((by rw [hw]; exact below_set (HB.out) GB29.out : Below w.heap.size w w32)); clear HO_3; clear HO_4; clear HO_6; clear HO_7; clear BK374; clear HB; have HO_3 := n0_; have HO_4 := n1_; have HO_6 := n2_; have HO_7 := n3_; have BK374 := n4_; have HB := n5_; clear n0_ n1_ n2_ n3_ n4_ n5_; clear hg hw hp_))
                             go_roundg k2
                             case measure => have := HK1.out; have := HK2.out; omega
                             case rel => exact ⟨(y387), (wrap64 (x31_2 + 1)), (by first | rfl | (simp; done) | (simp [*]; done)), H', ⟨by have := HK1.out; have := HK2.out; omega⟩, ⟨by (with_reducible repeat (first | apply Kd.R_alloc | apply Kd.R_drewN | apply Kd.R_drew)); exact Kd.R_mono HO_3.out (fun _ hk => ⟨hk.2, hk.1⟩)⟩, ⟨by (with_reducible repeat (first | apply Kd.S_alloc | apply Kd.S_drewN | apply Kd.S_drew)); exact Kd.S_mono HO_4.out (fun _ hk => ⟨hk.1.1, ⟨hk.2, hk.1.2⟩⟩)⟩, ⟨by (with_reducible repeat (first | apply Kd.R_alloc | apply Kd.R_drewN | apply Kd.R_drew)); exact HO_6.out⟩, ⟨by (with_reducible repeat (first | apply Kd.R_alloc | apply Kd.R_drewN | apply Kd.R_drew)); exact HO_7.out⟩, ⟨by (with_reducible repeat (first | refine blk_drewN ?_ _ | refine blk_drew ?_ | refine blk_alloc ?_ _)); exact BK374.out⟩, ⟨by repeat (first | (with_reducible first | exact HB.out | apply below_alloc | apply pw_below_drewN | apply below_drew1 | refine below_set ?_ GE374.out) | exact HB.out)⟩⟩
                           · rw [if_neg c28] at H
                             exact absurd H (by simp)
                         · rw [if_neg c27] at H
                           exact absurd H (by simp)
                       · replace c26 := Bool.eq_false_iff.mpr c26
                         subst c26
                         have H1 : (if x31_2 < (x6_2.length : Int) then (impl_dominance.l1 k2 x3_1 x4_1 (x6_2.set (x31_2 : Int).toNat false) t382 (l0_4.length : Int) x14_1 (l0_4.length : Int) (wrap64 (x31_2 + 1)) a0_0 a0_1 l0_2 a0_3 l0_4) else (none)) = some r := by rw [if_neg (show ¬ (false = true) by decide)] at H; exact H
                         clear H
                         have H := H1
                         clear H1
                         by_cases c33 : x31_2 < (x6_2.length : Int)
                         · rw [if_pos c33] at H
                           have c33b0 : decide (x31_2 < (x6_2.length : Int)) = true := decide_eq_true c33
                           clear c33
                           obtain ⟨y388, hy388⟩ : ∃ y_ : List Bool, y_ = (x6_2.set (x31_2 : Int).toNat false) := ⟨_, rfl⟩
                           replace H : (impl_dominance.l1 k2 x3_1 x4_1 y388 t382 (l0_4.length : Int) x14_1 (l0_4.length : Int) (wrap64 (x31_2 + 1)) a0_0 a0_1 l0_2 a0_3 l0_4) = some r := by first | (rw [hy388]; with_reducible exact H) | (have H2_ := (Option.bind_some _ _).symm.trans H; rw [hy388]; with_reducible exact H2_) | (have H2_ := (Option.bind_some _ _).symm.trans H; with_reducible exact H2_) | with_reducible exact H | (rw [hy388]; exact H) | exact H
                           have Ny388 := Aside0.mk hy388
                           clear hy388
                           have H' := Aside0.mk H
                           clear H
                           have p385 : 0 ≤ (x31_2 : Int) := of_decide_eq_true (by first | (with_reducible assumption) | assumption)
                           have q385 : x31_2 < (x3_1.length : Int) := of_decide_eq_true (by first | (with_reducible assumption) | assumption)
                           obtain ⟨ad385, e385, hx385_0⟩ := Kd.at_bool (Kd.R_reads' HO_3.out).2.2 x31_2 p385 q385
                           (try rw [← Nbq12.out] at hx385_0)
                           (try rw [← Nbq25.out] at hx385_0)
                           obtain rfl : ad381 = ad385 := (by injection e385)
                           replace p385 := eq_true p385
                           replace q385 := eq_true q385
                           have p34 : 0 ≤ (x31_2 : Int) := of_decide_eq_true (by first | (with_reducible assumption) | assumption)
                           have q34 : (x31_2 : Int) < ((x6_2.length : Int) : Int) := of_decide_eq_true (by first | (with_reducible assumption) | assumption)
                           obtain ⟨go34, co34, eo34, gb34, gl34, cl34, HG34⟩ := Kd.R_form HO_6.out (by omega)
                           (first | cases eo34 | (injection eo34 with ea_ en_ ec_; (first | subst ea_ | (injection ea_ with ea_; subst ea_)); subst ec_; clear en_))
                           have GB34 := Aside0.mk gb34
                           have GG34 := Aside0.mk HG34
                           clear gb34 gl34 HG34
                           obtain ⟨hx34_0, hf34_0⟩ := Kd.R_celln false HO_6.out (x31_2 : Int) p34 q34
                           replace p34 := eq_true p34
                           replace q34 := eq_true q34
                           have HP35 := Kd.R_putg HO_6.out (x31_2 : Int) false
                           go_wp2_with (first | ((with_reducible refine gate_store (t := 4) (p := 47) rfl ?_); refine store_event (t := 4) (p := 47) (v := ?vo_w36) (w1 := (wr.setCell ⟨go34, (x31_2 : Int).toNat, none⟩ (.bool false))) ?hg ?ho ?hn ?hr ?_; (case ho => rfl); (case hg => rfl); (case hn => rfl); (case hr => first | (go_simp; done) | (go_simp; rfl)); intro w36 hw; have hg : wr.grownBy w36 (some go34) := (by rw [hw]; exact HP35.2); have hp_ : Kd.R Kd.bool 4 w36 w.heap.size (fun k_ => some k_ ≠ (.slice (some ad381) x3_1.length co18 : Value).ownBlock ∧ some k_ ≠ (v383 : Value).ownBlock) (.slice (some ⟨go34, 0, none⟩) x6_2.length co34) y388 := (by rw [hw, Ny388.out]; exact HP35.1); clear HP35; have n0_ := Aside0.mk (Kd.R_after (v := (.slice (some ⟨go34, 0, none⟩) x6_2.length co34)) (v1 := (.slice (some ⟨go34, 0, none⟩) x6_2.length co34)) (ok := (fun k_ => some k_ ≠ (v383 : Value).ownBlock)) (by (with_reducible repeat (first | apply Kd.R_alloc | apply Kd.R_drewN | apply Kd.R_drew)); exact Kd.R_mono HO_3.out (fun _ hk => ⟨hk.2, hk.1⟩)) hg (.inl rfl)); have n1_ := Aside0.mk (Kd.S_after (v := (.slice (some ⟨go34, 0, none⟩) x6_2.length co34)) (v1 := (.slice (some ⟨go34, 0, none⟩) x6_2.length co34)) (ok := (fun k_ => some k_ ≠ (.slice (some ad381) x3_1.length co18 : Value).ownBlock ∧ some k_ ≠ (v383 : Value).ownBlock)) (by (with_reducible repeat (first | apply Kd.S_alloc | apply Kd.S_drewN | apply Kd.S_drew)); exact Kd.S_mono HO_4.out (fun _ hk => ⟨⟨hk.1, hk.2.2⟩, hk.2.1⟩)) hg (.inl rfl)); have n2_ := Aside0.mk (hp_); have n3_ := Aside0.mk (Kd.R_after (v := (.slice (some ⟨go34, 0, none⟩) x6_2.length co34)) (v1 := (.slice (some ⟨go34, 0, none⟩) x6_2.length co34)) (ok := (fun k_ => some k_ ≠ (.slice (some ad381) x3_1.length co18 : Value).ownBlock)) (by (with_reducible repeat (first | apply Kd.R_alloc | apply Kd.R_drewN | apply Kd.R_drew)); exact HO_7.out) hg (.inl rfl)); have n4_ := Aside0.mk (blk_grown (g := gb374) (o := .cells #[.string a0_0, .int .i64 a0_1, .slice A0_2 l0_2.length c0_2, .int .i64 a0_3, .slice A0_4 l0_4.length c0_4] 30 (0, 0)) (by (with_reducible repeat (first | refine blk_drewN ?_ _ | refine blk_drew ?_ | refine blk_alloc ?_ _)); exact BK374.out) hg (Kd.R_ne HO_6.out BK374.out (by decide))); have n5_ := Aside0.mk ((by rw [hw]; exact below_set (HB.out) GB34.out : Below w.heap.size w w36)); clear HO_3; clear HO_4; clear HO_6; clear HO_7; clear BK374; clear HB; have HO_3 := n0_; have HO_4 := n1_; have HO_6 := n2_; have HO_7 := n3_; have BK374 := n4_; have HB := n5_; clear n0_ n1_ n2_ n3_ n4_ n5_; clear hg hw hp_))
                           go_roundg k2
                           case measure => have := HK1.out; have := HK2.out; omega
                           case rel => exact ⟨(y388), (wrap64 (x31_2 + 1)), (by first | rfl | (simp; done) | (simp [*]; done)), H', ⟨by have := HK1.out; have := HK2.out; omega⟩, ⟨by (with_reducible repeat (first | apply Kd.R_alloc | apply Kd.R_drewN | apply Kd.R_drew)); exact Kd.R_mono HO_3.out (fun _ hk => ⟨hk.2, hk.1⟩)⟩, ⟨by (with_reducible repeat (first | apply Kd.S_alloc | apply Kd.S_drewN | apply Kd.S_drew)); exact Kd.S_mono HO_4.out (fun _ hk => ⟨hk.1.1, ⟨hk.2, hk.1.2⟩⟩)⟩, ⟨by (with_reducible repeat (first | apply Kd.R_alloc | apply Kd.R_drewN | apply Kd.R_drew)); exact HO_6.out⟩, ⟨by (with_reducible repeat (first | apply Kd.R_alloc | apply Kd.R_drewN | apply Kd.R_drew)); exact HO_7.out⟩, ⟨by (with_reducible repeat (first | refine blk_drewN ?_ _ | refine blk_drew ?_ | refine blk_alloc ?_ _)); exact BK374.out⟩, ⟨by repeat (first | (with_reducible first | exact HB.out | apply below_alloc | apply pw_below_drewN | apply below_drew1 | refine below_set ?_ GE374.out) | exact HB.out)⟩⟩
                         · rw [if_neg c33] at H
                           exact absurd H (by simp)
                     · rw [if_neg c24] at H
                       exact absurd H (by simp)
                   · rw [if_neg c23] at H
                     exact absurd H (by simp)
                 · rw [if_neg c22] at H
                   have c22b0 : decide (x31_2 < (l0_4.length : Int)) = false := decide_eq_false c22
                   clear c22
                   by_cases c37 : x4_1.length < 5864062014805
                   · rw [if_pos c37] at H
                     have LMc37 := Aside0.mk c37
                     clear c37
                     obtain ⟨y389, hy389⟩ : ∃ y_ : List (List Bool), y_ = (x4_1 ++ [x6_2]) := ⟨_, rfl⟩
                     replace H : (impl_dominance.l0 k2 x3_1 y389 (l0_4.length : Int) (wrap64 (x14_1 + 1)) a0_0 a0_1 l0_2 a0_3 l0_4) = some r := by first | (rw [hy389]; with_reducible exact H) | (have H2_ := (Option.bind_some _ _).symm.trans H; rw [hy389]; with_reducible exact H2_) | (have H2_ := (Option.bind_some _ _).symm.trans H; with_reducible exact H2_) | with_reducible exact H | (rw [hy389]; exact H) | exact H
                     have Ny389 := Aside0.mk hy389
                     clear hy389
                     have H' := Aside0.mk H
                     clear H
                     obtain ⟨Ao39, co39, eo39⟩ := Kd.R_slice HO_6.out
                     subst eo39
                     go_wp2_with (first | ((with_reducible refine gate_builtin (b := .append) (xs := #[.tmp 49, .tmp 51]) rfl ?_); at_builtin; refine Kd.S_append (Kd.slice 4 Kd.bool) (w0 := w) w.heap.size rfl (.tmp 49) (.tmp 51) 80 54 (.slice none 0 0) 24 rfl Try.underlying80 info54 rfl (by decide) (by omega) u4 x4_1 x6_2 [.slice Ao39 x6_2.length co39] (fun k_ => some k_ ≠ (.slice (some ad381) x3_1.length co18 : Value).ownBlock ∧ some k_ ≠ (v383 : Value).ownBlock) (fun k_ => some k_ = (.slice Ao39 x6_2.length co39 : Value).ownBlock) rfl rfl ?aP (fun k_ hk_ => ((Kd.R_mono (ok' := fun k_ => ((fun k_ => some k_ ≠ (.slice (some ad381) x3_1.length co18 : Value).ownBlock ∧ some k_ ≠ (v383 : Value).ownBlock)) k_ ∧ some k_ ≠ (u4 : Value).ownBlock) (Kd.R_apart' (HO_6.out) (Kd.S_typed HO_4.out) (by decide)) (fun k_ hk => ⟨⟨hk.1.1, hk.1.2⟩, hk.2⟩))).1 k_ hk_.symm) ?aF ?aO ?aB ?aS ?aL ?_; (case aP => exact Kd.M_row (Kd.R_mono (Kd.R_tight rfl (Kd.R_mono (ok' := fun k_ => ((fun k_ => some k_ ≠ (.slice (some ad381) x3_1.length co18 : Value).ownBlock ∧ some k_ ≠ (v383 : Value).ownBlock)) k_ ∧ some k_ ≠ (u4 : Value).ownBlock) (Kd.R_apart' (HO_6.out) (Kd.S_typed HO_4.out) (by decide)) (fun k_ hk => ⟨⟨hk.1.1, hk.1.2⟩, hk.2⟩))) (fun _ h_ => h_))); (case aB => exact (by repeat (first | (with_reducible first | exact HB.out | apply below_alloc | apply pw_below_drewN | apply below_drew1 | refine below_set ?_ GE374.out) | exact HB.out))); (case aF => exact (fun k_ hk => ⟨Kd.fresh' (Kd.R_lt (by (with_reducible repeat (first | apply Kd.R_alloc | apply Kd.R_drewN | apply Kd.R_drew)); exact HO_3.out)) k_ hk, Kd.fresh' (Kd.R_lt (by (with_reducible repeat (first | apply Kd.R_alloc | apply Kd.R_drewN | apply Kd.R_drew)); exact HO_7.out)) k_ hk⟩)); (case aO => exact (by (with_reducible repeat (first | apply Kd.S_alloc | apply Kd.S_drewN | apply Kd.S_drew)); exact Kd.S_mono HO_4.out (fun k_ hk => ⟨⟨hk.1, hk.2.2⟩, fun e_ => hk.2.1 e_⟩))); (case aS => exact (below_size (by repeat (first | (with_reducible first | exact HB.out | apply below_alloc | apply pw_below_drewN | apply below_drew1 | refine below_set ?_ GE374.out) | exact HB.out)))); (case aL => have := LMc37.out; omega); intro v390 w38 ho hb hg hat; rw [← Ny389.out] at ho; have n0_ := Aside0.mk (Kd.R_over' (by (with_reducible repeat (first | apply Kd.R_alloc | apply Kd.R_drewN | apply Kd.R_drew)); exact HO_3.out) (Kd.S_typed (by (with_reducible repeat (first | apply Kd.S_alloc | apply Kd.S_drewN | apply Kd.S_drew)); exact HO_4.out)) (by decide) hg); have n1_ := Aside0.mk (Kd.R_over' (by (with_reducible repeat (first | apply Kd.R_alloc | apply Kd.R_drewN | apply Kd.R_drew)); exact HO_7.out) (Kd.S_typed (by (with_reducible repeat (first | apply Kd.S_alloc | apply Kd.S_drewN | apply Kd.S_drew)); exact HO_4.out)) (by decide) hg); have n2_ := Aside0.mk (blk_grown (g := gb374) (o := .cells #[.string a0_0, .int .i64 a0_1, .slice A0_2 l0_2.length c0_2, .int .i64 a0_3, .slice A0_4 l0_4.length c0_4] 30 (0, 0)) (by (with_reducible repeat (first | refine blk_drewN ?_ _ | refine blk_drew ?_ | refine blk_alloc ?_ _)); exact BK374.out) hg (Kd.S_ne HO_4.out BK374.out (by decide))); have n3_ := Aside0.mk (hb); have n4_ := Aside0.mk (ho); clear HO_3; clear HO_7; clear BK374; clear HB; clear HO_4; clear HO_6; have HO_3 := n0_; have HO_7 := n1_; have BK374 := n2_; have HB := n3_; have HO391 := n4_; clear n0_ n1_ n2_ n3_ n4_; clear ho hb hg hat))
                     go_roundg k2
                     case measure => have := HK1.out; have := HK2.out; omega
                     case rel => exact ⟨(x3_1), (y389), (wrap64 (x14_1 + 1)), (by first | rfl | (simp; done) | (simp [*]; done)), H', ⟨by have := HK1.out; have := HK2.out; omega⟩, ⟨by (with_reducible repeat (first | apply Kd.R_alloc | apply Kd.R_drewN | apply Kd.R_drew)); exact Kd.R_mono HO_3.out (fun _ hk => trivial)⟩, ⟨by (with_reducible repeat (first | apply Kd.S_alloc | apply Kd.S_drewN | apply Kd.S_drew)); exact Kd.S_mono HO391.out (fun _ hk => hk.1)⟩, ⟨by (with_reducible repeat (first | refine blk_drewN ?_ _ | refine blk_drew ?_ | refine blk_alloc ?_ _)); exact BK374.out⟩, ⟨by repeat (first | (with_reducible first | exact HB.out | apply below_alloc | apply pw_below_drewN | apply below_drew1 | refine below_set ?_ GE374.out) | exact HB.out)⟩⟩
                   · rw [if_neg c37] at H
                     exact absurd H (by simp)
             · replace c13 := Bool.eq_false_iff.mpr c13
               subst c13
               have H1 : (if x4_1.length < 5864062014805 then (impl_dominance.l0 k1 x3_1 (x4_1 ++ [y378]) (l0_4.length : Int) (wrap64 (x14_1 + 1)) a0_0 a0_1 l0_2 a0_3 l0_4) else (none)) = some r := by rw [if_neg (show ¬ (false = true) by decide)] at H; exact H
               clear H
               have H := H1
               clear H1
               by_cases c40 : x4_1.length < 5864062014805
               · rw [if_pos c40] at H
                 have LMc40 := Aside0.mk c40
                 clear c40
                 obtain ⟨y392, hy392⟩ : ∃ y_ : List (List Bool), y_ = (x4_1 ++ [y378]) := ⟨_, rfl⟩
                 replace H : (impl_dominance.l0 k1 x3_1 y392 (l0_4.length : Int) (wrap64 (x14_1 + 1)) a0_0 a0_1 l0_2 a0_3 l0_4) = some r := by first | (rw [hy392]; with_reducible exact H) | (have H2_ := (Option.bind_some _ _).symm.trans H; rw [hy392]; with_reducible exact H2_) | (have H2_ := (Option.bind_some _ _).symm.trans H; with_reducible exact H2_) | with_reducible exact H | (rw [hy392]; exact H) | exact H
                 have Ny392 := Aside0.mk hy392
                 clear hy392
                 have H' := Aside0.mk H
                 clear H
                 have hcz41_0 : wr.cell? ⟨gb374, 0, none⟩ = some (.string a0_0) := (blk_cell BK374.out 0).trans rfl
                 have hcz41_1 : wr.cell? ⟨gb374, 1, none⟩ = some (.int .i64 a0_1) := (blk_cell BK374.out 1).trans rfl
                 have hcz41_2 : wr.cell? ⟨gb374, 2, none⟩ = some (.slice A0_2 l0_2.length c0_2) := (blk_cell BK374.out 2).trans rfl
                 have hcz41_3 : wr.cell? ⟨gb374, 3, none⟩ = some (.int .i64 a0_3) := (blk_cell BK374.out 3).trans rfl
                 have hcz41_4 : wr.cell? ⟨gb374, 4, none⟩ = some (.slice A0_4 l0_4.length c0_4) := (blk_cell BK374.out 4).trans rfl
                 have hfz41_0 := blk_frozen BK374.out 0
                 have hfz41_1 := blk_frozen BK374.out 1
                 have hfz41_2 := blk_frozen BK374.out 2
                 have hfz41_3 := blk_frozen BK374.out 3
                 have hfz41_4 := blk_frozen BK374.out 4
                 go_wp2_with (first | ((with_reducible refine gate_dst (N := 20) rfl ?_); refine Kd.R_make Kd.bool _ 4 rfl (N := 20) rfl 54 _ _ rfl (l0_4.length : Int) rfl rfl Try.underlying54 (.bool false) 1 info4 rfl (by decide) (by omega) false (ok := fun _ => True) (okp := fun _ => True) rfl (fun _ hk => hk) trivial (of_decide_eq_true (by first | (with_reducible assumption) | assumption)) (Nat.le_trans (Nat.mul_le_mul_right _ (of_decide_eq_true (by first | (with_reducible assumption) | assumption) : (l0_4.length : Int).toNat ≤ 281474976710656)) (by omega)) (Below.refl _ _) (Nat.le_refl _) ?_; intro v379 w42 ho43 hb hg_ hnew_; clear hg_ hnew_; (first | rw [← Ny378.out] at ho43 | (simp only [Int.reduceToNat] at ho43; rw [← Ny378.out] at ho43)); have n0_ := Aside0.mk (Kd.R_elder' (by (with_reducible repeat (first | apply Kd.R_alloc | apply Kd.R_drewN | apply Kd.R_drew)); exact HO_3.out) (Kd.R_base ho43) hb); have n1_ := Aside0.mk (Kd.S_elder' (by (with_reducible repeat (first | apply Kd.S_alloc | apply Kd.S_drewN | apply Kd.S_drew)); exact HO_4.out) (Kd.R_base ho43) hb); have n2_ := Aside0.mk (Kd.R_lower (Kd.R_new' ho43 (Kd.R_lt (by (with_reducible repeat (first | apply Kd.R_alloc | apply Kd.R_drewN | apply Kd.R_drew)); exact HO_3.out))) (below_size (by repeat (first | (with_reducible first | exact HB.out | apply below_alloc | apply pw_below_drewN | apply below_drew1 | refine below_set ?_ GE374.out) | exact HB.out)))); have n3_ := Aside0.mk (blk_below (g := gb374) (o := .cells #[.string a0_0, .int .i64 a0_1, .slice A0_2 l0_2.length c0_2, .int .i64 a0_3, .slice A0_4 l0_4.length c0_4] 30 (0, 0)) (by (with_reducible repeat (first | refine blk_drewN ?_ _ | refine blk_drew ?_ | refine blk_alloc ?_ _)); exact BK374.out) hb); have n4_ := Aside0.mk (below_step (by repeat (first | (with_reducible first | exact HB.out | apply below_alloc | apply pw_below_drewN | apply below_drew1 | refine below_set ?_ GE374.out) | exact HB.out)) hb); clear HO_3; clear HO_4; clear BK374; clear HB; have HO_3 := n0_; have HO_4 := n1_; have HO380 := n2_; have BK374 := n3_; have HB := n4_; clear n0_ n1_ n2_ n3_ n4_; clear hb ho43; obtain ⟨Ao44, co44, eo44⟩ := Kd.R_slice HO_3.out; subst eo44; have p381 : 0 ≤ (x14_1 : Int) := of_decide_eq_true (by first | (with_reducible assumption) | assumption); have q381 : x14_1 < (x3_1.length : Int) := of_decide_eq_true (by first | (with_reducible assumption) | assumption); obtain ⟨ad381, e381, hx381_0⟩ := Kd.at_bool (Kd.R_reads' HO_3.out).2.2 x14_1 p381 q381; (try rw [← Nbq12.out] at hx381_0); cases e381; replace p381 := eq_true p381; replace q381 := eq_true q381; obtain ⟨Ao46, co46, eo46⟩ := Kd.R_slice HO380.out; subst eo46) | ((with_reducible refine gate_builtin (b := .append) (xs := #[.tmp 49, .tmp 51]) rfl ?_); at_builtin; refine Kd.S_append (Kd.slice 4 Kd.bool) (w0 := w) w.heap.size rfl (.tmp 49) (.tmp 51) 80 54 (.slice none 0 0) 24 rfl Try.underlying80 info54 rfl (by decide) (by omega) u4 x4_1 y378 [.slice Ao46 y378.length co46] (fun k_ => some k_ ≠ (.slice (some ad381) x3_1.length co44 : Value).ownBlock) (fun k_ => some k_ = (.slice Ao46 y378.length co46 : Value).ownBlock) rfl rfl ?aP (fun k_ hk_ => ((Kd.R_mono (ok' := fun k_ => ((fun k_ => some k_ ≠ (.slice (some ad381) x3_1.length co44 : Value).ownBlock)) k_ ∧ some k_ ≠ (u4 : Value).ownBlock) (Kd.R_apart' (HO380.out) (Kd.S_typed HO_4.out) (by decide)) (fun k_ hk => ⟨hk.1.2, hk.2⟩))).1 k_ hk_.symm) ?aF ?aO ?aB ?aS ?aL ?_; (case aP => exact Kd.M_row (Kd.R_mono (Kd.R_tight rfl (Kd.R_mono (ok' := fun k_ => ((fun k_ => some k_ ≠ (.slice (some ad381) x3_1.length co44 : Value).ownBlock)) k_ ∧ some k_ ≠ (u4 : Value).ownBlock) (Kd.R_apart' (HO380.out) (Kd.S_typed HO_4.out) (by decide)) (fun k_ hk => ⟨hk.1.2, hk.2⟩))) (fun _ h_ => h_))); (case aB => exact (by repeat (first | (with_reducible first | exact HB.out | apply below_alloc | apply pw_below_drewN | apply below_drew1 | refine below_set ?_ GE374.out) | exact HB.out))); (case aF => exact (fun k_ hk => Kd.fresh' (Kd.R_lt (by (with_reducible repeat (first | apply Kd.R_alloc | apply Kd.R_drewN | apply Kd.R_drew)); exact HO_3.out)) k_ hk)); (case aO => exact (by (with_reducible repeat (first | apply Kd.S_alloc | apply Kd.S_drewN | apply Kd.S_drew)); exact Kd.S_mono HO_4.out (fun k_ hk => ⟨hk.1, fun e_ => hk.2 e_⟩))); (case aS => exact (below_size (by repeat (first | (with_reducible first | exact HB.out | apply below_alloc | apply pw_below_drewN | apply below_drew1 | refine below_set ?_ GE374.out) | exact HB.out)))); (case aL => have := LMc40.out; omega); intro v393 w45 ho hb hg hat; rw [← Ny392.out] at ho; have n0_ := Aside0.mk (Kd.R_over' (by (with_reducible repeat (first | apply Kd.R_alloc | apply Kd.R_drewN | apply Kd.R_drew)); exact HO_3.out) (Kd.S_typed (by (with_reducible repeat (first | apply Kd.S_alloc | apply Kd.S_drewN | apply Kd.S_drew)); exact HO_4.out)) (by decide) hg); have n1_ := Aside0.mk (blk_grown (g := gb374) (o := .cells #[.string a0_0, .int .i64 a0_1, .slice A0_2 l0_2.length c0_2, .int .i64 a0_3, .slice A0_4 l0_4.length c0_4] 30 (0, 0)) (by (with_reducible repeat (first | refine blk_drewN ?_ _ | refine blk_drew ?_ | refine blk_alloc ?_ _)); exact BK374.out) hg (Kd.S_ne HO_4.out BK374.out (by decide))); have n2_ := Aside0.mk (hb); have n3_ := Aside0.mk (ho); clear HO_3; clear BK374; clear HB; clear HO_4; clear HO380; have HO_3 := n0_; have BK374 := n1_; have HB := n2_; have HO394 := n3_; clear n0_ n1_ n2_ n3_; clear ho hb hg hat))
                 go_roundg k1
                 case measure => have := HK1.out; omega
                 case rel => exact ⟨(x3_1), (y392), (wrap64 (x14_1 + 1)), (by first | rfl | (simp; done) | (simp [*]; done)), H', ⟨by have := HK1.out; omega⟩, ⟨by (with_reducible repeat (first | apply Kd.R_alloc | apply Kd.R_drewN | apply Kd.R_drew)); exact Kd.R_mono HO_3.out (fun _ hk => trivial)⟩, ⟨by (with_reducible repeat (first | apply Kd.S_alloc | apply Kd.S_drewN | apply Kd.S_drew)); exact HO394.out⟩, ⟨by (with_reducible repeat (first | refine blk_drewN ?_ _ | refine blk_drew ?_ | refine blk_alloc ?_ _)); exact BK374.out⟩, ⟨by repeat (first | (with_reducible first | exact HB.out | apply below_alloc | apply pw_below_drewN | apply below_drew1 | refine below_set ?_ GE374.out) | exact HB.out)⟩⟩
               · rw [if_neg c40] at H
                 exact absurd H (by simp)
           · rw [if_neg c11] at H
             exact absurd H (by simp)
         · rw [if_neg c10] at H
           exact absurd H (by simp)
       · rw [if_neg c9] at H
         exact absurd H (by simp)
     · rw [if_neg c8] at H
       exact absurd H (by simp)
   · rw [if_neg c7] at H
     have c7b0 : decide (x14_1 < (l0_4.length : Int)) = false := decide_eq_false c7
     clear c7
     obtain rfl := Option.some.inj H
     go_wp2
     go_ret
     exact ⟨_, by first | rfl | (simp [errW_none, errW_some] <;> rfl) | (simp [*, errW_none, errW_some] <;> rfl), by (with_reducible repeat (first | apply Kd.S_alloc | apply Kd.S_drewN | apply Kd.S_drew)); exact Kd.S_mono HO_4.out (fun _ hk => trivial), by repeat (first | (with_reducible first | exact HB.out | apply below_alloc | apply pw_below_drewN | apply below_drew1 | refine below_set ?_ GE374.out) | exact HB.out)⟩

end Go.Proofs.Ytoedcnhgobbnfaa.All


namespace Go.Proofs.Ytoedcnhgobbnfaa.All
open Go.RowKit Go.Proofs.YtoedcnhgobbnfaaW.PrintWords Go.Proofs.YtoedcnhgobbnfaaW.PrintLast Go.Proofs.YtoedcnhgobbnfaaW.PrintMore
attribute [local go_sem] max2_int min2_int max_two min_two max_three min_three max_four min_four   -- for this text's walks alone
set_option linter.unusedVariables false
set_option linter.unusedSimpArgs false

/-! ### impl_PrevBlocks: function 24 -/
mutual
def impl_PrevBlocks.l0 : Nat → Int → List Int → Int → Int → ByteArray → Int → List Int → Int → List (S62) → Option (List Int)
 | 0, _, _, _, _, _, _, _, _, _ => none
 | k + 1, x1, x5, x11, x12, x498000, x498001, x498002, x498003, x498004 => if x12 < x11 then ((impl_NextBlocks.f x498000 x498001 x498002 x498003 x498004 x12).bind fun t498 => (impl_PrevBlocks.l1 k x1 x5 x12 x11 x12 t498 (t498.length : Int) 0 x498000 x498001 x498002 x498003 x498004)) else (some x5)
def impl_PrevBlocks.l1 : Nat → Int → List Int → Int → Int → Int → List Int → Int → Int → ByteArray → Int → List Int → Int → List (S62) → Option (List Int)
 | 0, _, _, _, _, _, _, _, _, _, _, _, _, _ => none
 | k + 1, x1, x5, x6, x11, x12, x17, x18, x19, x498000, x498001, x498002, x498003, x498004 => if x19 < x18 then (if 0 ≤ x19 then (if x19 < (x17.length : Int) then (if (rd x17 x19) = x1 then (if x5.length < 17592186044416 then (impl_PrevBlocks.l1 k x1 (x5 ++ [x6]) x6 x11 x12 x17 x18 (wrap64 (x19 + 1)) x498000 x498001 x498002 x498003 x498004) else (none)) else (impl_PrevBlocks.l1 k x1 x5 x6 x11 x12 x17 x18 (wrap64 (x19 + 1)) x498000 x498001 x498002 x498003 x498004)) else (none)) else (none)) else (impl_PrevBlocks.l0 k x1 x5 x11 (wrap64 (x12 + 1)) x498000 x498001 x498002 x498003 x498004)
end
def impl_PrevBlocks.f (k : Nat) (a0_0 : ByteArray) (a0_1 : Int) (l0_2 : List Int) (a0_3 : Int) (l0_4 : List (S62)) (a1 : Int) : Option (List Int) := impl_PrevBlocks.l0 k a1 ([] : List Int) (l0_4.length : Int) 0 a0_0 a0_1 l0_2 a0_3 l0_4
set_option maxHeartbeats 8000000 in
set_option maxRecDepth 100000 in
theorem impl_PrevBlocks.calls (k : Nat) (a0_0 : ByteArray) (a0_1 : Int) (A0_2 : Option Addr) (c0_2 : Nat) (l0_2 : List Int) (a0_3 : Int) (A0_4 : Option Addr) (c0_4 : Nat) (l0_4 : List (S62)) (a1 : Int) (r : List Int) (w : World) (hr0_2 : Kd.C (Kd.int .i64) w A0_2 l0_2.length l0_2) (hc0_2 : l0_2.length ≤ c0_2) (hr0_4 : Kd.C k62 w A0_4 l0_4.length l0_4) (hc0_4 : l0_4.length ≤ c0_4) (h : impl_PrevBlocks.f k a0_0 a0_1 l0_2 a0_3 l0_4 a1 = some r) :
 Calls Try.prog 24 #[.agg #[.string a0_0, .int .i64 a0_1, .slice A0_2 l0_2.length c0_2, .int .i64 a0_3, .slice A0_4 l0_4.length c0_4], .int .i64 a1] w fun e w' => ∃ v0_ : Value, e = .returned (v0_) ∧ Kd.R (Kd.int .i64) 2 w' w.heap.size (fun _ => True) v0_ r ∧ Below w.heap.size w w' := by
 have hu30 := Try.underlying30
 have HR0_2 := Aside0.mk hr0_2
 have HC0_2 := Aside0.mk hc0_2
 clear hr0_2 hc0_2
 have HR0_4 := Aside0.mk hr0_4
 have HC0_4 := Aside0.mk hc0_4
 clear hr0_4 hc0_4
 have HB := Aside0.mk (Below.refl w.heap.size w)
 have H : (impl_PrevBlocks.l0 k a1 ([] : List Int) (l0_4.length : Int) 0 a0_0 a0_1 l0_2 a0_3 l0_4) = some r := h
 clear h
 have H' := Aside0.mk H
 clear H
 go_enter Try.func24, Try.ntmps24
 go_wp2_with (first | ((with_reducible refine gate_dst (N := 2) rfl ?_); refine box_event ?hg (N := 2) ?hd (cs := #[.string a0_0, .int .i64 a0_1, .slice A0_2 l0_2.length c0_2, .int .i64 a0_3, .slice A0_4 l0_4.length c0_4]) (t := 30) ?hr ?_; (case hd => rfl); (case hg => rfl); (case hr => first | (go_simp; done) | (go_simp; rfl)); intro gb497 hg w3 hbox hb; have n0_ := Aside0.mk (below_step (by repeat (first | (with_reducible first | exact HB.out | apply below_alloc | apply pw_below_drewN | apply below_drew1) | exact HB.out)) hb); have n1_ := Aside0.mk (hbox); have n2_ := Aside0.mk ((by rw [hg]; exact (below_size (by repeat (first | (with_reducible first | exact HB.out | apply below_alloc | apply pw_below_drewN | apply below_drew1) | exact HB.out))) : w.heap.size ≤ gb497)); have n3_ := Aside0.mk ((by rw [hg]; exact (below_size (by repeat (first | (with_reducible first | exact HB.out | apply below_alloc | apply pw_below_drewN | apply below_drew1) | exact HB.out))) : w.heap.size ≤ gb497)); clear HB; have HB := n0_; have BK497 := n1_; have GW497 := n2_; have GE497 := n3_; clear n0_ n1_ n2_ n3_; clear hb hbox hg; have hcz4_0 : w3.cell? ⟨gb497, 0, none⟩ = some (.string a0_0) := (blk_cell BK497.out 0).trans rfl; have hcz4_1 : w3.cell? ⟨gb497, 1, none⟩ = some (.int .i64 a0_1) := (blk_cell BK497.out 1).trans rfl; have hcz4_2 : w3.cell? ⟨gb497, 2, none⟩ = some (.slice A0_2 l0_2.length c0_2) := (blk_cell BK497.out 2).trans rfl; have hcz4_3 : w3.cell? ⟨gb497, 3, none⟩ = some (.int .i64 a0_3) := (blk_cell BK497.out 3).trans rfl; have hcz4_4 : w3.cell? ⟨gb497, 4, none⟩ = some (.slice A0_4 l0_4.length c0_4) := (blk_cell BK497.out 4).trans rfl; have hfz4_0 := blk_frozen BK497.out 0; have hfz4_1 := blk_frozen BK497.out 1; have hfz4_2 := blk_frozen BK497.out 2; have hfz4_3 := blk_frozen BK497.out 3; have hfz4_4 := blk_frozen BK497.out 4))
 go_loopg [5, 12] k (fun kq v5 v12 w' => ∃ (x5_1 : List Int) (x12_1 : Int), v12 = .int .i64 x12_1 ∧ Aside0 (impl_PrevBlocks.l0 kq a1 x5_1 (l0_4.length : Int) x12_1 a0_0 a0_1 l0_2 a0_3 l0_4 = some r) ∧ Aside0 (kq ≤ k) ∧ Aside0 (Kd.R (Kd.int .i64) 2 w' w.heap.size (fun _ => True) v5 x5_1) ∧ Aside0 (w'.heap[gb497]? = some (.cells #[.string a0_0, .int .i64 a0_1, (.slice A0_2 l0_2.length c0_2), .int .i64 a0_3, (.slice A0_4 l0_4.length c0_4)] 30 (0, 0))) ∧ Aside0 (Below w.heap.size w w'))
 case atStart => exact ⟨(([] : List Int)), (0), (by first | rfl | (simp; done) | (simp [*]; done)), H', ⟨Nat.le_refl _⟩, ⟨by first | exact Kd.R_nil _ _ _ _ _ | exact Kd.N_nil _ _ _ _ _ | exact Kd.V_nil _ _ _ _ _ | exact Kd.Q_nil _ _ _ _ _ | exact Kd.S_nil _ _ _ _ _⟩, ⟨by (with_reducible repeat (first | refine blk_drewN ?_ _ | refine blk_drew ?_ | refine blk_alloc ?_ _)); exact BK497.out⟩, ⟨by repeat (first | (with_reducible first | exact HB.out | apply below_alloc | apply pw_below_drewN | apply below_drew1 | refine below_set ?_ GE497.out) | exact HB.out)⟩⟩
 case round =>
  clear H'
  try clear c2
  try clear p2
  try clear hcz4_0
  try clear hcz4_1
  try clear hcz4_2
  try clear hcz4_3
  try clear hcz4_4
  try clear hfz4_0
  try clear hfz4_1
  try clear hfz4_2
  try clear hfz4_3
  try clear hfz4_4
  obtain ⟨x5_1, x12_1, rfl, HA, HK1, HO_5, BK497, HB⟩ := hrel
  cases gk with
  | zero => exact absurd HA.out (by simp [impl_PrevBlocks.l0])
  | succ k1 =>
   have H := HA.out
   clear HA
   simp only [impl_PrevBlocks.l0] at H
   by_cases c5 : x12_1 < (l0_4.length : Int)
   · rw [if_pos c5] at H
     have c5b0 : decide (x12_1 < (l0_4.length : Int)) = true := decide_eq_true c5
     clear c5
     replace H := Option.bind_eq_some_iff.mp H
     obtain ⟨t498, A60, H⟩ := H
     replace H : (impl_PrevBlocks.l1 k1 a1 x5_1 x12_1 (l0_4.length : Int) x12_1 t498 (t498.length : Int) 0 a0_0 a0_1 l0_2 a0_3 l0_4) = some r := H
     have A6 := Aside0.mk A60
     clear A60
     have H' := Aside0.mk H
     clear H
     have hcz7_0 : wr.cell? ⟨gb497, 0, none⟩ = some (.string a0_0) := (blk_cell BK497.out 0).trans rfl
     have hcz7_1 : wr.cell? ⟨gb497, 1, none⟩ = some (.int .i64 a0_1) := (blk_cell BK497.out 1).trans rfl
     have hcz7_2 : wr.cell? ⟨gb497, 2, none⟩ = some (.slice A0_2 l0_2.length c0_2) := (blk_cell BK497.out 2).trans rfl
     have hcz7_3 : wr.cell? ⟨gb497, 3, none⟩ = some (.int .i64 a0_3) := (blk_cell BK497.out 3).trans rfl
     have hcz7_4 : wr.cell? ⟨gb497, 4, none⟩ = some (.slice A0_4 l0_4.length c0_4) := (blk_cell BK497.out 4).trans rfl
     have hfz7_0 := blk_frozen BK497.out 0
     have hfz7_1 := blk_frozen BK497.out 1
     have hfz7_2 := blk_frozen BK497.out 2
     have hfz7_3 := blk_frozen BK497.out 3
     have hfz7_4 := blk_frozen BK497.out 4
     go_wp2_with (first | ((with_reducible refine gate_callee (f := 18) rfl ?_); refine goesL_ (some 17) rfl rfl Try.func18 (by kernel_rfl) rfl #[.agg #[.string a0_0, .int .i64 a0_1, .slice A0_2 l0_2.length c0_2, .int .i64 a0_3, .slice A0_4 l0_4.length c0_4], .int .i64 x12_1] rfl (by (try simp only [List.map_toArray, List.map_cons, List.map_nil]); first | done | rfl | (simp only [List.length_drop, List.length_take]; rfl)) ?_; (with_reducible refine (impl_NextBlocks.calls a0_0 a0_1 _ _ l0_2 a0_3 _ _ l0_4 x12_1 t498 _ ?side1 ?side2 ?side3 ?side4 A6.out).mono ?_); (case side1 => repeat (first | exact (Kd.C_below HR0_2.out HB.out) | (with_reducible refine Kd.C_alloc ?_ _) | (with_reducible refine Kd.C_drewN ?_ _) | (with_reducible refine Kd.C_drew ?_))); (case side2 => exact HC0_2.out); (case side3 => repeat (first | exact (Kd.C_below HR0_4.out HB.out) | (with_reducible refine Kd.C_alloc ?_ _) | (with_reducible refine Kd.C_drewN ?_ _) | (with_reducible refine Kd.C_drew ?_))); (case side4 => exact HC0_4.out); rintro e w8 ⟨v499, rfl, ho0, hb⟩; refine ⟨_, rfl, ?_⟩; have n0_ := Aside0.mk (Kd.R_elder' (by (with_reducible repeat (first | apply Kd.R_alloc | apply Kd.R_drewN | apply Kd.R_drew)); exact HO_5.out) (Kd.R_base ho0) hb); have n1_ := Aside0.mk (Kd.R_lower (Kd.R_new' ho0 (Kd.R_lt (by (with_reducible repeat (first | apply Kd.R_alloc | apply Kd.R_drewN | apply Kd.R_drew)); exact HO_5.out))) (below_size (by repeat (first | (with_reducible first | exact HB.out | apply below_alloc | apply pw_below_drewN | apply below_drew1 | refine below_set ?_ GE497.out) | exact HB.out)))); have n2_ := Aside0.mk (blk_below (g := gb497) (o := .cells #[.string a0_0, .int .i64 a0_1, .slice A0_2 l0_2.length c0_2, .int .i64 a0_3, .slice A0_4 l0_4.length c0_4] 30 (0, 0)) (by (with_reducible repeat (first | refine blk_drewN ?_ _ | refine blk_drew ?_ | refine blk_alloc ?_ _)); exact BK497.out) hb); have n3_ := Aside0.mk (below_step (by repeat (first | (with_reducible first | exact HB.out | apply below_alloc | apply pw_below_drewN | apply below_drew1 | refine below_set ?_ GE497.out) | exact HB.out)) hb); clear HO_5; clear BK497; clear HB; have HO_5 := n0_; have HO500 := n1_; have BK497 := n2_; have HB := n3_; clear n0_ n1_ n2_ n3_; (try clear hb); (try clear hb2); (try clear hk); (try clear hi); (try clear ho0); obtain ⟨Ao9, co9, eo9⟩ := Kd.R_slice HO500.out; subst eo9))
     go_loopg [5, 19] k1 (fun kq v5 v19 w' => ∃ (x5_2 : List Int) (x19_2 : Int), v19 = .int .i64 x19_2 ∧ Aside0 (impl_PrevBlocks.l1 kq a1 x5_2 x12_1 (l0_4.length : Int) x12_1 t498 (t498.length : Int) x19_2 a0_0 a0_1 l0_2 a0_3 l0_4 = some r) ∧ Aside0 (kq ≤ k1) ∧ Aside0 (Kd.R (Kd.int .i64) 2 w' w.heap.size (fun k_ => some k_ ≠ ((.slice Ao9 t498.length co9) : Value).ownBlock) v5 x5_2) ∧ Aside0 (Kd.R (Kd.int .i64) 2 w' w.heap.size (fun k_ => some k_ ≠ (v5 : Value).ownBlock) (.slice Ao9 t498.length co9) t498) ∧ Aside0 (w'.heap[gb497]? = some (.cells #[.string a0_0, .int .i64 a0_1, (.slice A0_2 l0_2.length c0_2), .int .i64 a0_3, (.slice A0_4 l0_4.length c0_4)] 30 (0, 0))) ∧ Aside0 (Below w.heap.size w w'))
     case atStart => exact ⟨(x5_1), (0), (by first | rfl | (simp; done) | (simp [*]; done)), H', ⟨Nat.le_refl _⟩, ⟨by (with_reducible repeat (first | apply Kd.R_alloc | apply Kd.R_drewN | apply Kd.R_drew)); exact Kd.R_mono HO_5.out (fun _ hk => hk.2)⟩, ⟨by (with_reducible repeat (first | apply Kd.R_alloc | apply Kd.R_drewN | apply Kd.R_drew)); exact Kd.R_mono HO500.out (fun _ hk => hk.2)⟩, ⟨by (with_reducible repeat (first | refine blk_drewN ?_ _ | refine blk_drew ?_ | refine blk_alloc ?_ _)); exact BK497.out⟩, ⟨by repeat (first | (with_reducible first | exact HB.out | apply below_alloc | apply pw_below_drewN | apply below_drew1 | refine below_set ?_ GE497.out) | exact HB.out)⟩⟩
     case round =>
      clear H'
      try clear c1
      try clear c2
      try clear p2
      try clear c5
      try clear c5b0
      try clear hcz4_0
      try clear hcz4_1
      try clear hcz4_2
      try clear hcz4_3
      try clear hcz4_4
      try clear hcz7_0
      try clear hcz7_1
      try clear hcz7_2
      try clear hcz7_3
      try clear hcz7_4
      try clear hfz4_0
      try clear hfz4_1
      try clear hfz4_2
      try clear hfz4_3
      try clear hfz4_4
      try clear hfz7_0
      try clear hfz7_1
      try clear hfz7_2
      try clear hfz7_3
      try clear hfz7_4
      try clear p2
      obtain ⟨x5_2, x19_2, rfl, HA, HK2, HO_5, HO_17, BK497, HB⟩ := hrel
      cases gk with
      | zero => exact absurd HA.out (by simp [impl_PrevBlocks.l1])
      | succ k2 =>
       have H := HA.out
       clear HA
       simp only [impl_PrevBlocks.l1] at H
       by_cases c10 : x19_2 < (t498.length : Int)
       · rw [if_pos c10] at H
         have c10b0 : decide (x19_2 < (t498.length : Int)) = true := decide_eq_true c10
         clear c10
         by_cases c11 : 0 ≤ x19_2
         · rw [if_pos c11] at H
           have c11b0 : decide (0 ≤ x19_2) = true := decide_eq_true c11
           clear c11
           by_cases c12 : x19_2 < (t498.length : Int)
           · rw [if_pos c12] at H
             have c12b0 : decide (x19_2 < (t498.length : Int)) = true := decide_eq_true c12
             clear c12
             by_cases c13 : (rd t498 x19_2) = a1
             · rw [if_pos c13] at H
               have c13b0 : ((rd t498 x19_2) == a1) = true := beq_iff_eq.mpr c13
               have c13b1 : ((rd t498 x19_2) != a1) = false := bne_eq_false_iff_eq.mpr c13
               clear c13
               by_cases c14 : x5_2.length < 17592186044416
               · rw [if_pos c14] at H
                 have LMc14 := Aside0.mk c14
                 clear c14
                 obtain ⟨y502, hy502⟩ : ∃ y_ : List Int, y_ = (x5_2 ++ [x12_1]) := ⟨_, rfl⟩
                 replace H : (impl_PrevBlocks.l1 k2 a1 y502 x12_1 (l0_4.length : Int) x12_1 t498 (t498.length : Int) (wrap64 (x19_2 + 1)) a0_0 a0_1 l0_2 a0_3 l0_4) = some r := by first | (rw [hy502]; with_reducible exact H) | (have H2_ := (Option.bind_some _ _).symm.trans H; rw [hy502]; with_reducible exact H2_) | (have H2_ := (Option.bind_some _ _).symm.trans H; with_reducible exact H2_) | with_reducible exact H | (rw [hy502]; exact H) | exact H
                 have Ny502 := Aside0.mk hy502
                 clear hy502
                 have H' := Aside0.mk H
                 clear H
                 have p501 : 0 ≤ (x19_2 : Int) := of_decide_eq_true (by first | (with_reducible assumption) | assumption)
                 have q501 : x19_2 < (t498.length : Int) := of_decide_eq_true (by first | (with_reducible assumption) | assumption)
                 obtain ⟨ad501, e501, hx501_0⟩ := Kd.at_int (Kd.R_reads' HO_17.out).2.2 x19_2 p501 q501
                 cases e501
                 replace p501 := eq_true p501
                 replace q501 := eq_true q501
                 go_wp2_with (first | ((with_reducible refine gate_builtin (b := .append) (xs := #[.tmp 26, .tmp 28]) rfl ?_); at_builtin; refine Kd.R_append (Kd.int .i64) (w0 := w) w.heap.size rfl (.tmp 26) (.tmp 28) 22 2 (.int .i64 0) 8 rfl Try.underlying22 info2 rfl (by decide) (by omega) u5 x5_2 x12_1 [.int .i64 x12_1] (fun k_ => some k_ ≠ (.slice (some ad501) t498.length co9 : Value).ownBlock) (fun _ => False) rfl rfl ?aP (fun _ hk => hk.elim) ?aF ?aO ?aB ?aS ?aL ?_; (case aP => exact rfl); (case aB => exact (by repeat (first | (with_reducible first | exact HB.out | apply below_alloc | apply pw_below_drewN | apply below_drew1 | refine below_set ?_ GE497.out) | exact HB.out))); (case aF => exact (fun k_ hk => Kd.fresh' (Kd.R_lt (by (with_reducible repeat (first | apply Kd.R_alloc | apply Kd.R_drewN | apply Kd.R_drew)); exact HO_17.out)) k_ hk)); (case aO => exact (by (with_reducible repeat (first | apply Kd.R_alloc | apply Kd.R_drewN | apply Kd.R_drew)); exact HO_5.out)); (case aS => exact (below_size (by repeat (first | (with_reducible first | exact HB.out | apply below_alloc | apply pw_below_drewN | apply below_drew1 | refine below_set ?_ GE497.out) | exact HB.out)))); (case aL => have := LMc14.out; omega); intro v503 w15 ho hb hg hat; rw [← Ny502.out] at ho; have n0_ := Aside0.mk (Kd.R_after (ok := (fun _ => True)) (by (with_reducible repeat (first | apply Kd.R_alloc | apply Kd.R_drewN | apply Kd.R_drew)); exact Kd.R_mono HO_17.out (fun _ hk => ⟨trivial, hk⟩)) hg hat); have n1_ := Aside0.mk (blk_grown (g := gb497) (o := .cells #[.string a0_0, .int .i64 a0_1, .slice A0_2 l0_2.length c0_2, .int .i64 a0_3, .slice A0_4 l0_4.length c0_4] 30 (0, 0)) (by (with_reducible repeat (first | refine blk_drewN ?_ _ | refine blk_drew ?_ | refine blk_alloc ?_ _)); exact BK497.out) hg (Kd.R_ne HO_5.out BK497.out (by decide))); have n2_ := Aside0.mk (hb); have n3_ := Aside0.mk (ho); clear HO_17; clear BK497; clear HB; clear HO_5; have HO_17 := n0_; have BK497 := n1_; have HB := n2_; have HO504 := n3_; clear n0_ n1_ n2_ n3_; clear ho hb hg hat))
                 go_roundg k2
                 case measure => have := HK1.out; have := HK2.out; omega
                 case rel => exact ⟨(y502), (wrap64 (x19_2 + 1)), (by first | rfl | (simp; done) | (simp [*]; done)), H', ⟨by have := HK1.out; have := HK2.out; omega⟩, ⟨by (with_reducible repeat (first | apply Kd.R_alloc | apply Kd.R_drewN | apply Kd.R_drew)); exact HO504.out⟩, ⟨by (with_reducible repeat (first | apply Kd.R_alloc | apply Kd.R_drewN | apply Kd.R_drew)); exact Kd.R_mono HO_17.out (fun _ hk => hk.2)⟩, ⟨by (with_reducible repeat (first | refine blk_drewN ?_ _ | refine blk_drew ?_ | refine blk_alloc ?_ _)); exact BK497.out⟩, ⟨by repeat (first | (with_reducible first | exact HB.out | apply below_alloc | apply pw_below_drewN | apply below_drew1 | refine below_set ?_ GE497.out) | exact HB.out)⟩⟩
               · rw [if_neg c14] at H
                 exact absurd H (by simp)
             · rw [if_neg c13] at H
               have c13b0 : ((rd t498 x19_2) == a1) = false := beq_eq_false_iff_ne.mpr c13
               have c13b1 : ((rd t498 x19_2) != a1) = true := bne_iff_ne.mpr c13
               have H' := Aside0.mk H
               clear H
               have p501 : 0 ≤ (x19_2 : Int) := of_decide_eq_true (by first | (with_reducible assumption) | assumption)
               have q501 : x19_2 < (t498.length : Int) := of_decide_eq_true (by first | (with_reducible assumption) | assumption)
               obtain ⟨ad501, e501, hx501_0⟩ := Kd.at_int (Kd.R_reads' HO_17.out).2.2 x19_2 p501 q501
               cases e501
               replace p501 := eq_true p501
               replace q501 := eq_true q501
               go_wp2
               go_roundg k2
               case measure => have := HK1.out; have := HK2.out; omega
               case rel => exact ⟨(x5_2), (wrap64 (x19_2 + 1)), (by first | rfl | (simp; done) | (simp [*]; done)), H', ⟨by have := HK1.out; have := HK2.out; omega⟩, ⟨by (with_reducible repeat (first | apply Kd.R_alloc | apply Kd.R_drewN | apply Kd.R_drew)); exact HO_5.out⟩, ⟨by (with_reducible repeat (first | apply Kd.R_alloc | apply Kd.R_drewN | apply Kd.R_drew)); exact HO_17.out⟩, ⟨by (with_reducible repeat (first | refine blk_drewN ?_ _ | refine blk_drew ?_ | refine blk_alloc ?_ _)); exact BK497.out⟩, ⟨by repeat (first | (with_reducible first | exact HB.out | apply below_alloc | apply pw_below_drewN | apply below_drew1 | refine below_set ?_ GE497.out) | exact HB.out)⟩⟩
           · rw [if_neg c12] at H
             exact absurd H (by simp)
         · rw [if_neg c11] at H
           exact absurd H (by simp)
       · rw [if_neg c10] at H
         have c10b0 : decide (x19_2 < (t498.length : Int)) = false := decide_eq_false c10
         clear c10
         have H' := Aside0.mk H
         clear H
         go_wp2
         go_roundg k2
         case measure => have := HK1.out; have := HK2.out; omega
         case rel => exact ⟨(x5_2), (wrap64 (x12_1 + 1)), (by first | rfl | (simp; done) | (simp [*]; done)), H', ⟨by have := HK1.out; have := HK2.out; omega⟩, ⟨by (with_reducible repeat (first | apply Kd.R_alloc | apply Kd.R_drewN | apply Kd.R_drew)); exact Kd.R_mono HO_5.out (fun _ hk => trivial)⟩, ⟨by (with_reducible repeat (first | refine blk_drewN ?_ _ | refine blk_drew ?_ | refine blk_alloc ?_ _)); exact BK497.out⟩, ⟨by repeat (first | (with_reducible first | exact HB.out | apply below_alloc | apply pw_below_drewN | apply below_drew1 | refine below_set ?_ GE497.out) | exact HB.out)⟩⟩
   · rw [if_neg c5] at H
     have c5b0 : decide (x12_1 < (l0_4.length : Int)) = false := decide_eq_false c5
     clear c5
     obtain rfl := Option.some.inj H
     go_wp2
     go_ret
     exact ⟨_, by first | rfl | (simp [errW_none, errW_some] <;> rfl) | (simp [*, errW_none, errW_some] <;> rfl), by (with_reducible repeat (first | apply Kd.R_alloc | apply Kd.R_drewN | apply Kd.R_drew)); exact HO_5.out, by repeat (first | (with_reducible first | exact HB.out | apply below_alloc | apply pw_below_drewN | apply below_drew1 | refine below_set ?_ GE497.out) | exact HB.out)⟩

end Go.Proofs.Ytoedcnhgobbnfaa.All


namespace Go.Proofs.Ytoedcnhgobbnfaa.All
open Go.RowKit Go.Proofs.YtoedcnhgobbnfaaW.PrintWords Go.Proofs.YtoedcnhgobbnfaaW.PrintLast Go.Proofs.YtoedcnhgobbnfaaW.PrintMore
attribute [local go_sem] max2_int min2_int max_two min_two max_three min_three max_four min_four   -- for this text's walks alone
set_option linter.unusedVariables false
set_option linter.unusedSimpArgs false

/-! ### impl_Frontier: function 35 -/
mutual
def impl_Frontier.j0 : Nat → Int → Bool → ByteArray → Int → List Int → Int → List (S62) → Option (List Int)
 | 0, _, _, _, _, _, _, _ => none
 | k + 1, x1, x18, x506000, x506001, x506002, x506003, x506004 => if x18 = true then (some ([] : List Int)) else ((impl_dominance.f k x506000 x506001 x506002 x506003 x506004).bind fun t506 => (impl_Frontier.l0 k x1 t506 ([] : List Int) (x506004.length : Int) 0 x506000 x506001 x506002 x506003 x506004))
def impl_Frontier.l0 : Nat → Int → List (List Bool) → List Int → Int → Int → ByteArray → Int → List Int → Int → List (S62) → Option (List Int)
 | 0, _, _, _, _, _, _, _, _, _, _ => none
 | k + 1, x1, x5, x6, x23, x24, x506000, x506001, x506002, x506003, x506004 => if x24 < x23 then (if 0 ≤ x1 then (if x1 < (x5.length : Int) then (if 0 ≤ x24 then (if x24 < ((rd_L18 x5 x1).length : Int) then (if rdOf false (rd_L18 x5 x1) x24 = true then (impl_Frontier.j2 k x1 x5 x6 x24 x23 x24 (x24 != x1) x506000 x506001 x506002 x506003 x506004) else (impl_Frontier.j2 k x1 x5 x6 x24 x23 x24 false x506000 x506001 x506002 x506003 x506004)) else (none)) else (none)) else (none)) else (none)) else (some x6)
def impl_Frontier.j2 : Nat → Int → List (List Bool) → List Int → Int → Int → Int → Bool → ByteArray → Int → List Int → Int → List (S62) → Option (List Int)
 | 0, _, _, _, _, _, _, _, _, _, _, _, _ => none
 | k + 1, x1, x5, x6, x7, x23, x24, x38, x506000, x506001, x506002, x506003, x506004 => if x38 = true then (impl_Frontier.l0 k x1 x5 x6 x23 (wrap64 (x24 + 1)) x506000 x506001 x506002 x506003 x506004) else ((impl_PrevBlocks.f k x506000 x506001 x506002 x506003 x506004 x7).bind fun t511 => (impl_Frontier.l1 k x1 x5 x6 x7 x23 x24 t511 (t511.length : Int) 0 x506000 x506001 x506002 x506003 x506004))
def impl_Frontier.l1 : Nat → Int → List (List Bool) → List Int → Int → Int → Int → List Int → Int → Int → ByteArray → Int → List Int → Int → List (S62) → Option (List Int)
 | 0, _, _, _, _, _, _, _, _, _, _, _, _, _, _ => none
 | k + 1, x1, x5, x6, x7, x23, x24, x41, x42, x43, x506000, x506001, x506002, x506003, x506004 => if x43 < x42 then (if 0 ≤ x43 then (if x43 < (x41.length : Int) then (if 0 ≤ x1 then (if x1 < (x5.length : Int) then (if 0 ≤ (rd x41 x43) then (if (rd x41 x43) < ((rd_L18 x5 x1).length : Int) then (if rdOf false (rd_L18 x5 x1) (rd x41 x43) = true then (if x6.length < 17592186044416 then (impl_Frontier.l0 k x1 x5 (x6 ++ [x7]) x23 (wrap64 (x24 + 1)) x506000 x506001 x506002 x506003 x506004) else (none)) else (impl_Frontier.l1 k x1 x5 x6 x7 x23 x24 x41 x42 (wrap64 (x43 + 1)) x506000 x506001 x506002 x506003 x506004)) else (none)) else (none)) else (none)) else (none)) else (none)) else (none)) else (impl_Frontier.l0 k x1 x5 x6 x23 (wrap64 (x24 + 1)) x506000 x506001 x506002 x506003 x506004)
end
def impl_Frontier.f (k : Nat) (a0_0 : ByteArray) (a0_1 : Int) (l0_2 : List Int) (a0_3 : Int) (l0_4 : List (S62)) (a1 : Int) : Option (List Int) := if a1 < 0 then (impl_Frontier.j0 k a1 true a0_0 a0_1 l0_2 a0_3 l0_4) else (impl_Frontier.j0 k a1 (decide (a1 ≥ (l0_4.length : Int))) a0_0 a0_1 l0_2 a0_3 l0_4)
set_option maxHeartbeats 8000000 in
set_option maxRecDepth 100000 in
theorem impl_Frontier.calls (k : Nat) (a0_0 : ByteArray) (a0_1 : Int) (A0_2 : Option Addr) (c0_2 : Nat) (l0_2 : List Int) (a0_3 : Int) (A0_4 : Option Addr) (c0_4 : Nat) (l0_4 : List (S62)) (a1 : Int) (r : List Int) (w : World) (hr0_2 : Kd.C (Kd.int .i64) w A0_2 l0_2.length l0_2) (hc0_2 : l0_2.length ≤ c0_2) (hr0_4 : Kd.C k62 w A0_4 l0_4.length l0_4) (hc0_4 : l0_4.length ≤ c0_4) (h : impl_Frontier.f k a0_0 a0_1 l0_2 a0_3 l0_4 a1 = some r) :
 Calls Try.prog 35 #[.agg #[.string a0_0, .int .i64 a0_1, .slice A0_2 l0_2.length c0_2, .int .i64 a0_3, .slice A0_4 l0_4.length c0_4], .int .i64 a1] w fun e w' => ∃ v0_ : Value, e = .returned (v0_) ∧ Kd.R (Kd.int .i64) 2 w' w.heap.size (fun _ => True) v0_ r ∧ Below w.heap.size w w' := by
 have hu30 := Try.underlying30
 have HR0_2 := Aside0.mk hr0_2
 have HC0_2 := Aside0.mk hc0_2
 clear hr0_2 hc0_2
 have HR0_4 := Aside0.mk hr0_4
 have HC0_4 := Aside0.mk hc0_4
 clear hr0_4 hc0_4
 have HB := Aside0.mk (Below.refl w.heap.size w)
 have H : (if a1 < 0 then (impl_Frontier.j0 k a1 true a0_0 a0_1 l0_2 a0_3 l0_4) else (impl_Frontier.j0 k a1 (decide (a1 ≥ (l0_4.length : Int))) a0_0 a0_1 l0_2 a0_3 l0_4)) = some r := h
 clear h
 have HC3 := Aside0.mk H
 clear H
 go_enter Try.func35, Try.ntmps35
 go_upto_region 1 with (first | ((with_reducible refine gate_dst (N := 2) rfl ?_); (try (refine gate_guard (by rfl) ?_; dsimp only)); refine box_event ?hg (N := 2) ?hd (cs := #[.string a0_0, .int .i64 a0_1, .slice A0_2 l0_2.length c0_2, .int .i64 a0_3, .slice A0_4 l0_4.length c0_4]) (t := 30) ?hr ?_; (case hd => rfl); (case hg => rfl); (case hr => first | (go_simp; done) | (go_simp; rfl)); intro gb505 hg w4 hbox hb; have n0_ := Aside0.mk (below_step (by repeat (first | (with_reducible first | exact HB.out | apply below_alloc | apply pw_below_drewN | apply below_drew1) | exact HB.out)) hb); have n1_ := Aside0.mk (hbox); have n2_ := Aside0.mk ((by rw [hg]; exact (below_size (by repeat (first | (with_reducible first | exact HB.out | apply below_alloc | apply pw_below_drewN | apply below_drew1) | exact HB.out))) : w.heap.size ≤ gb505)); have n3_ := Aside0.mk ((by rw [hg]; exact (below_size (by repeat (first | (with_reducible first | exact HB.out | apply below_alloc | apply pw_below_drewN | apply below_drew1) | exact HB.out))) : w.heap.size ≤ gb505)); clear HB; have HB := n0_; have BK505 := n1_; have GW505 := n2_; have GE505 := n3_; clear n0_ n1_ n2_ n3_; clear hb hbox hg))
 (try simp only [Act.put, List.setIfInBounds_toArray, List.set_cons_zero, List.set_cons_succ])
 go_cut [18] (fun v18 wc => ∃ (kq : Nat) (x18_2 : Bool), v18 = .bool x18_2 ∧ Aside0 (impl_Frontier.j0 kq a1 x18_2 a0_0 a0_1 l0_2 a0_3 l0_4 = some r) ∧ Aside0 (kq ≤ k) ∧ Aside0 (wc.heap[gb505]? = some (.cells #[.string a0_0, .int .i64 a0_1, (.slice A0_2 l0_2.length c0_2), .int .i64 a0_3, (.slice A0_4 l0_4.length c0_4)] 30 (0, 0))) ∧ Aside0 (Below w.heap.size w wc))
 case first =>
  have H := HC3.out
  clear HC3
  by_cases c5 : a1 < 0
  · rw [if_pos c5] at H
    have c5b0 : decide (a1 < 0) = true := decide_eq_true c5
    clear c5
    (first | rw [c5b0] | (simp only [i64_w, i32_w]; rw [c5b0]) | skip)
    have H' := Aside0.mk H
    clear H
    go_wp2
    go_meet
    case rel => exact ⟨_, (true), (by first | rfl | (simp; done) | (simp [*]; done)), H', ⟨by first | omega | exact Nat.le_refl _⟩, ⟨by (with_reducible repeat (first | refine blk_drewN ?_ _ | refine blk_drew ?_ | refine blk_alloc ?_ _)); exact BK505.out⟩, ⟨by repeat (first | (with_reducible first | exact HB.out | apply below_alloc | apply pw_below_drewN | apply below_drew1 | refine below_set ?_ GE505.out) | exact HB.out)⟩⟩
  · rw [if_neg c5] at H
    have c5b0 : decide (a1 < 0) = false := decide_eq_false c5
    clear c5
    (first | rw [c5b0] | (simp only [i64_w, i32_w]; rw [c5b0]) | skip)
    have H' := Aside0.mk H
    clear H
    have hcz6_0 : w4.cell? ⟨gb505, 0, none⟩ = some (.string a0_0) := (blk_cell BK505.out 0).trans rfl
    have hcz6_1 : w4.cell? ⟨gb505, 1, none⟩ = some (.int .i64 a0_1) := (blk_cell BK505.out 1).trans rfl
    have hcz6_2 : w4.cell? ⟨gb505, 2, none⟩ = some (.slice A0_2 l0_2.length c0_2) := (blk_cell BK505.out 2).trans rfl
    have hcz6_3 : w4.cell? ⟨gb505, 3, none⟩ = some (.int .i64 a0_3) := (blk_cell BK505.out 3).trans rfl
    have hcz6_4 : w4.cell? ⟨gb505, 4, none⟩ = some (.slice A0_4 l0_4.length c0_4) := (blk_cell BK505.out 4).trans rfl
    have hfz6_0 := blk_frozen BK505.out 0
    have hfz6_1 := blk_frozen BK505.out 1
    have hfz6_2 := blk_frozen BK505.out 2
    have hfz6_3 := blk_frozen BK505.out 3
    have hfz6_4 := blk_frozen BK505.out 4
    go_wp2
    go_meet
    case rel => exact ⟨_, (decide (a1 ≥ (l0_4.length : Int))), (by first | rfl | (simp; done) | (simp [*]; done)), H', ⟨by first | omega | exact Nat.le_refl _⟩, ⟨by (with_reducible repeat (first | refine blk_drewN ?_ _ | refine blk_drew ?_ | refine blk_alloc ?_ _)); exact BK505.out⟩, ⟨by repeat (first | (with_reducible first | exact HB.out | apply below_alloc | apply pw_below_drewN | apply below_drew1 | refine below_set ?_ GE505.out) | exact HB.out)⟩⟩
 case rest =>
  clear HC3
  try clear p2
  try clear c3
  try clear c5
  try clear c5b0
  try clear hcz6_0
  try clear hcz6_1
  try clear hcz6_2
  try clear hcz6_3
  try clear hcz6_4
  try clear hfz6_0
  try clear hfz6_1
  try clear hfz6_2
  try clear hfz6_3
  try clear hfz6_4
  obtain ⟨kq, x18_2, rfl, HA, HJ2, BK505, HB⟩ := hcut
  cases kq with
  | zero => exact absurd HA.out (by simp [impl_Frontier.j0])
  | succ kj2 =>
   have H := HA.out
   clear HA
   simp only [impl_Frontier.j0] at H
   by_cases c7 : x18_2 = true
   · subst c7
     have H1 : (some ([] : List Int)) = some r := by rw [if_pos rfl] at H; exact H
     clear H
     have H := H1
     clear H1
     obtain rfl := Option.some.inj H
     go_wp2
     go_ret
     exact ⟨_, by first | rfl | (simp [errW_none, errW_some] <;> rfl) | (simp [*, errW_none, errW_some] <;> rfl), by first | exact Kd.R_nil _ _ _ _ _ | exact Kd.N_nil _ _ _ _ _ | exact Kd.V_nil _ _ _ _ _ | exact Kd.Q_nil _ _ _ _ _ | exact Kd.S_nil _ _ _ _ _, by repeat (first | (with_reducible first | exact HB.out | apply below_alloc | apply pw_below_drewN | apply below_drew1 | refine below_set ?_ GE505.out) | exact HB.out)⟩
   · replace c7 := Bool.eq_false_iff.mpr c7
     subst c7
     have H1 : ((impl_dominance.f kj2 a0_0 a0_1 l0_2 a0_3 l0_4).bind fun t506 => (impl_Frontier.l0 kj2 a1 t506 ([] : List Int) (l0_4.length : Int) 0 a0_0 a0_1 l0_2 a0_3 l0_4)) = some r := by rw [if_neg (show ¬ (false = true) by decide)] at H; exact H
     clear H
     have H := H1
     clear H1
     replace H := Option.bind_eq_some_iff.mp H
     obtain ⟨t506, A80, H⟩ := H
     replace H : (impl_Frontier.l0 kj2 a1 t506 ([] : List Int) (l0_4.length : Int) 0 a0_0 a0_1 l0_2 a0_3 l0_4) = some r := H
     have A8 := Aside0.mk A80
     clear A80
     have H' := Aside0.mk H
     clear H
     have hcz9_0 : wc.cell? ⟨gb505, 0, none⟩ = some (.string a0_0) := (blk_cell BK505.out 0).trans rfl
     have hcz9_1 : wc.cell? ⟨gb505, 1, none⟩ = some (.int .i64 a0_1) := (blk_cell BK505.out 1).trans rfl
     have hcz9_2 : wc.cell? ⟨gb505, 2, none⟩ = some (.slice A0_2 l0_2.length c0_2) := (blk_cell BK505.out 2).trans rfl
     have hcz9_3 : wc.cell? ⟨gb505, 3, none⟩ = some (.int .i64 a0_3) := (blk_cell BK505.out 3).trans rfl
     have hcz9_4 : wc.cell? ⟨gb505, 4, none⟩ = some (.slice A0_4 l0_4.length c0_4) := (blk_cell BK505.out 4).trans rfl
     have hfz9_0 := blk_frozen BK505.out 0
     have hfz9_1 := blk_frozen BK505.out 1
     have hfz9_2 := blk_frozen BK505.out 2
     have hfz9_3 := blk_frozen BK505.out 3
     have hfz9_4 := blk_frozen BK505.out 4
     go_wp2_with (first | ((with_reducible refine gate_callee (f := 60) rfl ?_); refine goesL_ (some 20) rfl rfl Try.func60 (by kernel_rfl) rfl #[.agg #[.string a0_0, .int .i64 a0_1, .slice A0_2 l0_2.length c0_2, .int .i64 a0_3, .slice A0_4 l0_4.length c0_4]] rfl (by (try simp only [List.map_toArray, List.map_cons, List.map_nil]); first | done | rfl | (simp only [List.length_drop, List.length_take]; rfl)) ?_; (with_reducible refine (impl_dominance.calls kj2 a0_0 a0_1 _ _ l0_2 a0_3 _ _ l0_4 t506 _ ?side1 ?side2 ?side3 ?side4 A8.out).mono ?_); (case side1 => repeat (first | exact (Kd.C_below HR0_2.out HB.out) | (with_reducible refine Kd.C_alloc ?_ _) | (with_reducible refine Kd.C_drewN ?_ _) | (with_reducible refine Kd.C_drew ?_))); (case side2 => exact HC0_2.out); (case side3 => repeat (first | exact (Kd.C_below HR0_4.out HB.out) | (with_reducible refine Kd.C_alloc ?_ _) | (with_reducible refine Kd.C_drewN ?_ _) | (with_reducible refine Kd.C_drew ?_))); (case side4 => exact HC0_4.out); rintro e w10 ⟨v507, rfl, ho0, hb⟩; refine ⟨_, rfl, ?_⟩; have n0_ := Aside0.mk (Kd.S_lower ho0 (below_size (by repeat (first | (with_reducible first | exact HB.out | apply below_alloc | apply pw_below_drewN | apply below_drew1 | refine below_set ?_ GE505.out) | exact HB.out)))); have n1_ := Aside0.mk (blk_below (g := gb505) (o := .cells #[.string a0_0, .int .i64 a0_1, .slice A0_2 l0_2.length c0_2, .int .i64 a0_3, .slice A0_4 l0_4.length c0_4] 30 (0, 0)) (by (with_reducible repeat (first | refine blk_drewN ?_ _ | refine blk_drew ?_ | refine blk_alloc ?_ _)); exact BK505.out) hb); have n2_ := Aside0.mk (below_step (by repeat (first | (with_reducible first | exact HB.out | apply below_alloc | apply pw_below_drewN | apply below_drew1 | refine below_set ?_ GE505.out) | exact HB.out)) hb); clear BK505; clear HB; have HO508 := n0_; have BK505 := n1_; have HB := n2_; clear n0_ n1_ n2_; (try clear hb); (try clear hb2); (try clear hk); (try clear hi); (try clear ho0); have hcz11_0 : w10.cell? ⟨gb505, 0, none⟩ = some (.string a0_0) := (blk_cell BK505.out 0).trans rfl; have hcz11_1 : w10.cell? ⟨gb505, 1, none⟩ = some (.int .i64 a0_1) := (blk_cell BK505.out 1).trans rfl; have hcz11_2 : w10.cell? ⟨gb505, 2, none⟩ = some (.slice A0_2 l0_2.length c0_2) := (blk_cell BK505.out 2).trans rfl; have hcz11_3 : w10.cell? ⟨gb505, 3, none⟩ = some (.int .i64 a0_3) := (blk_cell BK505.out 3).trans rfl; have hcz11_4 : w10.cell? ⟨gb505, 4, none⟩ = some (.slice A0_4 l0_4.length c0_4) := (blk_cell BK505.out 4).trans rfl; have hfz11_0 := blk_frozen BK505.out 0; have hfz11_1 := blk_frozen BK505.out 1; have hfz11_2 := blk_frozen BK505.out 2; have hfz11_3 := blk_frozen BK505.out 3; have hfz11_4 := blk_frozen BK505.out 4))
     go_loopg [6, 24] kj2 (fun kq v6 v24 w' => ∃ (x6_2 : List Int) (x24_2 : Int), v24 = .int .i64 x24_2 ∧ Aside0 (impl_Frontier.l0 kq a1 t506 x6_2 (l0_4.length : Int) x24_2 a0_0 a0_1 l0_2 a0_3 l0_4 = some r) ∧ Aside0 (kq ≤ kj2) ∧ Aside0 (Kd.S (Kd.slice 4 Kd.bool) 54 w' w.heap.size (fun _ => True) v507 t506) ∧ Aside0 (Kd.R (Kd.int .i64) 2 w' w.heap.size (fun _ => True) v6 x6_2) ∧ Aside0 (w'.heap[gb505]? = some (.cells #[.string a0_0, .int .i64 a0_1, (.slice A0_2 l0_2.length c0_2), .int .i64 a0_3, (.slice A0_4 l0_4.length c0_4)] 30 (0, 0))) ∧ Aside0 (Below w.heap.size w w'))
     case atStart => exact ⟨(([] : List Int)), (0), (by first | rfl | (simp; done) | (simp [*]; done)), H', ⟨Nat.le_refl _⟩, ⟨by (with_reducible repeat (first | apply Kd.S_alloc | apply Kd.S_drewN | apply Kd.S_drew)); exact HO508.out⟩, ⟨by first | exact Kd.R_nil _ _ _ _ _ | exact Kd.N_nil _ _ _ _ _ | exact Kd.V_nil _ _ _ _ _ | exact Kd.Q_nil _ _ _ _ _ | exact Kd.S_nil _ _ _ _ _⟩, ⟨by (with_reducible repeat (first | refine blk_drewN ?_ _ | refine blk_drew ?_ | refine blk_alloc ?_ _)); exact BK505.out⟩, ⟨by repeat (first | (with_reducible first | exact HB.out | apply below_alloc | apply pw_below_drewN | apply below_drew1 | refine below_set ?_ GE505.out) | exact HB.out)⟩⟩
     case round =>
      clear H'
      try clear p2
      try clear c3
      try clear c5
      try clear c5b0
      try clear c6
      try clear c7
      try clear hcz11_0
      try clear hcz11_1
      try clear hcz11_2
      try clear hcz11_3
      try clear hcz11_4
      try clear hcz6_0
      try clear hcz6_1
      try clear hcz6_2
      try clear hcz6_3
      try clear hcz6_4
      try clear hcz9_0
      try clear hcz9_1
      try clear hcz9_2
      try clear hcz9_3
      try clear hcz9_4
      try clear hfz11_0
      try clear hfz11_1
      try clear hfz11_2
      try clear hfz11_3
      try clear hfz11_4
      try clear hfz6_0
      try clear hfz6_1
      try clear hfz6_2
      try clear hfz6_3
      try clear hfz6_4
      try clear hfz9_0
      try clear hfz9_1
      try clear hfz9_2
      try clear hfz9_3
      try clear hfz9_4
      try clear p2
      obtain ⟨x6_2, x24_2, rfl, HA, HK2, HO_5, HO_6, BK505, HB⟩ := hrel
      cases gk with
      | zero => exact absurd HA.out (by simp [impl_Frontier.l0])
      | succ k2 =>
       have H := HA.out
       clear HA
       simp only [impl_Frontier.l0] at H
       by_cases c12 : x24_2 < (l0_4.length : Int)
       · rw [if_pos c12] at H
         have c12b0 : decide (x24_2 < (l0_4.length : Int)) = true := decide_eq_true c12
         clear c12
         have HC13 := Aside0.mk H
         clear H
         go_upto_region 8 with (fail)
         go_cut [38] (fun v38 wc => ∃ (kq : Nat) (x38_12 : Bool), v38 = .bool x38_12 ∧ Aside0 (impl_Frontier.j2 kq a1 t506 x6_2 x24_2 (l0_4.length : Int) x24_2 x38_12 a0_0 a0_1 l0_2 a0_3 l0_4 = some r) ∧ Aside0 (kq ≤ k2) ∧ Aside0 (Kd.S (Kd.slice 4 Kd.bool) 54 wc w.heap.size (fun _ => True) v507 t506) ∧ Aside0 (Kd.R (Kd.int .i64) 2 wc w.heap.size (fun _ => True) u6 x6_2) ∧ Aside0 (wc.heap[gb505]? = some (.cells #[.string a0_0, .int .i64 a0_1, (.slice A0_2 l0_2.length c0_2), .int .i64 a0_3, (.slice A0_4 l0_4.length c0_4)] 30 (0, 0))) ∧ Aside0 (Below w.heap.size w wc))
         case first =>
          have H := HC13.out
          clear HC13
          by_cases c14 : 0 ≤ a1
          · rw [if_pos c14] at H
            have c14b0 : decide (0 ≤ a1) = true := decide_eq_true c14
            clear c14
            (first | rw [c14b0] | (simp only [i64_w, i32_w]; rw [c14b0]) | skip)
            by_cases c15 : a1 < (t506.length : Int)
            · rw [if_pos c15] at H
              have c15b0 : decide (a1 < (t506.length : Int)) = true := decide_eq_true c15
              clear c15
              by_cases c16 : 0 ≤ x24_2
              · rw [if_pos c16] at H
                have c16b0 : decide (0 ≤ x24_2) = true := decide_eq_true c16
                clear c16
                by_cases c17 : x24_2 < ((rd_L18 t506 a1).length : Int)
                · rw [if_pos c17] at H
                  have c17b0 : decide (x24_2 < ((rd_L18 t506 a1).length : Int)) = true := decide_eq_true c17
                  clear c17
                  obtain ⟨bq18, hbq18⟩ : ∃ b_ : Bool, b_ = (rdOf false (rd_L18 t506 a1) x24_2) := ⟨_, rfl⟩
                  replace H : (if bq18 = true then (impl_Frontier.j2 k2 a1 t506 x6_2 x24_2 (l0_4.length : Int) x24_2 (x24_2 != a1) a0_0 a0_1 l0_2 a0_3 l0_4) else (impl_Frontier.j2 k2 a1 t506 x6_2 x24_2 (l0_4.length : Int) x24_2 false a0_0 a0_1 l0_2 a0_3 l0_4)) = some r := by rw [← hbq18] at H; exact H
                  have Nbq18 := Aside0.mk hbq18
                  clear hbq18
                  by_cases c19 : bq18 = true
                  · subst c19
                    have H1 : (impl_Frontier.j2 k2 a1 t506 x6_2 x24_2 (l0_4.length : Int) x24_2 (x24_2 != a1) a0_0 a0_1 l0_2 a0_3 l0_4) = some r := by rw [if_pos rfl] at H; exact H
                    clear H
                    have H := H1
                    clear H1
                    have H' := Aside0.mk H
                    clear H
                    obtain ⟨Ao20, co20, eo20⟩ := Kd.S_slice HO_5.out
                    subst eo20
                    have p509 : 0 ≤ (a1 : Int) := of_decide_eq_true (by first | (with_reducible assumption) | assumption)
                    have q509 : a1 < (t506.length : Int) := of_decide_eq_true (by first | (with_reducible assumption) | assumption)
                    obtain ⟨ad509, A509_0, c509_0, e509, hx509_0, hl509_0, hi509_0⟩ := at_L18 (Kd.S_reads' HO_5.out).2.2 a1 p509 q509
                    cases e509
                    obtain ⟨ce509, hce509, hMe509, hcc509⟩ := Kd.S_get HO_5.out [] a1 p509 (by first | exact q509 | exact of_decide_eq_true (by first | (with_reducible assumption) | assumption) | (have e_ := (Kd.S_reads' HO_5.out).1; omega))
                    obtain ⟨ve509_0, rfl, ge509_0⟩ := hMe509
                    have hv509_0 := hcc509 0 _ rfl
                    rw [Nat.add_zero, show ((Kd.slice 4 Kd.bool)).sz = 1 from rfl, Nat.mul_one] at hv509_0
                    replace hv509_0 := Option.some.inj (hv509_0.symm.trans hx509_0)
                    rw [hv509_0] at ge509_0
                    have HL509_0 := Aside0.mk (show Kd.R Kd.bool 4 _ _ _ _ (rd_L18 t506 a1) from ge509_0)
                    clear hv509_0 ge509_0
                    clear hcc509 hce509
                    have HR509_0 := Aside0.mk hi509_0
                    have HC509_0 := Aside0.mk hl509_0
                    clear hi509_0 hl509_0
                    replace p509 := eq_true p509
                    replace q509 := eq_true q509
                    have p510 : 0 ≤ (x24_2 : Int) := of_decide_eq_true (by first | (with_reducible assumption) | assumption)
                    have q510 : x24_2 < ((rd_L18 t506 a1).length : Int) := of_decide_eq_true (by first | (with_reducible assumption) | assumption)
                    obtain ⟨ad510, e510, hx510_0⟩ := Kd.at_bool (by repeat (first | (with_reducible exact HR509_0.out) | (with_reducible refine Kd.C_alloc ?_ _) | (with_reducible refine Kd.C_drewN ?_ _) | (with_reducible refine Kd.C_drew ?_) | exact HR509_0.out)) x24_2 p510 q510
                    (try rw [← Nbq18.out] at hx510_0)
                    cases e510
                    replace p510 := eq_true p510
                    replace q510 := eq_true q510
                    go_wp2
                    go_meet
                    case rel => exact ⟨_, ((x24_2 != a1)), (by first | rfl | (simp; done) | (simp [*]; done)), H', ⟨by have := HJ2.out; have := HK2.out; first | omega | exact Nat.le_refl _⟩, ⟨by (with_reducible repeat (first | apply Kd.S_alloc | apply Kd.S_drewN | apply Kd.S_drew)); exact HO_5.out⟩, ⟨by (with_reducible repeat (first | apply Kd.R_alloc | apply Kd.R_drewN | apply Kd.R_drew)); exact HO_6.out⟩, ⟨by (with_reducible repeat (first | refine blk_drewN ?_ _ | refine blk_drew ?_ | refine blk_alloc ?_ _)); exact BK505.out⟩, ⟨by repeat (first | (with_reducible first | exact HB.out | apply below_alloc | apply pw_below_drewN | apply below_drew1 | refine below_set ?_ GE505.out) | exact HB.out)⟩⟩
                  · replace c19 := Bool.eq_false_iff.mpr c19
                    subst c19
                    have H1 : (impl_Frontier.j2 k2 a1 t506 x6_2 x24_2 (l0_4.length : Int) x24_2 false a0_0 a0_1 l0_2 a0_3 l0_4) = some r := by rw [if_neg (show ¬ (false = true) by decide)] at H; exact H
                    clear H
                    have H := H1
                    clear H1
                    have H' := Aside0.mk H
                    clear H
                    obtain ⟨Ao21, co21, eo21⟩ := Kd.S_slice HO_5.out
                    subst eo21
                    have p509 : 0 ≤ (a1 : Int) := of_decide_eq_true (by first | (with_reducible assumption) | assumption)
                    have q509 : a1 < (t506.length : Int) := of_decide_eq_true (by first | (with_reducible assumption) | assumption)
                    obtain ⟨ad509, A509_0, c509_0, e509, hx509_0, hl509_0, hi509_0⟩ := at_L18 (Kd.S_reads' HO_5.out).2.2 a1 p509 q509
                    cases e509
                    obtain ⟨ce509, hce509, hMe509, hcc509⟩ := Kd.S_get HO_5.out [] a1 p509 (by first | exact q509 | exact of_decide_eq_true (by first | (with_reducible assumption) | assumption) | (have e_ := (Kd.S_reads' HO_5.out).1; omega))
                    obtain ⟨ve509_0, rfl, ge509_0⟩ := hMe509
                    have hv509_0 := hcc509 0 _ rfl
                    rw [Nat.add_zero, show ((Kd.slice 4 Kd.bool)).sz = 1 from rfl, Nat.mul_one] at hv509_0
                    replace hv509_0 := Option.some.inj (hv509_0.symm.trans hx509_0)
                    rw [hv509_0] at ge509_0
                    have HL509_0 := Aside0.mk (show Kd.R Kd.bool 4 _ _ _ _ (rd_L18 t506 a1) from ge509_0)
                    clear hv509_0 ge509_0
                    clear hcc509 hce509
                    have HR509_0 := Aside0.mk hi509_0
                    have HC509_0 := Aside0.mk hl509_0
                    clear hi509_0 hl509_0
                    replace p509 := eq_true p509
                    replace q509 := eq_true q509
                    have p510 : 0 ≤ (x24_2 : Int) := of_decide_eq_true (by first | (with_reducible assumption) | assumption)
                    have q510 : x24_2 < ((rd_L18 t506 a1).length : Int) := of_decide_eq_true (by first | (with_reducible assumption) | assumption)
                    obtain ⟨ad510, e510, hx510_0⟩ := Kd.at_bool (by repeat (first | (with_reducible exact HR509_0.out) | (with_reducible refine Kd.C_alloc ?_ _) | (with_reducible refine Kd.C_drewN ?_ _) | (with_reducible refine Kd.C_drew ?_) | exact HR509_0.out)) x24_2 p510 q510
                    (try rw [← Nbq18.out] at hx510_0)
                    cases e510
                    replace p510 := eq_true p510
                    replace q510 := eq_true q510
                    go_wp2
                    go_meet
                    case rel => exact ⟨_, (false), (by first | rfl | (simp; done) | (simp [*]; done)), H', ⟨by have := HJ2.out; have := HK2.out; first | omega | exact Nat.le_refl _⟩, ⟨by (with_reducible repeat (first | apply Kd.S_alloc | apply Kd.S_drewN | apply Kd.S_drew)); exact HO_5.out⟩, ⟨by (with_reducible repeat (first | apply Kd.R_alloc | apply Kd.R_drewN | apply Kd.R_drew)); exact HO_6.out⟩, ⟨by (with_reducible repeat (first | refine blk_drewN ?_ _ | refine blk_drew ?_ | refine blk_alloc ?_ _)); exact BK505.out⟩, ⟨by repeat (first | (with_reducible first | exact HB.out | apply below_alloc | apply pw_below_drewN | apply below_drew1 | refine below_set ?_ GE505.out) | exact HB.out)⟩⟩
                · rw [if_neg c17] at H
                  exact absurd H (by simp)
              · rw [if_neg c16] at H
                exact absurd H (by simp)
            · rw [if_neg c15] at H
              exact absurd H (by simp)
          · rw [if_neg c14] at H
            exact absurd H (by simp)
         case rest =>
          clear HC13
          try clear c1
          try clear q1
          try clear p2
          try clear c3
          try clear c5
          try clear c5b0
          try clear p5
          try clear q5
          try clear hx5
          try clear c6
          try clear c7
          try clear c12
          try clear c12b0
          try clear c14
          try clear c14b0
          try clear c15
          try clear c15b0
          try clear c16
          try clear c16b0
          try clear c17
          try clear c17b0
          try clear q18
          try clear c19
          try clear hcz11_0
          try clear hcz11_1
          try clear hcz11_2
          try clear hcz11_3
          try clear hcz11_4
          try clear hcz6_0
          try clear hcz6_1
          try clear hcz6_2
          try clear hcz6_3
          try clear hcz6_4
          try clear hcz9_0
          try clear hcz9_1
          try clear hcz9_2
          try clear hcz9_3
          try clear hcz9_4
          try clear hfz11_0
          try clear hfz11_1
          try clear hfz11_2
          try clear hfz11_3
          try clear hfz11_4
          try clear hfz6_0
          try clear hfz6_1
          try clear hfz6_2
          try clear hfz6_3
          try clear hfz6_4
          try clear hfz9_0
          try clear hfz9_1
          try clear hfz9_2
          try clear hfz9_3
          try clear hfz9_4
          try clear hx509_0
          try clear hx510_0
          try clear p2
          try clear p509
          try clear p510
          try clear q509
          try clear q510
          obtain ⟨kq, x38_12, rfl, HA, HJ12, HO_5, HO_6, BK505, HB⟩ := hcut
          cases kq with
          | zero => exact absurd HA.out (by simp [impl_Frontier.j2])
          | succ kj12 =>
           have H := HA.out
           clear HA
           simp only [impl_Frontier.j2] at H
           by_cases c22 : x38_12 = true
           · subst c22
             have H1 : (impl_Frontier.l0 kj12 a1 t506 x6_2 (l0_4.length : Int) (wrap64 (x24_2 + 1)) a0_0 a0_1 l0_2 a0_3 l0_4) = some r := by rw [if_pos rfl] at H; exact H
             clear H
             have H := H1
             clear H1
             have H' := Aside0.mk H
             clear H
             go_wp2
             go_roundg kj12
             case measure => have := HJ2.out; have := HK2.out; have := HJ12.out; omega
             case rel => exact ⟨(x6_2), (wrap64 (x24_2 + 1)), (by first | rfl | (simp; done) | (simp [*]; done)), H', ⟨by have := HJ2.out; have := HK2.out; have := HJ12.out; omega⟩, ⟨by (with_reducible repeat (first | apply Kd.S_alloc | apply Kd.S_drewN | apply Kd.S_drew)); exact HO_5.out⟩, ⟨by (with_reducible repeat (first | apply Kd.R_alloc | apply Kd.R_drewN | apply Kd.R_drew)); exact HO_6.out⟩, ⟨by (with_reducible repeat (first | refine blk_drewN ?_ _ | refine blk_drew ?_ | refine blk_alloc ?_ _)); exact BK505.out⟩, ⟨by repeat (first | (with_reducible first | exact HB.out | apply below_alloc | apply pw_below_drewN | apply below_drew1 | refine below_set ?_ GE505.out) | exact HB.out)⟩⟩
           · replace c22 := Bool.eq_false_iff.mpr c22
             subst c22
             have H1 : ((impl_PrevBlocks.f kj12 a0_0 a0_1 l0_2 a0_3 l0_4 x24_2).bind fun t511 => (impl_Frontier.l1 kj12 a1 t506 x6_2 x24_2 (l0_4.length : Int) x24_2 t511 (t511.length : Int) 0 a0_0 a0_1 l0_2 a0_3 l0_4)) = some r := by rw [if_neg (show ¬ (false = true) by decide)] at H; exact H
             clear H
             have H := H1
             clear H1
             replace H := Option.bind_eq_some_iff.mp H
             obtain ⟨t511, A230, H⟩ := H
             replace H : (impl_Frontier.l1 kj12 a1 t506 x6_2 x24_2 (l0_4.length : Int) x24_2 t511 (t511.length : Int) 0 a0_0 a0_1 l0_2 a0_3 l0_4) = some r := H
             have A23 := Aside0.mk A230
             clear A230
             have H' := Aside0.mk H
             clear H
             have hcz24_0 : wc.cell? ⟨gb505, 0, none⟩ = some (.string a0_0) := (blk_cell BK505.out 0).trans rfl
             have hcz24_1 : wc.cell? ⟨gb505, 1, none⟩ = some (.int .i64 a0_1) := (blk_cell BK505.out 1).trans rfl
             have hcz24_2 : wc.cell? ⟨gb505, 2, none⟩ = some (.slice A0_2 l0_2.length c0_2) := (blk_cell BK505.out 2).trans rfl
             have hcz24_3 : wc.cell? ⟨gb505, 3, none⟩ = some (.int .i64 a0_3) := (blk_cell BK505.out 3).trans rfl
             have hcz24_4 : wc.cell? ⟨gb505, 4, none⟩ = some (.slice A0_4 l0_4.length c0_4) := (blk_cell BK505.out 4).trans rfl
             have hfz24_0 := blk_frozen BK505.out 0
             have hfz24_1 := blk_frozen BK505.out 1
             have hfz24_2 := blk_frozen BK505.out 2
             have hfz24_3 := blk_frozen BK505.out 3
             have hfz24_4 := blk_frozen BK505.out 4
             go_wp2_with (first | ((with_reducible refine gate_callee (f := 24) rfl ?_); refine goesL_ (some 41) rfl rfl Try.func24 (by kernel_rfl) rfl #[.agg #[.string a0_0, .int .i64 a0_1, .slice A0_2 l0_2.length c0_2, .int .i64 a0_3, .slice A0_4 l0_4.length c0_4], .int .i64 x24_2] rfl (by (try simp only [List.map_toArray, List.map_cons, List.map_nil]); first | done | rfl | (simp only [List.length_drop, List.length_take]; rfl)) ?_; (with_reducible refine (impl_PrevBlocks.calls kj12 a0_0 a0_1 _ _ l0_2 a0_3 _ _ l0_4 x24_2 t511 _ ?side1 ?side2 ?side3 ?side4 A23.out).mono ?_); (case side1 => repeat (first | exact (Kd.C_below HR0_2.out HB.out) | (with_reducible refine Kd.C_alloc ?_ _) | (with_reducible refine Kd.C_drewN ?_ _) | (with_reducible refine Kd.C_drew ?_))); (case side2 => exact HC0_2.out); (case side3 => repeat (first | exact (Kd.C_below HR0_4.out HB.out) | (with_reducible refine Kd.C_alloc ?_ _) | (with_reducible refine Kd.C_drewN ?_ _) | (with_reducible refine Kd.C_drew ?_))); (case side4 => exact HC0_4.out); rintro e w25 ⟨v512, rfl, ho0, hb⟩; refine ⟨_, rfl, ?_⟩; have n0_ := Aside0.mk (Kd.S_below (by (with_reducible repeat (first | apply Kd.S_alloc | apply Kd.S_drewN | apply Kd.S_drew)); exact HO_5.out) hb); have n1_ := Aside0.mk (Kd.R_elder' (by (with_reducible repeat (first | apply Kd.R_alloc | apply Kd.R_drewN | apply Kd.R_drew)); exact HO_6.out) (Kd.R_base ho0) hb); have n2_ := Aside0.mk (Kd.R_lower (Kd.R_new' ho0 (Kd.R_lt (by (with_reducible repeat (first | apply Kd.R_alloc | apply Kd.R_drewN | apply Kd.R_drew)); exact HO_6.out))) (below_size (by repeat (first | (with_reducible first | exact HB.out | apply below_alloc | apply pw_below_drewN | apply below_drew1 | refine below_set ?_ GE505.out) | exact HB.out)))); have n3_ := Aside0.mk (blk_below (g := gb505) (o := .cells #[.string a0_0, .int .i64 a0_1, .slice A0_2 l0_2.length c0_2, .int .i64 a0_3, .slice A0_4 l0_4.length c0_4] 30 (0, 0)) (by (with_reducible repeat (first | refine blk_drewN ?_ _ | refine blk_drew ?_ | refine blk_alloc ?_ _)); exact BK505.out) hb); have n4_ := Aside0.mk (below_step (by repeat (first | (with_reducible first | exact HB.out | apply below_alloc | apply pw_below_drewN | apply below_drew1 | refine below_set ?_ GE505.out) | exact HB.out)) hb); clear HO_5; clear HO_6; clear BK505; clear HB; have HO_5 := n0_; have HO_6 := n1_; have HO513 := n2_; have BK505 := n3_; have HB := n4_; clear n0_ n1_ n2_ n3_ n4_; (try clear hb); (try clear hb2); (try clear hk); (try clear hi); (try clear ho0); obtain ⟨Ao26, co26, eo26⟩ := Kd.R_slice HO513.out; subst eo26))
             go_loopg [6, 43] kj12 (fun kq v6 v43 w' => ∃ (x6_4 : List Int) (x43_4 : Int), v43 = .int .i64 x43_4 ∧ Aside0 (impl_Frontier.l1 kq a1 t506 x6_4 x24_2 (l0_4.length : Int) x24_2 t511 (t511.length : Int) x43_4 a0_0 a0_1 l0_2 a0_3 l0_4 = some r) ∧ Aside0 (kq ≤ kj12) ∧ Aside0 (Kd.S (Kd.slice 4 Kd.bool) 54 w' w.heap.size (fun _ => True) v507 t506) ∧ Aside0 (Kd.R (Kd.int .i64) 2 w' w.heap.size (fun k_ => some k_ ≠ ((.slice Ao26 t511.length co26) : Value).ownBlock) v6 x6_4) ∧ Aside0 (Kd.R (Kd.int .i64) 2 w' w.heap.size (fun k_ => some k_ ≠ (v6 : Value).ownBlock) (.slice Ao26 t511.length co26) t511) ∧ Aside0 (w'.heap[gb505]? = some (.cells #[.string a0_0, .int .i64 a0_1, (.slice A0_2 l0_2.length c0_2), .int .i64 a0_3, (.slice A0_4 l0_4.length c0_4)] 30 (0, 0))) ∧ Aside0 (Below w.heap.size w w'))
             case atStart => exact ⟨(x6_2), (0), (by first | rfl | (simp; done) | (simp [*]; done)), H', ⟨Nat.le_refl _⟩, ⟨by (with_reducible repeat (first | apply Kd.S_alloc | apply Kd.S_drewN | apply Kd.S_drew)); exact HO_5.out⟩, ⟨by (with_reducible repeat (first | apply Kd.R_alloc | apply Kd.R_drewN | apply Kd.R_drew)); exact Kd.R_mono HO_6.out (fun _ hk => hk.2)⟩, ⟨by (with_reducible repeat (first | apply Kd.R_alloc | apply Kd.R_drewN | apply Kd.R_drew)); exact Kd.R_mono HO513.out (fun _ hk => hk.2)⟩, ⟨by (with_reducible repeat (first | refine blk_drewN ?_ _ | refine blk_drew ?_ | refine blk_alloc ?_ _)); exact BK505.out⟩, ⟨by repeat (first | (with_reducible first | exact HB.out | apply below_alloc | apply pw_below_drewN | apply below_drew1 | refine below_set ?_ GE505.out) | exact HB.out)⟩⟩
             case round =>
              clear H'
              try clear c1
              try clear q1
              try clear c2
              try clear p2
              try clear c3
              try clear c5
              try clear c5b0
              try clear p5
              try clear q5
              try clear hx5
              try clear c6
              try clear p6
              try clear c7
              try clear c12
              try clear c12b0
              try clear c14
              try clear c14b0
              try clear c15
              try clear c15b0
              try clear c16
              try clear c16b0
              try clear c17
              try clear c17b0
              try clear q18
              try clear c19
              try clear c22
              try clear c24
              try clear hcz11_0
              try clear hcz11_1
              try clear hcz11_2
              try clear hcz11_3
              try clear hcz11_4
              try clear hcz24_0
              try clear hcz24_1
              try clear hcz24_2
              try clear hcz24_3
              try clear hcz24_4
              try clear hcz6_0
              try clear hcz6_1
              try clear hcz6_2
              try clear hcz6_3
              try clear hcz6_4
              try clear hcz9_0
              try clear hcz9_1
              try clear hcz9_2
              try clear hcz9_3
              try clear hcz9_4
              try clear hfz11_0
              try clear hfz11_1
              try clear hfz11_2
              try clear hfz11_3
              try clear hfz11_4
              try clear hfz24_0
              try clear hfz24_1
              try clear hfz24_2
              try clear hfz24_3
              try clear hfz24_4
              try clear hfz6_0
              try clear hfz6_1
              try clear hfz6_2
              try clear hfz6_3
              try clear hfz6_4
              try clear hfz9_0
              try clear hfz9_1
              try clear hfz9_2
              try clear hfz9_3
              try clear hfz9_4
              try clear hx509_0
              try clear hx510_0
              try clear p2
              try clear p5
              try clear p509
              try clear p510
              try clear q1
              try clear q18
              try clear q5
              try clear q509
              try clear q510
              obtain ⟨x6_4, x43_4, rfl, HA, HK4, HO_5, HO_6, HO_41, BK505, HB⟩ := hrel
              cases gk with
              | zero => exact absurd HA.out (by simp [impl_Frontier.l1])
              | succ k4 =>
               have H := HA.out
               clear HA
               simp only [impl_Frontier.l1] at H
               by_cases c27 : x43_4 < (t511.length : Int)
               · rw [if_pos c27] at H
                 have c27b0 : decide (x43_4 < (t511.length : Int)) = true := decide_eq_true c27
                 clear c27
                 by_cases c28 : 0 ≤ x43_4
                 · rw [if_pos c28] at H
                   have c28b0 : decide (0 ≤ x43_4) = true := decide_eq_true c28
                   clear c28
                   by_cases c29 : x43_4 < (t511.length : Int)
                   · rw [if_pos c29] at H
                     have c29b0 : decide (x43_4 < (t511.length : Int)) = true := decide_eq_true c29
                     clear c29
                     by_cases c30 : 0 ≤ a1
                     · rw [if_pos c30] at H
                       have c30b0 : decide (0 ≤ a1) = true := decide_eq_true c30
                       clear c30
                       by_cases c31 : a1 < (t506.length : Int)
                       · rw [if_pos c31] at H
                         have c31b0 : decide (a1 < (t506.length : Int)) = true := decide_eq_true c31
                         clear c31
                         by_cases c32 : 0 ≤ (rd t511 x43_4)
                         · rw [if_pos c32] at H
                           have c32b0 : decide (0 ≤ (rd t511 x43_4)) = true := decide_eq_true c32
                           clear c32
                           by_cases c33 : (rd t511 x43_4) < ((rd_L18 t506 a1).length : Int)
                           · rw [if_pos c33] at H
                             have c33b0 : decide ((rd t511 x43_4) < ((rd_L18 t506 a1).length : Int)) = true := decide_eq_true c33
                             clear c33
                             obtain ⟨bq34, hbq34⟩ : ∃ b_ : Bool, b_ = (rdOf false (rd_L18 t506 a1) (rd t511 x43_4)) := ⟨_, rfl⟩
                             replace H : (if bq34 = true then (if x6_4.length < 17592186044416 then (impl_Frontier.l0 k4 a1 t506 (x6_4 ++ [x24_2]) (l0_4.length : Int) (wrap64 (x24_2 + 1)) a0_0 a0_1 l0_2 a0_3 l0_4) else (none)) else (impl_Frontier.l1 k4 a1 t506 x6_4 x24_2 (l0_4.length : Int) x24_2 t511 (t511.length : Int) (wrap64 (x43_4 + 1)) a0_0 a0_1 l0_2 a0_3 l0_4)) = some r := by rw [← hbq34] at H; exact H
                             have Nbq34 := Aside0.mk hbq34
                             clear hbq34
                             by_cases c35 : bq34 = true
                             · subst c35
                               have H1 : (if x6_4.length < 17592186044416 then (impl_Frontier.l0 k4 a1 t506 (x6_4 ++ [x24_2]) (l0_4.length : Int) (wrap64 (x24_2 + 1)) a0_0 a0_1 l0_2 a0_3 l0_4) else (none)) = some r := by rw [if_pos rfl] at H; exact H
                               clear H
                               have H := H1
                               clear H1
                               by_cases c36 : x6_4.length < 17592186044416
                               · rw [if_pos c36] at H
                                 have LMc36 := Aside0.mk c36
                                 clear c36
                                 obtain ⟨y517, hy517⟩ : ∃ y_ : List Int, y_ = (x6_4 ++ [x24_2]) := ⟨_, rfl⟩
                                 replace H : (impl_Frontier.l0 k4 a1 t506 y517 (l0_4.length : Int) (wrap64 (x24_2 + 1)) a0_0 a0_1 l0_2 a0_3 l0_4) = some r := by first | (rw [hy517]; with_reducible exact H) | (have H2_ := (Option.bind_some _ _).symm.trans H; rw [hy517]; with_reducible exact H2_) | (have H2_ := (Option.bind_some _ _).symm.trans H; with_reducible exact H2_) | with_reducible exact H | (rw [hy517]; exact H) | exact H
                                 have Ny517 := Aside0.mk hy517
                                 clear hy517
                                 have H' := Aside0.mk H
                                 clear H
                                 have p514 : 0 ≤ (x43_4 : Int) := of_decide_eq_true (by first | (with_reducible assumption) | assumption)
                                 have q514 : x43_4 < (t511.length : Int) := of_decide_eq_true (by first | (with_reducible assumption) | assumption)
                                 obtain ⟨ad514, e514, hx514_0⟩ := Kd.at_int (Kd.R_reads' HO_41.out).2.2 x43_4 p514 q514
                                 cases e514
                                 replace p514 := eq_true p514
                                 replace q514 := eq_true q514
                                 obtain ⟨Ao37, co37, eo37⟩ := Kd.S_slice HO_5.out
                                 subst eo37
                                 have p515 : 0 ≤ (a1 : Int) := of_decide_eq_true (by first | (with_reducible assumption) | assumption)
                                 have q515 : a1 < (t506.length : Int) := of_decide_eq_true (by first | (with_reducible assumption) | assumption)
                                 obtain ⟨ad515, A515_0, c515_0, e515, hx515_0, hl515_0, hi515_0⟩ := at_L18 (Kd.S_reads' HO_5.out).2.2 a1 p515 q515
                                 cases e515
                                 obtain ⟨ce515, hce515, hMe515, hcc515⟩ := Kd.S_get HO_5.out [] a1 p515 (by first | exact q515 | exact of_decide_eq_true (by first | (with_reducible assumption) | assumption) | (have e_ := (Kd.S_reads' HO_5.out).1; omega))
                                 obtain ⟨ve515_0, rfl, ge515_0⟩ := hMe515
                                 have hv515_0 := hcc515 0 _ rfl
                                 rw [Nat.add_zero, show ((Kd.slice 4 Kd.bool)).sz = 1 from rfl, Nat.mul_one] at hv515_0
                                 replace hv515_0 := Option.some.inj (hv515_0.symm.trans hx515_0)
                                 rw [hv515_0] at ge515_0
                                 have HL515_0 := Aside0.mk (show Kd.R Kd.bool 4 _ _ _ _ (rd_L18 t506 a1) from ge515_0)
                                 clear hv515_0 ge515_0
                                 clear hcc515 hce515
                                 have HR515_0 := Aside0.mk hi515_0
                                 have HC515_0 := Aside0.mk hl515_0
                                 clear hi515_0 hl515_0
                                 replace p515 := eq_true p515
                                 replace q515 := eq_true q515
                                 have p516 : 0 ≤ ((rd t511 x43_4) : Int) := of_decide_eq_true (by first | (with_reducible assumption) | assumption)
                                 have q516 : (rd t511 x43_4) < ((rd_L18 t506 a1).length : Int) := of_decide_eq_true (by first | (with_reducible assumption) | assumption)
                                 obtain ⟨ad516, e516, hx516_0⟩ := Kd.at_bool (by repeat (first | (with_reducible exact HR515_0.out) | (with_reducible refine Kd.C_alloc ?_ _) | (with_reducible refine Kd.C_drewN ?_ _) | (with_reducible refine Kd.C_drew ?_) | exact HR515_0.out)) (rd t511 x43_4) p516 q516
                                 (try rw [← Nbq34.out] at hx516_0)
                                 cases e516
                                 replace p516 := eq_true p516
                                 replace q516 := eq_true q516
                                 go_wp2_with (first | ((with_reducible refine gate_builtin (b := .append) (xs := #[.tmp 54, .tmp 56]) rfl ?_); (try (refine gate_guard (by rfl) ?_; dsimp only)); at_builtin; refine Kd.R_append (Kd.int .i64) (w0 := w) w.heap.size rfl (.tmp 54) (.tmp 56) 22 2 (.int .i64 0) 8 rfl Try.underlying22 info2 rfl (by decide) (by omega) u6 x6_4 x24_2 [.int .i64 x24_2] (fun k_ => some k_ ≠ (.slice (some ad514) t511.length co26 : Value).ownBlock) (fun _ => False) rfl rfl ?aP (fun _ hk => hk.elim) ?aF ?aO ?aB ?aS ?aL ?_; (case aP => exact rfl); (case aB => exact (by repeat (first | (with_reducible first | exact HB.out | apply below_alloc | apply pw_below_drewN | apply below_drew1 | refine below_set ?_ GE505.out) | exact HB.out))); (case aF => exact (fun k_ hk => Kd.fresh' (Kd.R_lt (by (with_reducible repeat (first | apply Kd.R_alloc | apply Kd.R_drewN | apply Kd.R_drew)); exact HO_41.out)) k_ hk)); (case aO => exact (by (with_reducible repeat (first | apply Kd.R_alloc | apply Kd.R_drewN | apply Kd.R_drew)); exact HO_6.out)); (case aS => exact (below_size (by repeat (first | (with_reducible first | exact HB.out | apply below_alloc | apply pw_below_drewN | apply below_drew1 | refine below_set ?_ GE505.out) | exact HB.out)))); (case aL => have := LMc36.out; omega); intro v518 w38 ho hb hg hat; rw [← Ny517.out] at ho; have n0_ := Aside0.mk (Kd.S_over' (by (with_reducible repeat (first | apply Kd.S_alloc | apply Kd.S_drewN | apply Kd.S_drew)); exact HO_5.out) (Kd.R_typed (by (with_reducible repeat (first | apply Kd.R_alloc | apply Kd.R_drewN | apply Kd.R_drew)); exact HO_6.out)) (by decide) hg); have n1_ := Aside0.mk (Kd.R_after (ok := (fun _ => True)) (by (with_reducible repeat (first | apply Kd.R_alloc | apply Kd.R_drewN | apply Kd.R_drew)); exact Kd.R_mono HO_41.out (fun _ hk => ⟨trivial, hk⟩)) hg hat); have n2_ := Aside0.mk (blk_grown (g := gb505) (o := .cells #[.string a0_0, .int .i64 a0_1, .slice A0_2 l0_2.length c0_2, .int .i64 a0_3, .slice A0_4 l0_4.length c0_4] 30 (0, 0)) (by (with_reducible repeat (first | refine blk_drewN ?_ _ | refine blk_drew ?_ | refine blk_alloc ?_ _)); exact BK505.out) hg (Kd.R_ne HO_6.out BK505.out (by decide))); have n3_ := Aside0.mk (Kd.R_over' (by (with_reducible repeat (first | apply Kd.R_alloc | apply Kd.R_drewN | apply Kd.R_drew)); exact HL515_0.out) (Kd.R_typed (by (with_reducible repeat (first | apply Kd.R_alloc | apply Kd.R_drewN | apply Kd.R_drew)); exact HO_6.out)) (by decide) hg); have n4_ := Aside0.mk (hb); have n5_ := Aside0.mk (ho); clear HO_5; clear HO_41; clear BK505; clear HL515_0; clear HB; clear HO_6; have HO_5 := n0_; have HO_41 := n1_; have BK505 := n2_; have HL515_0 := n3_; have HB := n4_; have HO519 := n5_; clear n0_ n1_ n2_ n3_ n4_ n5_; clear ho hb hg hat))
                                 go_roundg k4
                                 case measure => have := HJ2.out; have := HK2.out; have := HJ12.out; have := HK4.out; omega
                                 case rel => exact ⟨(y517), (wrap64 (x24_2 + 1)), (by first | rfl | (simp; done) | (simp [*]; done)), H', ⟨by have := HJ2.out; have := HK2.out; have := HJ12.out; have := HK4.out; omega⟩, ⟨by (with_reducible repeat (first | apply Kd.S_alloc | apply Kd.S_drewN | apply Kd.S_drew)); exact HO_5.out⟩, ⟨by (with_reducible repeat (first | apply Kd.R_alloc | apply Kd.R_drewN | apply Kd.R_drew)); exact Kd.R_mono HO519.out (fun _ hk => trivial)⟩, ⟨by (with_reducible repeat (first | refine blk_drewN ?_ _ | refine blk_drew ?_ | refine blk_alloc ?_ _)); exact BK505.out⟩, ⟨by repeat (first | (with_reducible first | exact HB.out | apply below_alloc | apply pw_below_drewN | apply below_drew1 | refine below_set ?_ GE505.out) | exact HB.out)⟩⟩
                               · rw [if_neg c36] at H
                                 exact absurd H (by simp)
                             · replace c35 := Bool.eq_false_iff.mpr c35
                               subst c35
                               have H1 : (impl_Frontier.l1 k4 a1 t506 x6_4 x24_2 (l0_4.length : Int) x24_2 t511 (t511.length : Int) (wrap64 (x43_4 + 1)) a0_0 a0_1 l0_2 a0_3 l0_4) = some r := by rw [if_neg (show ¬ (false = true) by decide)] at H; exact H
                               clear H
                               have H := H1
                               clear H1
                               have H' := Aside0.mk H
                               clear H
                               have p514 : 0 ≤ (x43_4 : Int) := of_decide_eq_true (by first | (with_reducible assumption) | assumption)
                               have q514 : x43_4 < (t511.length : Int) := of_decide_eq_true (by first | (with_reducible assumption) | assumption)
                               obtain ⟨ad514, e514, hx514_0⟩ := Kd.at_int (Kd.R_reads' HO_41.out).2.2 x43_4 p514 q514
                               cases e514
                               replace p514 := eq_true p514
                               replace q514 := eq_true q514
                               obtain ⟨Ao39, co39, eo39⟩ := Kd.S_slice HO_5.out
                               subst eo39
                               have p515 : 0 ≤ (a1 : Int) := of_decide_eq_true (by first | (with_reducible assumption) | assumption)
                               have q515 : a1 < (t506.length : Int) := of_decide_eq_true (by first | (with_reducible assumption) | assumption)
                               obtain ⟨ad515, A515_0, c515_0, e515, hx515_0, hl515_0, hi515_0⟩ := at_L18 (Kd.S_reads' HO_5.out).2.2 a1 p515 q515
                               cases e515
                               obtain ⟨ce515, hce515, hMe515, hcc515⟩ := Kd.S_get HO_5.out [] a1 p515 (by first | exact q515 | exact of_decide_eq_true (by first | (with_reducible assumption) | assumption) | (have e_ := (Kd.S_reads' HO_5.out).1; omega))
                               obtain ⟨ve515_0, rfl, ge515_0⟩ := hMe515
                               have hv515_0 := hcc515 0 _ rfl
                               rw [Nat.add_zero, show ((Kd.slice 4 Kd.bool)).sz = 1 from rfl, Nat.mul_one] at hv515_0
                               replace hv515_0 := Option.some.inj (hv515_0.symm.trans hx515_0)
                               rw [hv515_0] at ge515_0
                               have HL515_0 := Aside0.mk (show Kd.R Kd.bool 4 _ _ _ _ (rd_L18 t506 a1) from ge515_0)
                               clear hv515_0 ge515_0
                               clear hcc515 hce515
                               have HR515_0 := Aside0.mk hi515_0
                               have HC515_0 := Aside0.mk hl515_0
                               clear hi515_0 hl515_0
                               replace p515 := eq_true p515
                               replace q515 := eq_true q515
                               have p516 : 0 ≤ ((rd t511 x43_4) : Int) := of_decide_eq_true (by first | (with_reducible assumption) | assumption)
                               have q516 : (rd t511 x43_4) < ((rd_L18 t506 a1).length : Int) := of_decide_eq_true (by first | (with_reducible assumption) | assumption)
                               obtain ⟨ad516, e516, hx516_0⟩ := Kd.at_bool (by repeat (first | (with_reducible exact HR515_0.out) | (with_reducible refine Kd.C_alloc ?_ _) | (with_reducible refine Kd.C_drewN ?_ _) | (with_reducible refine Kd.C_drew ?_) | exact HR515_0.out)) (rd t511 x43_4) p516 q516
                               (try rw [← Nbq34.out] at hx516_0)
                               cases e516
                               replace p516 := eq_true p516
                               replace q516 := eq_true q516
                               go_wp2
                               go_roundg k4
                               case measure => have := HJ2.out; have := HK2.out; have := HJ12.out; have := HK4.out; omega
                               case rel => exact ⟨(x6_4), (wrap64 (x43_4 + 1)), (by first | rfl | (simp; done) | (simp [*]; done)), H', ⟨by have := HJ2.out; have := HK2.out; have := HJ12.out; have := HK4.out; omega⟩, ⟨by (with_reducible repeat (first | apply Kd.S_alloc | apply Kd.S_drewN | apply Kd.S_drew)); exact HO_5.out⟩, ⟨by (with_reducible repeat (first | apply Kd.R_alloc | apply Kd.R_drewN | apply Kd.R_drew)); exact HO_6.out⟩, ⟨by (with_reducible repeat (first | apply Kd.R_alloc | apply Kd.R_drewN | apply Kd.R_drew)); exact HO_41.out⟩, ⟨by (with_reducible repeat (first | refine blk_drewN ?_ _ | refine blk_drew ?_ | refine blk_alloc ?_ _)); exact BK505.out⟩, ⟨by repeat (first | (with_reducible first | exact HB.out | apply below_alloc | apply pw_below_drewN | apply below_drew1 | refine below_set ?_ GE505.out) | exact HB.out)⟩⟩
                           · rw [if_neg c33] at H
                             exact absurd H (by simp)
                         · rw [if_neg c32] at H
                           exact absurd H (by simp)
                       · rw [if_neg c31] at H
                         exact absurd H (by simp)
                     · rw [if_neg c30] at H
                       exact absurd H (by simp)
                   · rw [if_neg c29] at H
                     exact absurd H (by simp)
                 · rw [if_neg c28] at H
                   exact absurd H (by simp)
               · rw [if_neg c27] at H
                 have c27b0 : decide (x43_4 < (t511.length : Int)) = false := decide_eq_false c27
                 clear c27
                 have H' := Aside0.mk H
                 clear H
                 go_wp2
                 go_roundg k4
                 case measure => have := HJ2.out; have := HK2.out; have := HJ12.out; have := HK4.out; omega
                 case rel => exact ⟨(x6_4), (wrap64 (x24_2 + 1)), (by first | rfl | (simp; done) | (simp [*]; done)), H', ⟨by have := HJ2.out; have := HK2.out; have := HJ12.out; have := HK4.out; omega⟩, ⟨by (with_reducible repeat (first | apply Kd.S_alloc | apply Kd.S_drewN | apply Kd.S_drew)); exact HO_5.out⟩, ⟨by (with_reducible repeat (first | apply Kd.R_alloc | apply Kd.R_drewN | apply Kd.R_drew)); exact Kd.R_mono HO_6.out (fun _ hk => trivial)⟩, ⟨by (with_reducible repeat (first | refine blk_drewN ?_ _ | refine blk_drew ?_ | refine blk_alloc ?_ _)); exact BK505.out⟩, ⟨by repeat (first | (with_reducible first | exact HB.out | apply below_alloc | apply pw_below_drewN | apply below_drew1 | refine below_set ?_ GE505.out) | exact HB.out)⟩⟩
       · rw [if_neg c12] at H
         have c12b0 : decide (x24_2 < (l0_4.length : Int)) = false := decide_eq_false c12
         clear c12
         obtain rfl := Option.some.inj H
         go_wp2
         go_ret
         exact ⟨_, by first | rfl | (simp [errW_none, errW_some] <;> rfl) | (simp [*, errW_none, errW_some] <;> rfl), by (with_reducible repeat (first | apply Kd.R_alloc | apply Kd.R_drewN | apply Kd.R_drew)); exact HO_6.out, by repeat (first | (with_reducible first | exact HB.out | apply below_alloc | apply pw_below_drewN | apply below_drew1 | refine below_set ?_ GE505.out) | exact HB.out)⟩

end Go.Proofs.Ytoedcnhgobbnfaa.All

