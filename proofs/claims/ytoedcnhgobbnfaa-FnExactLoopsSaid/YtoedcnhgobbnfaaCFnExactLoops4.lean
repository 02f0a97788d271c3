/- Part 4 of the proof of FnExactLoops: functions of the translation with what they return, and plain laws of these. Written by programs of this session over the kit's print, and by hand. -/
import Derived.Test.YtoedcnhgobbnfaaProg
import Derived.Test.YtoedcnhgobbnfaaCFnExactLoopsWApart
import Derived.Test.YtoedcnhgobbnfaaCFnExactLoopsWArr
import Derived.Test.YtoedcnhgobbnfaaCFnExactLoopsWFoot
import Derived.Test.YtoedcnhgobbnfaaCFnExactLoopsWGuard
import Derived.Test.YtoedcnhgobbnfaaCFnExactLoopsWInv
import Derived.Test.YtoedcnhgobbnfaaCFnExactLoopsWKept
import Derived.Test.YtoedcnhgobbnfaaCFnExactLoopsWLast
import Derived.Test.YtoedcnhgobbnfaaCFnExactLoopsWMore
import Derived.Test.YtoedcnhgobbnfaaCFnExactLoopsWN
import Derived.Test.YtoedcnhgobbnfaaCFnExactLoopsWNEv
import Derived.Test.YtoedcnhgobbnfaaCFnExactLoopsWQPut
import Derived.Test.YtoedcnhgobbnfaaCFnExactLoopsWRepsOne
import Derived.Test.YtoedcnhgobbnfaaCFnExactLoopsWShare
import Derived.Test.YtoedcnhgobbnfaaCFnExactLoopsWTab
import Derived.Test.YtoedcnhgobbnfaaCFnExactLoopsWWords
import Derived.Test.YtoedcnhgobbnfaaCFnExactLoopsWZeros
import Derived.Below
import Derived.Deep.Draws
import Derived.Deep.AppendLies
import Derived.Maps.AppendAt
import Derived.OwnWalk
import Derived.Laws.BytesArg
import Derived.Laws.MakeOwn
import Derived.Laws.OwnMore
import Derived.Deep.OwnRows
import Derived.Tactics
import Derived.Lib.ConvBytes
import Derived.Laws.Slices
import Derived.WalkKit
import Derived.KernelRfl
import Derived.RowKit3
import Derived.Deep.LoopGhost
import Derived.Deep.QuietTactic
import Derived.BigQuiet
import Derived.WideLaws
import Derived.Deep.DeepCutAuto
import Derived.Deep.CutBlock
import Derived.Deep.RegionHeld3
import Derived.Laws.Rows
import Derived.Lib.AppendStr
import Derived.ArgAppend
import Derived.Laws.IdiomCopy
import Derived.OrdersHeld
import Derived.Laws.BitsLemmas
import Derived.RowKit
import Derived.Maps.OwnSet
import Derived.Maps.OwnOps
import Derived.Deep.Slices
import Derived.ChangeArms
import Derived.ProofKit
import Derived.OpenShut
import Derived.ShutString
import Derived.ChangeOld
import Derived.SizedLaws
import Derived.Test.YtoedcnhgobbnfaaCFnExactLoops1
import Derived.Test.YtoedcnhgobbnfaaCFnExactLoops2
import Derived.Test.YtoedcnhgobbnfaaCFnExactLoops3
namespace Go.Proofs.Ytoedcnhgobbnfaa.All
open Go.RowKit Go.Proofs.YtoedcnhgobbnfaaW.PrintWords Go.Proofs.YtoedcnhgobbnfaaW.PrintLast Go.Proofs.YtoedcnhgobbnfaaW.PrintMore
attribute [local go_sem] max2_int min2_int max_two min_two max_three min_three max_four min_four   -- for this text's walks alone
set_option linter.unusedVariables false
set_option linter.unusedSimpArgs false

mutual
def impl_reached.j0 : Nat → Int → List Bool → Bool → ByteArray → Int → List Int → Int → List (S62) → Option (List Bool)
 | 0, _, _, _, _, _, _, _, _ => none
 | k + 1, x1, x5, x21, x242000, x242001, x242002, x242003, x242004 => if x21 = true then (some x5) else (if 0 < (x5.length : Int) then (impl_reached.l0 k x1 (x5.set (0 : Int).toNat true) (([0] : List Int)) x242000 x242001 x242002 x242003 x242004) else (none))
def impl_reached.l0 : Nat → Int → List Bool → List Int → ByteArray → Int → List Int → Int → List (S62) → Option (List Bool)
 | 0, _, _, _, _, _, _, _, _ => none
 | k + 1, x1, x5, x6, x242000, x242001, x242002, x242003, x242004 => if (x6.length : Int) > 0 then (if 0 ≤ (wrap64 ((x6.length : Int) - 1)) then (if (wrap64 ((x6.length : Int) - 1)) < (x6.length : Int) then (if (wrap64 ((x6.length : Int) - 1)) ≤ (x6.length : Int) then ((impl_NextBlocks.f x242000 x242001 x242002 x242003 x242004 (rd x6 (wrap64 ((x6.length : Int) - 1)))).bind fun t253 => (impl_reached.l1 k x1 x5 (x6.take ((wrap64 ((x6.length : Int) - 1)) : Int).toNat) t253 (t253.length : Int) 0 x242000 x242001 x242002 x242003 x242004)) else (none)) else (none)) else (none)) else (some x5)
def impl_reached.l1 : Nat → Int → List Bool → List Int → List Int → Int → Int → ByteArray → Int → List Int → Int → List (S62) → Option (List Bool)
 | 0, _, _, _, _, _, _, _, _, _, _, _ => none
 | k + 1, x1, x5, x6, x42, x43, x44, x242000, x242001, x242002, x242003, x242004 => if x44 < x43 then (if 0 ≤ x44 then (if x44 < (x42.length : Int) then (if 0 ≤ (rd x42 x44) then (if (rd x42 x44) < (x5.length : Int) then (if (rdOf false x5 (rd x42 x44) = true) then (impl_reached.l1 k x1 x5 x6 x42 x43 (wrap64 (x44 + 1)) x242000 x242001 x242002 x242003 x242004) else (if (rd x42 x44) = x1 then (impl_reached.l1 k x1 x5 x6 x42 x43 (wrap64 (x44 + 1)) x242000 x242001 x242002 x242003 x242004) else (if x6.length < 17592186044416 then (impl_reached.l1 k x1 (x5.set ((rd x42 x44) : Int).toNat true) (x6 ++ [rd x42 x44]) x42 x43 (wrap64 (x44 + 1)) x242000 x242001 x242002 x242003 x242004) else (none)))) else (none)) else (none)) else (none)) else (none)) else (impl_reached.l0 k x1 x5 x6 x242000 x242001 x242002 x242003 x242004)
end
def impl_reached.f (k : Nat) (a0_0 : ByteArray) (a0_1 : Int) (l0_2 : List Int) (a0_3 : Int) (l0_4 : List (S62)) (a1 : Int) : Option (List Bool) := if 0 ≤ (l0_4.length : Int) then (if ((l0_4.length : Int) : Int).toNat ≤ 281474976710656 then ((some (List.replicate ((l0_4.length : Int) : Int).toNat false : List Bool)).bind fun y242 => (if (l0_4.length : Int) = 0 then (impl_reached.j0 k a1 y242 true a0_0 a0_1 l0_2 a0_3 l0_4) else (impl_reached.j0 k a1 y242 (a1 == 0) a0_0 a0_1 l0_2 a0_3 l0_4))) else (none)) else (none)
set_option maxHeartbeats 8000000 in
set_option maxRecDepth 100000 in
theorem impl_reached.calls (k : Nat) (a0_0 : ByteArray) (a0_1 : Int) (A0_2 : Option Addr) (c0_2 : Nat) (l0_2 : List Int) (a0_3 : Int) (A0_4 : Option Addr) (c0_4 : Nat) (l0_4 : List (S62)) (a1 : Int) (r : List Bool) (w : World) (hr0_2 : Kd.C (Kd.int .i64) w A0_2 l0_2.length l0_2) (hc0_2 : l0_2.length ≤ c0_2) (hr0_4 : Kd.C k62 w A0_4 l0_4.length l0_4) (hc0_4 : l0_4.length ≤ c0_4) (h : impl_reached.f k a0_0 a0_1 l0_2 a0_3 l0_4 a1 = some r) :
 Calls Try.prog 49 #[.agg #[.string a0_0, .int .i64 a0_1, .slice A0_2 l0_2.length c0_2, .int .i64 a0_3, .slice A0_4 l0_4.length c0_4], .int .i64 a1] w fun e w' => ∃ v0_ : Value, e = .returned (v0_) ∧ Kd.R Kd.bool 4 w' w.heap.size (fun _ => True) v0_ r ∧ Below w.heap.size w w' := by
 have hu30 := Try.underlying30
 have HR0_2 := Aside0.mk hr0_2
 have HC0_2 := Aside0.mk hc0_2
 clear hr0_2 hc0_2
 have HR0_4 := Aside0.mk hr0_4
 have HC0_4 := Aside0.mk hc0_4
 clear hr0_4 hc0_4
 have HB := Aside0.mk (Below.refl w.heap.size w)
 have H : (if 0 ≤ (l0_4.length : Int) then (if ((l0_4.length : Int) : Int).toNat ≤ 281474976710656 then ((some (List.replicate ((l0_4.length : Int) : Int).toNat false : List Bool)).bind fun y242 => (if (l0_4.length : Int) = 0 then (impl_reached.j0 k a1 y242 true a0_0 a0_1 l0_2 a0_3 l0_4) else (impl_reached.j0 k a1 y242 (a1 == 0) a0_0 a0_1 l0_2 a0_3 l0_4))) else (none)) else (none)) = some r := h
 clear h
 by_cases c3 : 0 ≤ (l0_4.length : Int)
 · rw [if_pos c3] at H
   have c3b0 := eq_true c3
   have c3b1 : decide (0 ≤ (l0_4.length : Int)) = true := decide_eq_true c3
   clear c3
   by_cases c4 : ((l0_4.length : Int) : Int).toNat ≤ 281474976710656
   · rw [if_pos c4] at H
     have c4b0 := eq_true c4
     have c4b1 : decide (((l0_4.length : Int) : Int).toNat ≤ 281474976710656) = true := decide_eq_true c4
     clear c4
     obtain ⟨y242, hy242⟩ : ∃ y_ : List Bool, y_ = (List.replicate ((l0_4.length : Int) : Int).toNat false) := ⟨_, rfl⟩
     replace H : (if (l0_4.length : Int) = 0 then (impl_reached.j0 k a1 y242 true a0_0 a0_1 l0_2 a0_3 l0_4) else (impl_reached.j0 k a1 y242 (a1 == 0) a0_0 a0_1 l0_2 a0_3 l0_4)) = some r := by first | (rw [hy242]; with_reducible exact H) | (have H2_ := (Option.bind_some _ _).symm.trans H; rw [hy242]; with_reducible exact H2_) | (have H2_ := (Option.bind_some _ _).symm.trans H; with_reducible exact H2_) | with_reducible exact H | (rw [hy242]; exact H) | exact H
     have Ny242 := Aside0.mk hy242
     clear hy242
     have HC5 := Aside0.mk H
     clear H
     go_enter Try.func49, Try.ntmps49
     go_upto_region 2 with (first | ((with_reducible refine gate_dst (N := 2) rfl ?_); refine box_event ?hg (N := 2) ?hd (cs := #[.string a0_0, .int .i64 a0_1, .slice A0_2 l0_2.length c0_2, .int .i64 a0_3, .slice A0_4 l0_4.length c0_4]) (t := 30) ?hr ?_; (case hd => rfl); (case hg => rfl); (case hr => first | (go_simp; done) | (go_simp; rfl)); intro gb241 hg w6 hbox hb; have n0_ := Aside0.mk (below_step bz hb); have n1_ := Aside0.mk (hbox); have n2_ := Aside0.mk ((by rw [hg]; exact (below_size bz) : w.heap.size ≤ gb241)); have n3_ := Aside0.mk ((by rw [hg]; exact (below_size bz) : w.heap.size ≤ gb241)); clear HB; have HB := n0_; have BK241 := n1_; have GW241 := n2_; have GE241 := n3_; clear n0_ n1_ n2_ n3_; clear hb hbox hg; have hcz7_0 : w6.cell? ⟨gb241, 0, none⟩ = some (.string a0_0) := (blk_cell BK241.out 0).trans rfl; have hcz7_1 : w6.cell? ⟨gb241, 1, none⟩ = some (.int .i64 a0_1) := (blk_cell BK241.out 1).trans rfl; have hcz7_2 : w6.cell? ⟨gb241, 2, none⟩ = some (.slice A0_2 l0_2.length c0_2) := (blk_cell BK241.out 2).trans rfl; have hcz7_3 : w6.cell? ⟨gb241, 3, none⟩ = some (.int .i64 a0_3) := (blk_cell BK241.out 3).trans rfl; have hcz7_4 : w6.cell? ⟨gb241, 4, none⟩ = some (.slice A0_4 l0_4.length c0_4) := (blk_cell BK241.out 4).trans rfl; have hfz7_0 := blk_frozen BK241.out 0; have hfz7_1 := blk_frozen BK241.out 1; have hfz7_2 := blk_frozen BK241.out 2; have hfz7_3 := blk_frozen BK241.out 3; have hfz7_4 := blk_frozen BK241.out 4) | ((with_reducible refine gate_dst (N := 13) rfl ?_); refine Kd.R_make Kd.bool _ 4 rfl (N := 13) rfl 54 _ _ rfl (l0_4.length : Int) rfl rfl Try.underlying54 (.bool false) 1 info4 rfl (by decide) (by omega) false (ok := fun _ => True) (okp := fun _ => True) rfl (fun _ hk => hk) trivial (of_decide_eq_true az) (Nat.le_trans (Nat.mul_le_mul_right _ (of_decide_eq_true az : (l0_4.length : Int).toNat ≤ 281474976710656)) (by omega)) (Below.refl _ _) (Nat.le_refl _) ?_; intro v243 w8 ho9 hb hg_ hnew_; clear hg_ hnew_; (first | rw [← Ny242.out] at ho9 | (simp only [Int.reduceToNat] at ho9; rw [← Ny242.out] at ho9)); have n0_ := Aside0.mk (Kd.R_lower ho9 (below_size bz)); have n1_ := Aside0.mk (blk_below (g := gb241) (o := .cells #[.string a0_0, .int .i64 a0_1, .slice A0_2 l0_2.length c0_2, .int .i64 a0_3, .slice A0_4 l0_4.length c0_4] 30 (0, 0)) kz hb); have n2_ := Aside0.mk (below_step bz hb); clear BK241; clear HB; have HO244 := n0_; have BK241 := n1_; have HB := n2_; clear n0_ n1_ n2_; clear hb ho9))
     (try simp only [Act.put, sx1, sx2, sx3])
     go_cut [21] (fun v21 wc => ∃ (kq : Nat) (x21_4 : Bool), v21 = .bool x21_4 ∧ Aside0 (impl_reached.j0 kq a1 y242 x21_4 a0_0 a0_1 l0_2 a0_3 l0_4 = some r) ∧ Aside0 (kq ≤ k) ∧ Aside0 (Kd.R Kd.bool 4 wc w.heap.size (fun _ => True) v243 y242) ∧ Aside0 (wc.heap[gb241]? = some (.cells #[.string a0_0, .int .i64 a0_1, (.slice A0_2 l0_2.length c0_2), .int .i64 a0_3, (.slice A0_4 l0_4.length c0_4)] 30 (0, 0))) ∧ Aside0 (Below w.heap.size w wc))
     case first =>
      have H := HC5.out
      clear HC5
      by_cases c10 : (l0_4.length : Int) = 0
      · rw [if_pos c10] at H
        have c10b0 : ((l0_4.length : Int) == 0) = true := beq_iff_eq.mpr c10
        have c10b1 : ((l0_4.length : Int) != 0) = false := bne_eq_false_iff_eq.mpr c10
        clear c10
        (first | rw [c10b0] | (simp only [i64_w, i32_w]; rw [c10b0]) | skip)
        have H' := Aside0.mk H
        clear H
        have hcz11_0 : w8.cell? ⟨gb241, 0, none⟩ = some (.string a0_0) := (blk_cell BK241.out 0).trans rfl
        have hcz11_1 : w8.cell? ⟨gb241, 1, none⟩ = some (.int .i64 a0_1) := (blk_cell BK241.out 1).trans rfl
        have hcz11_2 : w8.cell? ⟨gb241, 2, none⟩ = some (.slice A0_2 l0_2.length c0_2) := (blk_cell BK241.out 2).trans rfl
        have hcz11_3 : w8.cell? ⟨gb241, 3, none⟩ = some (.int .i64 a0_3) := (blk_cell BK241.out 3).trans rfl
        have hcz11_4 : w8.cell? ⟨gb241, 4, none⟩ = some (.slice A0_4 l0_4.length c0_4) := (blk_cell BK241.out 4).trans rfl
        have hfz11_0 := blk_frozen BK241.out 0
        have hfz11_1 := blk_frozen BK241.out 1
        have hfz11_2 := blk_frozen BK241.out 2
        have hfz11_3 := blk_frozen BK241.out 3
        have hfz11_4 := blk_frozen BK241.out 4
        go_wp2
        go_meet
        case rel => exact ⟨_, (true), sz_, H', ⟨by first | omega | exact Nat.le_refl _⟩, ⟨by (with_reducible repeat (first | apply Kd.R_alloc | apply Kd.R_drewN | apply Kd.R_drew)); exact HO244.out⟩, ⟨ kz⟩, ⟨ bz⟩⟩
      · rw [if_neg c10] at H
        have c10b0 : ((l0_4.length : Int) == 0) = false := beq_eq_false_iff_ne.mpr c10
        have c10b1 : ((l0_4.length : Int) != 0) = true := bne_iff_ne.mpr c10
        have c10b2 : ¬ (l0_4 = []) := fun h_ => c10 (by rw [h_]; rfl)
        (first | rw [c10b0] | (simp only [i64_w, i32_w]; rw [c10b0]) | skip)
        have H' := Aside0.mk H
        clear H
        have hcz12_0 : w8.cell? ⟨gb241, 0, none⟩ = some (.string a0_0) := (blk_cell BK241.out 0).trans rfl
        have hcz12_1 : w8.cell? ⟨gb241, 1, none⟩ = some (.int .i64 a0_1) := (blk_cell BK241.out 1).trans rfl
        have hcz12_2 : w8.cell? ⟨gb241, 2, none⟩ = some (.slice A0_2 l0_2.length c0_2) := (blk_cell BK241.out 2).trans rfl
        have hcz12_3 : w8.cell? ⟨gb241, 3, none⟩ = some (.int .i64 a0_3) := (blk_cell BK241.out 3).trans rfl
        have hcz12_4 : w8.cell? ⟨gb241, 4, none⟩ = some (.slice A0_4 l0_4.length c0_4) := (blk_cell BK241.out 4).trans rfl
        have hfz12_0 := blk_frozen BK241.out 0
        have hfz12_1 := blk_frozen BK241.out 1
        have hfz12_2 := blk_frozen BK241.out 2
        have hfz12_3 := blk_frozen BK241.out 3
        have hfz12_4 := blk_frozen BK241.out 4
        go_wp2
        go_meet
        case rel => exact ⟨_, ((a1 == 0)), sz_, H', ⟨by first | omega | exact Nat.le_refl _⟩, ⟨by (with_reducible repeat (first | apply Kd.R_alloc | apply Kd.R_drewN | apply Kd.R_drew)); exact HO244.out⟩, ⟨ kz⟩, ⟨ bz⟩⟩
     case rest =>
      clear HC5
      try clear c1
      try clear p2
      try clear c3
      try clear c3b0
      try clear c3b1
      try clear c4
      try clear c4b0
      try clear c4b1
      try clear c10
      try clear c10b0
      try clear c10b1
      try clear c10b2
      try clear hcz11_0
      try clear hcz11_1
      try clear hcz11_2
      try clear hcz11_3
      try clear hcz11_4
      try clear hcz12_0
      try clear hcz12_1
      try clear hcz12_2
      try clear hcz12_3
      try clear hcz12_4
      try clear hcz7_0
      try clear hcz7_1
      try clear hcz7_2
      try clear hcz7_3
      try clear hcz7_4
      try clear hfz11_0
      try clear hfz11_1
      try clear hfz11_2
      try clear hfz11_3
      try clear hfz11_4
      try clear hfz12_0
      try clear hfz12_1
      try clear hfz12_2
      try clear hfz12_3
      try clear hfz12_4
      try clear hfz7_0
      try clear hfz7_1
      try clear hfz7_2
      try clear hfz7_3
      try clear hfz7_4
      obtain ⟨kq, x21_4, rfl, HA, HJ4, HO_5, BK241, HB⟩ := hcut
      cases kq with
      | zero => exact absurd HA.out (by simp [impl_reached.j0])
      | succ kj4 =>
       have H := HA.out
       clear HA
       simp only [impl_reached.j0] at H
       by_cases c13 : x21_4 = true
       · subst c13
         have H1 : (some y242) = some r := by rw [if_pos rfl] at H; exact H
         clear H
         have H := H1
         clear H1
         obtain rfl := Option.some.inj H
         go_wp2
         go_ret
         exact ⟨_, by first | rfl | (simp [errW_none, errW_some] <;> rfl) | (simp [*, errW_none, errW_some] <;> rfl), by (with_reducible repeat (first | apply Kd.R_alloc | apply Kd.R_drewN | apply Kd.R_drew)); exact HO_5.out, bz⟩
       · replace c13 := Bool.eq_false_iff.mpr c13
         subst c13
         have H1 : (if 0 < (y242.length : Int) then (impl_reached.l0 kj4 a1 (y242.set (0 : Int).toNat true) (([0] : List Int)) a0_0 a0_1 l0_2 a0_3 l0_4) else (none)) = some r := by rw [if_neg (show ¬ (false = true) by decide)] at H; exact H
         clear H
         have H := H1
         clear H1
         obtain ⟨y245, hy245⟩ : ∃ y_ : List Int, y_ = (([0] : List Int)) := ⟨_, rfl⟩
         replace H : (if 0 < (y242.length : Int) then (impl_reached.l0 kj4 a1 (y242.set (0 : Int).toNat true) y245 a0_0 a0_1 l0_2 a0_3 l0_4) else (none)) = some r := by first | (rw [hy245]; with_reducible exact H) | (have H2_ := (Option.bind_some _ _).symm.trans H; rw [hy245]; with_reducible exact H2_) | (have H2_ := (Option.bind_some _ _).symm.trans H; with_reducible exact H2_) | with_reducible exact H | (rw [hy245]; exact H) | exact H
         have Ny245 := Aside0.mk hy245
         clear hy245
         by_cases c14 : 0 < (y242.length : Int)
         · rw [if_pos c14] at H
           have c14b0 : decide (0 < (y242.length : Int)) = true := decide_eq_true c14
           have c14b1 : decide (0 < y242.length) = true := decide_eq_true (by omega)
           clear c14
           obtain ⟨y248, hy248⟩ : ∃ y_ : List Bool, y_ = (y242.set (0 : Int).toNat true) := ⟨_, rfl⟩
           replace H : (impl_reached.l0 kj4 a1 y248 y245 a0_0 a0_1 l0_2 a0_3 l0_4) = some r := by first | (rw [hy248]; with_reducible exact H) | (have H2_ := (Option.bind_some _ _).symm.trans H; rw [hy248]; with_reducible exact H2_) | (have H2_ := (Option.bind_some _ _).symm.trans H; with_reducible exact H2_) | with_reducible exact H | (rw [hy248]; exact H) | exact H
           have Ny248 := Aside0.mk hy248
           clear hy248
           have H' := Aside0.mk H
           clear H
           go_wp2_with (first | ((with_reducible refine gate_dst (N := 23) rfl ?_); refine Kd.R_lit (Kd.int .i64) _ 2 ?hg (N := 23) ?hd (xs := ([0] : List Int)) (inner := [.int .i64 0]) (ok := fun _ => True) (okp := fun _ => True) ?hr ?hp (fun _ hk => hk) trivial (Below.refl _ _) (Nat.le_refl _) (by simp) ?_; (case hd => rfl); (case hg => rfl); (case hr => first | (go_simp; done) | (go_simp; rfl)); (case hp => exact (Reps.one (show Kd.M (Kd.int .i64) _ _ _ 0 [.int .i64 0] from rfl) (Reps.none _ _))); intro v246 w16 ho17 hb hg_ hnew_; clear hg_ hnew_; (first | rw [← Ny245.out] at ho17 | (simp only [Int.reduceToNat] at ho17; rw [← Ny245.out] at ho17)); have n0_ := Aside0.mk (Kd.R_below (rz HO_5.out) hb); have n1_ := Aside0.mk (Kd.R_lower ho17 (below_size bz)); have n2_ := Aside0.mk (blk_below (g := gb241) (o := .cells #[.string a0_0, .int .i64 a0_1, .slice A0_2 l0_2.length c0_2, .int .i64 a0_3, .slice A0_4 l0_4.length c0_4] 30 (0, 0)) kz hb); have n3_ := Aside0.mk (below_step bz hb); clear HO_5; clear BK241; clear HB; have HO_5 := n0_; have HO247 := n1_; have BK241 := n2_; have HB := n3_; clear n0_ n1_ n2_ n3_; clear hb ho17; have p15 : 0 ≤ (0 : Int) := (by omega); have q15 : (0 : Int) < ((y242.length : Int) : Int) := of_decide_eq_true az; have qi15 : (0 < y242.length) = True := eq_true (by omega); obtain ⟨go15, co15, eo15, gb15, gl15, cl15, HG15⟩ := Kd.R_form HO_5.out (by omega); (first | cases eo15 | (injection eo15 with ea_ en_ ec_; (first | subst ea_ | (injection ea_ with ea_; subst ea_)); subst ec_; clear en_)); have GB15 := Aside0.mk gb15; have GG15 := Aside0.mk HG15; clear gb15 gl15 HG15; obtain ⟨hx15_0, hf15_0⟩ := Kd.R_celln false HO_5.out (0 : Int) p15 q15; (try rw [show ((0 : Int)).toNat = 0 from rfl] at hx15_0); (try simp only [Nat.reduceMul, Nat.zero_mul, Nat.zero_add, Nat.reduceAdd] at hx15_0); (try rw [show ((0 : Int)).toNat = 0 from rfl] at hf15_0); (try simp only [Nat.reduceMul, Nat.zero_mul, Nat.zero_add, Nat.reduceAdd] at hf15_0); replace p15 := eq_true p15; replace q15 := eq_true q15; obtain ⟨hy18_, hz18_⟩ := Kd.R_celln false HO_5.out (0 : Int) (by omega) (of_decide_eq_true az); (try simp only [Int.reduceToNat, Int.toNat_zero, Int.toNat_ofNat, Nat.reduceMul, Nat.zero_mul, Nat.zero_add] at hy18_ hz18_); (try rw [show ((0 : Int)).toNat = 0 from rfl] at hy18_); (try rw [show ((0 : Int)).toNat = 0 from rfl] at hz18_); have HP18 := Kd.R_putg HO_5.out (0 : Int) true) | ((with_reducible refine gate_store (t := 4) (p := 25) rfl ?_); refine store_event (t := 4) (p := 25) (v := ?vo_w19) (w1 := (w16.setCell ⟨go15, (0 : Int).toNat, none⟩ (.bool true))) ?hg ?ho ?hn ?hr ?_; (case ho => rfl); (case hg => rfl); (case hn => rfl); (case hr => first | (go_simp; done) | (go_simp; rfl)); intro w19 hw; have hg : w16.grownBy w19 (some go15) := (by rw [hw]; exact HP18.2); have hp_ : Kd.R Kd.bool 4 w19 w.heap.size (fun _ => True) (.slice (some ⟨go15, 0, none⟩) y242.length co15) y248 := (by rw [hw, Ny248.out]; exact HP18.1); clear HP18; have n0_ := Aside0.mk (hp_); have n1_ := Aside0.mk (blk_grown (g := gb241) (o := .cells #[.string a0_0, .int .i64 a0_1, .slice A0_2 l0_2.length c0_2, .int .i64 a0_3, .slice A0_4 l0_4.length c0_4] 30 (0, 0)) kz hg (Kd.R_ne HO_5.out BK241.out (by decide))); have n2_ := Aside0.mk (Kd.R_over' (v := (.slice (some ⟨go15, 0, none⟩) y242.length co15)) (rz HO247.out) (Kd.R_typed HO_5.out) (by decide) hg); have n3_ := Aside0.mk ((by rw [hw]; exact below_set (HB.out) GB15.out : Below w.heap.size w w19)); clear HO_5; clear BK241; clear HO247; clear HB; have HO_5 := n0_; have BK241 := n1_; have HO247 := n2_; have HB := n3_; clear n0_ n1_ n2_ n3_; clear hg hw hp_))
           go_loopg [6] kj4 (fun kq v6 w' => ∃ (x5_2 : List Bool) (x6_2 : List Int), Aside0 (impl_reached.l0 kq a1 x5_2 x6_2 a0_0 a0_1 l0_2 a0_3 l0_4 = some r) ∧ Aside0 (kq ≤ kj4) ∧ Aside0 (Kd.R Kd.bool 4 w' w.heap.size (fun _ => True) (.slice (some ⟨go15, 0, none⟩) y242.length co15) x5_2) ∧ Aside0 (Kd.R (Kd.int .i64) 2 w' w.heap.size (fun _ => True) v6 x6_2) ∧ Aside0 (w'.heap[gb241]? = some (.cells #[.string a0_0, .int .i64 a0_1, (.slice A0_2 l0_2.length c0_2), .int .i64 a0_3, (.slice A0_4 l0_4.length c0_4)] 30 (0, 0))) ∧ Aside0 (Below w.heap.size w w'))
           case atStart => exact ⟨(y248), (y245), H', ⟨Nat.le_refl _⟩, ⟨by (with_reducible repeat (first | apply Kd.R_alloc | apply Kd.R_drewN | apply Kd.R_drew)); exact HO_5.out⟩, ⟨by (with_reducible repeat (first | apply Kd.R_alloc | apply Kd.R_drewN | apply Kd.R_drew)); exact HO247.out⟩, ⟨ kz⟩, ⟨ bz⟩⟩
           case round =>
            clear H'
            try clear c1
            try clear p1
            try clear q1
            try clear hx1
            try clear qi1
            try clear p2
            try clear c3
            try clear c3b0
            try clear c3b1
            try clear c4
            try clear c4b0
            try clear c4b1
            try clear c10
            try clear c10b0
            try clear c10b1
            try clear c10b2
            try clear c13
            try clear c14
            try clear c14b0
            try clear c14b1
            try clear p15
            try clear q15
            try clear hx15
            try clear qi15
            try clear hf15
            try clear hcz11_0
            try clear hcz11_1
            try clear hcz11_2
            try clear hcz11_3
            try clear hcz11_4
            try clear hcz12_0
            try clear hcz12_1
            try clear hcz12_2
            try clear hcz12_3
            try clear hcz12_4
            try clear hcz7_0
            try clear hcz7_1
            try clear hcz7_2
            try clear hcz7_3
            try clear hcz7_4
            try clear hfz11_0
            try clear hfz11_1
            try clear hfz11_2
            try clear hfz11_3
            try clear hfz11_4
            try clear hfz12_0
            try clear hfz12_1
            try clear hfz12_2
            try clear hfz12_3
            try clear hfz12_4
            try clear hfz7_0
            try clear hfz7_1
            try clear hfz7_2
            try clear hfz7_3
            try clear hfz7_4
            try clear hx15_0
            try clear p15
            try clear p2
            try clear q15
            obtain ⟨x5_2, x6_2, HA, HK2, HO_5, HO_6, BK241, HB⟩ := hrel
            have hl5_2 := (Kd.R_reads' HO_5.out).1
            rw [hl5_2] at HO_5
            (try simp only [hl5_2])
            (try simp only [hl5_2] at BK241)
            (try simp only [hl5_2] at HO_6)
            cases gk with
            | zero => exact absurd HA.out (by simp [impl_reached.l0])
            | succ k2 =>
             have H := HA.out
             clear HA
             simp only [impl_reached.l0] at H
             by_cases c20 : (x6_2.length : Int) > 0
             · rw [if_pos c20] at H
               have c20b0 : decide (0 < (x6_2.length : Int)) = true := decide_eq_true c20
               have c20b1 : decide (0 < x6_2.length) = true := decide_eq_true (by omega)
               clear c20
               obtain ⟨ji21, hji21⟩ : ∃ j_ : Int, (wrap64 ((x6_2.length : Int) - 1)) = j_ := ⟨_, rfl⟩
               replace H : (if 0 ≤ (ji21) then (if (ji21) < (x6_2.length : Int) then (if (ji21) ≤ (x6_2.length : Int) then ((impl_NextBlocks.f a0_0 a0_1 l0_2 a0_3 l0_4 (rd x6_2 (ji21))).bind fun t253 => (impl_reached.l1 k2 a1 x5_2 (x6_2.take ((ji21) : Int).toNat) t253 (t253.length : Int) 0 a0_0 a0_1 l0_2 a0_3 l0_4)) else (none)) else (none)) else (none)) = some r := by first | (rw [hji21] at H; exact H) | (simp only [hji21] at H ⊢; exact H)
               have hji21w : (IntKind.i64.wrap ((x6_2.length : Int) - 1)) = ji21 := (i64_w _).trans hji21
               by_cases c22 : 0 ≤ (ji21)
               · rw [if_pos c22] at H
                 have c22b0 : decide (0 ≤ (ji21)) = true := decide_eq_true c22
                 clear c22
                 by_cases c23 : (ji21) < (x6_2.length : Int)
                 · rw [if_pos c23] at H
                   have c23b0 : decide ((ji21) < (x6_2.length : Int)) = true := decide_eq_true c23
                   clear c23
                   by_cases c24 : (ji21) ≤ (x6_2.length : Int)
                   · rw [if_pos c24] at H
                     have c24b0 := eq_true c24
                     have c24b1 : decide ((ji21) ≤ (x6_2.length : Int)) = true := decide_eq_true c24
                     clear c24
                     obtain ⟨y250, hy250⟩ : ∃ y_ : List Int, y_ = (x6_2.take ((ji21) : Int).toNat) := ⟨_, rfl⟩
                     replace H : ((impl_NextBlocks.f a0_0 a0_1 l0_2 a0_3 l0_4 (rd x6_2 (ji21))).bind fun t253 => (impl_reached.l1 k2 a1 x5_2 y250 t253 (t253.length : Int) 0 a0_0 a0_1 l0_2 a0_3 l0_4)) = some r := by first | (rw [hy250]; with_reducible exact H) | (have H2_ := (Option.bind_some _ _).symm.trans H; rw [hy250]; with_reducible exact H2_) | (have H2_ := (Option.bind_some _ _).symm.trans H; with_reducible exact H2_) | with_reducible exact H | (rw [hy250]; exact H) | exact H
                     have Ny250 := Aside0.mk hy250
                     clear hy250
                     replace H := Option.bind_eq_some_iff.mp H
                     obtain ⟨t253, A250, H⟩ := H
                     replace H : (impl_reached.l1 k2 a1 x5_2 y250 t253 (t253.length : Int) 0 a0_0 a0_1 l0_2 a0_3 l0_4) = some r := H
                     have A25 := Aside0.mk A250
                     clear A250
                     have H' := Aside0.mk H
                     clear H
                     obtain ⟨Ao26, co26, eo26⟩ := Kd.R_slice HO_6.out
                     subst eo26
                     have p249 : 0 ≤ ((ji21) : Int) := of_decide_eq_true az
                     have q249 : (ji21) < (x6_2.length : Int) := of_decide_eq_true az
                     obtain ⟨ad249, e249, hx249_0⟩ := Kd.at_int (Kd.R_reads' HO_6.out).2.2 (ji21) p249 q249
                     cases e249
                     replace p249 := eq_true p249
                     replace q249 := eq_true q249
                     have q27 : ((ji21) : Int) ≤ ((x6_2.length : Int) : Int) := of_decide_eq_true az
                     obtain ⟨i027, hi027, _, hsz27, _⟩ := info_parts info2
                     have hcut27 := cut_to (P := Try.prog) 22 2 .i64 Try.underlying22 hi027 (some ad249) x6_2.length co26 (ji21) (of_decide_eq_true az) q27 (Kd.R_reads' HO_6.out).2.1
                     have hr27 := Kd.R_take (m := ((ji21) : Int).toNat) HO_6.out (by omega)
                     have hy27 : y250.length = ((ji21) : Int).toNat := (by rw [Ny250.out, List.length_take]; omega)
                     rw [← Ny250.out] at hr27
                     rw [← hy27] at hr27 hcut27
                     clear hy27 hi027 hsz27 HO_6
                     have HO252 := Aside0.mk hr27
                     clear hr27
                     replace q27 := eq_true q27
                     have hcz28_0 : wr.cell? ⟨gb241, 0, none⟩ = some (.string a0_0) := (blk_cell BK241.out 0).trans rfl
                     have hcz28_1 : wr.cell? ⟨gb241, 1, none⟩ = some (.int .i64 a0_1) := (blk_cell BK241.out 1).trans rfl
                     have hcz28_2 : wr.cell? ⟨gb241, 2, none⟩ = some (.slice A0_2 l0_2.length c0_2) := (blk_cell BK241.out 2).trans rfl
                     have hcz28_3 : wr.cell? ⟨gb241, 3, none⟩ = some (.int .i64 a0_3) := (blk_cell BK241.out 3).trans rfl
                     have hcz28_4 : wr.cell? ⟨gb241, 4, none⟩ = some (.slice A0_4 l0_4.length c0_4) := (blk_cell BK241.out 4).trans rfl
                     have hfz28_0 := blk_frozen BK241.out 0
                     have hfz28_1 := blk_frozen BK241.out 1
                     have hfz28_2 := blk_frozen BK241.out 2
                     have hfz28_3 := blk_frozen BK241.out 3
                     have hfz28_4 := blk_frozen BK241.out 4
                     go_wp2_with (first | ((with_reducible refine gate_callee (f := 18) rfl ?_); refine goesL_ (some 42) rfl rfl Try.func18 (by kernel_rfl) rfl #[.agg #[.string a0_0, .int .i64 a0_1, .slice A0_2 l0_2.length c0_2, .int .i64 a0_3, .slice A0_4 l0_4.length c0_4], .int .i64 (rd x6_2 (ji21))] rfl (by (try simp only [List.map_toArray, List.map_cons, List.map_nil]); first | done | (simp only [hji21]; rfl) | rfl | (simp only [List.length_drop, List.length_take]; rfl)) ?_; (with_reducible refine (impl_NextBlocks.calls a0_0 a0_1 _ _ l0_2 a0_3 _ _ l0_4 (rd x6_2 (ji21)) t253 _ ?side1 ?side2 ?side3 ?side4 A25.out).mono ?_); (case side1 => exact cz HR0_2.out); (case side2 => exact HC0_2.out); (case side3 => exact cz HR0_4.out); (case side4 => exact HC0_4.out); rintro e w29 ⟨v254, rfl, ho0, hb⟩; refine ⟨_, rfl, ?_⟩; have n0_ := Aside0.mk (Kd.R_below (rz HO_5.out) hb); have n1_ := Aside0.mk (Kd.R_elder' (rz HO252.out) (Kd.R_base ho0) hb); have n2_ := Aside0.mk (Kd.R_lower (Kd.R_new' ho0 (Kd.R_lt (rz HO252.out))) (below_size bz)); have n3_ := Aside0.mk (blk_below (g := gb241) (o := .cells #[.string a0_0, .int .i64 a0_1, .slice A0_2 l0_2.length c0_2, .int .i64 a0_3, .slice A0_4 l0_4.length c0_4] 30 (0, 0)) kz hb); have n4_ := Aside0.mk (below_step bz hb); clear HO_5; clear HO252; clear BK241; clear HB; have HO_5 := n0_; have HO252 := n1_; have HO255 := n2_; have BK241 := n3_; have HB := n4_; clear n0_ n1_ n2_ n3_ n4_; (try clear hb); (try clear hb2); (try clear hk); (try clear hi); (try clear ho0); obtain ⟨Ao30, co30, eo30⟩ := Kd.R_slice HO255.out; subst eo30))
                     go_loopg [6, 44] k2 (fun kq v6 v44 w' => ∃ (x5_3 : List Bool) (x6_3 : List Int) (x44_3 : Int), v44 = .int .i64 x44_3 ∧ Aside0 (impl_reached.l1 kq a1 x5_3 x6_3 t253 (t253.length : Int) x44_3 a0_0 a0_1 l0_2 a0_3 l0_4 = some r) ∧ Aside0 (kq ≤ k2) ∧ Aside0 (Kd.R Kd.bool 4 w' w.heap.size (fun _ => True) (.slice (some ⟨go15, 0, none⟩) x5_2.length co15) x5_3) ∧ Aside0 (Kd.R (Kd.int .i64) 2 w' w.heap.size (fun k_ => some k_ ≠ ((.slice Ao30 t253.length co30) : Value).ownBlock) v6 x6_3) ∧ Aside0 (Kd.R (Kd.int .i64) 2 w' w.heap.size (fun k_ => some k_ ≠ (v6 : Value).ownBlock) (.slice Ao30 t253.length co30) t253) ∧ Aside0 (w'.heap[gb241]? = some (.cells #[.string a0_0, .int .i64 a0_1, (.slice A0_2 l0_2.length c0_2), .int .i64 a0_3, (.slice A0_4 l0_4.length c0_4)] 30 (0, 0))) ∧ Aside0 (Below w.heap.size w w'))
                     case atStart => exact ⟨(x5_2), (y250), (0), sz_, H', ⟨Nat.le_refl _⟩, ⟨by (try simp only [hl5_2]); (with_reducible repeat (first | apply Kd.R_alloc | apply Kd.R_drewN | apply Kd.R_drew)); exact HO_5.out⟩, ⟨by (try simp only [hl5_2]); (with_reducible repeat (first | apply Kd.R_alloc | apply Kd.R_drewN | apply Kd.R_drew)); exact Kd.R_mono HO252.out (fun _ hk => hk.2)⟩, ⟨by (try simp only [hl5_2]); (with_reducible repeat (first | apply Kd.R_alloc | apply Kd.R_drewN | apply Kd.R_drew)); exact Kd.R_mono HO255.out (fun _ hk => hk.2)⟩, ⟨by (try simp only [hl5_2]); (with_reducible repeat (first | refine blk_drewN ?_ _ | refine blk_drew ?_ | refine blk_alloc ?_ _)); exact BK241.out⟩, ⟨ bz⟩⟩
                     case round =>
                      clear H'
                      try clear c1
                      try clear p1
                      try clear q1
                      try clear hx1
                      try clear qi1
                      try clear c2
                      try clear p2
                      try clear q2
                      try clear hx2
                      try clear c3
                      try clear c3b0
                      try clear c3b1
                      try clear c4
                      try clear c4b0
                      try clear c4b1
                      try clear p6
                      try clear c10
                      try clear c10b0
                      try clear c10b1
                      try clear c10b2
                      try clear c13
                      try clear c14
                      try clear c14b0
                      try clear c14b1
                      try clear p15
                      try clear q15
                      try clear hx15
                      try clear qi15
                      try clear hf15
                      try clear c18
                      try clear c20
                      try clear c20b0
                      try clear c20b1
                      try clear c22
                      try clear c22b0
                      try clear c23
                      try clear c23b0
                      try clear c24
                      try clear c24b0
                      try clear c24b1
                      try clear p24
                      try clear q24
                      try clear hx24
                      try clear q27
                      try clear hcz11_0
                      try clear hcz11_1
                      try clear hcz11_2
                      try clear hcz11_3
                      try clear hcz11_4
                      try clear hcz12_0
                      try clear hcz12_1
                      try clear hcz12_2
                      try clear hcz12_3
                      try clear hcz12_4
                      try clear hcz28_0
                      try clear hcz28_1
                      try clear hcz28_2
                      try clear hcz28_3
                      try clear hcz28_4
                      try clear hcz7_0
                      try clear hcz7_1
                      try clear hcz7_2
                      try clear hcz7_3
                      try clear hcz7_4
                      try clear hfz11_0
                      try clear hfz11_1
                      try clear hfz11_2
                      try clear hfz11_3
                      try clear hfz11_4
                      try clear hfz12_0
                      try clear hfz12_1
                      try clear hfz12_2
                      try clear hfz12_3
                      try clear hfz12_4
                      try clear hfz28_0
                      try clear hfz28_1
                      try clear hfz28_2
                      try clear hfz28_3
                      try clear hfz28_4
                      try clear hfz7_0
                      try clear hfz7_1
                      try clear hfz7_2
                      try clear hfz7_3
                      try clear hfz7_4
                      try clear hx15_0
                      try clear hx249_0
                      try clear p1
                      try clear p15
                      try clear p2
                      try clear p249
                      try clear q1
                      try clear q15
                      try clear q249
                      try clear q27
                      obtain ⟨x5_3, x6_3, x44_3, rfl, HA, HK3, HO_5, HO_6, HO_42, BK241, HB⟩ := hrel
                      have hl5_3 := (Kd.R_reads' HO_5.out).1
                      rw [hl5_3] at HO_5
                      (try simp only [hl5_3])
                      (try simp only [hl5_3] at BK241)
                      (try simp only [hl5_3] at HO_6)
                      (try simp only [hl5_3] at HO_42)
                      cases gk with
                      | zero => exact absurd HA.out (by simp [impl_reached.l1])
                      | succ k3 =>
                       have H := HA.out
                       clear HA
                       simp only [impl_reached.l1] at H
                       by_cases c31 : x44_3 < (t253.length : Int)
                       · rw [if_pos c31] at H
                         have c31b0 : decide (x44_3 < (t253.length : Int)) = true := decide_eq_true c31
                         clear c31
                         by_cases c32 : 0 ≤ x44_3
                         · rw [if_pos c32] at H
                           have c32b0 : decide (0 ≤ x44_3) = true := decide_eq_true c32
                           clear c32
                           by_cases c33 : x44_3 < (t253.length : Int)
                           · rw [if_pos c33] at H
                             have c33b0 : decide (x44_3 < (t253.length : Int)) = true := decide_eq_true c33
                             clear c33
                             by_cases c34 : 0 ≤ (rd t253 x44_3)
                             · rw [if_pos c34] at H
                               have c34b0 : decide (0 ≤ (rd t253 x44_3)) = true := decide_eq_true c34
                               clear c34
                               by_cases c35 : (rd t253 x44_3) < (x5_3.length : Int)
                               · rw [if_pos c35] at H
                                 have c35b0 : decide ((rd t253 x44_3) < (x5_3.length : Int)) = true := decide_eq_true c35
                                 clear c35
                                 obtain ⟨bq36, hbq36⟩ : ∃ b_ : Bool, b_ = (rdOf false x5_3 (rd t253 x44_3)) := ⟨_, rfl⟩
                                 replace H : (if (bq36 = true) then (impl_reached.l1 k3 a1 x5_3 x6_3 t253 (t253.length : Int) (wrap64 (x44_3 + 1)) a0_0 a0_1 l0_2 a0_3 l0_4) else (if (rd t253 x44_3) = a1 then (impl_reached.l1 k3 a1 x5_3 x6_3 t253 (t253.length : Int) (wrap64 (x44_3 + 1)) a0_0 a0_1 l0_2 a0_3 l0_4) else (if x6_3.length < 17592186044416 then (impl_reached.l1 k3 a1 (x5_3.set ((rd t253 x44_3) : Int).toNat true) (x6_3 ++ [rd t253 x44_3]) t253 (t253.length : Int) (wrap64 (x44_3 + 1)) a0_0 a0_1 l0_2 a0_3 l0_4) else (none)))) = some r := by rw [← hbq36] at H; exact H
                                 have Nbq36 := Aside0.mk hbq36
                                 clear hbq36
                                 by_cases c37 : (bq36 = true)
                                 · subst c37
                                   have H1 : (impl_reached.l1 k3 a1 x5_3 x6_3 t253 (t253.length : Int) (wrap64 (x44_3 + 1)) a0_0 a0_1 l0_2 a0_3 l0_4) = some r := by rw [if_pos rfl] at H; exact H
                                   clear H
                                   have H := H1
                                   clear H1
                                   have H' := Aside0.mk H
                                   clear H
                                   have p256 : 0 ≤ (x44_3 : Int) := of_decide_eq_true az
                                   have q256 : x44_3 < (t253.length : Int) := of_decide_eq_true az
                                   obtain ⟨ad256, e256, hx256_0⟩ := Kd.at_int (Kd.R_reads' HO_42.out).2.2 x44_3 p256 q256
                                   cases e256
                                   replace p256 := eq_true p256
                                   replace q256 := eq_true q256
                                   have p257 : 0 ≤ ((rd t253 x44_3) : Int) := of_decide_eq_true az
                                   have q257 : (rd t253 x44_3) < (x5_3.length : Int) := of_decide_eq_true az
                                   obtain ⟨ad257, e257, hx257_0⟩ := Kd.at_bool (Kd.R_reads' HO_5.out).2.2 (rd t253 x44_3) p257 q257
                                   (try rw [← Nbq36.out] at hx257_0)
                                   obtain rfl : (⟨go15, 0, none⟩ : Addr) = ad257 := (by injection e257)
                                   (first | simp only [add_plain] at hx257_0 | simp only [add_at] at hx257_0 | simp only [Addr.add, Nat.zero_add] at hx257_0 | skip)
                                   replace p257 := eq_true p257
                                   replace q257 := eq_true q257
                                   go_wp2
                                   (try simp only [← hl5_3])
                                   go_roundg k3
                                   case measure => have := HJ4.out; have := HK2.out; have := HK3.out; omega
                                   case rel => exact ⟨(x5_3), (x6_3), (wrap64 (x44_3 + 1)), sz_, H', ⟨by have := HJ4.out; have := HK2.out; have := HK3.out; omega⟩, ⟨by (try simp only [hl5_2]); (try simp only [hl5_3]); (with_reducible repeat (first | apply Kd.R_alloc | apply Kd.R_drewN | apply Kd.R_drew)); exact HO_5.out⟩, ⟨by (try simp only [hl5_2]); (try simp only [hl5_3]); (with_reducible repeat (first | apply Kd.R_alloc | apply Kd.R_drewN | apply Kd.R_drew)); exact HO_6.out⟩, ⟨by (try simp only [hl5_2]); (try simp only [hl5_3]); (with_reducible repeat (first | apply Kd.R_alloc | apply Kd.R_drewN | apply Kd.R_drew)); exact HO_42.out⟩, ⟨by (try simp only [hl5_2]); (try simp only [hl5_3]); (with_reducible repeat (first | refine blk_drewN ?_ _ | refine blk_drew ?_ | refine blk_alloc ?_ _)); exact BK241.out⟩, ⟨ bz⟩⟩
                                 · replace c37 := Bool.eq_false_iff.mpr c37
                                   subst c37
                                   have H1 : (if (rd t253 x44_3) = a1 then (impl_reached.l1 k3 a1 x5_3 x6_3 t253 (t253.length : Int) (wrap64 (x44_3 + 1)) a0_0 a0_1 l0_2 a0_3 l0_4) else (if x6_3.length < 17592186044416 then (impl_reached.l1 k3 a1 (x5_3.set ((rd t253 x44_3) : Int).toNat true) (x6_3 ++ [rd t253 x44_3]) t253 (t253.length : Int) (wrap64 (x44_3 + 1)) a0_0 a0_1 l0_2 a0_3 l0_4) else (none))) = some r := by rw [if_neg (show ¬ (false = true) by decide)] at H; exact H
                                   clear H
                                   have H := H1
                                   clear H1
                                   by_cases c38 : (rd t253 x44_3) = a1
                                   · rw [if_pos c38] at H
                                     have c38b0 : ((rd t253 x44_3) == a1) = true := beq_iff_eq.mpr c38
                                     have c38b1 : ((rd t253 x44_3) != a1) = false := bne_eq_false_iff_eq.mpr c38
                                     clear c38
                                     have H' := Aside0.mk H
                                     clear H
                                     have p256 : 0 ≤ (x44_3 : Int) := of_decide_eq_true az
                                     have q256 : x44_3 < (t253.length : Int) := of_decide_eq_true az
                                     obtain ⟨ad256, e256, hx256_0⟩ := Kd.at_int (Kd.R_reads' HO_42.out).2.2 x44_3 p256 q256
                                     cases e256
                                     replace p256 := eq_true p256
                                     replace q256 := eq_true q256
                                     have p257 : 0 ≤ ((rd t253 x44_3) : Int) := of_decide_eq_true az
                                     have q257 : (rd t253 x44_3) < (x5_3.length : Int) := of_decide_eq_true az
                                     obtain ⟨ad257, e257, hx257_0⟩ := Kd.at_bool (Kd.R_reads' HO_5.out).2.2 (rd t253 x44_3) p257 q257
                                     (try rw [← Nbq36.out] at hx257_0)
                                     obtain rfl : (⟨go15, 0, none⟩ : Addr) = ad257 := (by injection e257)
                                     (first | simp only [add_plain] at hx257_0 | simp only [add_at] at hx257_0 | simp only [Addr.add, Nat.zero_add] at hx257_0 | skip)
                                     replace p257 := eq_true p257
                                     replace q257 := eq_true q257
                                     go_wp2
                                     (try simp only [← hl5_3])
                                     go_roundg k3
                                     case measure => have := HJ4.out; have := HK2.out; have := HK3.out; omega
                                     case rel => exact ⟨(x5_3), (x6_3), (wrap64 (x44_3 + 1)), sz_, H', ⟨by have := HJ4.out; have := HK2.out; have := HK3.out; omega⟩, ⟨by (try simp only [hl5_2]); (try simp only [hl5_3]); (with_reducible repeat (first | apply Kd.R_alloc | apply Kd.R_drewN | apply Kd.R_drew)); exact HO_5.out⟩, ⟨by (try simp only [hl5_2]); (try simp only [hl5_3]); (with_reducible repeat (first | apply Kd.R_alloc | apply Kd.R_drewN | apply Kd.R_drew)); exact HO_6.out⟩, ⟨by (try simp only [hl5_2]); (try simp only [hl5_3]); (with_reducible repeat (first | apply Kd.R_alloc | apply Kd.R_drewN | apply Kd.R_drew)); exact HO_42.out⟩, ⟨by (try simp only [hl5_2]); (try simp only [hl5_3]); (with_reducible repeat (first | refine blk_drewN ?_ _ | refine blk_drew ?_ | refine blk_alloc ?_ _)); exact BK241.out⟩, ⟨ bz⟩⟩
                                   · rw [if_neg c38] at H
                                     have c38b0 : ((rd t253 x44_3) == a1) = false := beq_eq_false_iff_ne.mpr c38
                                     have c38b1 : ((rd t253 x44_3) != a1) = true := bne_iff_ne.mpr c38
                                     obtain ⟨y258, hy258⟩ : ∃ y_ : List Bool, y_ = (x5_3.set ((rd t253 x44_3) : Int).toNat true) := ⟨_, rfl⟩
                                     replace H : (if x6_3.length < 17592186044416 then (impl_reached.l1 k3 a1 y258 (x6_3 ++ [rd t253 x44_3]) t253 (t253.length : Int) (wrap64 (x44_3 + 1)) a0_0 a0_1 l0_2 a0_3 l0_4) else (none)) = some r := by first | (rw [hy258]; with_reducible exact H) | (have H2_ := (Option.bind_some _ _).symm.trans H; rw [hy258]; with_reducible exact H2_) | (have H2_ := (Option.bind_some _ _).symm.trans H; with_reducible exact H2_) | with_reducible exact H | (rw [hy258]; exact H) | exact H
                                     have Ny258 := Aside0.mk hy258
                                     clear hy258
                                     by_cases c40 : x6_3.length < 17592186044416
                                     · rw [if_pos c40] at H
                                       have LMc40 := Aside0.mk c40
                                       clear c40
                                       obtain ⟨y259, hy259⟩ : ∃ y_ : List Int, y_ = (x6_3 ++ [rd t253 x44_3]) := ⟨_, rfl⟩
                                       replace H : (impl_reached.l1 k3 a1 y258 y259 t253 (t253.length : Int) (wrap64 (x44_3 + 1)) a0_0 a0_1 l0_2 a0_3 l0_4) = some r := by first | (rw [hy259]; with_reducible exact H) | (have H2_ := (Option.bind_some _ _).symm.trans H; rw [hy259]; with_reducible exact H2_) | (have H2_ := (Option.bind_some _ _).symm.trans H; with_reducible exact H2_) | with_reducible exact H | (rw [hy259]; exact H) | exact H
                                       have Ny259 := Aside0.mk hy259
                                       clear hy259
                                       have H' := Aside0.mk H
                                       clear H
                                       have p256 : 0 ≤ (x44_3 : Int) := of_decide_eq_true az
                                       have q256 : x44_3 < (t253.length : Int) := of_decide_eq_true az
                                       obtain ⟨ad256, e256, hx256_0⟩ := Kd.at_int (Kd.R_reads' HO_42.out).2.2 x44_3 p256 q256
                                       cases e256
                                       replace p256 := eq_true p256
                                       replace q256 := eq_true q256
                                       have p257 : 0 ≤ ((rd t253 x44_3) : Int) := of_decide_eq_true az
                                       have q257 : (rd t253 x44_3) < (x5_3.length : Int) := of_decide_eq_true az
                                       obtain ⟨ad257, e257, hx257_0⟩ := Kd.at_bool (Kd.R_reads' HO_5.out).2.2 (rd t253 x44_3) p257 q257
                                       (try rw [← Nbq36.out] at hx257_0)
                                       obtain rfl : (⟨go15, 0, none⟩ : Addr) = ad257 := (by injection e257)
                                       (first | simp only [add_plain] at hx257_0 | simp only [add_at] at hx257_0 | simp only [Addr.add, Nat.zero_add] at hx257_0 | skip)
                                       replace p257 := eq_true p257
                                       replace q257 := eq_true q257
                                       have p39 : 0 ≤ ((rd t253 x44_3) : Int) := of_decide_eq_true az
                                       have q39 : ((rd t253 x44_3) : Int) < ((x5_3.length : Int) : Int) := of_decide_eq_true az
                                       obtain ⟨hx39_0, hf39_0⟩ := Kd.R_celln false HO_5.out ((rd t253 x44_3) : Int) p39 q39
                                       replace p39 := eq_true p39
                                       replace q39 := eq_true q39
                                       have HP41 := Kd.R_putg HO_5.out ((rd t253 x44_3) : Int) true
                                       go_wp2_with (first | ((with_reducible refine gate_store (t := 4) (p := 60) rfl ?_); refine store_event (t := 4) (p := 60) (v := ?vo_w42) (w1 := (wr.setCell ⟨go15, ((rd t253 x44_3) : Int).toNat, none⟩ (.bool true))) ?hg ?ho ?hn ?hr ?_; (case ho => rfl); (case hg => rfl); (case hn => rfl); (case hr => first | (go_simp; done) | (go_simp; rfl)); intro w42 hw; have hg : wr.grownBy w42 (some go15) := (by rw [hw]; exact HP41.2); have hp_ : Kd.R Kd.bool 4 w42 w.heap.size (fun _ => True) (.slice (some ⟨go15, 0, none⟩) x5_3.length co15) y258 := (by rw [hw, Ny258.out]; exact HP41.1); clear HP41; have n0_ := Aside0.mk (hp_); have n1_ := Aside0.mk (Kd.R_over' (v := (.slice (some ⟨go15, 0, none⟩) x5_3.length co15)) (rz HO_6.out) (Kd.R_typed HO_5.out) (by decide) hg); have n2_ := Aside0.mk (Kd.R_over' (v := (.slice (some ⟨go15, 0, none⟩) x5_3.length co15)) (rz HO_42.out) (Kd.R_typed HO_5.out) (by decide) hg); have n3_ := Aside0.mk (blk_grown (g := gb241) (o := .cells #[.string a0_0, .int .i64 a0_1, .slice A0_2 l0_2.length c0_2, .int .i64 a0_3, .slice A0_4 l0_4.length c0_4] 30 (0, 0)) kz hg (Kd.R_ne HO_5.out BK241.out (by decide))); have n4_ := Aside0.mk ((by rw [hw]; exact below_set (HB.out) GB15.out : Below w.heap.size w w42)); clear HO_5; clear HO_6; clear HO_42; clear BK241; clear HB; have HO_5 := n0_; have HO_6 := n1_; have HO_42 := n2_; have BK241 := n3_; have HB := n4_; clear n0_ n1_ n2_ n3_ n4_; clear hg hw hp_) | ((with_reducible refine gate_builtin (b := .append) (xs := #[.tmp 61, .tmp 63]) rfl ?_); at_builtin; refine Kd.R_append (Kd.int .i64) (w0 := w) w.heap.size rfl (.tmp 61) (.tmp 63) 22 2 (.int .i64 0) 8 rfl Try.underlying22 info2 rfl (by decide) (by omega) u6 x6_3 (rd t253 x44_3) [.int .i64 (rd t253 x44_3)] (fun k_ => some k_ ≠ (.slice (some ad256) t253.length co30 : Value).ownBlock) (fun _ => False) rfl rfl ?aP (fun _ hk => hk.elim) ?aF ?aO ?aB ?aS ?aL ?_; (case aP => exact rfl); (case aB => exact bz); (case aF => exact (fun k_ hk => Kd.fresh' (Kd.R_lt (rz HO_42.out)) k_ hk)); (case aO => exact (rz HO_6.out)); (case aS => exact (below_size bz)); (case aL => have := LMc40.out; omega); intro v260 w43 ho hb hg hat; rw [← Ny259.out] at ho; have n0_ := Aside0.mk (Kd.R_over' (rz HO_5.out) (Kd.R_typed (rz HO_6.out)) (by decide) hg); have n1_ := Aside0.mk (Kd.R_after (ok := (fun _ => True)) (by (with_reducible repeat (first | apply Kd.R_alloc | apply Kd.R_drewN | apply Kd.R_drew)); exact Kd.R_mono HO_42.out (fun _ hk => ⟨trivial, hk⟩)) hg hat); have n2_ := Aside0.mk (blk_grown (g := gb241) (o := .cells #[.string a0_0, .int .i64 a0_1, .slice A0_2 l0_2.length c0_2, .int .i64 a0_3, .slice A0_4 l0_4.length c0_4] 30 (0, 0)) kz hg (Kd.R_ne HO_6.out BK241.out (by decide))); have n3_ := Aside0.mk (hb); have n4_ := Aside0.mk (ho); clear HO_5; clear HO_42; clear BK241; clear HB; clear HO_6; have HO_5 := n0_; have HO_42 := n1_; have BK241 := n2_; have HB := n3_; have HO261 := n4_; clear n0_ n1_ n2_ n3_ n4_; clear ho hb hg hat))
                                       (try simp only [← hl5_3])
                                       go_roundg k3
                                       case measure => have := HJ4.out; have := HK2.out; have := HK3.out; omega
                                       case rel => exact ⟨(y258), (y259), (wrap64 (x44_3 + 1)), sz_, H', ⟨by have := HJ4.out; have := HK2.out; have := HK3.out; omega⟩, ⟨by (try simp only [hl5_2]); (try simp only [hl5_3]); (with_reducible repeat (first | apply Kd.R_alloc | apply Kd.R_drewN | apply Kd.R_drew)); exact HO_5.out⟩, ⟨by (try simp only [hl5_2]); (try simp only [hl5_3]); (with_reducible repeat (first | apply Kd.R_alloc | apply Kd.R_drewN | apply Kd.R_drew)); exact HO261.out⟩, ⟨by (try simp only [hl5_2]); (try simp only [hl5_3]); (with_reducible repeat (first | apply Kd.R_alloc | apply Kd.R_drewN | apply Kd.R_drew)); exact Kd.R_mono HO_42.out (fun _ hk => hk.2)⟩, ⟨by (try simp only [hl5_2]); (try simp only [hl5_3]); (with_reducible repeat (first | refine blk_drewN ?_ _ | refine blk_drew ?_ | refine blk_alloc ?_ _)); exact BK241.out⟩, ⟨ bz⟩⟩
                                     · rw [if_neg c40] at H
                                       exact absurd H (by simp)
                               · rw [if_neg c35] at H
                                 exact absurd H (by simp)
                             · rw [if_neg c34] at H
                               exact absurd H (by simp)
                           · rw [if_neg c33] at H
                             exact absurd H (by simp)
                         · rw [if_neg c32] at H
                           exact absurd H (by simp)
                       · rw [if_neg c31] at H
                         have c31b0 : decide (x44_3 < (t253.length : Int)) = false := decide_eq_false c31
                         clear c31
                         have H' := Aside0.mk H
                         clear H
                         go_wp2
                         (try simp only [← hl5_2, ← hl5_3])
                         go_roundg k3
                         case measure => have := HJ4.out; have := HK2.out; have := HK3.out; omega
                         case rel => exact ⟨(x5_3), (x6_3), H', ⟨by have := HJ4.out; have := HK2.out; have := HK3.out; omega⟩, ⟨by (try simp only [hl5_2]); (try simp only [hl5_3]); (with_reducible repeat (first | apply Kd.R_alloc | apply Kd.R_drewN | apply Kd.R_drew)); exact HO_5.out⟩, ⟨by (try simp only [hl5_2]); (try simp only [hl5_3]); (with_reducible repeat (first | apply Kd.R_alloc | apply Kd.R_drewN | apply Kd.R_drew)); exact Kd.R_mono HO_6.out (fun _ hk => trivial)⟩, ⟨by (try simp only [hl5_2]); (try simp only [hl5_3]); (with_reducible repeat (first | refine blk_drewN ?_ _ | refine blk_drew ?_ | refine blk_alloc ?_ _)); exact BK241.out⟩, ⟨ bz⟩⟩
                   · rw [if_neg c24] at H
                     exact absurd H (by simp)
                 · rw [if_neg c23] at H
                   exact absurd H (by simp)
               · rw [if_neg c22] at H
                 exact absurd H (by simp)
             · rw [if_neg c20] at H
               have c20b0 : decide (0 < (x6_2.length : Int)) = false := decide_eq_false c20
               have c20b1 : decide (0 < x6_2.length) = false := decide_eq_false (by omega)
               clear c20
               obtain rfl := Option.some.inj H
               obtain ⟨Ao44, co44, eo44⟩ := Kd.R_slice HO_6.out
               subst eo44
               go_wp2
               go_ret
               exact ⟨_, by first | rfl | (simp [errW_none, errW_some] <;> rfl) | (simp [*, errW_none, errW_some] <;> rfl), by (with_reducible repeat (first | apply Kd.R_alloc | apply Kd.R_drewN | apply Kd.R_drew)); exact HO_5.out, bz⟩
         · rw [if_neg c14] at H
           exact absurd H (by simp)
   · rw [if_neg c4] at H
     exact absurd H (by simp)
 · rw [if_neg c3] at H
   exact absurd H (by simp)

set_option linter.unusedVariables false
set_option linter.unusedSimpArgs false

mutual
def impl_PrevBlocks.l0 : Nat → Int → List Int → Int → Int → ByteArray → Int → List Int → Int → List (S62) → Option (List Int)
 | 0, _, _, _, _, _, _, _, _, _ => none
 | k + 1, x1, x5, x11, x12, x397000, x397001, x397002, x397003, x397004 => if x12 < x11 then ((impl_NextBlocks.f x397000 x397001 x397002 x397003 x397004 x12).bind fun t397 => (impl_PrevBlocks.l1 k x1 x5 x12 x11 x12 t397 (t397.length : Int) 0 x397000 x397001 x397002 x397003 x397004)) else (some x5)
def impl_PrevBlocks.l1 : Nat → Int → List Int → Int → Int → Int → List Int → Int → Int → ByteArray → Int → List Int → Int → List (S62) → Option (List Int)
 | 0, _, _, _, _, _, _, _, _, _, _, _, _, _ => none
 | k + 1, x1, x5, x6, x11, x12, x17, x18, x19, x397000, x397001, x397002, x397003, x397004 => if x19 < x18 then (if 0 ≤ x19 then (if x19 < (x17.length : Int) then (if (rd x17 x19) = x1 then (if x5.length < 17592186044416 then (impl_PrevBlocks.l1 k x1 (x5 ++ [x6]) x6 x11 x12 x17 x18 (wrap64 (x19 + 1)) x397000 x397001 x397002 x397003 x397004) else (none)) else (impl_PrevBlocks.l1 k x1 x5 x6 x11 x12 x17 x18 (wrap64 (x19 + 1)) x397000 x397001 x397002 x397003 x397004)) else (none)) else (none)) else (impl_PrevBlocks.l0 k x1 x5 x11 (wrap64 (x12 + 1)) x397000 x397001 x397002 x397003 x397004)
end
def impl_PrevBlocks.f (k : Nat) (a0_0 : ByteArray) (a0_1 : Int) (l0_2 : List Int) (a0_3 : Int) (l0_4 : List (S62)) (a1 : Int) : Option (List Int) := impl_PrevBlocks.l0 k a1 ([] : List Int) (l0_4.length : Int) 0 a0_0 a0_1 l0_2 a0_3 l0_4
set_option maxHeartbeats 8000000 in
set_option maxRecDepth 100000 in
theorem impl_PrevBlocks.calls (k : Nat) (a0_0 : ByteArray) (a0_1 : Int) (A0_2 : Option Addr) (c0_2 : Nat) (l0_2 : List Int) (a0_3 : Int) (A0_4 : Option Addr) (c0_4 : Nat) (l0_4 : List (S62)) (a1 : Int) (r : List Int) (w : World) (hr0_2 : Kd.C (Kd.int .i64) w A0_2 l0_2.length l0_2) (hc0_2 : l0_2.length ≤ c0_2) (hr0_4 : Kd.C k62 w A0_4 l0_4.length l0_4) (hc0_4 : l0_4.length ≤ c0_4) (h : impl_PrevBlocks.f k a0_0 a0_1 l0_2 a0_3 l0_4 a1 = some r) :
 Calls Try.prog 24 #[.agg #[.string a0_0, .int .i64 a0_1, .slice A0_2 l0_2.length c0_2, .int .i64 a0_3, .slice A0_4 l0_4.length c0_4], .int .i64 a1] w fun e w' => ∃ v0_ : Value, e = .returned (v0_) ∧ Kd.R (Kd.int .i64) 2 w' w.heap.size (fun _ => True) v0_ r ∧ Below w.heap.size w w' := by
 have hu30 := Try.underlying30
 have HR0_2 := Aside0.mk hr0_2
 have HC0_2 := Aside0.mk hc0_2
 clear hr0_2 hc0_2
 have HR0_4 := Aside0.mk hr0_4
 have HC0_4 := Aside0.mk hc0_4
 clear hr0_4 hc0_4
 have HB := Aside0.mk (Below.refl w.heap.size w)
 have H : (impl_PrevBlocks.l0 k a1 ([] : List Int) (l0_4.length : Int) 0 a0_0 a0_1 l0_2 a0_3 l0_4) = some r := h
 clear h
 have H' := Aside0.mk H
 clear H
 go_enter Try.func24, Try.ntmps24
 go_wp2_with (first | ((with_reducible refine gate_dst (N := 2) rfl ?_); refine box_event ?hg (N := 2) ?hd (cs := #[.string a0_0, .int .i64 a0_1, .slice A0_2 l0_2.length c0_2, .int .i64 a0_3, .slice A0_4 l0_4.length c0_4]) (t := 30) ?hr ?_; (case hd => rfl); (case hg => rfl); (case hr => first | (go_simp; done) | (go_simp; rfl)); intro gb396 hg w3 hbox hb; have n0_ := Aside0.mk (below_step bz hb); have n1_ := Aside0.mk (hbox); have n2_ := Aside0.mk ((by rw [hg]; exact (below_size bz) : w.heap.size ≤ gb396)); have n3_ := Aside0.mk ((by rw [hg]; exact (below_size bz) : w.heap.size ≤ gb396)); clear HB; have HB := n0_; have BK396 := n1_; have GW396 := n2_; have GE396 := n3_; clear n0_ n1_ n2_ n3_; clear hb hbox hg; have hcz4_0 : w3.cell? ⟨gb396, 0, none⟩ = some (.string a0_0) := (blk_cell BK396.out 0).trans rfl; have hcz4_1 : w3.cell? ⟨gb396, 1, none⟩ = some (.int .i64 a0_1) := (blk_cell BK396.out 1).trans rfl; have hcz4_2 : w3.cell? ⟨gb396, 2, none⟩ = some (.slice A0_2 l0_2.length c0_2) := (blk_cell BK396.out 2).trans rfl; have hcz4_3 : w3.cell? ⟨gb396, 3, none⟩ = some (.int .i64 a0_3) := (blk_cell BK396.out 3).trans rfl; have hcz4_4 : w3.cell? ⟨gb396, 4, none⟩ = some (.slice A0_4 l0_4.length c0_4) := (blk_cell BK396.out 4).trans rfl; have hfz4_0 := blk_frozen BK396.out 0; have hfz4_1 := blk_frozen BK396.out 1; have hfz4_2 := blk_frozen BK396.out 2; have hfz4_3 := blk_frozen BK396.out 3; have hfz4_4 := blk_frozen BK396.out 4))
 go_loopg [5, 12] k (fun kq v5 v12 w' => ∃ (x5_1 : List Int) (x12_1 : Int), v12 = .int .i64 x12_1 ∧ Aside0 (impl_PrevBlocks.l0 kq a1 x5_1 (l0_4.length : Int) x12_1 a0_0 a0_1 l0_2 a0_3 l0_4 = some r) ∧ Aside0 (kq ≤ k) ∧ Aside0 (Kd.R (Kd.int .i64) 2 w' w.heap.size (fun _ => True) v5 x5_1) ∧ Aside0 (w'.heap[gb396]? = some (.cells #[.string a0_0, .int .i64 a0_1, (.slice A0_2 l0_2.length c0_2), .int .i64 a0_3, (.slice A0_4 l0_4.length c0_4)] 30 (0, 0))) ∧ Aside0 (Below w.heap.size w w'))
 case atStart => exact ⟨(([] : List Int)), (0), sz_, H', ⟨Nat.le_refl _⟩, ⟨by first | exact Kd.R_nil _ _ _ _ _ | exact Kd.N_nil _ _ _ _ _ | exact Kd.V_nil _ _ _ _ _ | exact Kd.Q_nil _ _ _ _ _ | exact Kd.S_nil _ _ _ _ _⟩, ⟨ kz⟩, ⟨ bz⟩⟩
 case round =>
  clear H'
  try clear c2
  try clear p2
  try clear hcz4_0
  try clear hcz4_1
  try clear hcz4_2
  try clear hcz4_3
  try clear hcz4_4
  try clear hfz4_0
  try clear hfz4_1
  try clear hfz4_2
  try clear hfz4_3
  try clear hfz4_4
  obtain ⟨x5_1, x12_1, rfl, HA, HK1, HO_5, BK396, HB⟩ := hrel
  cases gk with
  | zero => exact absurd HA.out (by simp [impl_PrevBlocks.l0])
  | succ k1 =>
   have H := HA.out
   clear HA
   simp only [impl_PrevBlocks.l0] at H
   by_cases c5 : x12_1 < (l0_4.length : Int)
   · rw [if_pos c5] at H
     have c5b0 : decide (x12_1 < (l0_4.length : Int)) = true := decide_eq_true c5
     clear c5
     replace H := Option.bind_eq_some_iff.mp H
     obtain ⟨t397, A60, H⟩ := H
     replace H : (impl_PrevBlocks.l1 k1 a1 x5_1 x12_1 (l0_4.length : Int) x12_1 t397 (t397.length : Int) 0 a0_0 a0_1 l0_2 a0_3 l0_4) = some r := H
     have A6 := Aside0.mk A60
     clear A60
     have H' := Aside0.mk H
     clear H
     have hcz7_0 : wr.cell? ⟨gb396, 0, none⟩ = some (.string a0_0) := (blk_cell BK396.out 0).trans rfl
     have hcz7_1 : wr.cell? ⟨gb396, 1, none⟩ = some (.int .i64 a0_1) := (blk_cell BK396.out 1).trans rfl
     have hcz7_2 : wr.cell? ⟨gb396, 2, none⟩ = some (.slice A0_2 l0_2.length c0_2) := (blk_cell BK396.out 2).trans rfl
     have hcz7_3 : wr.cell? ⟨gb396, 3, none⟩ = some (.int .i64 a0_3) := (blk_cell BK396.out 3).trans rfl
     have hcz7_4 : wr.cell? ⟨gb396, 4, none⟩ = some (.slice A0_4 l0_4.length c0_4) := (blk_cell BK396.out 4).trans rfl
     have hfz7_0 := blk_frozen BK396.out 0
     have hfz7_1 := blk_frozen BK396.out 1
     have hfz7_2 := blk_frozen BK396.out 2
     have hfz7_3 := blk_frozen BK396.out 3
     have hfz7_4 := blk_frozen BK396.out 4
     go_wp2_with (first | ((with_reducible refine gate_callee (f := 18) rfl ?_); refine goesL_ (some 17) rfl rfl Try.func18 (by kernel_rfl) rfl #[.agg #[.string a0_0, .int .i64 a0_1, .slice A0_2 l0_2.length c0_2, .int .i64 a0_3, .slice A0_4 l0_4.length c0_4], .int .i64 x12_1] rfl lz ?_; (with_reducible refine (impl_NextBlocks.calls a0_0 a0_1 _ _ l0_2 a0_3 _ _ l0_4 x12_1 t397 _ ?side1 ?side2 ?side3 ?side4 A6.out).mono ?_); (case side1 => exact cz HR0_2.out); (case side2 => exact HC0_2.out); (case side3 => exact cz HR0_4.out); (case side4 => exact HC0_4.out); rintro e w8 ⟨v398, rfl, ho0, hb⟩; refine ⟨_, rfl, ?_⟩; have n0_ := Aside0.mk (Kd.R_elder' (rz HO_5.out) (Kd.R_base ho0) hb); have n1_ := Aside0.mk (Kd.R_lower (Kd.R_new' ho0 (Kd.R_lt (rz HO_5.out))) (below_size bz)); have n2_ := Aside0.mk (blk_below (g := gb396) (o := .cells #[.string a0_0, .int .i64 a0_1, .slice A0_2 l0_2.length c0_2, .int .i64 a0_3, .slice A0_4 l0_4.length c0_4] 30 (0, 0)) kz hb); have n3_ := Aside0.mk (below_step bz hb); clear HO_5; clear BK396; clear HB; have HO_5 := n0_; have HO399 := n1_; have BK396 := n2_; have HB := n3_; clear n0_ n1_ n2_ n3_; (try clear hb); (try clear hb2); (try clear hk); (try clear hi); (try clear ho0); obtain ⟨Ao9, co9, eo9⟩ := Kd.R_slice HO399.out; subst eo9))
     go_loopg [5, 19] k1 (fun kq v5 v19 w' => ∃ (x5_2 : List Int) (x19_2 : Int), v19 = .int .i64 x19_2 ∧ Aside0 (impl_PrevBlocks.l1 kq a1 x5_2 x12_1 (l0_4.length : Int) x12_1 t397 (t397.length : Int) x19_2 a0_0 a0_1 l0_2 a0_3 l0_4 = some r) ∧ Aside0 (kq ≤ k1) ∧ Aside0 (Kd.R (Kd.int .i64) 2 w' w.heap.size (fun k_ => some k_ ≠ ((.slice Ao9 t397.length co9) : Value).ownBlock) v5 x5_2) ∧ Aside0 (Kd.R (Kd.int .i64) 2 w' w.heap.size (fun k_ => some k_ ≠ (v5 : Value).ownBlock) (.slice Ao9 t397.length co9) t397) ∧ Aside0 (w'.heap[gb396]? = some (.cells #[.string a0_0, .int .i64 a0_1, (.slice A0_2 l0_2.length c0_2), .int .i64 a0_3, (.slice A0_4 l0_4.length c0_4)] 30 (0, 0))) ∧ Aside0 (Below w.heap.size w w'))
     case atStart => exact ⟨(x5_1), (0), sz_, H', ⟨Nat.le_refl _⟩, ⟨by (with_reducible repeat (first | apply Kd.R_alloc | apply Kd.R_drewN | apply Kd.R_drew)); exact Kd.R_mono HO_5.out (fun _ hk => hk.2)⟩, ⟨by (with_reducible repeat (first | apply Kd.R_alloc | apply Kd.R_drewN | apply Kd.R_drew)); exact Kd.R_mono HO399.out (fun _ hk => hk.2)⟩, ⟨ kz⟩, ⟨ bz⟩⟩
     case round =>
      clear H'
      try clear c1
      try clear c2
      try clear p2
      try clear c5
      try clear c5b0
      try clear hcz4_0
      try clear hcz4_1
      try clear hcz4_2
      try clear hcz4_3
      try clear hcz4_4
      try clear hcz7_0
      try clear hcz7_1
      try clear hcz7_2
      try clear hcz7_3
      try clear hcz7_4
      try clear hfz4_0
      try clear hfz4_1
      try clear hfz4_2
      try clear hfz4_3
      try clear hfz4_4
      try clear hfz7_0
      try clear hfz7_1
      try clear hfz7_2
      try clear hfz7_3
      try clear hfz7_4
      try clear p2
      obtain ⟨x5_2, x19_2, rfl, HA, HK2, HO_5, HO_17, BK396, HB⟩ := hrel
      cases gk with
      | zero => exact absurd HA.out (by simp [impl_PrevBlocks.l1])
      | succ k2 =>
       have H := HA.out
       clear HA
       simp only [impl_PrevBlocks.l1] at H
       by_cases c10 : x19_2 < (t397.length : Int)
       · rw [if_pos c10] at H
         have c10b0 : decide (x19_2 < (t397.length : Int)) = true := decide_eq_true c10
         clear c10
         by_cases c11 : 0 ≤ x19_2
         · rw [if_pos c11] at H
           have c11b0 : decide (0 ≤ x19_2) = true := decide_eq_true c11
           clear c11
           by_cases c12 : x19_2 < (t397.length : Int)
           · rw [if_pos c12] at H
             have c12b0 : decide (x19_2 < (t397.length : Int)) = true := decide_eq_true c12
             clear c12
             by_cases c13 : (rd t397 x19_2) = a1
             · rw [if_pos c13] at H
               have c13b0 : ((rd t397 x19_2) == a1) = true := beq_iff_eq.mpr c13
               have c13b1 : ((rd t397 x19_2) != a1) = false := bne_eq_false_iff_eq.mpr c13
               clear c13
               by_cases c14 : x5_2.length < 17592186044416
               · rw [if_pos c14] at H
                 have LMc14 := Aside0.mk c14
                 clear c14
                 obtain ⟨y401, hy401⟩ : ∃ y_ : List Int, y_ = (x5_2 ++ [x12_1]) := ⟨_, rfl⟩
                 replace H : (impl_PrevBlocks.l1 k2 a1 y401 x12_1 (l0_4.length : Int) x12_1 t397 (t397.length : Int) (wrap64 (x19_2 + 1)) a0_0 a0_1 l0_2 a0_3 l0_4) = some r := by first | (rw [hy401]; with_reducible exact H) | (have H2_ := (Option.bind_some _ _).symm.trans H; rw [hy401]; with_reducible exact H2_) | (have H2_ := (Option.bind_some _ _).symm.trans H; with_reducible exact H2_) | with_reducible exact H | (rw [hy401]; exact H) | exact H
                 have Ny401 := Aside0.mk hy401
                 clear hy401
                 have H' := Aside0.mk H
                 clear H
                 have p400 : 0 ≤ (x19_2 : Int) := of_decide_eq_true az
                 have q400 : x19_2 < (t397.length : Int) := of_decide_eq_true az
                 obtain ⟨ad400, e400, hx400_0⟩ := Kd.at_int (Kd.R_reads' HO_17.out).2.2 x19_2 p400 q400
                 cases e400
                 replace p400 := eq_true p400
                 replace q400 := eq_true q400
                 go_wp2_with (first | ((with_reducible refine gate_builtin (b := .append) (xs := #[.tmp 26, .tmp 28]) rfl ?_); at_builtin; refine Kd.R_append (Kd.int .i64) (w0 := w) w.heap.size rfl (.tmp 26) (.tmp 28) 22 2 (.int .i64 0) 8 rfl Try.underlying22 info2 rfl (by decide) (by omega) u5 x5_2 x12_1 [.int .i64 x12_1] (fun k_ => some k_ ≠ (.slice (some ad400) t397.length co9 : Value).ownBlock) (fun _ => False) rfl rfl ?aP (fun _ hk => hk.elim) ?aF ?aO ?aB ?aS ?aL ?_; (case aP => exact rfl); (case aB => exact bz); (case aF => exact (fun k_ hk => Kd.fresh' (Kd.R_lt (rz HO_17.out)) k_ hk)); (case aO => exact (rz HO_5.out)); (case aS => exact (below_size bz)); (case aL => have := LMc14.out; omega); intro v402 w15 ho hb hg hat; rw [← Ny401.out] at ho; have n0_ := Aside0.mk (Kd.R_after (ok := (fun _ => True)) (by (with_reducible repeat (first | apply Kd.R_alloc | apply Kd.R_drewN | apply Kd.R_drew)); exact Kd.R_mono HO_17.out (fun _ hk => ⟨trivial, hk⟩)) hg hat); have n1_ := Aside0.mk (blk_grown (g := gb396) (o := .cells #[.string a0_0, .int .i64 a0_1, .slice A0_2 l0_2.length c0_2, .int .i64 a0_3, .slice A0_4 l0_4.length c0_4] 30 (0, 0)) kz hg (Kd.R_ne HO_5.out BK396.out (by decide))); have n2_ := Aside0.mk (hb); have n3_ := Aside0.mk (ho); clear HO_17; clear BK396; clear HB; clear HO_5; have HO_17 := n0_; have BK396 := n1_; have HB := n2_; have HO403 := n3_; clear n0_ n1_ n2_ n3_; clear ho hb hg hat))
                 go_roundg k2
                 case measure => have := HK1.out; have := HK2.out; omega
                 case rel => exact ⟨(y401), (wrap64 (x19_2 + 1)), sz_, H', ⟨by have := HK1.out; have := HK2.out; omega⟩, ⟨by (with_reducible repeat (first | apply Kd.R_alloc | apply Kd.R_drewN | apply Kd.R_drew)); exact HO403.out⟩, ⟨by (with_reducible repeat (first | apply Kd.R_alloc | apply Kd.R_drewN | apply Kd.R_drew)); exact Kd.R_mono HO_17.out (fun _ hk => hk.2)⟩, ⟨ kz⟩, ⟨ bz⟩⟩
               · rw [if_neg c14] at H
                 exact absurd H (by simp)
             · rw [if_neg c13] at H
               have c13b0 : ((rd t397 x19_2) == a1) = false := beq_eq_false_iff_ne.mpr c13
               have c13b1 : ((rd t397 x19_2) != a1) = true := bne_iff_ne.mpr c13
               have H' := Aside0.mk H
               clear H
               have p400 : 0 ≤ (x19_2 : Int) := of_decide_eq_true az
               have q400 : x19_2 < (t397.length : Int) := of_decide_eq_true az
               obtain ⟨ad400, e400, hx400_0⟩ := Kd.at_int (Kd.R_reads' HO_17.out).2.2 x19_2 p400 q400
               cases e400
               replace p400 := eq_true p400
               replace q400 := eq_true q400
               go_wp2
               go_roundg k2
               case measure => have := HK1.out; have := HK2.out; omega
               case rel => exact ⟨(x5_2), (wrap64 (x19_2 + 1)), sz_, H', ⟨by have := HK1.out; have := HK2.out; omega⟩, ⟨by (with_reducible repeat (first | apply Kd.R_alloc | apply Kd.R_drewN | apply Kd.R_drew)); exact HO_5.out⟩, ⟨by (with_reducible repeat (first | apply Kd.R_alloc | apply Kd.R_drewN | apply Kd.R_drew)); exact HO_17.out⟩, ⟨ kz⟩, ⟨ bz⟩⟩
           · rw [if_neg c12] at H
             exact absurd H (by simp)
         · rw [if_neg c11] at H
           exact absurd H (by simp)
       · rw [if_neg c10] at H
         have c10b0 : decide (x19_2 < (t397.length : Int)) = false := decide_eq_false c10
         clear c10
         have H' := Aside0.mk H
         clear H
         go_wp2
         go_roundg k2
         case measure => have := HK1.out; have := HK2.out; omega
         case rel => exact ⟨(x5_2), (wrap64 (x12_1 + 1)), sz_, H', ⟨by have := HK1.out; have := HK2.out; omega⟩, ⟨by (with_reducible repeat (first | apply Kd.R_alloc | apply Kd.R_drewN | apply Kd.R_drew)); exact Kd.R_mono HO_5.out (fun _ hk => trivial)⟩, ⟨ kz⟩, ⟨ bz⟩⟩
   · rw [if_neg c5] at H
     have c5b0 : decide (x12_1 < (l0_4.length : Int)) = false := decide_eq_false c5
     clear c5
     obtain rfl := Option.some.inj H
     go_wp2
     go_ret
     exact ⟨_, by first | rfl | (simp [errW_none, errW_some] <;> rfl) | (simp [*, errW_none, errW_some] <;> rfl), by (with_reducible repeat (first | apply Kd.R_alloc | apply Kd.R_drewN | apply Kd.R_drew)); exact HO_5.out, bz⟩

set_option linter.unusedVariables false
set_option linter.unusedSimpArgs false

mutual
def impl_dominance.l0 : Nat → List Bool → List (List Bool) → Int → Int → ByteArray → Int → List Int → Int → List (S62) → Option ((List (List Bool)))
 | 0, _, _, _, _, _, _, _, _, _ => none
 | k + 1, x3, x4, x13, x14, x751000, x751001, x751002, x751003, x751004 => if x14 < x13 then (if 0 ≤ (x751004.length : Int) then (if ((x751004.length : Int) : Int).toNat ≤ 281474976710656 then ((some (List.replicate ((x751004.length : Int) : Int).toNat false : List Bool)).bind fun y754 => (if 0 ≤ x14 then (if x14 < (x3.length : Int) then (if rdOf false x3 x14 = true then ((impl_reached.f k x751000 x751001 x751002 x751003 x751004 x14).bind fun t758 => (impl_dominance.l1 k x3 x4 y754 t758 x13 x14 (x751004.length : Int) 0 x751000 x751001 x751002 x751003 x751004)) else (if x4.length < 5864062014805 then (impl_dominance.l0 k x3 (x4 ++ [y754]) x13 (wrap64 (x14 + 1)) x751000 x751001 x751002 x751003 x751004) else (none))) else (none)) else (none))) else (none)) else (none)) else (some x4)
def impl_dominance.l1 : Nat → List Bool → List (List Bool) → List Bool → List Bool → Int → Int → Int → Int → ByteArray → Int → List Int → Int → List (S62) → Option ((List (List Bool)))
 | 0, _, _, _, _, _, _, _, _, _, _, _, _, _ => none
 | k + 1, x3, x4, x6, x7, x13, x14, x30, x31, x751000, x751001, x751002, x751003, x751004 => if x31 < x30 then (if 0 ≤ x31 then (if x31 < (x3.length : Int) then (if rdOf false x3 x31 = true then (if x31 < (x7.length : Int) then (if x31 < (x6.length : Int) then (impl_dominance.l1 k x3 x4 (x6.set (x31 : Int).toNat (!(rdOf false x7 x31))) x7 x13 x14 x30 (wrap64 (x31 + 1)) x751000 x751001 x751002 x751003 x751004) else (none)) else (none)) else (if x31 < (x6.length : Int) then (impl_dominance.l1 k x3 x4 (x6.set (x31 : Int).toNat false) x7 x13 x14 x30 (wrap64 (x31 + 1)) x751000 x751001 x751002 x751003 x751004) else (none))) else (none)) else (none)) else (if x4.length < 5864062014805 then (impl_dominance.l0 k x3 (x4 ++ [x6]) x13 (wrap64 (x14 + 1)) x751000 x751001 x751002 x751003 x751004) else (none))
end
def impl_dominance.f (k : Nat) (a0_0 : ByteArray) (a0_1 : Int) (l0_2 : List Int) (a0_3 : Int) (l0_4 : List (S62)) : Option ((List (List Bool))) := (impl_reached.f k a0_0 a0_1 l0_2 a0_3 l0_4 (-1)).bind fun t751 => (impl_dominance.l0 k t751 ([] : List (List Bool)) (l0_4.length : Int) 0 a0_0 a0_1 l0_2 a0_3 l0_4)
set_option maxHeartbeats 8000000 in
set_option maxRecDepth 100000 in
theorem impl_dominance.calls (k : Nat) (a0_0 : ByteArray) (a0_1 : Int) (A0_2 : Option Addr) (c0_2 : Nat) (l0_2 : List Int) (a0_3 : Int) (A0_4 : Option Addr) (c0_4 : Nat) (l0_4 : List (S62)) (r : List (List Bool)) (w : World) (hr0_2 : Kd.C (Kd.int .i64) w A0_2 l0_2.length l0_2) (hc0_2 : l0_2.length ≤ c0_2) (hr0_4 : Kd.C k62 w A0_4 l0_4.length l0_4) (hc0_4 : l0_4.length ≤ c0_4) (h : impl_dominance.f k a0_0 a0_1 l0_2 a0_3 l0_4 = some r) :
 Calls Try.prog 60 #[.agg #[.string a0_0, .int .i64 a0_1, .slice A0_2 l0_2.length c0_2, .int .i64 a0_3, .slice A0_4 l0_4.length c0_4]] w fun e w' => ∃ v0_ : Value, e = .returned (v0_) ∧ Kd.S (Kd.slice 4 Kd.bool) 54 w' w.heap.size (fun _ => True) v0_ r ∧ Below w.heap.size w w' := by
 have hu30 := Try.underlying30
 have HR0_2 := Aside0.mk hr0_2
 have HC0_2 := Aside0.mk hc0_2
 clear hr0_2 hc0_2
 have HR0_4 := Aside0.mk hr0_4
 have HC0_4 := Aside0.mk hc0_4
 clear hr0_4 hc0_4
 have HB := Aside0.mk (Below.refl w.heap.size w)
 have H : ((impl_reached.f k a0_0 a0_1 l0_2 a0_3 l0_4 (-1)).bind fun t751 => (impl_dominance.l0 k t751 ([] : List (List Bool)) (l0_4.length : Int) 0 a0_0 a0_1 l0_2 a0_3 l0_4)) = some r := h
 clear h
 replace H := Option.bind_eq_some_iff.mp H
 obtain ⟨t751, A20, H⟩ := H
 replace H : (impl_dominance.l0 k t751 ([] : List (List Bool)) (l0_4.length : Int) 0 a0_0 a0_1 l0_2 a0_3 l0_4) = some r := H
 have A2 := Aside0.mk A20
 clear A20
 have H' := Aside0.mk H
 clear H
 go_enter Try.func60, Try.ntmps60
 go_wp2_with (first | ((with_reducible refine gate_dst (N := 1) rfl ?_); refine box_event ?hg (N := 1) ?hd (cs := #[.string a0_0, .int .i64 a0_1, .slice A0_2 l0_2.length c0_2, .int .i64 a0_3, .slice A0_4 l0_4.length c0_4]) (t := 30) ?hr ?_; (case hd => rfl); (case hg => rfl); (case hr => first | (go_simp; done) | (go_simp; rfl)); intro gb750 hg w3 hbox hb; have n0_ := Aside0.mk (below_step bz hb); have n1_ := Aside0.mk (hbox); have n2_ := Aside0.mk ((by rw [hg]; exact (below_size bz) : w.heap.size ≤ gb750)); have n3_ := Aside0.mk ((by rw [hg]; exact (below_size bz) : w.heap.size ≤ gb750)); clear HB; have HB := n0_; have BK750 := n1_; have GW750 := n2_; have GE750 := n3_; clear n0_ n1_ n2_ n3_; clear hb hbox hg; have hcz4_0 : w3.cell? ⟨gb750, 0, none⟩ = some (.string a0_0) := (blk_cell BK750.out 0).trans rfl; have hcz4_1 : w3.cell? ⟨gb750, 1, none⟩ = some (.int .i64 a0_1) := (blk_cell BK750.out 1).trans rfl; have hcz4_2 : w3.cell? ⟨gb750, 2, none⟩ = some (.slice A0_2 l0_2.length c0_2) := (blk_cell BK750.out 2).trans rfl; have hcz4_3 : w3.cell? ⟨gb750, 3, none⟩ = some (.int .i64 a0_3) := (blk_cell BK750.out 3).trans rfl; have hcz4_4 : w3.cell? ⟨gb750, 4, none⟩ = some (.slice A0_4 l0_4.length c0_4) := (blk_cell BK750.out 4).trans rfl; have hfz4_0 := blk_frozen BK750.out 0; have hfz4_1 := blk_frozen BK750.out 1; have hfz4_2 := blk_frozen BK750.out 2; have hfz4_3 := blk_frozen BK750.out 3; have hfz4_4 := blk_frozen BK750.out 4) | ((with_reducible refine gate_callee (f := 49) rfl ?_); refine goesL_ (some 10) rfl rfl Try.func49 (by kernel_rfl) rfl #[.agg #[.string a0_0, .int .i64 a0_1, .slice A0_2 l0_2.length c0_2, .int .i64 a0_3, .slice A0_4 l0_4.length c0_4], .int .i64 (-1)] rfl lz ?_; (with_reducible refine (impl_reached.calls k a0_0 a0_1 _ _ l0_2 a0_3 _ _ l0_4 (-1) t751 _ ?side1 ?side2 ?side3 ?side4 A2.out).mono ?_); (case side1 => exact cz HR0_2.out); (case side2 => exact HC0_2.out); (case side3 => exact cz HR0_4.out); (case side4 => exact HC0_4.out); rintro e w5 ⟨v752, rfl, ho0, hb⟩; refine ⟨_, rfl, ?_⟩; have n0_ := Aside0.mk (Kd.R_lower ho0 (below_size bz)); have n1_ := Aside0.mk (blk_below (g := gb750) (o := .cells #[.string a0_0, .int .i64 a0_1, .slice A0_2 l0_2.length c0_2, .int .i64 a0_3, .slice A0_4 l0_4.length c0_4] 30 (0, 0)) kz hb); have n2_ := Aside0.mk (below_step bz hb); clear BK750; clear HB; have HO753 := n0_; have BK750 := n1_; have HB := n2_; clear n0_ n1_ n2_; (try clear hb); (try clear hb2); (try clear hk); (try clear hi); (try clear ho0); have hcz6_0 : w5.cell? ⟨gb750, 0, none⟩ = some (.string a0_0) := (blk_cell BK750.out 0).trans rfl; have hcz6_1 : w5.cell? ⟨gb750, 1, none⟩ = some (.int .i64 a0_1) := (blk_cell BK750.out 1).trans rfl; have hcz6_2 : w5.cell? ⟨gb750, 2, none⟩ = some (.slice A0_2 l0_2.length c0_2) := (blk_cell BK750.out 2).trans rfl; have hcz6_3 : w5.cell? ⟨gb750, 3, none⟩ = some (.int .i64 a0_3) := (blk_cell BK750.out 3).trans rfl; have hcz6_4 : w5.cell? ⟨gb750, 4, none⟩ = some (.slice A0_4 l0_4.length c0_4) := (blk_cell BK750.out 4).trans rfl; have hfz6_0 := blk_frozen BK750.out 0; have hfz6_1 := blk_frozen BK750.out 1; have hfz6_2 := blk_frozen BK750.out 2; have hfz6_3 := blk_frozen BK750.out 3; have hfz6_4 := blk_frozen BK750.out 4))
 go_loopg [4, 14] k (fun kq v4 v14 w' => ∃ (x3_1 : List Bool) (x4_1 : List (List Bool)) (x14_1 : Int), v14 = .int .i64 x14_1 ∧ Aside0 (impl_dominance.l0 kq x3_1 x4_1 (l0_4.length : Int) x14_1 a0_0 a0_1 l0_2 a0_3 l0_4 = some r) ∧ Aside0 (kq ≤ k) ∧ Aside0 (Kd.R Kd.bool 4 w' w.heap.size (fun _ => True) v752 x3_1) ∧ Aside0 (Kd.S (Kd.slice 4 Kd.bool) 54 w' w.heap.size (fun k_ => some k_ ≠ (v752 : Value).ownBlock) v4 x4_1) ∧ Aside0 (w'.heap[gb750]? = some (.cells #[.string a0_0, .int .i64 a0_1, (.slice A0_2 l0_2.length c0_2), .int .i64 a0_3, (.slice A0_4 l0_4.length c0_4)] 30 (0, 0))) ∧ Aside0 (Below w.heap.size w w'))
 case atStart => exact ⟨(t751), (([] : List (List Bool))), (0), sz_, H', ⟨Nat.le_refl _⟩, ⟨by (with_reducible repeat (first | apply Kd.R_alloc | apply Kd.R_drewN | apply Kd.R_drew)); exact HO753.out⟩, ⟨by first | exact Kd.S_nil _ _ _ _ _ | exact Kd.N_nil _ _ _ _ _ | exact Kd.V_nil _ _ _ _ _ | exact Kd.Q_nil _ _ _ _ _ | exact Kd.R_nil _ _ _ _ _⟩, ⟨ kz⟩, ⟨ bz⟩⟩
 case round =>
  clear H'
  try clear p2
  try clear c4
  try clear c6
  try clear hcz4_0
  try clear hcz4_1
  try clear hcz4_2
  try clear hcz4_3
  try clear hcz4_4
  try clear hcz6_0
  try clear hcz6_1
  try clear hcz6_2
  try clear hcz6_3
  try clear hcz6_4
  try clear hfz4_0
  try clear hfz4_1
  try clear hfz4_2
  try clear hfz4_3
  try clear hfz4_4
  try clear hfz6_0
  try clear hfz6_1
  try clear hfz6_2
  try clear hfz6_3
  try clear hfz6_4
  obtain ⟨x3_1, x4_1, x14_1, rfl, HA, HK1, HO_3, HO_4, BK750, HB⟩ := hrel
  cases gk with
  | zero => exact absurd HA.out (by simp [impl_dominance.l0])
  | succ k1 =>
   have H := HA.out
   clear HA
   simp only [impl_dominance.l0] at H
   by_cases c7 : x14_1 < (l0_4.length : Int)
   · rw [if_pos c7] at H
     have c7b0 : decide (x14_1 < (l0_4.length : Int)) = true := decide_eq_true c7
     clear c7
     by_cases c8 : 0 ≤ (l0_4.length : Int)
     · rw [if_pos c8] at H
       have c8b0 := eq_true c8
       have c8b1 : decide (0 ≤ (l0_4.length : Int)) = true := decide_eq_true c8
       clear c8
       by_cases c9 : ((l0_4.length : Int) : Int).toNat ≤ 281474976710656
       · rw [if_pos c9] at H
         have c9b0 := eq_true c9
         have c9b1 : decide (((l0_4.length : Int) : Int).toNat ≤ 281474976710656) = true := decide_eq_true c9
         clear c9
         obtain ⟨y754, hy754⟩ : ∃ y_ : List Bool, y_ = (List.replicate ((l0_4.length : Int) : Int).toNat false) := ⟨_, rfl⟩
         replace H : (if 0 ≤ x14_1 then (if x14_1 < (x3_1.length : Int) then (if rdOf false x3_1 x14_1 = true then ((impl_reached.f k1 a0_0 a0_1 l0_2 a0_3 l0_4 x14_1).bind fun t758 => (impl_dominance.l1 k1 x3_1 x4_1 y754 t758 (l0_4.length : Int) x14_1 (l0_4.length : Int) 0 a0_0 a0_1 l0_2 a0_3 l0_4)) else (if x4_1.length < 5864062014805 then (impl_dominance.l0 k1 x3_1 (x4_1 ++ [y754]) (l0_4.length : Int) (wrap64 (x14_1 + 1)) a0_0 a0_1 l0_2 a0_3 l0_4) else (none))) else (none)) else (none)) = some r := by first | (rw [hy754]; with_reducible exact H) | (have H2_ := (Option.bind_some _ _).symm.trans H; rw [hy754]; with_reducible exact H2_) | (have H2_ := (Option.bind_some _ _).symm.trans H; with_reducible exact H2_) | with_reducible exact H | (rw [hy754]; exact H) | exact H
         have Ny754 := Aside0.mk hy754
         clear hy754
         by_cases c10 : 0 ≤ x14_1
         · rw [if_pos c10] at H
           have c10b0 : decide (0 ≤ x14_1) = true := decide_eq_true c10
           clear c10
           by_cases c11 : x14_1 < (x3_1.length : Int)
           · rw [if_pos c11] at H
             have c11b0 : decide (x14_1 < (x3_1.length : Int)) = true := decide_eq_true c11
             clear c11
             obtain ⟨bq12, hbq12⟩ : ∃ b_ : Bool, b_ = (rdOf false x3_1 x14_1) := ⟨_, rfl⟩
             replace H : (if bq12 = true then ((impl_reached.f k1 a0_0 a0_1 l0_2 a0_3 l0_4 x14_1).bind fun t758 => (impl_dominance.l1 k1 x3_1 x4_1 y754 t758 (l0_4.length : Int) x14_1 (l0_4.length : Int) 0 a0_0 a0_1 l0_2 a0_3 l0_4)) else (if x4_1.length < 5864062014805 then (impl_dominance.l0 k1 x3_1 (x4_1 ++ [y754]) (l0_4.length : Int) (wrap64 (x14_1 + 1)) a0_0 a0_1 l0_2 a0_3 l0_4) else (none))) = some r := by rw [← hbq12] at H; exact H
             have Nbq12 := Aside0.mk hbq12
             clear hbq12
             by_cases c13 : bq12 = true
             · subst c13
               have H1 : ((impl_reached.f k1 a0_0 a0_1 l0_2 a0_3 l0_4 x14_1).bind fun t758 => (impl_dominance.l1 k1 x3_1 x4_1 y754 t758 (l0_4.length : Int) x14_1 (l0_4.length : Int) 0 a0_0 a0_1 l0_2 a0_3 l0_4)) = some r := by rw [if_pos rfl] at H; exact H
               clear H
               have H := H1
               clear H1
               replace H := Option.bind_eq_some_iff.mp H
               obtain ⟨t758, A140, H⟩ := H
               replace H : (impl_dominance.l1 k1 x3_1 x4_1 y754 t758 (l0_4.length : Int) x14_1 (l0_4.length : Int) 0 a0_0 a0_1 l0_2 a0_3 l0_4) = some r := H
               have A14 := Aside0.mk A140
               clear A140
               have H' := Aside0.mk H
               clear H
               have hcz15_0 : wr.cell? ⟨gb750, 0, none⟩ = some (.string a0_0) := (blk_cell BK750.out 0).trans rfl
               have hcz15_1 : wr.cell? ⟨gb750, 1, none⟩ = some (.int .i64 a0_1) := (blk_cell BK750.out 1).trans rfl
               have hcz15_2 : wr.cell? ⟨gb750, 2, none⟩ = some (.slice A0_2 l0_2.length c0_2) := (blk_cell BK750.out 2).trans rfl
               have hcz15_3 : wr.cell? ⟨gb750, 3, none⟩ = some (.int .i64 a0_3) := (blk_cell BK750.out 3).trans rfl
               have hcz15_4 : wr.cell? ⟨gb750, 4, none⟩ = some (.slice A0_4 l0_4.length c0_4) := (blk_cell BK750.out 4).trans rfl
               have hfz15_0 := blk_frozen BK750.out 0
               have hfz15_1 := blk_frozen BK750.out 1
               have hfz15_2 := blk_frozen BK750.out 2
               have hfz15_3 := blk_frozen BK750.out 3
               have hfz15_4 := blk_frozen BK750.out 4
               go_wp2_with (first | ((with_reducible refine gate_dst (N := 20) rfl ?_); refine Kd.R_make Kd.bool _ 4 rfl (N := 20) rfl 54 _ _ rfl (l0_4.length : Int) rfl rfl Try.underlying54 (.bool false) 1 info4 rfl (by decide) (by omega) false (ok := fun _ => True) (okp := fun _ => True) rfl (fun _ hk => hk) trivial (of_decide_eq_true az) (Nat.le_trans (Nat.mul_le_mul_right _ (of_decide_eq_true az : (l0_4.length : Int).toNat ≤ 281474976710656)) (by omega)) (Below.refl _ _) (Nat.le_refl _) ?_; intro v755 w16 ho17 hb hg_ hnew_; clear hg_ hnew_; (first | rw [← Ny754.out] at ho17 | (simp only [Int.reduceToNat] at ho17; rw [← Ny754.out] at ho17)); have n0_ := Aside0.mk (Kd.R_elder' (rz HO_3.out) (Kd.R_base ho17) hb); have n1_ := Aside0.mk (Kd.S_elder' (rs HO_4.out) (Kd.R_base ho17) hb); have n2_ := Aside0.mk (Kd.R_lower (Kd.R_new' ho17 (Kd.R_lt (rz HO_3.out))) (below_size bz)); have n3_ := Aside0.mk (blk_below (g := gb750) (o := .cells #[.string a0_0, .int .i64 a0_1, .slice A0_2 l0_2.length c0_2, .int .i64 a0_3, .slice A0_4 l0_4.length c0_4] 30 (0, 0)) kz hb); have n4_ := Aside0.mk (below_step bz hb); clear HO_3; clear HO_4; clear BK750; clear HB; have HO_3 := n0_; have HO_4 := n1_; have HO756 := n2_; have BK750 := n3_; have HB := n4_; clear n0_ n1_ n2_ n3_ n4_; clear hb ho17; obtain ⟨Ao18, co18, eo18⟩ := Kd.R_slice HO_3.out; subst eo18; have p757 : 0 ≤ (x14_1 : Int) := of_decide_eq_true az; have q757 : x14_1 < (x3_1.length : Int) := of_decide_eq_true az; obtain ⟨ad757, e757, hx757_0⟩ := Kd.at_bool (Kd.R_reads' HO_3.out).2.2 x14_1 p757 q757; (try rw [← Nbq12.out] at hx757_0); cases e757; replace p757 := eq_true p757; replace q757 := eq_true q757; have hcz19_0 : w16.cell? ⟨gb750, 0, none⟩ = some (.string a0_0) := (blk_cell BK750.out 0).trans rfl; have hcz19_1 : w16.cell? ⟨gb750, 1, none⟩ = some (.int .i64 a0_1) := (blk_cell BK750.out 1).trans rfl; have hcz19_2 : w16.cell? ⟨gb750, 2, none⟩ = some (.slice A0_2 l0_2.length c0_2) := (blk_cell BK750.out 2).trans rfl; have hcz19_3 : w16.cell? ⟨gb750, 3, none⟩ = some (.int .i64 a0_3) := (blk_cell BK750.out 3).trans rfl; have hcz19_4 : w16.cell? ⟨gb750, 4, none⟩ = some (.slice A0_4 l0_4.length c0_4) := (blk_cell BK750.out 4).trans rfl; have hfz19_0 := blk_frozen BK750.out 0; have hfz19_1 := blk_frozen BK750.out 1; have hfz19_2 := blk_frozen BK750.out 2; have hfz19_3 := blk_frozen BK750.out 3; have hfz19_4 := blk_frozen BK750.out 4) | ((with_reducible refine gate_callee (f := 49) rfl ?_); refine goesL_ (some 27) rfl rfl Try.func49 (by kernel_rfl) rfl #[.agg #[.string a0_0, .int .i64 a0_1, .slice A0_2 l0_2.length c0_2, .int .i64 a0_3, .slice A0_4 l0_4.length c0_4], .int .i64 x14_1] rfl lz ?_; (with_reducible refine (impl_reached.calls k1 a0_0 a0_1 _ _ l0_2 a0_3 _ _ l0_4 x14_1 t758 _ ?side1 ?side2 ?side3 ?side4 A14.out).mono ?_); (case side1 => exact cz HR0_2.out); (case side2 => exact HC0_2.out); (case side3 => exact cz HR0_4.out); (case side4 => exact HC0_4.out); rintro e w20 ⟨v759, rfl, ho0, hb⟩; refine ⟨_, rfl, ?_⟩; have n0_ := Aside0.mk (Kd.R_elder' (rz HO_3.out) (Kd.R_base ho0) hb); have n1_ := Aside0.mk (Kd.S_elder' (rs HO_4.out) (Kd.R_base ho0) hb); have n2_ := Aside0.mk (Kd.R_elder' (rz HO756.out) (Kd.R_base ho0) hb); have n3_ := Aside0.mk (Kd.R_lower (Kd.R_new' (Kd.R_new' ho0 (Kd.R_lt (rz HO_3.out))) (Kd.R_lt (rz HO756.out))) (below_size bz)); have n4_ := Aside0.mk (blk_below (g := gb750) (o := .cells #[.string a0_0, .int .i64 a0_1, .slice A0_2 l0_2.length c0_2, .int .i64 a0_3, .slice A0_4 l0_4.length c0_4] 30 (0, 0)) kz hb); have n5_ := Aside0.mk (below_step bz hb); clear HO_3; clear HO_4; clear HO756; clear BK750; clear HB; have HO_3 := n0_; have HO_4 := n1_; have HO756 := n2_; have HO760 := n3_; have BK750 := n4_; have HB := n5_; clear n0_ n1_ n2_ n3_ n4_ n5_; (try clear hb); (try clear hb2); (try clear hk); (try clear hi); (try clear ho0); have hcz21_0 : w20.cell? ⟨gb750, 0, none⟩ = some (.string a0_0) := (blk_cell BK750.out 0).trans rfl; have hcz21_1 : w20.cell? ⟨gb750, 1, none⟩ = some (.int .i64 a0_1) := (blk_cell BK750.out 1).trans rfl; have hcz21_2 : w20.cell? ⟨gb750, 2, none⟩ = some (.slice A0_2 l0_2.length c0_2) := (blk_cell BK750.out 2).trans rfl; have hcz21_3 : w20.cell? ⟨gb750, 3, none⟩ = some (.int .i64 a0_3) := (blk_cell BK750.out 3).trans rfl; have hcz21_4 : w20.cell? ⟨gb750, 4, none⟩ = some (.slice A0_4 l0_4.length c0_4) := (blk_cell BK750.out 4).trans rfl; have hfz21_0 := blk_frozen BK750.out 0; have hfz21_1 := blk_frozen BK750.out 1; have hfz21_2 := blk_frozen BK750.out 2; have hfz21_3 := blk_frozen BK750.out 3; have hfz21_4 := blk_frozen BK750.out 4))
               go_loopg [31] k1 (fun kq v31 w' => ∃ (x6_2 : List Bool) (x31_2 : Int), v31 = .int .i64 x31_2 ∧ Aside0 (impl_dominance.l1 kq x3_1 x4_1 x6_2 t758 (l0_4.length : Int) x14_1 (l0_4.length : Int) x31_2 a0_0 a0_1 l0_2 a0_3 l0_4 = some r) ∧ Aside0 (kq ≤ k1) ∧ Aside0 (Kd.R Kd.bool 4 w' w.heap.size (fun k_ => some k_ ≠ (v755 : Value).ownBlock ∧ some k_ ≠ (v759 : Value).ownBlock) (.slice (some ad757) x3_1.length co18) x3_1) ∧ Aside0 (Kd.S (Kd.slice 4 Kd.bool) 54 w' w.heap.size (fun k_ => some k_ ≠ ((.slice (some ad757) x3_1.length co18) : Value).ownBlock ∧ some k_ ≠ (v755 : Value).ownBlock ∧ some k_ ≠ (v759 : Value).ownBlock) u4 x4_1) ∧ Aside0 (Kd.R Kd.bool 4 w' w.heap.size (fun k_ => some k_ ≠ ((.slice (some ad757) x3_1.length co18) : Value).ownBlock ∧ some k_ ≠ (v759 : Value).ownBlock) v755 x6_2) ∧ Aside0 (Kd.R Kd.bool 4 w' w.heap.size (fun k_ => some k_ ≠ ((.slice (some ad757) x3_1.length co18) : Value).ownBlock ∧ some k_ ≠ (v755 : Value).ownBlock) v759 t758) ∧ Aside0 (w'.heap[gb750]? = some (.cells #[.string a0_0, .int .i64 a0_1, (.slice A0_2 l0_2.length c0_2), .int .i64 a0_3, (.slice A0_4 l0_4.length c0_4)] 30 (0, 0))) ∧ Aside0 (Below w.heap.size w w'))
               case atStart => exact ⟨(y754), (0), sz_, H', ⟨Nat.le_refl _⟩, ⟨by (with_reducible repeat (first | apply Kd.R_alloc | apply Kd.R_drewN | apply Kd.R_drew)); exact Kd.R_mono HO_3.out (fun _ hk => ⟨hk.1.2, hk.2⟩)⟩, ⟨by (with_reducible repeat (first | apply Kd.S_alloc | apply Kd.S_drewN | apply Kd.S_drew)); exact Kd.S_mono HO_4.out (fun _ hk => ⟨hk.1.1, ⟨hk.1.2, hk.2⟩⟩)⟩, ⟨by (with_reducible repeat (first | apply Kd.R_alloc | apply Kd.R_drewN | apply Kd.R_drew)); exact Kd.R_mono HO756.out (fun _ hk => ⟨hk.1.2, hk.2⟩)⟩, ⟨by (with_reducible repeat (first | apply Kd.R_alloc | apply Kd.R_drewN | apply Kd.R_drew)); exact Kd.R_mono HO760.out (fun _ hk => ⟨hk.1.2, hk.2⟩)⟩, ⟨ kz⟩, ⟨ bz⟩⟩
               case round =>
                clear H'
                try clear c1
                try clear q1
                try clear p2
                try clear c4
                try clear c6
                try clear p6
                try clear c7
                try clear c7b0
                try clear p7
                try clear q7
                try clear hx7
                try clear c8
                try clear c8b0
                try clear c8b1
                try clear c9
                try clear c9b0
                try clear c9b1
                try clear c10
                try clear c10b0
                try clear c11
                try clear c11b0
                try clear q12
                try clear c13
                try clear hcz15_0
                try clear hcz15_1
                try clear hcz15_2
                try clear hcz15_3
                try clear hcz15_4
                try clear hcz19_0
                try clear hcz19_1
                try clear hcz19_2
                try clear hcz19_3
                try clear hcz19_4
                try clear hcz21_0
                try clear hcz21_1
                try clear hcz21_2
                try clear hcz21_3
                try clear hcz21_4
                try clear hcz4_0
                try clear hcz4_1
                try clear hcz4_2
                try clear hcz4_3
                try clear hcz4_4
                try clear hcz6_0
                try clear hcz6_1
                try clear hcz6_2
                try clear hcz6_3
                try clear hcz6_4
                try clear hfz15_0
                try clear hfz15_1
                try clear hfz15_2
                try clear hfz15_3
                try clear hfz15_4
                try clear hfz19_0
                try clear hfz19_1
                try clear hfz19_2
                try clear hfz19_3
                try clear hfz19_4
                try clear hfz21_0
                try clear hfz21_1
                try clear hfz21_2
                try clear hfz21_3
                try clear hfz21_4
                try clear hfz4_0
                try clear hfz4_1
                try clear hfz4_2
                try clear hfz4_3
                try clear hfz4_4
                try clear hfz6_0
                try clear hfz6_1
                try clear hfz6_2
                try clear hfz6_3
                try clear hfz6_4
                try clear hx757_0
                try clear p2
                try clear p757
                try clear q757
                obtain ⟨x6_2, x31_2, rfl, HA, HK2, HO_3, HO_4, HO_6, HO_7, BK750, HB⟩ := hrel
                cases gk with
                | zero => exact absurd HA.out (by simp [impl_dominance.l1])
                | succ k2 =>
                 have H := HA.out
                 clear HA
                 simp only [impl_dominance.l1] at H
                 by_cases c22 : x31_2 < (l0_4.length : Int)
                 · rw [if_pos c22] at H
                   have c22b0 : decide (x31_2 < (l0_4.length : Int)) = true := decide_eq_true c22
                   clear c22
                   by_cases c23 : 0 ≤ x31_2
                   · rw [if_pos c23] at H
                     have c23b0 : decide (0 ≤ x31_2) = true := decide_eq_true c23
                     clear c23
                     by_cases c24 : x31_2 < (x3_1.length : Int)
                     · rw [if_pos c24] at H
                       have c24b0 : decide (x31_2 < (x3_1.length : Int)) = true := decide_eq_true c24
                       clear c24
                       obtain ⟨bq25, hbq25⟩ : ∃ b_ : Bool, b_ = (rdOf false x3_1 x31_2) := ⟨_, rfl⟩
                       replace H : (if bq25 = true then (if x31_2 < (t758.length : Int) then (if x31_2 < (x6_2.length : Int) then (impl_dominance.l1 k2 x3_1 x4_1 (x6_2.set (x31_2 : Int).toNat (!(rdOf false t758 x31_2))) t758 (l0_4.length : Int) x14_1 (l0_4.length : Int) (wrap64 (x31_2 + 1)) a0_0 a0_1 l0_2 a0_3 l0_4) else (none)) else (none)) else (if x31_2 < (x6_2.length : Int) then (impl_dominance.l1 k2 x3_1 x4_1 (x6_2.set (x31_2 : Int).toNat false) t758 (l0_4.length : Int) x14_1 (l0_4.length : Int) (wrap64 (x31_2 + 1)) a0_0 a0_1 l0_2 a0_3 l0_4) else (none))) = some r := by rw [← hbq25] at H; exact H
                       have Nbq25 := Aside0.mk hbq25
                       clear hbq25
                       by_cases c26 : bq25 = true
                       · subst c26
                         have H1 : (if x31_2 < (t758.length : Int) then (if x31_2 < (x6_2.length : Int) then (impl_dominance.l1 k2 x3_1 x4_1 (x6_2.set (x31_2 : Int).toNat (!(rdOf false t758 x31_2))) t758 (l0_4.length : Int) x14_1 (l0_4.length : Int) (wrap64 (x31_2 + 1)) a0_0 a0_1 l0_2 a0_3 l0_4) else (none)) else (none)) = some r := by rw [if_pos rfl] at H; exact H
                         clear H
                         have H := H1
                         clear H1
                         by_cases c27 : x31_2 < (t758.length : Int)
                         · rw [if_pos c27] at H
                           have c27b0 : decide (x31_2 < (t758.length : Int)) = true := decide_eq_true c27
                           clear c27
                           by_cases c28 : x31_2 < (x6_2.length : Int)
                           · rw [if_pos c28] at H
                             have c28b0 : decide (x31_2 < (x6_2.length : Int)) = true := decide_eq_true c28
                             clear c28
                             obtain ⟨y763, hy763⟩ : ∃ y_ : List Bool, y_ = (x6_2.set (x31_2 : Int).toNat (!(rdOf false t758 x31_2))) := ⟨_, rfl⟩
                             replace H : (impl_dominance.l1 k2 x3_1 x4_1 y763 t758 (l0_4.length : Int) x14_1 (l0_4.length : Int) (wrap64 (x31_2 + 1)) a0_0 a0_1 l0_2 a0_3 l0_4) = some r := by first | (rw [hy763]; with_reducible exact H) | (have H2_ := (Option.bind_some _ _).symm.trans H; rw [hy763]; with_reducible exact H2_) | (have H2_ := (Option.bind_some _ _).symm.trans H; with_reducible exact H2_) | with_reducible exact H | (rw [hy763]; exact H) | exact H
                             have Ny763 := Aside0.mk hy763
                             clear hy763
                             have H' := Aside0.mk H
                             clear H
                             have p761 : 0 ≤ (x31_2 : Int) := of_decide_eq_true az
                             have q761 : x31_2 < (x3_1.length : Int) := of_decide_eq_true az
                             obtain ⟨ad761, e761, hx761_0⟩ := Kd.at_bool (Kd.R_reads' HO_3.out).2.2 x31_2 p761 q761
                             (try rw [← Nbq12.out] at hx761_0)
                             (try rw [← Nbq25.out] at hx761_0)
                             obtain rfl : ad757 = ad761 := (by injection e761)
                             replace p761 := eq_true p761
                             replace q761 := eq_true q761
                             obtain ⟨Ao30, co30, eo30⟩ := Kd.R_slice HO_7.out
                             subst eo30
                             have p762 : 0 ≤ (x31_2 : Int) := of_decide_eq_true az
                             have q762 : x31_2 < (t758.length : Int) := of_decide_eq_true az
                             obtain ⟨ad762, e762, hx762_0⟩ := Kd.at_bool (Kd.R_reads' HO_7.out).2.2 x31_2 p762 q762
                             (try rw [← Nbq12.out] at hx762_0)
                             (try rw [← Nbq25.out] at hx762_0)
                             cases e762
                             replace p762 := eq_true p762
                             replace q762 := eq_true q762
                             have p29 : 0 ≤ (x31_2 : Int) := of_decide_eq_true az
                             have q29 : (x31_2 : Int) < ((x6_2.length : Int) : Int) := of_decide_eq_true az
                             obtain ⟨go29, co29, eo29, gb29, gl29, cl29, HG29⟩ := Kd.R_form HO_6.out (by omega)
                             (first | cases eo29 | (injection eo29 with ea_ en_ ec_; (first | subst ea_ | (injection ea_ with ea_; subst ea_)); subst ec_; clear en_))
                             have GB29 := Aside0.mk gb29
                             have GG29 := Aside0.mk HG29
                             clear gb29 gl29 HG29
                             obtain ⟨hx29_0, hf29_0⟩ := Kd.R_celln false HO_6.out (x31_2 : Int) p29 q29
                             replace p29 := eq_true p29
                             replace q29 := eq_true q29
                             have HP31 := Kd.R_putg HO_6.out (x31_2 : Int) (!(rdOf false t758 x31_2))
                             go_wp2_with (first | ((with_reducible refine gate_store (t := 4) (p := 47) rfl ?_); refine store_event (t := 4) (p := 47) (v := ?vo_w32) (w1 := (wr.setCell ⟨go29, (x31_2 : Int).toNat, none⟩ (.bool (!(rdOf false t758 x31_2))))) ?hg ?ho ?hn ?hr ?_; (case ho => rfl); (case hg => rfl); (case hn => rfl); (case hr => first | (go_simp; done) | (go_simp; rfl)); intro w32 hw; have hg : wr.grownBy w32 (some go29) := (by rw [hw]; exact HP31.2); have hp_ : Kd.R Kd.bool 4 w32 w.heap.size (fun k_ => some k_ ≠ (.slice (some ad757) x3_1.length co18 : Value).ownBlock ∧ some k_ ≠ (.slice (some ad762) t758.length co30 : Value).ownBlock) (.slice (some ⟨go29, 0, none⟩) x6_2.length co29) y763 := (by rw [hw, Ny763.out]; exact HP31.1); clear HP31; have n0_ := Aside0.mk (Kd.R_after (v := (.slice (some ⟨go29, 0, none⟩) x6_2.length co29)) (v1 := (.slice (some ⟨go29, 0, none⟩) x6_2.length co29)) (ok := (fun k_ => some k_ ≠ (.slice (some ad762) t758.length co30 : Value).ownBlock)) (by (with_reducible repeat (first | apply Kd.R_alloc | apply Kd.R_drewN | apply Kd.R_drew)); exact Kd.R_mono HO_3.out (fun _ hk => ⟨hk.2, hk.1⟩)) hg (.inl rfl)); have n1_ := Aside0.mk (Kd.S_after (v := (.slice (some ⟨go29, 0, none⟩) x6_2.length co29)) (v1 := (.slice (some ⟨go29, 0, none⟩) x6_2.length co29)) (ok := (fun k_ => some k_ ≠ (.slice (some ad757) x3_1.length co18 : Value).ownBlock ∧ some k_ ≠ (.slice (some ad762) t758.length co30 : Value).ownBlock)) (by (with_reducible repeat (first | apply Kd.S_alloc | apply Kd.S_drewN | apply Kd.S_drew)); exact Kd.S_mono HO_4.out (fun _ hk => ⟨⟨hk.1, hk.2.2⟩, hk.2.1⟩)) hg (.inl rfl)); have n2_ := Aside0.mk (hp_); have n3_ := Aside0.mk (Kd.R_after (v := (.slice (some ⟨go29, 0, none⟩) x6_2.length co29)) (v1 := (.slice (some ⟨go29, 0, none⟩) x6_2.length co29)) (ok := (fun k_ => some k_ ≠ (.slice (some ad757) x3_1.length co18 : Value).ownBlock)) (rz HO_7.out) hg (.inl rfl)); have n4_ := Aside0.mk (blk_grown (g := gb750) (o := .cells #[.string a0_0, .int .i64 a0_1, .slice A0_2 l0_2.length c0_2, .int .i64 a0_3, .slice A0_4 l0_4.length c0_4] 30 (0, 0)) kz hg (Kd.R_ne HO_6.out BK750.out (by decide))); have n5_ := Aside0.mk ((by rw [hw]; exact below_set (HB.out) GB29.out : Below w.heap.size w w32)); clear HO_3; clear HO_4; clear HO_6; clear HO_7; clear BK750; clear HB; have HO_3 := n0_; have HO_4 := n1_; have HO_6 := n2_; have HO_7 := n3_; have BK750 := n4_; have HB := n5_; clear n0_ n1_ n2_ n3_ n4_ n5_; clear hg hw hp_))
                             go_roundg k2
                             case measure => have := HK1.out; have := HK2.out; omega
                             case rel => exact ⟨(y763), (wrap64 (x31_2 + 1)), sz_, H', ⟨by have := HK1.out; have := HK2.out; omega⟩, ⟨by (with_reducible repeat (first | apply Kd.R_alloc | apply Kd.R_drewN | apply Kd.R_drew)); exact Kd.R_mono HO_3.out (fun _ hk => ⟨hk.2, hk.1⟩)⟩, ⟨by (with_reducible repeat (first | apply Kd.S_alloc | apply Kd.S_drewN | apply Kd.S_drew)); exact Kd.S_mono HO_4.out (fun _ hk => ⟨hk.1.1, ⟨hk.2, hk.1.2⟩⟩)⟩, ⟨by (with_reducible repeat (first | apply Kd.R_alloc | apply Kd.R_drewN | apply Kd.R_drew)); exact HO_6.out⟩, ⟨by (with_reducible repeat (first | apply Kd.R_alloc | apply Kd.R_drewN | apply Kd.R_drew)); exact HO_7.out⟩, ⟨ kz⟩, ⟨ bz⟩⟩
                           · rw [if_neg c28] at H
                             exact absurd H (by simp)
                         · rw [if_neg c27] at H
                           exact absurd H (by simp)
                       · replace c26 := Bool.eq_false_iff.mpr c26
                         subst c26
                         have H1 : (if x31_2 < (x6_2.length : Int) then (impl_dominance.l1 k2 x3_1 x4_1 (x6_2.set (x31_2 : Int).toNat false) t758 (l0_4.length : Int) x14_1 (l0_4.length : Int) (wrap64 (x31_2 + 1)) a0_0 a0_1 l0_2 a0_3 l0_4) else (none)) = some r := by rw [if_neg (show ¬ (false = true) by decide)] at H; exact H
                         clear H
                         have H := H1
                         clear H1
                         by_cases c33 : x31_2 < (x6_2.length : Int)
                         · rw [if_pos c33] at H
                           have c33b0 : decide (x31_2 < (x6_2.length : Int)) = true := decide_eq_true c33
                           clear c33
                           obtain ⟨y764, hy764⟩ : ∃ y_ : List Bool, y_ = (x6_2.set (x31_2 : Int).toNat false) := ⟨_, rfl⟩
                           replace H : (impl_dominance.l1 k2 x3_1 x4_1 y764 t758 (l0_4.length : Int) x14_1 (l0_4.length : Int) (wrap64 (x31_2 + 1)) a0_0 a0_1 l0_2 a0_3 l0_4) = some r := by first | (rw [hy764]; with_reducible exact H) | (have H2_ := (Option.bind_some _ _).symm.trans H; rw [hy764]; with_reducible exact H2_) | (have H2_ := (Option.bind_some _ _).symm.trans H; with_reducible exact H2_) | with_reducible exact H | (rw [hy764]; exact H) | exact H
                           have Ny764 := Aside0.mk hy764
                           clear hy764
                           have H' := Aside0.mk H
                           clear H
                           have p761 : 0 ≤ (x31_2 : Int) := of_decide_eq_true az
                           have q761 : x31_2 < (x3_1.length : Int) := of_decide_eq_true az
                           obtain ⟨ad761, e761, hx761_0⟩ := Kd.at_bool (Kd.R_reads' HO_3.out).2.2 x31_2 p761 q761
                           (try rw [← Nbq12.out] at hx761_0)
                           (try rw [← Nbq25.out] at hx761_0)
                           obtain rfl : ad757 = ad761 := (by injection e761)
                           replace p761 := eq_true p761
                           replace q761 := eq_true q761
                           have p34 : 0 ≤ (x31_2 : Int) := of_decide_eq_true az
                           have q34 : (x31_2 : Int) < ((x6_2.length : Int) : Int) := of_decide_eq_true az
                           obtain ⟨go34, co34, eo34, gb34, gl34, cl34, HG34⟩ := Kd.R_form HO_6.out (by omega)
                           (first | cases eo34 | (injection eo34 with ea_ en_ ec_; (first | subst ea_ | (injection ea_ with ea_; subst ea_)); subst ec_; clear en_))
                           have GB34 := Aside0.mk gb34
                           have GG34 := Aside0.mk HG34
                           clear gb34 gl34 HG34
                           obtain ⟨hx34_0, hf34_0⟩ := Kd.R_celln false HO_6.out (x31_2 : Int) p34 q34
                           replace p34 := eq_true p34
                           replace q34 := eq_true q34
                           have HP35 := Kd.R_putg HO_6.out (x31_2 : Int) false
                           go_wp2_with (first | ((with_reducible refine gate_store (t := 4) (p := 47) rfl ?_); refine store_event (t := 4) (p := 47) (v := ?vo_w36) (w1 := (wr.setCell ⟨go34, (x31_2 : Int).toNat, none⟩ (.bool false))) ?hg ?ho ?hn ?hr ?_; (case ho => rfl); (case hg => rfl); (case hn => rfl); (case hr => first | (go_simp; done) | (go_simp; rfl)); intro w36 hw; have hg : wr.grownBy w36 (some go34) := (by rw [hw]; exact HP35.2); have hp_ : Kd.R Kd.bool 4 w36 w.heap.size (fun k_ => some k_ ≠ (.slice (some ad757) x3_1.length co18 : Value).ownBlock ∧ some k_ ≠ (v759 : Value).ownBlock) (.slice (some ⟨go34, 0, none⟩) x6_2.length co34) y764 := (by rw [hw, Ny764.out]; exact HP35.1); clear HP35; have n0_ := Aside0.mk (Kd.R_after (v := (.slice (some ⟨go34, 0, none⟩) x6_2.length co34)) (v1 := (.slice (some ⟨go34, 0, none⟩) x6_2.length co34)) (ok := (fun k_ => some k_ ≠ (v759 : Value).ownBlock)) (by (with_reducible repeat (first | apply Kd.R_alloc | apply Kd.R_drewN | apply Kd.R_drew)); exact Kd.R_mono HO_3.out (fun _ hk => ⟨hk.2, hk.1⟩)) hg (.inl rfl)); have n1_ := Aside0.mk (Kd.S_after (v := (.slice (some ⟨go34, 0, none⟩) x6_2.length co34)) (v1 := (.slice (some ⟨go34, 0, none⟩) x6_2.length co34)) (ok := (fun k_ => some k_ ≠ (.slice (some ad757) x3_1.length co18 : Value).ownBlock ∧ some k_ ≠ (v759 : Value).ownBlock)) (by (with_reducible repeat (first | apply Kd.S_alloc | apply Kd.S_drewN | apply Kd.S_drew)); exact Kd.S_mono HO_4.out (fun _ hk => ⟨⟨hk.1, hk.2.2⟩, hk.2.1⟩)) hg (.inl rfl)); have n2_ := Aside0.mk (hp_); have n3_ := Aside0.mk (Kd.R_after (v := (.slice (some ⟨go34, 0, none⟩) x6_2.length co34)) (v1 := (.slice (some ⟨go34, 0, none⟩) x6_2.length co34)) (ok := (fun k_ => some k_ ≠ (.slice (some ad757) x3_1.length co18 : Value).ownBlock)) (rz HO_7.out) hg (.inl rfl)); have n4_ := Aside0.mk (blk_grown (g := gb750) (o := .cells #[.string a0_0, .int .i64 a0_1, .slice A0_2 l0_2.length c0_2, .int .i64 a0_3, .slice A0_4 l0_4.length c0_4] 30 (0, 0)) kz hg (Kd.R_ne HO_6.out BK750.out (by decide))); have n5_ := Aside0.mk ((by rw [hw]; exact below_set (HB.out) GB34.out : Below w.heap.size w w36)); clear HO_3; clear HO_4; clear HO_6; clear HO_7; clear BK750; clear HB; have HO_3 := n0_; have HO_4 := n1_; have HO_6 := n2_; have HO_7 := n3_; have BK750 := n4_; have HB := n5_; clear n0_ n1_ n2_ n3_ n4_ n5_; clear hg hw hp_))
                           go_roundg k2
                           case measure => have := HK1.out; have := HK2.out; omega
                           case rel => exact ⟨(y764), (wrap64 (x31_2 + 1)), sz_, H', ⟨by have := HK1.out; have := HK2.out; omega⟩, ⟨by (with_reducible repeat (first | apply Kd.R_alloc | apply Kd.R_drewN | apply Kd.R_drew)); exact Kd.R_mono HO_3.out (fun _ hk => ⟨hk.2, hk.1⟩)⟩, ⟨by (with_reducible repeat (first | apply Kd.S_alloc | apply Kd.S_drewN | apply Kd.S_drew)); exact Kd.S_mono HO_4.out (fun _ hk => ⟨hk.1.1, ⟨hk.2, hk.1.2⟩⟩)⟩, ⟨by (with_reducible repeat (first | apply Kd.R_alloc | apply Kd.R_drewN | apply Kd.R_drew)); exact HO_6.out⟩, ⟨by (with_reducible repeat (first | apply Kd.R_alloc | apply Kd.R_drewN | apply Kd.R_drew)); exact HO_7.out⟩, ⟨ kz⟩, ⟨ bz⟩⟩
                         · rw [if_neg c33] at H
                           exact absurd H (by simp)
                     · rw [if_neg c24] at H
                       exact absurd H (by simp)
                   · rw [if_neg c23] at H
                     exact absurd H (by simp)
                 · rw [if_neg c22] at H
                   have c22b0 : decide (x31_2 < (l0_4.length : Int)) = false := decide_eq_false c22
                   clear c22
                   by_cases c37 : x4_1.length < 5864062014805
                   · rw [if_pos c37] at H
                     have LMc37 := Aside0.mk c37
                     clear c37
                     obtain ⟨y765, hy765⟩ : ∃ y_ : List (List Bool), y_ = (x4_1 ++ [x6_2]) := ⟨_, rfl⟩
                     replace H : (impl_dominance.l0 k2 x3_1 y765 (l0_4.length : Int) (wrap64 (x14_1 + 1)) a0_0 a0_1 l0_2 a0_3 l0_4) = some r := by first | (rw [hy765]; with_reducible exact H) | (have H2_ := (Option.bind_some _ _).symm.trans H; rw [hy765]; with_reducible exact H2_) | (have H2_ := (Option.bind_some _ _).symm.trans H; with_reducible exact H2_) | with_reducible exact H | (rw [hy765]; exact H) | exact H
                     have Ny765 := Aside0.mk hy765
                     clear hy765
                     have H' := Aside0.mk H
                     clear H
                     obtain ⟨Ao39, co39, eo39⟩ := Kd.R_slice HO_6.out
                     subst eo39
                     go_wp2_with (first | ((with_reducible refine gate_builtin (b := .append) (xs := #[.tmp 49, .tmp 51]) rfl ?_); at_builtin; refine Kd.S_append (Kd.slice 4 Kd.bool) (w0 := w) w.heap.size rfl (.tmp 49) (.tmp 51) 80 54 (.slice none 0 0) 24 rfl Try.underlying80 info54 rfl (by decide) (by omega) u4 x4_1 x6_2 [.slice Ao39 x6_2.length co39] (fun k_ => some k_ ≠ (.slice (some ad757) x3_1.length co18 : Value).ownBlock ∧ some k_ ≠ (v759 : Value).ownBlock) (fun k_ => some k_ = (.slice Ao39 x6_2.length co39 : Value).ownBlock) rfl rfl ?aP (fun k_ hk_ => ((Kd.R_mono (ok' := fun k_ => ((fun k_ => some k_ ≠ (.slice (some ad757) x3_1.length co18 : Value).ownBlock ∧ some k_ ≠ (v759 : Value).ownBlock)) k_ ∧ some k_ ≠ (u4 : Value).ownBlock) (Kd.R_apart' (HO_6.out) (Kd.S_typed HO_4.out) (by decide)) (fun k_ hk => ⟨⟨hk.1.1, hk.1.2⟩, hk.2⟩))).1 k_ hk_.symm) ?aF ?aO ?aB ?aS ?aL ?_; (case aP => exact Kd.M_row (Kd.R_mono (Kd.R_tight rfl (Kd.R_mono (ok' := fun k_ => ((fun k_ => some k_ ≠ (.slice (some ad757) x3_1.length co18 : Value).ownBlock ∧ some k_ ≠ (v759 : Value).ownBlock)) k_ ∧ some k_ ≠ (u4 : Value).ownBlock) (Kd.R_apart' (HO_6.out) (Kd.S_typed HO_4.out) (by decide)) (fun k_ hk => ⟨⟨hk.1.1, hk.1.2⟩, hk.2⟩))) (fun _ h_ => h_))); (case aB => exact bz); (case aF => exact (fun k_ hk => ⟨Kd.fresh' (Kd.R_lt (rz HO_3.out)) k_ hk, Kd.fresh' (Kd.R_lt (rz HO_7.out)) k_ hk⟩)); (case aO => exact (by (with_reducible repeat (first | apply Kd.S_alloc | apply Kd.S_drewN | apply Kd.S_drew)); exact Kd.S_mono HO_4.out (fun k_ hk => ⟨⟨hk.1, hk.2.2⟩, fun e_ => hk.2.1 e_⟩))); (case aS => exact (below_size bz)); (case aL => have := LMc37.out; omega); intro v766 w38 ho hb hg hat; rw [← Ny765.out] at ho; have n0_ := Aside0.mk (Kd.R_over' (rz HO_3.out) (Kd.S_typed (rs HO_4.out)) (by decide) hg); have n1_ := Aside0.mk (Kd.R_over' (rz HO_7.out) (Kd.S_typed (rs HO_4.out)) (by decide) hg); have n2_ := Aside0.mk (blk_grown (g := gb750) (o := .cells #[.string a0_0, .int .i64 a0_1, .slice A0_2 l0_2.length c0_2, .int .i64 a0_3, .slice A0_4 l0_4.length c0_4] 30 (0, 0)) kz hg (Kd.S_ne HO_4.out BK750.out (by decide))); have n3_ := Aside0.mk (hb); have n4_ := Aside0.mk (ho); clear HO_3; clear HO_7; clear BK750; clear HB; clear HO_4; clear HO_6; have HO_3 := n0_; have HO_7 := n1_; have BK750 := n2_; have HB := n3_; have HO767 := n4_; clear n0_ n1_ n2_ n3_ n4_; clear ho hb hg hat))
                     go_roundg k2
                     case measure => have := HK1.out; have := HK2.out; omega
                     case rel => exact ⟨(x3_1), (y765), (wrap64 (x14_1 + 1)), sz_, H', ⟨by have := HK1.out; have := HK2.out; omega⟩, ⟨by (with_reducible repeat (first | apply Kd.R_alloc | apply Kd.R_drewN | apply Kd.R_drew)); exact Kd.R_mono HO_3.out (fun _ hk => trivial)⟩, ⟨by (with_reducible repeat (first | apply Kd.S_alloc | apply Kd.S_drewN | apply Kd.S_drew)); exact Kd.S_mono HO767.out (fun _ hk => hk.1)⟩, ⟨ kz⟩, ⟨ bz⟩⟩
                   · rw [if_neg c37] at H
                     exact absurd H (by simp)
             · replace c13 := Bool.eq_false_iff.mpr c13
               subst c13
               have H1 : (if x4_1.length < 5864062014805 then (impl_dominance.l0 k1 x3_1 (x4_1 ++ [y754]) (l0_4.length : Int) (wrap64 (x14_1 + 1)) a0_0 a0_1 l0_2 a0_3 l0_4) else (none)) = some r := by rw [if_neg (show ¬ (false = true) by decide)] at H; exact H
               clear H
               have H := H1
               clear H1
               by_cases c40 : x4_1.length < 5864062014805
               · rw [if_pos c40] at H
                 have LMc40 := Aside0.mk c40
                 clear c40
                 obtain ⟨y768, hy768⟩ : ∃ y_ : List (List Bool), y_ = (x4_1 ++ [y754]) := ⟨_, rfl⟩
                 replace H : (impl_dominance.l0 k1 x3_1 y768 (l0_4.length : Int) (wrap64 (x14_1 + 1)) a0_0 a0_1 l0_2 a0_3 l0_4) = some r := by first | (rw [hy768]; with_reducible exact H) | (have H2_ := (Option.bind_some _ _).symm.trans H; rw [hy768]; with_reducible exact H2_) | (have H2_ := (Option.bind_some _ _).symm.trans H; with_reducible exact H2_) | with_reducible exact H | (rw [hy768]; exact H) | exact H
                 have Ny768 := Aside0.mk hy768
                 clear hy768
                 have H' := Aside0.mk H
                 clear H
                 have hcz41_0 : wr.cell? ⟨gb750, 0, none⟩ = some (.string a0_0) := (blk_cell BK750.out 0).trans rfl
                 have hcz41_1 : wr.cell? ⟨gb750, 1, none⟩ = some (.int .i64 a0_1) := (blk_cell BK750.out 1).trans rfl
                 have hcz41_2 : wr.cell? ⟨gb750, 2, none⟩ = some (.slice A0_2 l0_2.length c0_2) := (blk_cell BK750.out 2).trans rfl
                 have hcz41_3 : wr.cell? ⟨gb750, 3, none⟩ = some (.int .i64 a0_3) := (blk_cell BK750.out 3).trans rfl
                 have hcz41_4 : wr.cell? ⟨gb750, 4, none⟩ = some (.slice A0_4 l0_4.length c0_4) := (blk_cell BK750.out 4).trans rfl
                 have hfz41_0 := blk_frozen BK750.out 0
                 have hfz41_1 := blk_frozen BK750.out 1
                 have hfz41_2 := blk_frozen BK750.out 2
                 have hfz41_3 := blk_frozen BK750.out 3
                 have hfz41_4 := blk_frozen BK750.out 4
                 go_wp2_with (first | ((with_reducible refine gate_dst (N := 20) rfl ?_); refine Kd.R_make Kd.bool _ 4 rfl (N := 20) rfl 54 _ _ rfl (l0_4.length : Int) rfl rfl Try.underlying54 (.bool false) 1 info4 rfl (by decide) (by omega) false (ok := fun _ => True) (okp := fun _ => True) rfl (fun _ hk => hk) trivial (of_decide_eq_true az) (Nat.le_trans (Nat.mul_le_mul_right _ (of_decide_eq_true az : (l0_4.length : Int).toNat ≤ 281474976710656)) (by omega)) (Below.refl _ _) (Nat.le_refl _) ?_; intro v755 w42 ho43 hb hg_ hnew_; clear hg_ hnew_; (first | rw [← Ny754.out] at ho43 | (simp only [Int.reduceToNat] at ho43; rw [← Ny754.out] at ho43)); have n0_ := Aside0.mk (Kd.R_elder' (rz HO_3.out) (Kd.R_base ho43) hb); have n1_ := Aside0.mk (Kd.S_elder' (rs HO_4.out) (Kd.R_base ho43) hb); have n2_ := Aside0.mk (Kd.R_lower (Kd.R_new' ho43 (Kd.R_lt (rz HO_3.out))) (below_size bz)); have n3_ := Aside0.mk (blk_below (g := gb750) (o := .cells #[.string a0_0, .int .i64 a0_1, .slice A0_2 l0_2.length c0_2, .int .i64 a0_3, .slice A0_4 l0_4.length c0_4] 30 (0, 0)) kz hb); have n4_ := Aside0.mk (below_step bz hb); clear HO_3; clear HO_4; clear BK750; clear HB; have HO_3 := n0_; have HO_4 := n1_; have HO756 := n2_; have BK750 := n3_; have HB := n4_; clear n0_ n1_ n2_ n3_ n4_; clear hb ho43; obtain ⟨Ao44, co44, eo44⟩ := Kd.R_slice HO_3.out; subst eo44; have p757 : 0 ≤ (x14_1 : Int) := of_decide_eq_true az; have q757 : x14_1 < (x3_1.length : Int) := of_decide_eq_true az; obtain ⟨ad757, e757, hx757_0⟩ := Kd.at_bool (Kd.R_reads' HO_3.out).2.2 x14_1 p757 q757; (try rw [← Nbq12.out] at hx757_0); cases e757; replace p757 := eq_true p757; replace q757 := eq_true q757; obtain ⟨Ao46, co46, eo46⟩ := Kd.R_slice HO756.out; subst eo46) | ((with_reducible refine gate_builtin (b := .append) (xs := #[.tmp 49, .tmp 51]) rfl ?_); at_builtin; refine Kd.S_append (Kd.slice 4 Kd.bool) (w0 := w) w.heap.size rfl (.tmp 49) (.tmp 51) 80 54 (.slice none 0 0) 24 rfl Try.underlying80 info54 rfl (by decide) (by omega) u4 x4_1 y754 [.slice Ao46 y754.length co46] (fun k_ => some k_ ≠ (.slice (some ad757) x3_1.length co44 : Value).ownBlock) (fun k_ => some k_ = (.slice Ao46 y754.length co46 : Value).ownBlock) rfl rfl ?aP (fun k_ hk_ => ((Kd.R_mono (ok' := fun k_ => ((fun k_ => some k_ ≠ (.slice (some ad757) x3_1.length co44 : Value).ownBlock)) k_ ∧ some k_ ≠ (u4 : Value).ownBlock) (Kd.R_apart' (HO756.out) (Kd.S_typed HO_4.out) (by decide)) (fun k_ hk => ⟨hk.1.2, hk.2⟩))).1 k_ hk_.symm) ?aF ?aO ?aB ?aS ?aL ?_; (case aP => exact Kd.M_row (Kd.R_mono (Kd.R_tight rfl (Kd.R_mono (ok' := fun k_ => ((fun k_ => some k_ ≠ (.slice (some ad757) x3_1.length co44 : Value).ownBlock)) k_ ∧ some k_ ≠ (u4 : Value).ownBlock) (Kd.R_apart' (HO756.out) (Kd.S_typed HO_4.out) (by decide)) (fun k_ hk => ⟨hk.1.2, hk.2⟩))) (fun _ h_ => h_))); (case aB => exact bz); (case aF => exact (fun k_ hk => Kd.fresh' (Kd.R_lt (rz HO_3.out)) k_ hk)); (case aO => exact (by (with_reducible repeat (first | apply Kd.S_alloc | apply Kd.S_drewN | apply Kd.S_drew)); exact Kd.S_mono HO_4.out (fun k_ hk => ⟨hk.1, fun e_ => hk.2 e_⟩))); (case aS => exact (below_size bz)); (case aL => have := LMc40.out; omega); intro v769 w45 ho hb hg hat; rw [← Ny768.out] at ho; have n0_ := Aside0.mk (Kd.R_over' (rz HO_3.out) (Kd.S_typed (rs HO_4.out)) (by decide) hg); have n1_ := Aside0.mk (blk_grown (g := gb750) (o := .cells #[.string a0_0, .int .i64 a0_1, .slice A0_2 l0_2.length c0_2, .int .i64 a0_3, .slice A0_4 l0_4.length c0_4] 30 (0, 0)) kz hg (Kd.S_ne HO_4.out BK750.out (by decide))); have n2_ := Aside0.mk (hb); have n3_ := Aside0.mk (ho); clear HO_3; clear BK750; clear HB; clear HO_4; clear HO756; have HO_3 := n0_; have BK750 := n1_; have HB := n2_; have HO770 := n3_; clear n0_ n1_ n2_ n3_; clear ho hb hg hat))
                 go_roundg k1
                 case measure => have := HK1.out; omega
                 case rel => exact ⟨(x3_1), (y768), (wrap64 (x14_1 + 1)), sz_, H', ⟨by have := HK1.out; omega⟩, ⟨by (with_reducible repeat (first | apply Kd.R_alloc | apply Kd.R_drewN | apply Kd.R_drew)); exact Kd.R_mono HO_3.out (fun _ hk => trivial)⟩, ⟨by (with_reducible repeat (first | apply Kd.S_alloc | apply Kd.S_drewN | apply Kd.S_drew)); exact HO770.out⟩, ⟨ kz⟩, ⟨ bz⟩⟩
               · rw [if_neg c40] at H
                 exact absurd H (by simp)
           · rw [if_neg c11] at H
             exact absurd H (by simp)
         · rw [if_neg c10] at H
           exact absurd H (by simp)
       · rw [if_neg c9] at H
         exact absurd H (by simp)
     · rw [if_neg c8] at H
       exact absurd H (by simp)
   · rw [if_neg c7] at H
     have c7b0 : decide (x14_1 < (l0_4.length : Int)) = false := decide_eq_false c7
     clear c7
     obtain rfl := Option.some.inj H
     go_wp2
     go_ret
     exact ⟨_, by first | rfl | (simp [errW_none, errW_some] <;> rfl) | (simp [*, errW_none, errW_some] <;> rfl), by (with_reducible repeat (first | apply Kd.S_alloc | apply Kd.S_drewN | apply Kd.S_drew)); exact Kd.S_mono HO_4.out (fun _ hk => trivial), bz⟩

set_option linter.unusedVariables false
set_option linter.unusedSimpArgs false

mutual
def impl_Loops.l0 : Nat → List (List Bool) → List Bool → List (S86) → Int → Int → ByteArray → Int → List Int → Int → List (S62) → Option ((List (S86)))
 | 0, _, _, _, _, _, _, _, _, _, _ => none
 | k + 1, x3, x4, x5, x20, x21, x1010000, x1010001, x1010002, x1010003, x1010004 => if x21 < x20 then (if 0 ≤ (x1010004.length : Int) then (if ((x1010004.length : Int) : Int).toNat ≤ 281474976710656 then ((impl_PrevBlocks.f k x1010000 x1010001 x1010002 x1010003 x1010004 x21).bind fun t1019 => (impl_Loops.l1 k x3 x4 x5 x21 (List.replicate ((x1010004.length : Int) : Int).toNat false) ([] : List Int) x20 x21 t1019 (t1019.length : Int) 0 x1010000 x1010001 x1010002 x1010003 x1010004)) else (none)) else (none)) else (some x5)
def impl_Loops.l1 : Nat → List (List Bool) → List Bool → List (S86) → Int → List Bool → List Int → Int → Int → List Int → Int → Int → ByteArray → Int → List Int → Int → List (S62) → Option ((List (S86)))
 | 0, _, _, _, _, _, _, _, _, _, _, _, _, _, _, _, _ => none
 | k + 1, x3, x4, x5, x6, x7, x8, x20, x21, x30, x31, x32, x1010000, x1010001, x1010002, x1010003, x1010004 => if x32 < x31 then (if 0 ≤ x32 then (if x32 < (x30.length : Int) then (if 0 ≤ x6 then (if x6 < (x3.length : Int) then (if 0 ≤ (rd x30 x32) then (if (rd x30 x32) < ((rd_L19 x3 x6).length : Int) then (if rdOf false (rd_L19 x3 x6) (rd x30 x32) = true then (if x8.length < 17592186044416 then (impl_Loops.l1 k x3 x4 x5 x6 x7 (x8 ++ [rd x30 x32]) x20 x21 x30 x31 (wrap64 (x32 + 1)) x1010000 x1010001 x1010002 x1010003 x1010004) else (none)) else (impl_Loops.l1 k x3 x4 x5 x6 x7 x8 x20 x21 x30 x31 (wrap64 (x32 + 1)) x1010000 x1010001 x1010002 x1010003 x1010004)) else (none)) else (none)) else (none)) else (none)) else (none)) else (none)) else (if (x8.length : Int) = 0 then (impl_Loops.l0 k x3 x4 x5 x20 (wrap64 (x21 + 1)) x1010000 x1010001 x1010002 x1010003 x1010004) else (if 0 ≤ x6 then (if x6 < (x7.length : Int) then (impl_Loops.l2 k x3 x4 x5 x6 (x7.set (x6 : Int).toNat true) x8 x20 x21 x1010000 x1010001 x1010002 x1010003 x1010004) else (none)) else (none)))
def impl_Loops.l2 : Nat → List (List Bool) → List Bool → List (S86) → Int → List Bool → List Int → Int → Int → ByteArray → Int → List Int → Int → List (S62) → Option ((List (S86)))
 | 0, _, _, _, _, _, _, _, _, _, _, _, _, _ => none
 | k + 1, x3, x4, x5, x6, x7, x8, x20, x21, x1010000, x1010001, x1010002, x1010003, x1010004 => if (x8.length : Int) > 0 then (if 0 ≤ (wrap64 ((x8.length : Int) - 1)) then (if (wrap64 ((x8.length : Int) - 1)) < (x8.length : Int) then (if (wrap64 ((x8.length : Int) - 1)) ≤ (x8.length : Int) then ((some (x8.take ((wrap64 ((x8.length : Int) - 1)) : Int).toNat : List Int)).bind fun y1030 => (if 0 ≤ (rd x8 (wrap64 ((x8.length : Int) - 1))) then (if (rd x8 (wrap64 ((x8.length : Int) - 1))) < (x7.length : Int) then (if rdOf false x7 (rd x8 (wrap64 ((x8.length : Int) - 1))) = true then (impl_Loops.l2 k x3 x4 x5 x6 x7 y1030 x20 x21 x1010000 x1010001 x1010002 x1010003 x1010004) else (if (rd x8 (wrap64 ((x8.length : Int) - 1))) < (x4.length : Int) then (if (rdOf false x4 (rd x8 (wrap64 ((x8.length : Int) - 1))) = true) then ((impl_PrevBlocks.f k x1010000 x1010001 x1010002 x1010003 x1010004 (rd x8 (wrap64 ((x8.length : Int) - 1)))).bind fun t1036 => (if y1030.length + t1036.length < 17592186044416 then (impl_Loops.l2 k x3 x4 x5 x6 (x7.set ((rd x8 (wrap64 ((x8.length : Int) - 1))) : Int).toNat true) (y1030 ++ t1036) x20 x21 x1010000 x1010001 x1010002 x1010003 x1010004) else (none))) else (impl_Loops.l2 k x3 x4 x5 x6 x7 y1030 x20 x21 x1010000 x1010001 x1010002 x1010003 x1010004)) else (none))) else (none)) else (none))) else (none)) else (none)) else (none)) else (impl_Loops.l3 k x3 x4 x5 x7 x20 x21 (x7.length : Int) 0 x1010000 x1010001 x1010002 x1010003 x1010004 x6 ([] : List Int))
def impl_Loops.l3 : Nat → List (List Bool) → List Bool → List (S86) → List Bool → Int → Int → Int → Int → ByteArray → Int → List Int → Int → List (S62) → Int → List Int → Option ((List (S86)))
 | 0, _, _, _, _, _, _, _, _, _, _, _, _, _, _, _ => none
 | k + 1, x3, x4, x5, x7, x20, x21, x90, x91, x1010000, x1010001, x1010002, x1010003, x1010004, x1043000, x1043001 => if x91 < x90 then (if 0 ≤ x91 then (if x91 < (x7.length : Int) then (if rdOf false x7 x91 = true then (if x1043001.length < 17592186044416 then (impl_Loops.l3 k x3 x4 x5 x7 x20 x21 x90 (wrap64 (x91 + 1)) x1010000 x1010001 x1010002 x1010003 x1010004 x1043000 (x1043001 ++ [x91])) else (none)) else (impl_Loops.l3 k x3 x4 x5 x7 x20 x21 x90 (wrap64 (x91 + 1)) x1010000 x1010001 x1010002 x1010003 x1010004 x1043000 x1043001)) else (none)) else (none)) else (if x5.length < 4398046511104 then (impl_Loops.l0 k x3 x4 (x5 ++ [(⟨x1043000, x1043001⟩ : S86)]) x20 (wrap64 (x21 + 1)) x1010000 x1010001 x1010002 x1010003 x1010004) else (none))
end
def impl_Loops.f (k : Nat) (a0_0 : ByteArray) (a0_1 : Int) (l0_2 : List Int) (a0_3 : Int) (l0_4 : List (S62)) : Option ((List (S86))) := (impl_dominance.f k a0_0 a0_1 l0_2 a0_3 l0_4).bind fun t1010 => ((impl_reached.f k a0_0 a0_1 l0_2 a0_3 l0_4 (-1)).bind fun t1013 => (impl_Loops.l0 k t1010 t1013 ([] : List (S86)) (l0_4.length : Int) 0 a0_0 a0_1 l0_2 a0_3 l0_4))
set_option maxHeartbeats 8000000 in
set_option maxRecDepth 100000 in
theorem impl_Loops.calls (k : Nat) (a0_0 : ByteArray) (a0_1 : Int) (A0_2 : Option Addr) (c0_2 : Nat) (l0_2 : List Int) (a0_3 : Int) (A0_4 : Option Addr) (c0_4 : Nat) (l0_4 : List (S62)) (r : List (S86)) (w : World) (hr0_2 : Kd.C (Kd.int .i64) w A0_2 l0_2.length l0_2) (hc0_2 : l0_2.length ≤ c0_2) (hr0_4 : Kd.C k62 w A0_4 l0_4.length l0_4) (hc0_4 : l0_4.length ≤ c0_4) (h : impl_Loops.f k a0_0 a0_1 l0_2 a0_3 l0_4 = some r) :
 Calls Try.prog 37 #[.agg #[.string a0_0, .int .i64 a0_1, .slice A0_2 l0_2.length c0_2, .int .i64 a0_3, .slice A0_4 l0_4.length c0_4]] w fun e w' => ∃ v0_ : Value, e = .returned (v0_) ∧ Kd.S k86 86 w' w.heap.size (fun _ => True) v0_ r ∧ Below w.heap.size w w' := by
 have hu30 := Try.underlying30
 have hu86 := Try.underlying86
 have HR0_2 := Aside0.mk hr0_2
 have HC0_2 := Aside0.mk hc0_2
 clear hr0_2 hc0_2
 have HR0_4 := Aside0.mk hr0_4
 have HC0_4 := Aside0.mk hc0_4
 clear hr0_4 hc0_4
 have HB := Aside0.mk (Below.refl w.heap.size w)
 have H : ((impl_dominance.f k a0_0 a0_1 l0_2 a0_3 l0_4).bind fun t1010 => ((impl_reached.f k a0_0 a0_1 l0_2 a0_3 l0_4 (-1)).bind fun t1013 => (impl_Loops.l0 k t1010 t1013 ([] : List (S86)) (l0_4.length : Int) 0 a0_0 a0_1 l0_2 a0_3 l0_4))) = some r := h
 clear h
 replace H := Option.bind_eq_some_iff.mp H
 obtain ⟨t1010, A20, H⟩ := H
 replace H : ((impl_reached.f k a0_0 a0_1 l0_2 a0_3 l0_4 (-1)).bind fun t1013 => (impl_Loops.l0 k t1010 t1013 ([] : List (S86)) (l0_4.length : Int) 0 a0_0 a0_1 l0_2 a0_3 l0_4)) = some r := H
 have A2 := Aside0.mk A20
 clear A20
 replace H := Option.bind_eq_some_iff.mp H
 obtain ⟨t1013, A30, H⟩ := H
 replace H : (impl_Loops.l0 k t1010 t1013 ([] : List (S86)) (l0_4.length : Int) 0 a0_0 a0_1 l0_2 a0_3 l0_4) = some r := H
 have A3 := Aside0.mk A30
 clear A30
 have H' := Aside0.mk H
 clear H
 go_enter Try.func37, Try.ntmps37
 go_wp2_with (first | ((with_reducible refine gate_dst (N := 1) rfl ?_); refine box_event ?hg (N := 1) ?hd (cs := #[.string a0_0, .int .i64 a0_1, .slice A0_2 l0_2.length c0_2, .int .i64 a0_3, .slice A0_4 l0_4.length c0_4]) (t := 30) ?hr ?_; (case hd => rfl); (case hg => rfl); (case hr => first | (go_simp; done) | (go_simp; rfl)); intro gb1009 hg w4 hbox hb; have n0_ := Aside0.mk (below_step bz hb); have n1_ := Aside0.mk (hbox); have n2_ := Aside0.mk ((by rw [hg]; exact (below_size bz) : w.heap.size ≤ gb1009)); have n3_ := Aside0.mk ((by rw [hg]; exact (below_size bz) : w.heap.size ≤ gb1009)); clear HB; have HB := n0_; have BK1009 := n1_; have GW1009 := n2_; have GE1009 := n3_; clear n0_ n1_ n2_ n3_; clear hb hbox hg; have hcz5_0 : w4.cell? ⟨gb1009, 0, none⟩ = some (.string a0_0) := (blk_cell BK1009.out 0).trans rfl; have hcz5_1 : w4.cell? ⟨gb1009, 1, none⟩ = some (.int .i64 a0_1) := (blk_cell BK1009.out 1).trans rfl; have hcz5_2 : w4.cell? ⟨gb1009, 2, none⟩ = some (.slice A0_2 l0_2.length c0_2) := (blk_cell BK1009.out 2).trans rfl; have hcz5_3 : w4.cell? ⟨gb1009, 3, none⟩ = some (.int .i64 a0_3) := (blk_cell BK1009.out 3).trans rfl; have hcz5_4 : w4.cell? ⟨gb1009, 4, none⟩ = some (.slice A0_4 l0_4.length c0_4) := (blk_cell BK1009.out 4).trans rfl; have hfz5_0 := blk_frozen BK1009.out 0; have hfz5_1 := blk_frozen BK1009.out 1; have hfz5_2 := blk_frozen BK1009.out 2; have hfz5_3 := blk_frozen BK1009.out 3; have hfz5_4 := blk_frozen BK1009.out 4) | ((with_reducible refine gate_callee (f := 60) rfl ?_); refine goesL_ (some 15) rfl rfl Try.func60 (by kernel_rfl) rfl #[.agg #[.string a0_0, .int .i64 a0_1, .slice A0_2 l0_2.length c0_2, .int .i64 a0_3, .slice A0_4 l0_4.length c0_4]] rfl lz ?_; (with_reducible refine (impl_dominance.calls k a0_0 a0_1 _ _ l0_2 a0_3 _ _ l0_4 t1010 _ ?side1 ?side2 ?side3 ?side4 A2.out).mono ?_); (case side1 => exact cz HR0_2.out); (case side2 => exact HC0_2.out); (case side3 => exact cz HR0_4.out); (case side4 => exact HC0_4.out); rintro e w6 ⟨v1011, rfl, ho0, hb⟩; refine ⟨_, rfl, ?_⟩; have n0_ := Aside0.mk (Kd.S_lower ho0 (below_size bz)); have n1_ := Aside0.mk (blk_below (g := gb1009) (o := .cells #[.string a0_0, .int .i64 a0_1, .slice A0_2 l0_2.length c0_2, .int .i64 a0_3, .slice A0_4 l0_4.length c0_4] 30 (0, 0)) kz hb); have n2_ := Aside0.mk (below_step bz hb); clear BK1009; clear HB; have HO1012 := n0_; have BK1009 := n1_; have HB := n2_; clear n0_ n1_ n2_; (try clear hb); (try clear hb2); (try clear hk); (try clear hi); (try clear ho0); have hcz7_0 : w6.cell? ⟨gb1009, 0, none⟩ = some (.string a0_0) := (blk_cell BK1009.out 0).trans rfl; have hcz7_1 : w6.cell? ⟨gb1009, 1, none⟩ = some (.int .i64 a0_1) := (blk_cell BK1009.out 1).trans rfl; have hcz7_2 : w6.cell? ⟨gb1009, 2, none⟩ = some (.slice A0_2 l0_2.length c0_2) := (blk_cell BK1009.out 2).trans rfl; have hcz7_3 : w6.cell? ⟨gb1009, 3, none⟩ = some (.int .i64 a0_3) := (blk_cell BK1009.out 3).trans rfl; have hcz7_4 : w6.cell? ⟨gb1009, 4, none⟩ = some (.slice A0_4 l0_4.length c0_4) := (blk_cell BK1009.out 4).trans rfl; have hfz7_0 := blk_frozen BK1009.out 0; have hfz7_1 := blk_frozen BK1009.out 1; have hfz7_2 := blk_frozen BK1009.out 2; have hfz7_3 := blk_frozen BK1009.out 3; have hfz7_4 := blk_frozen BK1009.out 4) | ((with_reducible refine gate_callee (f := 49) rfl ?_); refine goesL_ (some 17) rfl rfl Try.func49 (by kernel_rfl) rfl #[.agg #[.string a0_0, .int .i64 a0_1, .slice A0_2 l0_2.length c0_2, .int .i64 a0_3, .slice A0_4 l0_4.length c0_4], .int .i64 (-1)] rfl lz ?_; (with_reducible refine (impl_reached.calls k a0_0 a0_1 _ _ l0_2 a0_3 _ _ l0_4 (-1) t1013 _ ?side1 ?side2 ?side3 ?side4 A3.out).mono ?_); (case side1 => exact cz HR0_2.out); (case side2 => exact HC0_2.out); (case side3 => exact cz HR0_4.out); (case side4 => exact HC0_4.out); rintro e w8 ⟨v1014, rfl, ho0, hb⟩; refine ⟨_, rfl, ?_⟩; have n0_ := Aside0.mk (Kd.S_elder' (rs HO1012.out) (Kd.R_base ho0) hb); have n1_ := Aside0.mk (Kd.R_lower ho0 (below_size bz)); have n2_ := Aside0.mk (blk_below (g := gb1009) (o := .cells #[.string a0_0, .int .i64 a0_1, .slice A0_2 l0_2.length c0_2, .int .i64 a0_3, .slice A0_4 l0_4.length c0_4] 30 (0, 0)) kz hb); have n3_ := Aside0.mk (below_step bz hb); clear HO1012; clear BK1009; clear HB; have HO1012 := n0_; have HO1015 := n1_; have BK1009 := n2_; have HB := n3_; clear n0_ n1_ n2_ n3_; (try clear hb); (try clear hb2); (try clear hk); (try clear hi); (try clear ho0); have hcz9_0 : w8.cell? ⟨gb1009, 0, none⟩ = some (.string a0_0) := (blk_cell BK1009.out 0).trans rfl; have hcz9_1 : w8.cell? ⟨gb1009, 1, none⟩ = some (.int .i64 a0_1) := (blk_cell BK1009.out 1).trans rfl; have hcz9_2 : w8.cell? ⟨gb1009, 2, none⟩ = some (.slice A0_2 l0_2.length c0_2) := (blk_cell BK1009.out 2).trans rfl; have hcz9_3 : w8.cell? ⟨gb1009, 3, none⟩ = some (.int .i64 a0_3) := (blk_cell BK1009.out 3).trans rfl; have hcz9_4 : w8.cell? ⟨gb1009, 4, none⟩ = some (.slice A0_4 l0_4.length c0_4) := (blk_cell BK1009.out 4).trans rfl; have hfz9_0 := blk_frozen BK1009.out 0; have hfz9_1 := blk_frozen BK1009.out 1; have hfz9_2 := blk_frozen BK1009.out 2; have hfz9_3 := blk_frozen BK1009.out 3; have hfz9_4 := blk_frozen BK1009.out 4))
 go_loopg [5, 21] k (fun kq v5 v21 w' => ∃ (x4_1 : List Bool) (x5_1 : List (S86)) (x21_1 : Int), v21 = .int .i64 x21_1 ∧ Aside0 (impl_Loops.l0 kq t1010 x4_1 x5_1 (l0_4.length : Int) x21_1 a0_0 a0_1 l0_2 a0_3 l0_4 = some r) ∧ Aside0 (kq ≤ k) ∧ Aside0 (Kd.S (Kd.slice 4 Kd.bool) 54 w' w.heap.size (fun k_ => some k_ ≠ (v1014 : Value).ownBlock) v1011 t1010) ∧ Aside0 (Kd.R Kd.bool 4 w' w.heap.size (fun _ => True) v1014 x4_1) ∧ Aside0 (Kd.S k86 86 w' w.heap.size (fun _ => True) v5 x5_1) ∧ Aside0 (w'.heap[gb1009]? = some (.cells #[.string a0_0, .int .i64 a0_1, (.slice A0_2 l0_2.length c0_2), .int .i64 a0_3, (.slice A0_4 l0_4.length c0_4)] 30 (0, 0))) ∧ Aside0 (Below w.heap.size w w'))
 case atStart => exact ⟨(t1013), (([] : List (S86))), (0), sz_, H', ⟨Nat.le_refl _⟩, ⟨by (with_reducible repeat (first | apply Kd.S_alloc | apply Kd.S_drewN | apply Kd.S_drew)); exact Kd.S_mono HO1012.out (fun _ hk => hk.2)⟩, ⟨by (with_reducible repeat (first | apply Kd.R_alloc | apply Kd.R_drewN | apply Kd.R_drew)); exact HO1015.out⟩, ⟨by first | exact Kd.S_nil _ _ _ _ _ | exact Kd.N_nil _ _ _ _ _ | exact Kd.V_nil _ _ _ _ _ | exact Kd.Q_nil _ _ _ _ _ | exact Kd.R_nil _ _ _ _ _⟩, ⟨ kz⟩, ⟨ bz⟩⟩
 case round =>
  clear H'
  try clear p2
  try clear c3
  try clear c4
  try clear c6
  try clear hcz5_0
  try clear hcz5_1
  try clear hcz5_2
  try clear hcz5_3
  try clear hcz5_4
  try clear hcz7_0
  try clear hcz7_1
  try clear hcz7_2
  try clear hcz7_3
  try clear hcz7_4
  try clear hcz9_0
  try clear hcz9_1
  try clear hcz9_2
  try clear hcz9_3
  try clear hcz9_4
  try clear hfz5_0
  try clear hfz5_1
  try clear hfz5_2
  try clear hfz5_3
  try clear hfz5_4
  try clear hfz7_0
  try clear hfz7_1
  try clear hfz7_2
  try clear hfz7_3
  try clear hfz7_4
  try clear hfz9_0
  try clear hfz9_1
  try clear hfz9_2
  try clear hfz9_3
  try clear hfz9_4
  obtain ⟨x4_1, x5_1, x21_1, rfl, HA, HK1, HO_3, HO_4, HO_5, BK1009, HB⟩ := hrel
  cases gk with
  | zero => exact absurd HA.out (by simp [impl_Loops.l0])
  | succ k1 =>
   have H := HA.out
   clear HA
   simp only [impl_Loops.l0] at H
   by_cases c10 : x21_1 < (l0_4.length : Int)
   · rw [if_pos c10] at H
     have c10b0 : decide (x21_1 < (l0_4.length : Int)) = true := decide_eq_true c10
     clear c10
     by_cases c11 : 0 ≤ (l0_4.length : Int)
     · rw [if_pos c11] at H
       have c11b0 := eq_true c11
       have c11b1 : decide (0 ≤ (l0_4.length : Int)) = true := decide_eq_true c11
       clear c11
       by_cases c12 : ((l0_4.length : Int) : Int).toNat ≤ 281474976710656
       · rw [if_pos c12] at H
         have c12b0 := eq_true c12
         have c12b1 : decide (((l0_4.length : Int) : Int).toNat ≤ 281474976710656) = true := decide_eq_true c12
         clear c12
         obtain ⟨y1016, hy1016⟩ : ∃ y_ : List Bool, y_ = (List.replicate ((l0_4.length : Int) : Int).toNat false) := ⟨_, rfl⟩
         replace H : ((impl_PrevBlocks.f k1 a0_0 a0_1 l0_2 a0_3 l0_4 x21_1).bind fun t1019 => (impl_Loops.l1 k1 t1010 x4_1 x5_1 x21_1 y1016 ([] : List Int) (l0_4.length : Int) x21_1 t1019 (t1019.length : Int) 0 a0_0 a0_1 l0_2 a0_3 l0_4)) = some r := by first | (rw [hy1016]; with_reducible exact H) | (have H2_ := (Option.bind_some _ _).symm.trans H; rw [hy1016]; with_reducible exact H2_) | (have H2_ := (Option.bind_some _ _).symm.trans H; with_reducible exact H2_) | with_reducible exact H | (rw [hy1016]; exact H) | exact H
         have Ny1016 := Aside0.mk hy1016
         clear hy1016
         replace H := Option.bind_eq_some_iff.mp H
         obtain ⟨t1019, A130, H⟩ := H
         replace H : (impl_Loops.l1 k1 t1010 x4_1 x5_1 x21_1 y1016 ([] : List Int) (l0_4.length : Int) x21_1 t1019 (t1019.length : Int) 0 a0_0 a0_1 l0_2 a0_3 l0_4) = some r := H
         have A13 := Aside0.mk A130
         clear A130
         have H' := Aside0.mk H
         clear H
         have hcz14_0 : wr.cell? ⟨gb1009, 0, none⟩ = some (.string a0_0) := (blk_cell BK1009.out 0).trans rfl
         have hcz14_1 : wr.cell? ⟨gb1009, 1, none⟩ = some (.int .i64 a0_1) := (blk_cell BK1009.out 1).trans rfl
         have hcz14_2 : wr.cell? ⟨gb1009, 2, none⟩ = some (.slice A0_2 l0_2.length c0_2) := (blk_cell BK1009.out 2).trans rfl
         have hcz14_3 : wr.cell? ⟨gb1009, 3, none⟩ = some (.int .i64 a0_3) := (blk_cell BK1009.out 3).trans rfl
         have hcz14_4 : wr.cell? ⟨gb1009, 4, none⟩ = some (.slice A0_4 l0_4.length c0_4) := (blk_cell BK1009.out 4).trans rfl
         have hfz14_0 := blk_frozen BK1009.out 0
         have hfz14_1 := blk_frozen BK1009.out 1
         have hfz14_2 := blk_frozen BK1009.out 2
         have hfz14_3 := blk_frozen BK1009.out 3
         have hfz14_4 := blk_frozen BK1009.out 4
         go_wp2_with (first | ((with_reducible refine gate_dst (N := 27) rfl ?_); refine Kd.R_make Kd.bool _ 4 rfl (N := 27) rfl 54 _ _ rfl (l0_4.length : Int) rfl rfl Try.underlying54 (.bool false) 1 info4 rfl (by decide) (by omega) false (ok := fun _ => True) (okp := fun _ => True) rfl (fun _ hk => hk) trivial (of_decide_eq_true az) (Nat.le_trans (Nat.mul_le_mul_right _ (of_decide_eq_true az : (l0_4.length : Int).toNat ≤ 281474976710656)) (by omega)) (Below.refl _ _) (Nat.le_refl _) ?_; intro v1017 w15 ho16 hb hg_ hnew_; clear hg_ hnew_; (first | rw [← Ny1016.out] at ho16 | (simp only [Int.reduceToNat] at ho16; rw [← Ny1016.out] at ho16)); have n0_ := Aside0.mk (Kd.S_elder' (rs HO_3.out) (Kd.R_base ho16) hb); have n1_ := Aside0.mk (Kd.R_elder' (rz HO_4.out) (Kd.R_base ho16) hb); have n2_ := Aside0.mk (Kd.S_below (rs HO_5.out) hb); have n3_ := Aside0.mk (Kd.R_lower (Kd.R_new' ho16 (Kd.R_lt (rz HO_4.out))) (below_size bz)); have n4_ := Aside0.mk (blk_below (g := gb1009) (o := .cells #[.string a0_0, .int .i64 a0_1, .slice A0_2 l0_2.length c0_2, .int .i64 a0_3, .slice A0_4 l0_4.length c0_4] 30 (0, 0)) kz hb); have n5_ := Aside0.mk (below_step bz hb); clear HO_3; clear HO_4; clear HO_5; clear BK1009; clear HB; have HO_3 := n0_; have HO_4 := n1_; have HO_5 := n2_; have HO1018 := n3_; have BK1009 := n4_; have HB := n5_; clear n0_ n1_ n2_ n3_ n4_ n5_; clear hb ho16; have hcz17_0 : w15.cell? ⟨gb1009, 0, none⟩ = some (.string a0_0) := (blk_cell BK1009.out 0).trans rfl; have hcz17_1 : w15.cell? ⟨gb1009, 1, none⟩ = some (.int .i64 a0_1) := (blk_cell BK1009.out 1).trans rfl; have hcz17_2 : w15.cell? ⟨gb1009, 2, none⟩ = some (.slice A0_2 l0_2.length c0_2) := (blk_cell BK1009.out 2).trans rfl; have hcz17_3 : w15.cell? ⟨gb1009, 3, none⟩ = some (.int .i64 a0_3) := (blk_cell BK1009.out 3).trans rfl; have hcz17_4 : w15.cell? ⟨gb1009, 4, none⟩ = some (.slice A0_4 l0_4.length c0_4) := (blk_cell BK1009.out 4).trans rfl; have hfz17_0 := blk_frozen BK1009.out 0; have hfz17_1 := blk_frozen BK1009.out 1; have hfz17_2 := blk_frozen BK1009.out 2; have hfz17_3 := blk_frozen BK1009.out 3; have hfz17_4 := blk_frozen BK1009.out 4) | ((with_reducible refine gate_callee (f := 24) rfl ?_); refine goesL_ (some 30) rfl rfl Try.func24 (by kernel_rfl) rfl #[.agg #[.string a0_0, .int .i64 a0_1, .slice A0_2 l0_2.length c0_2, .int .i64 a0_3, .slice A0_4 l0_4.length c0_4], .int .i64 x21_1] rfl lz ?_; (with_reducible refine (impl_PrevBlocks.calls k1 a0_0 a0_1 _ _ l0_2 a0_3 _ _ l0_4 x21_1 t1019 _ ?side1 ?side2 ?side3 ?side4 A13.out).mono ?_); (case side1 => exact cz HR0_2.out); (case side2 => exact HC0_2.out); (case side3 => exact cz HR0_4.out); (case side4 => exact HC0_4.out); rintro e w18 ⟨v1020, rfl, ho0, hb⟩; refine ⟨_, rfl, ?_⟩; have n0_ := Aside0.mk (Kd.S_below (rs HO_3.out) hb); have n1_ := Aside0.mk (Kd.R_below (rz HO_4.out) hb); have n2_ := Aside0.mk (Kd.S_elder' (rs HO_5.out) (Kd.R_base ho0) hb); have n3_ := Aside0.mk (Kd.R_below (rz HO1018.out) hb); have n4_ := Aside0.mk (Kd.R_lower ho0 (below_size bz)); have n5_ := Aside0.mk (blk_below (g := gb1009) (o := .cells #[.string a0_0, .int .i64 a0_1, .slice A0_2 l0_2.length c0_2, .int .i64 a0_3, .slice A0_4 l0_4.length c0_4] 30 (0, 0)) kz hb); have n6_ := Aside0.mk (below_step bz hb); clear HO_3; clear HO_4; clear HO_5; clear HO1018; clear BK1009; clear HB; have HO_3 := n0_; have HO_4 := n1_; have HO_5 := n2_; have HO1018 := n3_; have HO1021 := n4_; have BK1009 := n5_; have HB := n6_; clear n0_ n1_ n2_ n3_ n4_ n5_ n6_; (try clear hb); (try clear hb2); (try clear hk); (try clear hi); (try clear ho0); obtain ⟨Ao19, co19, eo19⟩ := Kd.R_slice HO1021.out; subst eo19))
         go_loopg [8, 32] k1 (fun kq v8 v32 w' => ∃ (x8_2 : List Int) (x32_2 : Int), v32 = .int .i64 x32_2 ∧ Aside0 (impl_Loops.l1 kq t1010 x4_1 x5_1 x21_1 y1016 x8_2 (l0_4.length : Int) x21_1 t1019 (t1019.length : Int) x32_2 a0_0 a0_1 l0_2 a0_3 l0_4 = some r) ∧ Aside0 (kq ≤ k1) ∧ Aside0 (Kd.S (Kd.slice 4 Kd.bool) 54 w' w.heap.size (fun k_ => some k_ ≠ (v1014 : Value).ownBlock ∧ some k_ ≠ (v1017 : Value).ownBlock) v1011 t1010) ∧ Aside0 (Kd.R Kd.bool 4 w' w.heap.size (fun k_ => some k_ ≠ (v1017 : Value).ownBlock) v1014 x4_1) ∧ Aside0 (Kd.S k86 86 w' w.heap.size (fun k_ => some k_ ≠ (v8 : Value).ownBlock ∧ some k_ ≠ ((.slice Ao19 t1019.length co19) : Value).ownBlock) u5 x5_1) ∧ Aside0 (Kd.R Kd.bool 4 w' w.heap.size (fun k_ => some k_ ≠ (v1014 : Value).ownBlock) v1017 y1016) ∧ Aside0 (Kd.R (Kd.int .i64) 2 w' w.heap.size (fun k_ => some k_ ≠ ((.slice Ao19 t1019.length co19) : Value).ownBlock) v8 x8_2) ∧ Aside0 (Kd.R (Kd.int .i64) 2 w' w.heap.size (fun k_ => some k_ ≠ (v8 : Value).ownBlock) (.slice Ao19 t1019.length co19) t1019) ∧ Aside0 (w'.heap[gb1009]? = some (.cells #[.string a0_0, .int .i64 a0_1, (.slice A0_2 l0_2.length c0_2), .int .i64 a0_3, (.slice A0_4 l0_4.length c0_4)] 30 (0, 0))) ∧ Aside0 (Below w.heap.size w w'))
         case atStart => exact ⟨(([] : List Int)), (0), sz_, H', ⟨Nat.le_refl _⟩, ⟨by (with_reducible repeat (first | apply Kd.S_alloc | apply Kd.S_drewN | apply Kd.S_drew)); exact HO_3.out⟩, ⟨by (with_reducible repeat (first | apply Kd.R_alloc | apply Kd.R_drewN | apply Kd.R_drew)); exact Kd.R_mono HO_4.out (fun _ hk => hk.2)⟩, ⟨by (with_reducible repeat (first | apply Kd.S_alloc | apply Kd.S_drewN | apply Kd.S_drew)); exact Kd.S_mono HO_5.out (fun _ hk => ⟨(by simp [Value.ownBlock]), hk.2⟩)⟩, ⟨by (with_reducible repeat (first | apply Kd.R_alloc | apply Kd.R_drewN | apply Kd.R_drew)); exact Kd.R_mono HO1018.out (fun _ hk => hk.2)⟩, ⟨by first | exact Kd.R_nil _ _ _ _ _ | exact Kd.N_nil _ _ _ _ _ | exact Kd.V_nil _ _ _ _ _ | exact Kd.Q_nil _ _ _ _ _ | exact Kd.S_nil _ _ _ _ _⟩, ⟨by (with_reducible repeat (first | apply Kd.R_alloc | apply Kd.R_drewN | apply Kd.R_drew)); exact Kd.R_mono HO1021.out (fun _ hk => (by simp [Value.ownBlock]))⟩, ⟨ kz⟩, ⟨ bz⟩⟩
         case round =>
          clear H'
          try clear c1
          try clear c2
          try clear p2
          try clear c3
          try clear c4
          try clear c6
          try clear c10
          try clear c10b0
          try clear c11
          try clear c11b0
          try clear c11b1
          try clear c12
          try clear c12b0
          try clear c12b1
          try clear hcz14_0
          try clear hcz14_1
          try clear hcz14_2
          try clear hcz14_3
          try clear hcz14_4
          try clear hcz17_0
          try clear hcz17_1
          try clear hcz17_2
          try clear hcz17_3
          try clear hcz17_4
          try clear hcz5_0
          try clear hcz5_1
          try clear hcz5_2
          try clear hcz5_3
          try clear hcz5_4
          try clear hcz7_0
          try clear hcz7_1
          try clear hcz7_2
          try clear hcz7_3
          try clear hcz7_4
          try clear hcz9_0
          try clear hcz9_1
          try clear hcz9_2
          try clear hcz9_3
          try clear hcz9_4
          try clear hfz14_0
          try clear hfz14_1
          try clear hfz14_2
          try clear hfz14_3
          try clear hfz14_4
          try clear hfz17_0
          try clear hfz17_1
          try clear hfz17_2
          try clear hfz17_3
          try clear hfz17_4
          try clear hfz5_0
          try clear hfz5_1
          try clear hfz5_2
          try clear hfz5_3
          try clear hfz5_4
          try clear hfz7_0
          try clear hfz7_1
          try clear hfz7_2
          try clear hfz7_3
          try clear hfz7_4
          try clear hfz9_0
          try clear hfz9_1
          try clear hfz9_2
          try clear hfz9_3
          try clear hfz9_4
          try clear p2
          obtain ⟨x8_2, x32_2, rfl, HA, HK2, HO_3, HO_4, HO_5, HO_7, HO_8, HO_30, BK1009, HB⟩ := hrel
          cases gk with
          | zero => exact absurd HA.out (by simp [impl_Loops.l1])
          | succ k2 =>
           have H := HA.out
           clear HA
           simp only [impl_Loops.l1] at H
           by_cases c20 : x32_2 < (t1019.length : Int)
           · rw [if_pos c20] at H
             have c20b0 : decide (x32_2 < (t1019.length : Int)) = true := decide_eq_true c20
             clear c20
             by_cases c21 : 0 ≤ x32_2
             · rw [if_pos c21] at H
               have c21b0 : decide (0 ≤ x32_2) = true := decide_eq_true c21
               clear c21
               by_cases c22 : x32_2 < (t1019.length : Int)
               · rw [if_pos c22] at H
                 have c22b0 : decide (x32_2 < (t1019.length : Int)) = true := decide_eq_true c22
                 clear c22
                 by_cases c23 : 0 ≤ x21_1
                 · rw [if_pos c23] at H
                   have c23b0 : decide (0 ≤ x21_1) = true := decide_eq_true c23
                   clear c23
                   by_cases c24 : x21_1 < (t1010.length : Int)
                   · rw [if_pos c24] at H
                     have c24b0 : decide (x21_1 < (t1010.length : Int)) = true := decide_eq_true c24
                     clear c24
                     by_cases c25 : 0 ≤ (rd t1019 x32_2)
                     · rw [if_pos c25] at H
                       have c25b0 : decide (0 ≤ (rd t1019 x32_2)) = true := decide_eq_true c25
                       clear c25
                       by_cases c26 : (rd t1019 x32_2) < ((rd_L19 t1010 x21_1).length : Int)
                       · rw [if_pos c26] at H
                         have c26b0 : decide ((rd t1019 x32_2) < ((rd_L19 t1010 x21_1).length : Int)) = true := decide_eq_true c26
                         clear c26
                         obtain ⟨bq27, hbq27⟩ : ∃ b_ : Bool, b_ = (rdOf false (rd_L19 t1010 x21_1) (rd t1019 x32_2)) := ⟨_, rfl⟩
                         replace H : (if bq27 = true then (if x8_2.length < 17592186044416 then (impl_Loops.l1 k2 t1010 x4_1 x5_1 x21_1 y1016 (x8_2 ++ [rd t1019 x32_2]) (l0_4.length : Int) x21_1 t1019 (t1019.length : Int) (wrap64 (x32_2 + 1)) a0_0 a0_1 l0_2 a0_3 l0_4) else (none)) else (impl_Loops.l1 k2 t1010 x4_1 x5_1 x21_1 y1016 x8_2 (l0_4.length : Int) x21_1 t1019 (t1019.length : Int) (wrap64 (x32_2 + 1)) a0_0 a0_1 l0_2 a0_3 l0_4)) = some r := by rw [← hbq27] at H; exact H
                         have Nbq27 := Aside0.mk hbq27
                         clear hbq27
                         by_cases c28 : bq27 = true
                         · subst c28
                           have H1 : (if x8_2.length < 17592186044416 then (impl_Loops.l1 k2 t1010 x4_1 x5_1 x21_1 y1016 (x8_2 ++ [rd t1019 x32_2]) (l0_4.length : Int) x21_1 t1019 (t1019.length : Int) (wrap64 (x32_2 + 1)) a0_0 a0_1 l0_2 a0_3 l0_4) else (none)) = some r := by rw [if_pos rfl] at H; exact H
                           clear H
                           have H := H1
                           clear H1
                           by_cases c29 : x8_2.length < 17592186044416
                           · rw [if_pos c29] at H
                             have LMc29 := Aside0.mk c29
                             clear c29
                             obtain ⟨y1025, hy1025⟩ : ∃ y_ : List Int, y_ = (x8_2 ++ [rd t1019 x32_2]) := ⟨_, rfl⟩
                             replace H : (impl_Loops.l1 k2 t1010 x4_1 x5_1 x21_1 y1016 y1025 (l0_4.length : Int) x21_1 t1019 (t1019.length : Int) (wrap64 (x32_2 + 1)) a0_0 a0_1 l0_2 a0_3 l0_4) = some r := by first | (rw [hy1025]; with_reducible exact H) | (have H2_ := (Option.bind_some _ _).symm.trans H; rw [hy1025]; with_reducible exact H2_) | (have H2_ := (Option.bind_some _ _).symm.trans H; with_reducible exact H2_) | with_reducible exact H | (rw [hy1025]; exact H) | exact H
                             have Ny1025 := Aside0.mk hy1025
                             clear hy1025
                             have H' := Aside0.mk H
                             clear H
                             have p1022 : 0 ≤ (x32_2 : Int) := of_decide_eq_true az
                             have q1022 : x32_2 < (t1019.length : Int) := of_decide_eq_true az
                             obtain ⟨ad1022, e1022, hx1022_0⟩ := Kd.at_int (Kd.R_reads' HO_30.out).2.2 x32_2 p1022 q1022
                             cases e1022
                             replace p1022 := eq_true p1022
                             replace q1022 := eq_true q1022
                             obtain ⟨Ao30, co30, eo30⟩ := Kd.S_slice HO_3.out
                             subst eo30
                             have p1023 : 0 ≤ (x21_1 : Int) := of_decide_eq_true az
                             have q1023 : x21_1 < (t1010.length : Int) := of_decide_eq_true az
                             obtain ⟨ad1023, A1023_0, c1023_0, e1023, hx1023_0, hl1023_0, hi1023_0⟩ := at_L19 (Kd.S_reads' HO_3.out).2.2 x21_1 p1023 q1023
                             cases e1023
                             obtain ⟨ce1023, hce1023, hMe1023, hcc1023⟩ := Kd.S_get HO_3.out [] x21_1 p1023 (by first | exact q1023 | exact of_decide_eq_true az | (have e_ := (Kd.S_reads' HO_3.out).1; omega))
                             obtain ⟨ve1023_0, rfl, ge1023_0⟩ := hMe1023
                             have hv1023_0 := hcc1023 0 _ rfl
                             rw [Nat.add_zero, show ((Kd.slice 4 Kd.bool)).sz = 1 from rfl, Nat.mul_one] at hv1023_0
                             replace hv1023_0 := Option.some.inj (hv1023_0.symm.trans hx1023_0)
                             rw [hv1023_0] at ge1023_0
                             have HL1023_0 := Aside0.mk (show Kd.R Kd.bool 4 _ _ _ _ (rd_L19 t1010 x21_1) from ge1023_0)
                             clear hv1023_0 ge1023_0
                             clear hcc1023 hce1023
                             have HR1023_0 := Aside0.mk hi1023_0
                             have HC1023_0 := Aside0.mk hl1023_0
                             clear hi1023_0 hl1023_0
                             replace p1023 := eq_true p1023
                             replace q1023 := eq_true q1023
                             have p1024 : 0 ≤ ((rd t1019 x32_2) : Int) := of_decide_eq_true az
                             have q1024 : (rd t1019 x32_2) < ((rd_L19 t1010 x21_1).length : Int) := of_decide_eq_true az
                             obtain ⟨ad1024, e1024, hx1024_0⟩ := Kd.at_bool (by repeat (first | (with_reducible exact HR1023_0.out) | (with_reducible refine Kd.C_alloc ?_ _) | (with_reducible refine Kd.C_drewN ?_ _) | (with_reducible refine Kd.C_drew ?_) | exact HR1023_0.out)) (rd t1019 x32_2) p1024 q1024
                             (try rw [← Nbq27.out] at hx1024_0)
                             cases e1024
                             replace p1024 := eq_true p1024
                             replace q1024 := eq_true q1024
                             go_wp2_with (first | ((with_reducible refine gate_builtin (b := .append) (xs := #[.tmp 43, .tmp 45]) rfl ?_); at_builtin; refine Kd.R_append (Kd.int .i64) (w0 := w) w.heap.size rfl (.tmp 43) (.tmp 45) 22 2 (.int .i64 0) 8 rfl Try.underlying22 info2 rfl (by decide) (by omega) u8 x8_2 (rd t1019 x32_2) [.int .i64 (rd t1019 x32_2)] (fun k_ => some k_ ≠ (.slice (some ad1022) t1019.length co19 : Value).ownBlock) (fun _ => False) rfl rfl ?aP (fun _ hk => hk.elim) ?aF ?aO ?aB ?aS ?aL ?_; (case aP => exact rfl); (case aB => exact bz); (case aF => exact (fun k_ hk => Kd.fresh' (Kd.R_lt (rz HO_30.out)) k_ hk)); (case aO => exact (rz HO_8.out)); (case aS => exact (below_size bz)); (case aL => have := LMc29.out; omega); intro v1026 w31 ho hb hg hat; rw [← Ny1025.out] at ho; have n0_ := Aside0.mk (Kd.S_over' (rs HO_3.out) (Kd.R_typed (rz HO_8.out)) (by decide) hg); have n1_ := Aside0.mk (Kd.R_over' (rz HO_4.out) (Kd.R_typed (rz HO_8.out)) (by decide) hg); have n2_ := Aside0.mk (Kd.S_after (ok := (fun k_ => some k_ ≠ (.slice (some ad1022) t1019.length co19 : Value).ownBlock)) (by (with_reducible repeat (first | apply Kd.S_alloc | apply Kd.S_drewN | apply Kd.S_drew)); exact Kd.S_mono HO_5.out (fun _ hk => ⟨hk.2, hk.1⟩)) hg hat); have n3_ := Aside0.mk (Kd.R_over' (rz HO_7.out) (Kd.R_typed (rz HO_8.out)) (by decide) hg); have n4_ := Aside0.mk (Kd.R_after (ok := (fun _ => True)) (by (with_reducible repeat (first | apply Kd.R_alloc | apply Kd.R_drewN | apply Kd.R_drew)); exact Kd.R_mono HO_30.out (fun _ hk => ⟨trivial, hk⟩)) hg hat); have n5_ := Aside0.mk (blk_grown (g := gb1009) (o := .cells #[.string a0_0, .int .i64 a0_1, .slice A0_2 l0_2.length c0_2, .int .i64 a0_3, .slice A0_4 l0_4.length c0_4] 30 (0, 0)) kz hg (Kd.R_ne HO_8.out BK1009.out (by decide))); have n6_ := Aside0.mk (Kd.R_over' (by (with_reducible repeat (first | apply Kd.R_alloc | apply Kd.R_drewN | apply Kd.R_drew)); exact HL1023_0.out) (Kd.R_typed (rz HO_8.out)) (by decide) hg); have n7_ := Aside0.mk (hb); have n8_ := Aside0.mk (ho); clear HO_3; clear HO_4; clear HO_5; clear HO_7; clear HO_30; clear BK1009; clear HL1023_0; clear HB; clear HO_8; have HO_3 := n0_; have HO_4 := n1_; have HO_5 := n2_; have HO_7 := n3_; have HO_30 := n4_; have BK1009 := n5_; have HL1023_0 := n6_; have HB := n7_; have HO1027 := n8_; clear n0_ n1_ n2_ n3_ n4_ n5_ n6_ n7_ n8_; clear ho hb hg hat))
                             go_roundg k2
                             case measure => have := HK1.out; have := HK2.out; omega
                             case rel => exact ⟨(y1025), (wrap64 (x32_2 + 1)), sz_, H', ⟨by have := HK1.out; have := HK2.out; omega⟩, ⟨by (with_reducible repeat (first | apply Kd.S_alloc | apply Kd.S_drewN | apply Kd.S_drew)); exact HO_3.out⟩, ⟨by (with_reducible repeat (first | apply Kd.R_alloc | apply Kd.R_drewN | apply Kd.R_drew)); exact HO_4.out⟩, ⟨by (with_reducible repeat (first | apply Kd.S_alloc | apply Kd.S_drewN | apply Kd.S_drew)); exact Kd.S_mono HO_5.out (fun _ hk => ⟨hk.2, hk.1⟩)⟩, ⟨by (with_reducible repeat (first | apply Kd.R_alloc | apply Kd.R_drewN | apply Kd.R_drew)); exact HO_7.out⟩, ⟨by (with_reducible repeat (first | apply Kd.R_alloc | apply Kd.R_drewN | apply Kd.R_drew)); exact HO1027.out⟩, ⟨by (with_reducible repeat (first | apply Kd.R_alloc | apply Kd.R_drewN | apply Kd.R_drew)); exact Kd.R_mono HO_30.out (fun _ hk => hk.2)⟩, ⟨ kz⟩, ⟨ bz⟩⟩
                           · rw [if_neg c29] at H
                             exact absurd H (by simp)
                         · replace c28 := Bool.eq_false_iff.mpr c28
                           subst c28
                           have H1 : (impl_Loops.l1 k2 t1010 x4_1 x5_1 x21_1 y1016 x8_2 (l0_4.length : Int) x21_1 t1019 (t1019.length : Int) (wrap64 (x32_2 + 1)) a0_0 a0_1 l0_2 a0_3 l0_4) = some r := by rw [if_neg (show ¬ (false = true) by decide)] at H; exact H
                           clear H
                           have H := H1
                           clear H1
                           have H' := Aside0.mk H
                           clear H
                           have p1022 : 0 ≤ (x32_2 : Int) := of_decide_eq_true az
                           have q1022 : x32_2 < (t1019.length : Int) := of_decide_eq_true az
                           obtain ⟨ad1022, e1022, hx1022_0⟩ := Kd.at_int (Kd.R_reads' HO_30.out).2.2 x32_2 p1022 q1022
                           cases e1022
                           replace p1022 := eq_true p1022
                           replace q1022 := eq_true q1022
                           obtain ⟨Ao32, co32, eo32⟩ := Kd.S_slice HO_3.out
                           subst eo32
                           have p1023 : 0 ≤ (x21_1 : Int) := of_decide_eq_true az
                           have q1023 : x21_1 < (t1010.length : Int) := of_decide_eq_true az
                           obtain ⟨ad1023, A1023_0, c1023_0, e1023, hx1023_0, hl1023_0, hi1023_0⟩ := at_L19 (Kd.S_reads' HO_3.out).2.2 x21_1 p1023 q1023
                           cases e1023
                           obtain ⟨ce1023, hce1023, hMe1023, hcc1023⟩ := Kd.S_get HO_3.out [] x21_1 p1023 (by first | exact q1023 | exact of_decide_eq_true az | (have e_ := (Kd.S_reads' HO_3.out).1; omega))
                           obtain ⟨ve1023_0, rfl, ge1023_0⟩ := hMe1023
                           have hv1023_0 := hcc1023 0 _ rfl
                           rw [Nat.add_zero, show ((Kd.slice 4 Kd.bool)).sz = 1 from rfl, Nat.mul_one] at hv1023_0
                           replace hv1023_0 := Option.some.inj (hv1023_0.symm.trans hx1023_0)
                           rw [hv1023_0] at ge1023_0
                           have HL1023_0 := Aside0.mk (show Kd.R Kd.bool 4 _ _ _ _ (rd_L19 t1010 x21_1) from ge1023_0)
                           clear hv1023_0 ge1023_0
                           clear hcc1023 hce1023
                           have HR1023_0 := Aside0.mk hi1023_0
                           have HC1023_0 := Aside0.mk hl1023_0
                           clear hi1023_0 hl1023_0
                           replace p1023 := eq_true p1023
                           replace q1023 := eq_true q1023
                           have p1024 : 0 ≤ ((rd t1019 x32_2) : Int) := of_decide_eq_true az
                           have q1024 : (rd t1019 x32_2) < ((rd_L19 t1010 x21_1).length : Int) := of_decide_eq_true az
                           obtain ⟨ad1024, e1024, hx1024_0⟩ := Kd.at_bool (by repeat (first | (with_reducible exact HR1023_0.out) | (with_reducible refine Kd.C_alloc ?_ _) | (with_reducible refine Kd.C_drewN ?_ _) | (with_reducible refine Kd.C_drew ?_) | exact HR1023_0.out)) (rd t1019 x32_2) p1024 q1024
                           (try rw [← Nbq27.out] at hx1024_0)
                           cases e1024
                           replace p1024 := eq_true p1024
                           replace q1024 := eq_true q1024
                           go_wp2
                           go_roundg k2
                           case measure => have := HK1.out; have := HK2.out; omega
                           case rel => exact ⟨(x8_2), (wrap64 (x32_2 + 1)), sz_, H', ⟨by have := HK1.out; have := HK2.out; omega⟩, ⟨by (with_reducible repeat (first | apply Kd.S_alloc | apply Kd.S_drewN | apply Kd.S_drew)); exact HO_3.out⟩, ⟨by (with_reducible repeat (first | apply Kd.R_alloc | apply Kd.R_drewN | apply Kd.R_drew)); exact HO_4.out⟩, ⟨by (with_reducible repeat (first | apply Kd.S_alloc | apply Kd.S_drewN | apply Kd.S_drew)); exact HO_5.out⟩, ⟨by (with_reducible repeat (first | apply Kd.R_alloc | apply Kd.R_drewN | apply Kd.R_drew)); exact HO_7.out⟩, ⟨by (with_reducible repeat (first | apply Kd.R_alloc | apply Kd.R_drewN | apply Kd.R_drew)); exact HO_8.out⟩, ⟨by (with_reducible repeat (first | apply Kd.R_alloc | apply Kd.R_drewN | apply Kd.R_drew)); exact HO_30.out⟩, ⟨ kz⟩, ⟨ bz⟩⟩
                       · rw [if_neg c26] at H
                         exact absurd H (by simp)
                     · rw [if_neg c25] at H
                       exact absurd H (by simp)
                   · rw [if_neg c24] at H
                     exact absurd H (by simp)
                 · rw [if_neg c23] at H
                   exact absurd H (by simp)
               · rw [if_neg c22] at H
                 exact absurd H (by simp)
             · rw [if_neg c21] at H
               exact absurd H (by simp)
           · rw [if_neg c20] at H
             have c20b0 : decide (x32_2 < (t1019.length : Int)) = false := decide_eq_false c20
             clear c20
             by_cases c33 : (x8_2.length : Int) = 0
             · rw [if_pos c33] at H
               have c33b0 : ((x8_2.length : Int) == 0) = true := beq_iff_eq.mpr c33
               have c33b1 : ((x8_2.length : Int) != 0) = false := bne_eq_false_iff_eq.mpr c33
               clear c33
               have H' := Aside0.mk H
               clear H
               obtain ⟨Ao34, co34, eo34⟩ := Kd.R_slice HO_8.out
               subst eo34
               go_wp2
               go_roundg k2
               case measure => have := HK1.out; have := HK2.out; omega
               case rel => exact ⟨(x4_1), (x5_1), (wrap64 (x21_1 + 1)), sz_, H', ⟨by have := HK1.out; have := HK2.out; omega⟩, ⟨by (with_reducible repeat (first | apply Kd.S_alloc | apply Kd.S_drewN | apply Kd.S_drew)); exact Kd.S_mono HO_3.out (fun _ hk => hk.1)⟩, ⟨by (with_reducible repeat (first | apply Kd.R_alloc | apply Kd.R_drewN | apply Kd.R_drew)); exact Kd.R_mono HO_4.out (fun _ hk => trivial)⟩, ⟨by (with_reducible repeat (first | apply Kd.S_alloc | apply Kd.S_drewN | apply Kd.S_drew)); exact Kd.S_mono HO_5.out (fun _ hk => trivial)⟩, ⟨ kz⟩, ⟨ bz⟩⟩
             · rw [if_neg c33] at H
               have c33b0 : ((x8_2.length : Int) == 0) = false := beq_eq_false_iff_ne.mpr c33
               have c33b1 : ((x8_2.length : Int) != 0) = true := bne_iff_ne.mpr c33
               have c33b2 : ¬ (x8_2 = []) := fun h_ => c33 (by rw [h_]; rfl)
               by_cases c35 : 0 ≤ x21_1
               · rw [if_pos c35] at H
                 have c35b0 : decide (0 ≤ x21_1) = true := decide_eq_true c35
                 clear c35
                 by_cases c36 : x21_1 < (y1016.length : Int)
                 · rw [if_pos c36] at H
                   have c36b0 : decide (x21_1 < (y1016.length : Int)) = true := decide_eq_true c36
                   clear c36
                   obtain ⟨y1028, hy1028⟩ : ∃ y_ : List Bool, y_ = (y1016.set (x21_1 : Int).toNat true) := ⟨_, rfl⟩
                   replace H : (impl_Loops.l2 k2 t1010 x4_1 x5_1 x21_1 y1028 x8_2 (l0_4.length : Int) x21_1 a0_0 a0_1 l0_2 a0_3 l0_4) = some r := by first | (rw [hy1028]; with_reducible exact H) | (have H2_ := (Option.bind_some _ _).symm.trans H; rw [hy1028]; with_reducible exact H2_) | (have H2_ := (Option.bind_some _ _).symm.trans H; with_reducible exact H2_) | with_reducible exact H | (rw [hy1028]; exact H) | exact H
                   have Ny1028 := Aside0.mk hy1028
                   clear hy1028
                   have H' := Aside0.mk H
                   clear H
                   obtain ⟨Ao38, co38, eo38⟩ := Kd.R_slice HO_8.out
                   subst eo38
                   have p37 : 0 ≤ (x21_1 : Int) := of_decide_eq_true az
                   have q37 : (x21_1 : Int) < ((y1016.length : Int) : Int) := of_decide_eq_true az
                   obtain ⟨go37, co37, eo37, gb37, gl37, cl37, HG37⟩ := Kd.R_form HO_7.out (by omega)
                   (first | cases eo37 | (injection eo37 with ea_ en_ ec_; (first | subst ea_ | (injection ea_ with ea_; subst ea_)); subst ec_; clear en_))
                   have GB37 := Aside0.mk gb37
                   have GG37 := Aside0.mk HG37
                   clear gb37 gl37 HG37
                   obtain ⟨hx37_0, hf37_0⟩ := Kd.R_celln false HO_7.out (x21_1 : Int) p37 q37
                   replace p37 := eq_true p37
                   replace q37 := eq_true q37
                   have HP39 := Kd.R_putg HO_7.out (x21_1 : Int) true
                   go_wp2_with (first | ((with_reducible refine gate_store (t := 4) (p := 53) rfl ?_); refine store_event (t := 4) (p := 53) (v := ?vo_w40) (w1 := (wr.setCell ⟨go37, (x21_1 : Int).toNat, none⟩ (.bool true))) ?hg ?ho ?hn ?hr ?_; (case ho => rfl); (case hg => rfl); (case hn => rfl); (case hr => first | (go_simp; done) | (go_simp; rfl)); intro w40 hw; have hg : wr.grownBy w40 (some go37) := (by rw [hw]; exact HP39.2); have hp_ : Kd.R Kd.bool 4 w40 w.heap.size (fun k_ => some k_ ≠ (v1014 : Value).ownBlock) (.slice (some ⟨go37, 0, none⟩) y1016.length co37) y1028 := (by rw [hw, Ny1028.out]; exact HP39.1); clear HP39; have n0_ := Aside0.mk (Kd.S_after (v := (.slice (some ⟨go37, 0, none⟩) y1016.length co37)) (v1 := (.slice (some ⟨go37, 0, none⟩) y1016.length co37)) (ok := (fun k_ => some k_ ≠ (v1014 : Value).ownBlock)) (rs HO_3.out) hg (.inl rfl)); have n1_ := Aside0.mk (Kd.R_after (v := (.slice (some ⟨go37, 0, none⟩) y1016.length co37)) (v1 := (.slice (some ⟨go37, 0, none⟩) y1016.length co37)) (ok := (fun _ => True)) (by (with_reducible repeat (first | apply Kd.R_alloc | apply Kd.R_drewN | apply Kd.R_drew)); exact Kd.R_mono HO_4.out (fun _ hk => ⟨trivial, hk⟩)) hg (.inl rfl)); have n2_ := Aside0.mk (Kd.S_over' (v := (.slice (some ⟨go37, 0, none⟩) y1016.length co37)) (rs HO_5.out) (Kd.R_typed HO_7.out) (by decide) hg); have n3_ := Aside0.mk (hp_); have n4_ := Aside0.mk (Kd.R_over' (v := (.slice (some ⟨go37, 0, none⟩) y1016.length co37)) (rz HO_8.out) (Kd.R_typed HO_7.out) (by decide) hg); have n5_ := Aside0.mk (Kd.R_over' (v := (.slice (some ⟨go37, 0, none⟩) y1016.length co37)) (rz HO_30.out) (Kd.R_typed HO_7.out) (by decide) hg); have n6_ := Aside0.mk (blk_grown (g := gb1009) (o := .cells #[.string a0_0, .int .i64 a0_1, .slice A0_2 l0_2.length c0_2, .int .i64 a0_3, .slice A0_4 l0_4.length c0_4] 30 (0, 0)) kz hg (Kd.R_ne HO_7.out BK1009.out (by decide))); have n7_ := Aside0.mk ((by rw [hw]; exact below_set (HB.out) GB37.out : Below w.heap.size w w40)); clear HO_3; clear HO_4; clear HO_5; clear HO_7; clear HO_8; clear HO_30; clear BK1009; clear HB; have HO_3 := n0_; have HO_4 := n1_; have HO_5 := n2_; have HO_7 := n3_; have HO_8 := n4_; have HO_30 := n5_; have BK1009 := n6_; have HB := n7_; clear n0_ n1_ n2_ n3_ n4_ n5_ n6_ n7_; clear hg hw hp_))
                   go_loopg [8] k2 (fun kq v8 w' => ∃ (x7_3 : List Bool) (x8_3 : List Int), Aside0 (impl_Loops.l2 kq t1010 x4_1 x5_1 x21_1 x7_3 x8_3 (l0_4.length : Int) x21_1 a0_0 a0_1 l0_2 a0_3 l0_4 = some r) ∧ Aside0 (kq ≤ k2) ∧ Aside0 (Kd.S (Kd.slice 4 Kd.bool) 54 w' w.heap.size (fun k_ => some k_ ≠ (v1014 : Value).ownBlock ∧ some k_ ≠ ((.slice (some ⟨go37, 0, none⟩) y1016.length co37) : Value).ownBlock) v1011 t1010) ∧ Aside0 (Kd.R Kd.bool 4 w' w.heap.size (fun k_ => some k_ ≠ ((.slice (some ⟨go37, 0, none⟩) y1016.length co37) : Value).ownBlock) v1014 x4_1) ∧ Aside0 (Kd.S k86 86 w' w.heap.size (fun k_ => some k_ ≠ (v8 : Value).ownBlock) u5 x5_1) ∧ Aside0 (Kd.R Kd.bool 4 w' w.heap.size (fun k_ => some k_ ≠ (v1014 : Value).ownBlock) (.slice (some ⟨go37, 0, none⟩) y1016.length co37) x7_3) ∧ Aside0 (Kd.R (Kd.int .i64) 2 w' w.heap.size (fun _ => True) v8 x8_3) ∧ Aside0 (w'.heap[gb1009]? = some (.cells #[.string a0_0, .int .i64 a0_1, (.slice A0_2 l0_2.length c0_2), .int .i64 a0_3, (.slice A0_4 l0_4.length c0_4)] 30 (0, 0))) ∧ Aside0 (Below w.heap.size w w'))
                   case atStart => exact ⟨(y1028), (x8_2), H', ⟨Nat.le_refl _⟩, ⟨by (with_reducible repeat (first | apply Kd.S_alloc | apply Kd.S_drewN | apply Kd.S_drew)); exact HO_3.out⟩, ⟨by (with_reducible repeat (first | apply Kd.R_alloc | apply Kd.R_drewN | apply Kd.R_drew)); exact Kd.R_mono HO_4.out (fun _ hk => hk.2)⟩, ⟨by (with_reducible repeat (first | apply Kd.S_alloc | apply Kd.S_drewN | apply Kd.S_drew)); exact Kd.S_mono HO_5.out (fun _ hk => hk.1)⟩, ⟨by (with_reducible repeat (first | apply Kd.R_alloc | apply Kd.R_drewN | apply Kd.R_drew)); exact HO_7.out⟩, ⟨by (with_reducible repeat (first | apply Kd.R_alloc | apply Kd.R_drewN | apply Kd.R_drew)); exact Kd.R_mono HO_8.out (fun _ hk => trivial)⟩, ⟨ kz⟩, ⟨ bz⟩⟩
                   case round =>
                    clear H'
                    try clear c1
                    try clear p1
                    try clear q1
                    try clear hx1
                    try clear c2
                    try clear p2
                    try clear q2
                    try clear c3
                    try clear p3
                    try clear q3
                    try clear hx3
                    try clear hf3
                    try clear c4
                    try clear c6
                    try clear p6
                    try clear c10
                    try clear c10b0
                    try clear p10
                    try clear q10
                    try clear hx10
                    try clear c11
                    try clear c11b0
                    try clear c11b1
                    try clear c12
                    try clear c12b0
                    try clear c12b1
                    try clear c20
                    try clear c20b0
                    try clear c21
                    try clear c21b0
                    try clear c22
                    try clear c22b0
                    try clear c23
                    try clear c23b0
                    try clear c24
                    try clear c24b0
                    try clear c25
                    try clear c25b0
                    try clear c26
                    try clear c26b0
                    try clear q27
                    try clear c28
                    try clear c29
                    try clear c33
                    try clear c33b0
                    try clear c33b1
                    try clear c33b2
                    try clear c35
                    try clear c35b0
                    try clear c36
                    try clear c36b0
                    try clear c37
                    try clear p37
                    try clear q37
                    try clear hx37
                    try clear hf37
                    try clear hcz14_0
                    try clear hcz14_1
                    try clear hcz14_2
                    try clear hcz14_3
                    try clear hcz14_4
                    try clear hcz17_0
                    try clear hcz17_1
                    try clear hcz17_2
                    try clear hcz17_3
                    try clear hcz17_4
                    try clear hcz5_0
                    try clear hcz5_1
                    try clear hcz5_2
                    try clear hcz5_3
                    try clear hcz5_4
                    try clear hcz7_0
                    try clear hcz7_1
                    try clear hcz7_2
                    try clear hcz7_3
                    try clear hcz7_4
                    try clear hcz9_0
                    try clear hcz9_1
                    try clear hcz9_2
                    try clear hcz9_3
                    try clear hcz9_4
                    try clear hfz14_0
                    try clear hfz14_1
                    try clear hfz14_2
                    try clear hfz14_3
                    try clear hfz14_4
                    try clear hfz17_0
                    try clear hfz17_1
                    try clear hfz17_2
                    try clear hfz17_3
                    try clear hfz17_4
                    try clear hfz5_0
                    try clear hfz5_1
                    try clear hfz5_2
                    try clear hfz5_3
                    try clear hfz5_4
                    try clear hfz7_0
                    try clear hfz7_1
                    try clear hfz7_2
                    try clear hfz7_3
                    try clear hfz7_4
                    try clear hfz9_0
                    try clear hfz9_1
                    try clear hfz9_2
                    try clear hfz9_3
                    try clear hfz9_4
                    try clear hx1022_0
                    try clear hx1023_0
                    try clear hx1024_0
                    try clear hx37_0
                    try clear p1022
                    try clear p1023
                    try clear p1024
                    try clear p2
                    try clear p37
                    try clear q1022
                    try clear q1023
                    try clear q1024
                    try clear q37
                    obtain ⟨x7_3, x8_3, HA, HK3, HO_3, HO_4, HO_5, HO_7, HO_8, BK1009, HB⟩ := hrel
                    have hl7_3 := (Kd.R_reads' HO_7.out).1
                    rw [hl7_3] at HO_7
                    (try simp only [hl7_3])
                    (try simp only [hl7_3] at BK1009)
                    (try simp only [hl7_3] at HO_3)
                    (try simp only [hl7_3] at HO_4)
                    (try simp only [hl7_3] at HO_5)
                    (try simp only [hl7_3] at HO_8)
                    cases gk with
                    | zero => exact absurd HA.out (by simp [impl_Loops.l2])
                    | succ k3 =>
                     have H := HA.out
                     clear HA
                     simp only [impl_Loops.l2] at H
                     by_cases c41 : (x8_3.length : Int) > 0
                     · rw [if_pos c41] at H
                       have c41b0 : decide (0 < (x8_3.length : Int)) = true := decide_eq_true c41
                       have c41b1 : decide (0 < x8_3.length) = true := decide_eq_true (by omega)
                       clear c41
                       obtain ⟨ji42, hji42⟩ : ∃ j_ : Int, (wrap64 ((x8_3.length : Int) - 1)) = j_ := ⟨_, rfl⟩
                       replace H : (if 0 ≤ (ji42) then (if (ji42) < (x8_3.length : Int) then (if (ji42) ≤ (x8_3.length : Int) then ((some (x8_3.take ((ji42) : Int).toNat : List Int)).bind fun y1030 => (if 0 ≤ (rd x8_3 (ji42)) then (if (rd x8_3 (ji42)) < (x7_3.length : Int) then (if rdOf false x7_3 (rd x8_3 (ji42)) = true then (impl_Loops.l2 k3 t1010 x4_1 x5_1 x21_1 x7_3 y1030 (l0_4.length : Int) x21_1 a0_0 a0_1 l0_2 a0_3 l0_4) else (if (rd x8_3 (ji42)) < (x4_1.length : Int) then (if (rdOf false x4_1 (rd x8_3 (ji42)) = true) then ((impl_PrevBlocks.f k3 a0_0 a0_1 l0_2 a0_3 l0_4 (rd x8_3 (ji42))).bind fun t1036 => (if y1030.length + t1036.length < 17592186044416 then (impl_Loops.l2 k3 t1010 x4_1 x5_1 x21_1 (x7_3.set ((rd x8_3 (ji42)) : Int).toNat true) (y1030 ++ t1036) (l0_4.length : Int) x21_1 a0_0 a0_1 l0_2 a0_3 l0_4) else (none))) else (impl_Loops.l2 k3 t1010 x4_1 x5_1 x21_1 x7_3 y1030 (l0_4.length : Int) x21_1 a0_0 a0_1 l0_2 a0_3 l0_4)) else (none))) else (none)) else (none))) else (none)) else (none)) else (none)) = some r := by first | (rw [hji42] at H; exact H) | (simp only [hji42] at H ⊢; exact H)
                       have hji42w : (IntKind.i64.wrap ((x8_3.length : Int) - 1)) = ji42 := (i64_w _).trans hji42
                       by_cases c43 : 0 ≤ (ji42)
                       · rw [if_pos c43] at H
                         have c43b0 : decide (0 ≤ (ji42)) = true := decide_eq_true c43
                         clear c43
                         by_cases c44 : (ji42) < (x8_3.length : Int)
                         · rw [if_pos c44] at H
                           have c44b0 : decide ((ji42) < (x8_3.length : Int)) = true := decide_eq_true c44
                           clear c44
                           by_cases c45 : (ji42) ≤ (x8_3.length : Int)
                           · rw [if_pos c45] at H
                             have c45b0 := eq_true c45
                             have c45b1 : decide ((ji42) ≤ (x8_3.length : Int)) = true := decide_eq_true c45
                             clear c45
                             obtain ⟨y1030, hy1030⟩ : ∃ y_ : List Int, y_ = (x8_3.take ((ji42) : Int).toNat) := ⟨_, rfl⟩
                             replace H : (if 0 ≤ (rd x8_3 (ji42)) then (if (rd x8_3 (ji42)) < (x7_3.length : Int) then (if rdOf false x7_3 (rd x8_3 (ji42)) = true then (impl_Loops.l2 k3 t1010 x4_1 x5_1 x21_1 x7_3 y1030 (l0_4.length : Int) x21_1 a0_0 a0_1 l0_2 a0_3 l0_4) else (if (rd x8_3 (ji42)) < (x4_1.length : Int) then (if (rdOf false x4_1 (rd x8_3 (ji42)) = true) then ((impl_PrevBlocks.f k3 a0_0 a0_1 l0_2 a0_3 l0_4 (rd x8_3 (ji42))).bind fun t1036 => (if y1030.length + t1036.length < 17592186044416 then (impl_Loops.l2 k3 t1010 x4_1 x5_1 x21_1 (x7_3.set ((rd x8_3 (ji42)) : Int).toNat true) (y1030 ++ t1036) (l0_4.length : Int) x21_1 a0_0 a0_1 l0_2 a0_3 l0_4) else (none))) else (impl_Loops.l2 k3 t1010 x4_1 x5_1 x21_1 x7_3 y1030 (l0_4.length : Int) x21_1 a0_0 a0_1 l0_2 a0_3 l0_4)) else (none))) else (none)) else (none)) = some r := by first | (rw [hy1030]; with_reducible exact H) | (have H2_ := (Option.bind_some _ _).symm.trans H; rw [hy1030]; with_reducible exact H2_) | (have H2_ := (Option.bind_some _ _).symm.trans H; with_reducible exact H2_) | with_reducible exact H | (rw [hy1030]; exact H) | exact H
                             have Ny1030 := Aside0.mk hy1030
                             clear hy1030
                             by_cases c46 : 0 ≤ (rd x8_3 (ji42))
                             · rw [if_pos c46] at H
                               have c46b0 : decide (0 ≤ (rd x8_3 (ji42))) = true := decide_eq_true c46
                               clear c46
                               by_cases c47 : (rd x8_3 (ji42)) < (x7_3.length : Int)
                               · rw [if_pos c47] at H
                                 have c47b0 : decide ((rd x8_3 (ji42)) < (x7_3.length : Int)) = true := decide_eq_true c47
                                 clear c47
                                 obtain ⟨bq48, hbq48⟩ : ∃ b_ : Bool, b_ = (rdOf false x7_3 (rd x8_3 (ji42))) := ⟨_, rfl⟩
                                 replace H : (if bq48 = true then (impl_Loops.l2 k3 t1010 x4_1 x5_1 x21_1 x7_3 y1030 (l0_4.length : Int) x21_1 a0_0 a0_1 l0_2 a0_3 l0_4) else (if (rd x8_3 (ji42)) < (x4_1.length : Int) then (if (rdOf false x4_1 (rd x8_3 (ji42)) = true) then ((impl_PrevBlocks.f k3 a0_0 a0_1 l0_2 a0_3 l0_4 (rd x8_3 (ji42))).bind fun t1036 => (if y1030.length + t1036.length < 17592186044416 then (impl_Loops.l2 k3 t1010 x4_1 x5_1 x21_1 (x7_3.set ((rd x8_3 (ji42)) : Int).toNat true) (y1030 ++ t1036) (l0_4.length : Int) x21_1 a0_0 a0_1 l0_2 a0_3 l0_4) else (none))) else (impl_Loops.l2 k3 t1010 x4_1 x5_1 x21_1 x7_3 y1030 (l0_4.length : Int) x21_1 a0_0 a0_1 l0_2 a0_3 l0_4)) else (none))) = some r := by rw [← hbq48] at H; exact H
                                 have Nbq48 := Aside0.mk hbq48
                                 clear hbq48
                                 by_cases c49 : bq48 = true
                                 · subst c49
                                   have H1 : (impl_Loops.l2 k3 t1010 x4_1 x5_1 x21_1 x7_3 y1030 (l0_4.length : Int) x21_1 a0_0 a0_1 l0_2 a0_3 l0_4) = some r := by rw [if_pos rfl] at H; exact H
                                   clear H
                                   have H := H1
                                   clear H1
                                   have H' := Aside0.mk H
                                   clear H
                                   obtain ⟨Ao50, co50, eo50⟩ := Kd.R_slice HO_8.out
                                   subst eo50
                                   have p1029 : 0 ≤ ((ji42) : Int) := of_decide_eq_true az
                                   have q1029 : (ji42) < (x8_3.length : Int) := of_decide_eq_true az
                                   obtain ⟨ad1029, e1029, hx1029_0⟩ := Kd.at_int (Kd.R_reads' HO_8.out).2.2 (ji42) p1029 q1029
                                   cases e1029
                                   replace p1029 := eq_true p1029
                                   replace q1029 := eq_true q1029
                                   have q51 : ((ji42) : Int) ≤ ((x8_3.length : Int) : Int) := of_decide_eq_true az
                                   obtain ⟨i051, hi051, _, hsz51, _⟩ := info_parts info2
                                   have hcut51 := cut_to (P := Try.prog) 22 2 .i64 Try.underlying22 hi051 (some ad1029) x8_3.length co50 (ji42) (of_decide_eq_true az) q51 (Kd.R_reads' HO_8.out).2.1
                                   have hr51 := Kd.R_take (m := ((ji42) : Int).toNat) HO_8.out (by omega)
                                   have hy51 : y1030.length = ((ji42) : Int).toNat := (by rw [Ny1030.out, List.length_take]; omega)
                                   rw [← Ny1030.out] at hr51
                                   rw [← hy51] at hr51 hcut51
                                   clear hy51 hi051 hsz51 HO_8
                                   have HO1032 := Aside0.mk hr51
                                   clear hr51
                                   replace q51 := eq_true q51
                                   have p1033 : 0 ≤ ((rd x8_3 (ji42)) : Int) := of_decide_eq_true az
                                   have q1033 : (rd x8_3 (ji42)) < (x7_3.length : Int) := of_decide_eq_true az
                                   obtain ⟨ad1033, e1033, hx1033_0⟩ := Kd.at_bool (Kd.R_reads' HO_7.out).2.2 (rd x8_3 (ji42)) p1033 q1033
                                   (try rw [← Nbq48.out] at hx1033_0)
                                   obtain rfl : (⟨go37, 0, none⟩ : Addr) = ad1033 := (by injection e1033)
                                   (first | simp only [add_plain] at hx1033_0 | simp only [add_at] at hx1033_0 | simp only [Addr.add, Nat.zero_add] at hx1033_0 | skip)
                                   replace p1033 := eq_true p1033
                                   replace q1033 := eq_true q1033
                                   go_wp2
                                   (try simp only [← hl7_3])
                                   go_roundg k3
                                   case measure => have := HK1.out; have := HK2.out; have := HK3.out; omega
                                   case rel => exact ⟨(x7_3), (y1030), H', ⟨by have := HK1.out; have := HK2.out; have := HK3.out; omega⟩, ⟨by (try simp only [hl7_3]); (with_reducible repeat (first | apply Kd.S_alloc | apply Kd.S_drewN | apply Kd.S_drew)); exact HO_3.out⟩, ⟨by (try simp only [hl7_3]); (with_reducible repeat (first | apply Kd.R_alloc | apply Kd.R_drewN | apply Kd.R_drew)); exact HO_4.out⟩, ⟨by (try simp only [hl7_3]); (with_reducible repeat (first | apply Kd.S_alloc | apply Kd.S_drewN | apply Kd.S_drew)); exact HO_5.out⟩, ⟨by (try simp only [hl7_3]); (with_reducible repeat (first | apply Kd.R_alloc | apply Kd.R_drewN | apply Kd.R_drew)); exact HO_7.out⟩, ⟨by (try simp only [hl7_3]); (with_reducible repeat (first | apply Kd.R_alloc | apply Kd.R_drewN | apply Kd.R_drew)); exact HO1032.out⟩, ⟨by (try simp only [hl7_3]); (with_reducible repeat (first | refine blk_drewN ?_ _ | refine blk_drew ?_ | refine blk_alloc ?_ _)); exact BK1009.out⟩, ⟨ bz⟩⟩
                                 · replace c49 := Bool.eq_false_iff.mpr c49
                                   subst c49
                                   have H1 : (if (rd x8_3 (ji42)) < (x4_1.length : Int) then (if (rdOf false x4_1 (rd x8_3 (ji42)) = true) then ((impl_PrevBlocks.f k3 a0_0 a0_1 l0_2 a0_3 l0_4 (rd x8_3 (ji42))).bind fun t1036 => (if y1030.length + t1036.length < 17592186044416 then (impl_Loops.l2 k3 t1010 x4_1 x5_1 x21_1 (x7_3.set ((rd x8_3 (ji42)) : Int).toNat true) (y1030 ++ t1036) (l0_4.length : Int) x21_1 a0_0 a0_1 l0_2 a0_3 l0_4) else (none))) else (impl_Loops.l2 k3 t1010 x4_1 x5_1 x21_1 x7_3 y1030 (l0_4.length : Int) x21_1 a0_0 a0_1 l0_2 a0_3 l0_4)) else (none)) = some r := by rw [if_neg (show ¬ (false = true) by decide)] at H; exact H
                                   clear H
                                   have H := H1
                                   clear H1
                                   by_cases c52 : (rd x8_3 (ji42)) < (x4_1.length : Int)
                                   · rw [if_pos c52] at H
                                     have c52b0 : decide ((rd x8_3 (ji42)) < (x4_1.length : Int)) = true := decide_eq_true c52
                                     clear c52
                                     obtain ⟨bq53, hbq53⟩ : ∃ b_ : Bool, b_ = (rdOf false x4_1 (rd x8_3 (ji42))) := ⟨_, rfl⟩
                                     replace H : (if (bq53 = true) then ((impl_PrevBlocks.f k3 a0_0 a0_1 l0_2 a0_3 l0_4 (rd x8_3 (ji42))).bind fun t1036 => (if y1030.length + t1036.length < 17592186044416 then (impl_Loops.l2 k3 t1010 x4_1 x5_1 x21_1 (x7_3.set ((rd x8_3 (ji42)) : Int).toNat true) (y1030 ++ t1036) (l0_4.length : Int) x21_1 a0_0 a0_1 l0_2 a0_3 l0_4) else (none))) else (impl_Loops.l2 k3 t1010 x4_1 x5_1 x21_1 x7_3 y1030 (l0_4.length : Int) x21_1 a0_0 a0_1 l0_2 a0_3 l0_4)) = some r := by rw [← hbq53] at H; exact H
                                     have Nbq53 := Aside0.mk hbq53
                                     clear hbq53
                                     by_cases c54 : (bq53 = true)
                                     · subst c54
                                       have H1 : ((impl_PrevBlocks.f k3 a0_0 a0_1 l0_2 a0_3 l0_4 (rd x8_3 (ji42))).bind fun t1036 => (if y1030.length + t1036.length < 17592186044416 then (impl_Loops.l2 k3 t1010 x4_1 x5_1 x21_1 (x7_3.set ((rd x8_3 (ji42)) : Int).toNat true) (y1030 ++ t1036) (l0_4.length : Int) x21_1 a0_0 a0_1 l0_2 a0_3 l0_4) else (none))) = some r := by rw [if_pos rfl] at H; exact H
                                       clear H
                                       have H := H1
                                       clear H1
                                       obtain ⟨y1035, hy1035⟩ : ∃ y_ : List Bool, y_ = (x7_3.set ((rd x8_3 (ji42)) : Int).toNat true) := ⟨_, rfl⟩
                                       replace H : ((impl_PrevBlocks.f k3 a0_0 a0_1 l0_2 a0_3 l0_4 (rd x8_3 (ji42))).bind fun t1036 => (if y1030.length + t1036.length < 17592186044416 then (impl_Loops.l2 k3 t1010 x4_1 x5_1 x21_1 y1035 (y1030 ++ t1036) (l0_4.length : Int) x21_1 a0_0 a0_1 l0_2 a0_3 l0_4) else (none))) = some r := by first | (rw [hy1035]; with_reducible exact H) | (have H2_ := (Option.bind_some _ _).symm.trans H; rw [hy1035]; with_reducible exact H2_) | (have H2_ := (Option.bind_some _ _).symm.trans H; with_reducible exact H2_) | with_reducible exact H | (rw [hy1035]; exact H) | exact H
                                       have Ny1035 := Aside0.mk hy1035
                                       clear hy1035
                                       replace H := Option.bind_eq_some_iff.mp H
                                       obtain ⟨t1036, A560, H⟩ := H
                                       replace H : (if y1030.length + t1036.length < 17592186044416 then (impl_Loops.l2 k3 t1010 x4_1 x5_1 x21_1 y1035 (y1030 ++ t1036) (l0_4.length : Int) x21_1 a0_0 a0_1 l0_2 a0_3 l0_4) else (none)) = some r := H
                                       have A56 := Aside0.mk A560
                                       clear A560
                                       by_cases c57 : y1030.length + t1036.length < 17592186044416
                                       · rw [if_pos c57] at H
                                         have LMc57 := Aside0.mk c57
                                         clear c57
                                         obtain ⟨y1039, hy1039⟩ : ∃ y_ : List Int, y_ = (y1030 ++ t1036) := ⟨_, rfl⟩
                                         replace H : (impl_Loops.l2 k3 t1010 x4_1 x5_1 x21_1 y1035 y1039 (l0_4.length : Int) x21_1 a0_0 a0_1 l0_2 a0_3 l0_4) = some r := by first | (rw [hy1039]; with_reducible exact H) | (have H2_ := (Option.bind_some _ _).symm.trans H; rw [hy1039]; with_reducible exact H2_) | (have H2_ := (Option.bind_some _ _).symm.trans H; with_reducible exact H2_) | with_reducible exact H | (rw [hy1039]; exact H) | exact H
                                         have Ny1039 := Aside0.mk hy1039
                                         clear hy1039
                                         have H' := Aside0.mk H
                                         clear H
                                         obtain ⟨Ao58, co58, eo58⟩ := Kd.R_slice HO_8.out
                                         subst eo58
                                         have p1029 : 0 ≤ ((ji42) : Int) := of_decide_eq_true az
                                         have q1029 : (ji42) < (x8_3.length : Int) := of_decide_eq_true az
                                         obtain ⟨ad1029, e1029, hx1029_0⟩ := Kd.at_int (Kd.R_reads' HO_8.out).2.2 (ji42) p1029 q1029
                                         cases e1029
                                         replace p1029 := eq_true p1029
                                         replace q1029 := eq_true q1029
                                         have q59 : ((ji42) : Int) ≤ ((x8_3.length : Int) : Int) := of_decide_eq_true az
                                         obtain ⟨i059, hi059, _, hsz59, _⟩ := info_parts info2
                                         have hcut59 := cut_to (P := Try.prog) 22 2 .i64 Try.underlying22 hi059 (some ad1029) x8_3.length co58 (ji42) (of_decide_eq_true az) q59 (Kd.R_reads' HO_8.out).2.1
                                         have hr59 := Kd.R_take (m := ((ji42) : Int).toNat) HO_8.out (by omega)
                                         have hy59 : y1030.length = ((ji42) : Int).toNat := (by rw [Ny1030.out, List.length_take]; omega)
                                         rw [← Ny1030.out] at hr59
                                         rw [← hy59] at hr59 hcut59
                                         clear hy59 hi059 hsz59 HO_8
                                         have HO1032 := Aside0.mk hr59
                                         clear hr59
                                         replace q59 := eq_true q59
                                         have p1033 : 0 ≤ ((rd x8_3 (ji42)) : Int) := of_decide_eq_true az
                                         have q1033 : (rd x8_3 (ji42)) < (x7_3.length : Int) := of_decide_eq_true az
                                         obtain ⟨ad1033, e1033, hx1033_0⟩ := Kd.at_bool (Kd.R_reads' HO_7.out).2.2 (rd x8_3 (ji42)) p1033 q1033
                                         (try rw [← Nbq48.out] at hx1033_0)
                                         (try rw [← Nbq53.out] at hx1033_0)
                                         obtain rfl : (⟨go37, 0, none⟩ : Addr) = ad1033 := (by injection e1033)
                                         (first | simp only [add_plain] at hx1033_0 | simp only [add_at] at hx1033_0 | simp only [Addr.add, Nat.zero_add] at hx1033_0 | skip)
                                         replace p1033 := eq_true p1033
                                         replace q1033 := eq_true q1033
                                         obtain ⟨Ao60, co60, eo60⟩ := Kd.R_slice HO_4.out
                                         subst eo60
                                         have p1034 : 0 ≤ ((rd x8_3 (ji42)) : Int) := of_decide_eq_true az
                                         have q1034 : (rd x8_3 (ji42)) < (x4_1.length : Int) := of_decide_eq_true az
                                         obtain ⟨ad1034, e1034, hx1034_0⟩ := Kd.at_bool (Kd.R_reads' HO_4.out).2.2 (rd x8_3 (ji42)) p1034 q1034
                                         (try rw [← Nbq48.out] at hx1034_0)
                                         (try rw [← Nbq53.out] at hx1034_0)
                                         cases e1034
                                         replace p1034 := eq_true p1034
                                         replace q1034 := eq_true q1034
                                         have p55 : 0 ≤ ((rd x8_3 (ji42)) : Int) := of_decide_eq_true az
                                         have q55 : ((rd x8_3 (ji42)) : Int) < ((x7_3.length : Int) : Int) := of_decide_eq_true az
                                         obtain ⟨hx55_0, hf55_0⟩ := Kd.R_celln false HO_7.out ((rd x8_3 (ji42)) : Int) p55 q55
                                         replace p55 := eq_true p55
                                         replace q55 := eq_true q55
                                         have HP61 := Kd.R_putg HO_7.out ((rd x8_3 (ji42)) : Int) true
                                         go_wp2_with (first | ((with_reducible refine gate_store (t := 4) (p := 81) rfl ?_); refine store_event (t := 4) (p := 81) (v := ?vo_w62) (w1 := (wr.setCell ⟨go37, ((rd x8_3 (ji42)) : Int).toNat, none⟩ (.bool true))) ?hg ?ho ?hn ?hr ?_; (case ho => rfl); (case hg => rfl); (case hn => rfl); (case hr => first | (go_simp; done) | (go_simp; rfl)); intro w62 hw; have hg : wr.grownBy w62 (some go37) := (by rw [hw]; exact HP61.2); have hp_ : Kd.R Kd.bool 4 w62 w.heap.size (fun k_ => some k_ ≠ (.slice (some ad1034) x4_1.length co60 : Value).ownBlock) (.slice (some ⟨go37, 0, none⟩) x7_3.length co37) y1035 := (by rw [hw, Ny1035.out]; exact HP61.1); clear HP61; have n0_ := Aside0.mk (Kd.S_after (v := (.slice (some ⟨go37, 0, none⟩) x7_3.length co37)) (v1 := (.slice (some ⟨go37, 0, none⟩) x7_3.length co37)) (ok := (fun k_ => some k_ ≠ (.slice (some ad1034) x4_1.length co60 : Value).ownBlock)) (rs HO_3.out) hg (.inl rfl)); have n1_ := Aside0.mk (Kd.R_after (v := (.slice (some ⟨go37, 0, none⟩) x7_3.length co37)) (v1 := (.slice (some ⟨go37, 0, none⟩) x7_3.length co37)) (ok := (fun _ => True)) (by (with_reducible repeat (first | apply Kd.R_alloc | apply Kd.R_drewN | apply Kd.R_drew)); exact Kd.R_mono HO_4.out (fun _ hk => ⟨trivial, hk⟩)) hg (.inl rfl)); have n2_ := Aside0.mk (Kd.S_over' (v := (.slice (some ⟨go37, 0, none⟩) x7_3.length co37)) (rs HO_5.out) (Kd.R_typed HO_7.out) (by decide) hg); have n3_ := Aside0.mk (hp_); have n4_ := Aside0.mk (Kd.R_over' (v := (.slice (some ⟨go37, 0, none⟩) x7_3.length co37)) (rz HO1032.out) (Kd.R_typed HO_7.out) (by decide) hg); have n5_ := Aside0.mk (blk_grown (g := gb1009) (o := .cells #[.string a0_0, .int .i64 a0_1, .slice A0_2 l0_2.length c0_2, .int .i64 a0_3, .slice A0_4 l0_4.length c0_4] 30 (0, 0)) kz hg (Kd.R_ne HO_7.out BK1009.out (by decide))); have n6_ := Aside0.mk ((by rw [hw]; exact below_set (HB.out) GB37.out : Below w.heap.size w w62)); clear HO_3; clear HO_4; clear HO_5; clear HO_7; clear HO1032; clear BK1009; clear HB; have HO_3 := n0_; have HO_4 := n1_; have HO_5 := n2_; have HO_7 := n3_; have HO1032 := n4_; have BK1009 := n5_; have HB := n6_; clear n0_ n1_ n2_ n3_ n4_ n5_ n6_; clear hg hw hp_; have hcz63_0 : w62.cell? ⟨gb1009, 0, none⟩ = some (.string a0_0) := (blk_cell BK1009.out 0).trans rfl; have hcz63_1 : w62.cell? ⟨gb1009, 1, none⟩ = some (.int .i64 a0_1) := (blk_cell BK1009.out 1).trans rfl; have hcz63_2 : w62.cell? ⟨gb1009, 2, none⟩ = some (.slice A0_2 l0_2.length c0_2) := (blk_cell BK1009.out 2).trans rfl; have hcz63_3 : w62.cell? ⟨gb1009, 3, none⟩ = some (.int .i64 a0_3) := (blk_cell BK1009.out 3).trans rfl; have hcz63_4 : w62.cell? ⟨gb1009, 4, none⟩ = some (.slice A0_4 l0_4.length c0_4) := (blk_cell BK1009.out 4).trans rfl; have hfz63_0 := blk_frozen BK1009.out 0; have hfz63_1 := blk_frozen BK1009.out 1; have hfz63_2 := blk_frozen BK1009.out 2; have hfz63_3 := blk_frozen BK1009.out 3; have hfz63_4 := blk_frozen BK1009.out 4) | ((with_reducible refine gate_callee (f := 24) rfl ?_); refine goesL_ (some 85) rfl rfl Try.func24 (by kernel_rfl) rfl #[.agg #[.string a0_0, .int .i64 a0_1, .slice A0_2 l0_2.length c0_2, .int .i64 a0_3, .slice A0_4 l0_4.length c0_4], .int .i64 (rd x8_3 (ji42))] rfl (by (try simp only [List.map_toArray, List.map_cons, List.map_nil]); first | done | (simp only [hji42]; rfl) | rfl | (simp only [List.length_drop, List.length_take]; rfl)) ?_; (with_reducible refine (impl_PrevBlocks.calls k3 a0_0 a0_1 _ _ l0_2 a0_3 _ _ l0_4 (rd x8_3 (ji42)) t1036 _ ?side1 ?side2 ?side3 ?side4 A56.out).mono ?_); (case side1 => exact cz HR0_2.out); (case side2 => exact HC0_2.out); (case side3 => exact cz HR0_4.out); (case side4 => exact HC0_4.out); rintro e w64 ⟨v1037, rfl, ho0, hb⟩; refine ⟨_, rfl, ?_⟩; have n0_ := Aside0.mk (Kd.S_below (rs HO_3.out) hb); have n1_ := Aside0.mk (Kd.R_below (rz HO_4.out) hb); have n2_ := Aside0.mk (Kd.S_elder' (rs HO_5.out) (Kd.R_base ho0) hb); have n3_ := Aside0.mk (Kd.R_below (rz HO_7.out) hb); have n4_ := Aside0.mk (Kd.R_elder' (rz HO1032.out) (Kd.R_base ho0) hb); have n5_ := Aside0.mk (Kd.R_lower (Kd.R_new' ho0 (Kd.R_lt (rz HO1032.out))) (below_size bz)); have n6_ := Aside0.mk (blk_below (g := gb1009) (o := .cells #[.string a0_0, .int .i64 a0_1, .slice A0_2 l0_2.length c0_2, .int .i64 a0_3, .slice A0_4 l0_4.length c0_4] 30 (0, 0)) kz hb); have n7_ := Aside0.mk (below_step bz hb); clear HO_3; clear HO_4; clear HO_5; clear HO_7; clear HO1032; clear BK1009; clear HB; have HO_3 := n0_; have HO_4 := n1_; have HO_5 := n2_; have HO_7 := n3_; have HO1032 := n4_; have HO1038 := n5_; have BK1009 := n6_; have HB := n7_; clear n0_ n1_ n2_ n3_ n4_ n5_ n6_ n7_; (try clear hb); (try clear hb2); (try clear hk); (try clear hi); (try clear ho0); obtain ⟨Ao66, co66, eo66⟩ := Kd.R_slice HO1038.out; subst eo66) | ((with_reducible refine gate_builtin (b := .append) (xs := #[.tmp 82, .tmp 85]) rfl ?_); at_builtin; refine Kd.R_append_rows (Kd.int .i64) (w0 := w) w.heap.size rfl (.tmp 82) (.tmp 85) 22 2 (.int .i64 0) 8 rfl Try.underlying22 info2 rfl (by decide) (by omega) (.slice (some ad1029) y1030.length co58) y1030 t1036 _ _ _ (fun k_ => some k_ ≠ (.slice Ao66 t1036.length co66 : Value).ownBlock) (fun _ => False) rfl rfl ?aO ?aR (fun _ _ h => h) (fun _ h => h.elim) ?aF ?aB ?aS ?aL ?_; (case aR => repeat (first | exact (Kd.R_reads' HO1038.out).2.2 | (with_reducible refine Kd.C_alloc ?_ _) | (with_reducible refine Kd.C_drewN ?_ _) | (with_reducible refine Kd.C_drew ?_))); (case aB => exact bz); (case aF => exact (fun k_ hk => Kd.fresh' (Kd.R_lt (rz HO1038.out)) k_ hk)); (case aO => exact (by (with_reducible repeat (first | apply Kd.R_alloc | apply Kd.R_drewN | apply Kd.R_drew)); exact Kd.R_mono HO1032.out (fun _ hk => hk.2))); (case aS => exact (below_size bz)); (case aL => have := LMc57.out; omega); intro v1040 w65 ho hb hg hat; rw [← Ny1039.out] at ho; have n0_ := Aside0.mk (Kd.S_over' (rs HO_3.out) (Kd.R_typed (rz HO1032.out)) (by decide) hg); have n1_ := Aside0.mk (Kd.R_over' (rz HO_4.out) (Kd.R_typed (rz HO1032.out)) (by decide) hg); have n2_ := Aside0.mk (Kd.S_after (ok := (fun k_ => some k_ ≠ (.slice Ao66 t1036.length co66 : Value).ownBlock)) (by (with_reducible repeat (first | apply Kd.S_alloc | apply Kd.S_drewN | apply Kd.S_drew)); exact Kd.S_mono HO_5.out (fun _ hk => ⟨hk.2, hk.1⟩)) hg hat); have n3_ := Aside0.mk (Kd.R_over' (rz HO_7.out) (Kd.R_typed (rz HO1032.out)) (by decide) hg); have n4_ := Aside0.mk (blk_grown (g := gb1009) (o := .cells #[.string a0_0, .int .i64 a0_1, .slice A0_2 l0_2.length c0_2, .int .i64 a0_3, .slice A0_4 l0_4.length c0_4] 30 (0, 0)) kz hg (Kd.R_ne HO1032.out BK1009.out (by decide))); have n5_ := Aside0.mk (Kd.R_after (ok := (fun _ => True)) (rz HO1038.out) hg hat); have n6_ := Aside0.mk (hb); have n7_ := Aside0.mk (ho); clear HO_3; clear HO_4; clear HO_5; clear HO_7; clear BK1009; clear HO1038; clear HB; clear HO1032; have HO_3 := n0_; have HO_4 := n1_; have HO_5 := n2_; have HO_7 := n3_; have BK1009 := n4_; have HO1038 := n5_; have HB := n6_; have HO1041 := n7_; clear n0_ n1_ n2_ n3_ n4_ n5_ n6_ n7_; clear ho hb hg hat))
                                         (try simp only [← hl7_3])
                                         go_roundg k3
                                         case measure => have := HK1.out; have := HK2.out; have := HK3.out; omega
                                         case rel => exact ⟨(y1035), (y1039), H', ⟨by have := HK1.out; have := HK2.out; have := HK3.out; omega⟩, ⟨by (try simp only [hl7_3]); (with_reducible repeat (first | apply Kd.S_alloc | apply Kd.S_drewN | apply Kd.S_drew)); exact HO_3.out⟩, ⟨by (try simp only [hl7_3]); (with_reducible repeat (first | apply Kd.R_alloc | apply Kd.R_drewN | apply Kd.R_drew)); exact Kd.R_mono HO_4.out (fun _ hk => hk.2)⟩, ⟨by (try simp only [hl7_3]); (with_reducible repeat (first | apply Kd.S_alloc | apply Kd.S_drewN | apply Kd.S_drew)); exact Kd.S_mono HO_5.out (fun _ hk => hk.2)⟩, ⟨by (try simp only [hl7_3]); (with_reducible repeat (first | apply Kd.R_alloc | apply Kd.R_drewN | apply Kd.R_drew)); exact HO_7.out⟩, ⟨by (try simp only [hl7_3]); (with_reducible repeat (first | apply Kd.R_alloc | apply Kd.R_drewN | apply Kd.R_drew)); exact Kd.R_mono HO1041.out (fun _ hk => trivial)⟩, ⟨by (try simp only [hl7_3]); (with_reducible repeat (first | refine blk_drewN ?_ _ | refine blk_drew ?_ | refine blk_alloc ?_ _)); exact BK1009.out⟩, ⟨ bz⟩⟩
                                       · rw [if_neg c57] at H
                                         exact absurd H (by simp)
                                     · replace c54 := Bool.eq_false_iff.mpr c54
                                       subst c54
                                       have H1 : (impl_Loops.l2 k3 t1010 x4_1 x5_1 x21_1 x7_3 y1030 (l0_4.length : Int) x21_1 a0_0 a0_1 l0_2 a0_3 l0_4) = some r := by rw [if_neg (show ¬ (false = true) by decide)] at H; exact H
                                       clear H
                                       have H := H1
                                       clear H1
                                       have H' := Aside0.mk H
                                       clear H
                                       obtain ⟨Ao67, co67, eo67⟩ := Kd.R_slice HO_8.out
                                       subst eo67
                                       have p1029 : 0 ≤ ((ji42) : Int) := of_decide_eq_true az
                                       have q1029 : (ji42) < (x8_3.length : Int) := of_decide_eq_true az
                                       obtain ⟨ad1029, e1029, hx1029_0⟩ := Kd.at_int (Kd.R_reads' HO_8.out).2.2 (ji42) p1029 q1029
                                       cases e1029
                                       replace p1029 := eq_true p1029
                                       replace q1029 := eq_true q1029
                                       have q68 : ((ji42) : Int) ≤ ((x8_3.length : Int) : Int) := of_decide_eq_true az
                                       obtain ⟨i068, hi068, _, hsz68, _⟩ := info_parts info2
                                       have hcut68 := cut_to (P := Try.prog) 22 2 .i64 Try.underlying22 hi068 (some ad1029) x8_3.length co67 (ji42) (of_decide_eq_true az) q68 (Kd.R_reads' HO_8.out).2.1
                                       have hr68 := Kd.R_take (m := ((ji42) : Int).toNat) HO_8.out (by omega)
                                       have hy68 : y1030.length = ((ji42) : Int).toNat := (by rw [Ny1030.out, List.length_take]; omega)
                                       rw [← Ny1030.out] at hr68
                                       rw [← hy68] at hr68 hcut68
                                       clear hy68 hi068 hsz68 HO_8
                                       have HO1032 := Aside0.mk hr68
                                       clear hr68
                                       replace q68 := eq_true q68
                                       have p1033 : 0 ≤ ((rd x8_3 (ji42)) : Int) := of_decide_eq_true az
                                       have q1033 : (rd x8_3 (ji42)) < (x7_3.length : Int) := of_decide_eq_true az
                                       obtain ⟨ad1033, e1033, hx1033_0⟩ := Kd.at_bool (Kd.R_reads' HO_7.out).2.2 (rd x8_3 (ji42)) p1033 q1033
                                       (try rw [← Nbq48.out] at hx1033_0)
                                       (try rw [← Nbq53.out] at hx1033_0)
                                       obtain rfl : (⟨go37, 0, none⟩ : Addr) = ad1033 := (by injection e1033)
                                       (first | simp only [add_plain] at hx1033_0 | simp only [add_at] at hx1033_0 | simp only [Addr.add, Nat.zero_add] at hx1033_0 | skip)
                                       replace p1033 := eq_true p1033
                                       replace q1033 := eq_true q1033
                                       obtain ⟨Ao69, co69, eo69⟩ := Kd.R_slice HO_4.out
                                       subst eo69
                                       have p1034 : 0 ≤ ((rd x8_3 (ji42)) : Int) := of_decide_eq_true az
                                       have q1034 : (rd x8_3 (ji42)) < (x4_1.length : Int) := of_decide_eq_true az
                                       obtain ⟨ad1034, e1034, hx1034_0⟩ := Kd.at_bool (Kd.R_reads' HO_4.out).2.2 (rd x8_3 (ji42)) p1034 q1034
                                       (try rw [← Nbq48.out] at hx1034_0)
                                       (try rw [← Nbq53.out] at hx1034_0)
                                       cases e1034
                                       replace p1034 := eq_true p1034
                                       replace q1034 := eq_true q1034
                                       go_wp2
                                       (try simp only [← hl7_3])
                                       go_roundg k3
                                       case measure => have := HK1.out; have := HK2.out; have := HK3.out; omega
                                       case rel => exact ⟨(x7_3), (y1030), H', ⟨by have := HK1.out; have := HK2.out; have := HK3.out; omega⟩, ⟨by (try simp only [hl7_3]); (with_reducible repeat (first | apply Kd.S_alloc | apply Kd.S_drewN | apply Kd.S_drew)); exact HO_3.out⟩, ⟨by (try simp only [hl7_3]); (with_reducible repeat (first | apply Kd.R_alloc | apply Kd.R_drewN | apply Kd.R_drew)); exact HO_4.out⟩, ⟨by (try simp only [hl7_3]); (with_reducible repeat (first | apply Kd.S_alloc | apply Kd.S_drewN | apply Kd.S_drew)); exact HO_5.out⟩, ⟨by (try simp only [hl7_3]); (with_reducible repeat (first | apply Kd.R_alloc | apply Kd.R_drewN | apply Kd.R_drew)); exact HO_7.out⟩, ⟨by (try simp only [hl7_3]); (with_reducible repeat (first | apply Kd.R_alloc | apply Kd.R_drewN | apply Kd.R_drew)); exact HO1032.out⟩, ⟨by (try simp only [hl7_3]); (with_reducible repeat (first | refine blk_drewN ?_ _ | refine blk_drew ?_ | refine blk_alloc ?_ _)); exact BK1009.out⟩, ⟨ bz⟩⟩
                                   · rw [if_neg c52] at H
                                     exact absurd H (by simp)
                               · rw [if_neg c47] at H
                                 exact absurd H (by simp)
                             · rw [if_neg c46] at H
                               exact absurd H (by simp)
                           · rw [if_neg c45] at H
                             exact absurd H (by simp)
                         · rw [if_neg c44] at H
                           exact absurd H (by simp)
                       · rw [if_neg c43] at H
                         exact absurd H (by simp)
                     · rw [if_neg c41] at H
                       have c41b0 : decide (0 < (x8_3.length : Int)) = false := decide_eq_false c41
                       have c41b1 : decide (0 < x8_3.length) = false := decide_eq_false (by omega)
                       clear c41
                       have H' := Aside0.mk H
                       clear H
                       obtain ⟨Ao70, co70, eo70⟩ := Kd.R_slice HO_8.out
                       subst eo70
                       go_wp2_with (first | ((with_reducible refine gate_dst (N := 12) rfl ?_); refine box_event ?hg (N := 12) ?hd (cs := #[.int .i64 0, .slice none 0 0]) (t := 86) ?hr ?_; (case hd => rfl); (case hg => rfl); (case hr => first | (go_simp; done) | (go_simp; rfl)); intro gb1042 hg w71 hbox hb; have n0_ := Aside0.mk (Kd.S_below (rs HO_3.out) hb); have n1_ := Aside0.mk (Kd.R_below (rz HO_4.out) hb); have n2_ := Aside0.mk (Kd.S_below (Kd.S_elderB (rs HO_5.out) gb1042 (Nat.le_of_eq hg.symm)) hb); have n3_ := Aside0.mk (Kd.R_below (rz HO_7.out) hb); have n4_ := Aside0.mk (Kd.R_below (rz HO_8.out) hb); have n5_ := Aside0.mk (blk_below (g := gb1009) (o := .cells #[.string a0_0, .int .i64 a0_1, .slice A0_2 l0_2.length c0_2, .int .i64 a0_3, .slice A0_4 l0_4.length c0_4] 30 (0, 0)) kz hb); have n6_ := Aside0.mk (below_step bz hb); have n7_ := Aside0.mk (hbox); have n8_ := Aside0.mk ((by rw [hg]; exact (below_size bz) : w.heap.size ≤ gb1042)); have n9_ := Aside0.mk ((by rw [hg]; exact (below_size bz) : w.heap.size ≤ gb1042)); have n10_ := Aside0.mk ((by rw [hg]; exact Nat.ne_of_lt (blk_lt (g := gb1009) (o := .cells #[.string a0_0, .int .i64 a0_1, .slice A0_2 l0_2.length c0_2, .int .i64 a0_3, .slice A0_4 l0_4.length c0_4] 30 (0, 0)) kz) : gb1009 ≠ gb1042)); have n11_ := Aside0.mk ((by rw [hg]; exact Nat.ne_of_gt (blk_lt (g := gb1009) (o := .cells #[.string a0_0, .int .i64 a0_1, .slice A0_2 l0_2.length c0_2, .int .i64 a0_3, .slice A0_4 l0_4.length c0_4] 30 (0, 0)) kz) : gb1042 ≠ gb1009)); clear HO_3; clear HO_4; clear HO_5; clear HO_7; clear HO_8; clear BK1009; clear HB; have HO_3 := n0_; have HO_4 := n1_; have HO_5 := n2_; have HO_7 := n3_; have HO_8 := n4_; have BK1009 := n5_; have HB := n6_; have BK1042 := n7_; have GW1042 := n8_; have GE1042 := n9_; have NB1009_1042 := n10_; have NB1042_1009 := n11_; clear n0_ n1_ n2_ n3_ n4_ n5_ n6_ n7_ n8_ n9_ n10_ n11_; clear hb hbox hg; have hnb72 := NB1042_1009.out; have hnc72 := NB1009_1042.out; have hcz73_0 : w71.cell? ⟨gb1042, 0, none⟩ = some (.int .i64 0) := (blk_cell BK1042.out 0).trans rfl; have hcz73_1 : w71.cell? ⟨gb1042, 1, none⟩ = some (.slice none 0 0) := (blk_cell BK1042.out 1).trans rfl; have hfz73_0 := blk_frozen BK1042.out 0; have hfz73_1 := blk_frozen BK1042.out 1))
                       go_loopg [91] k3 (fun kq v91 w' => ∃ (x91_4 : Int) (x1043001_4 : List Int) (u1043001 : Value), v91 = .int .i64 x91_4 ∧ Aside0 (impl_Loops.l3 kq t1010 x4_1 x5_1 x7_3 (l0_4.length : Int) x21_1 (x7_3.length : Int) x91_4 a0_0 a0_1 l0_2 a0_3 l0_4 x21_1 x1043001_4 = some r) ∧ Aside0 (kq ≤ k3) ∧ Aside0 (Kd.S (Kd.slice 4 Kd.bool) 54 w' w.heap.size (fun k_ => some k_ ≠ (v1014 : Value).ownBlock ∧ some k_ ≠ ((.slice (some ⟨go37, 0, none⟩) x7_3.length co37) : Value).ownBlock) v1011 t1010) ∧ Aside0 (Kd.R Kd.bool 4 w' w.heap.size (fun k_ => some k_ ≠ ((.slice (some ⟨go37, 0, none⟩) x7_3.length co37) : Value).ownBlock) v1014 x4_1) ∧ Aside0 (Kd.S k86 86 w' w.heap.size (fun k_ => some k_ ≠ (u1043001 : Value).ownBlock ∧ k_ ≠ gb1042) u5 x5_1) ∧ Aside0 (Kd.R Kd.bool 4 w' w.heap.size (fun k_ => some k_ ≠ (v1014 : Value).ownBlock) (.slice (some ⟨go37, 0, none⟩) x7_3.length co37) x7_3) ∧ Aside0 (Kd.R (Kd.int .i64) 2 w' w.heap.size (fun _ => True) u1043001 x1043001_4) ∧ Aside0 (w'.heap[gb1009]? = some (.cells #[.string a0_0, .int .i64 a0_1, (.slice A0_2 l0_2.length c0_2), .int .i64 a0_3, (.slice A0_4 l0_4.length c0_4)] 30 (0, 0))) ∧ Aside0 (w'.heap[gb1042]? = some (.cells #[.int .i64 x21_1, u1043001] 86 (0, 0))) ∧ Aside0 (Below w.heap.size w w'))
                       case atStart => exact ⟨(0), (([] : List Int)), (.slice none 0 0), sz_, H', ⟨Nat.le_refl _⟩, ⟨by (try simp only [hl7_3]); (with_reducible repeat (first | apply Kd.S_alloc | apply Kd.S_drewN | apply Kd.S_drew)); exact Kd.S_mono (Kd.S_far (p := ⟨gb1042, 1, none⟩) (Kd.S_far (p := ⟨gb1042, 0, none⟩) (Kd.S_types HO_3.out BK1042.out (by decide)) (fun _ hk => hk.2) (.int .i64 x21_1)) (fun _ hk => hk.2) (.slice none 0 0)) (fun _ hk => ⟨hk.1.1, hk.1.2⟩)⟩, ⟨by (try simp only [hl7_3]); (with_reducible repeat (first | apply Kd.R_alloc | apply Kd.R_drewN | apply Kd.R_drew)); exact Kd.R_mono (Kd.R_far (p := ⟨gb1042, 1, none⟩) (Kd.R_far (p := ⟨gb1042, 0, none⟩) (Kd.R_types HO_4.out BK1042.out (by decide)) (fun _ hk => hk.2) (.int .i64 x21_1)) (fun _ hk => hk.2) (.slice none 0 0)) (fun _ hk => hk.1)⟩, ⟨by (try simp only [hl7_3]); (with_reducible repeat (first | apply Kd.S_alloc | apply Kd.S_drewN | apply Kd.S_drew)); exact Kd.S_mono (Kd.S_far (p := ⟨gb1042, 1, none⟩) (Kd.S_far (p := ⟨gb1042, 0, none⟩) (Kd.S_mono HO_5.out (fun k_ hk => (⟨hk, hk.2⟩ : _ ∧ k_ ≠ gb1042))) (fun _ hk => hk.2) (.int .i64 x21_1)) (fun _ hk => hk.2) (.slice none 0 0)) (fun _ hk => ⟨(by simp [Value.ownBlock]), hk.1.2⟩)⟩, ⟨by (try simp only [hl7_3]); (with_reducible repeat (first | apply Kd.R_alloc | apply Kd.R_drewN | apply Kd.R_drew)); exact Kd.R_mono (Kd.R_far (p := ⟨gb1042, 1, none⟩) (Kd.R_far (p := ⟨gb1042, 0, none⟩) (Kd.R_types HO_7.out BK1042.out (by decide)) (fun _ hk => hk.2) (.int .i64 x21_1)) (fun _ hk => hk.2) (.slice none 0 0)) (fun _ hk => hk.1)⟩, ⟨by (try simp only [hl7_3]); first | exact Kd.R_nil _ _ _ _ _ | exact Kd.N_nil _ _ _ _ _ | exact Kd.V_nil _ _ _ _ _ | exact Kd.Q_nil _ _ _ _ _ | exact Kd.S_nil _ _ _ _ _⟩, ⟨by (try simp only [hl7_3]); (with_reducible repeat (first | refine blk_drewN ?_ _ | refine blk_drew ?_ | refine blk_alloc ?_ _)); refine blk_far ?_ NB1009_1042.out _; (with_reducible repeat (first | refine blk_drewN ?_ _ | refine blk_drew ?_ | refine blk_alloc ?_ _)); refine blk_far ?_ NB1009_1042.out _; (with_reducible repeat (first | refine blk_drewN ?_ _ | refine blk_drew ?_ | refine blk_alloc ?_ _)); exact BK1009.out⟩, ⟨by (try simp only [hl7_3]); (with_reducible repeat (first | refine blk_drewN ?_ _ | refine blk_drew ?_ | refine blk_alloc ?_ _)); refine blk_put (cs := #[.int .i64 x21_1, .slice none 0 0]) ?_ 1 _ rfl; (with_reducible repeat (first | refine blk_drewN ?_ _ | refine blk_drew ?_ | refine blk_alloc ?_ _)); refine blk_put (cs := #[.int .i64 0, .slice none 0 0]) ?_ 0 _ rfl; (with_reducible repeat (first | refine blk_drewN ?_ _ | refine blk_drew ?_ | refine blk_alloc ?_ _)); exact BK1042.out⟩, ⟨ bz⟩⟩
                       case round =>
                        clear H'
                        try clear c1
                        try clear p1
                        try clear q1
                        try clear hx1
                        try clear c2
                        try clear p2
                        try clear q2
                        try clear c3
                        try clear p3
                        try clear q3
                        try clear hx3
                        try clear hf3
                        try clear c4
                        try clear q4
                        try clear c5
                        try clear p5
                        try clear q5
                        try clear hx5
                        try clear hf5
                        try clear c6
                        try clear p6
                        try clear q6
                        try clear c7
                        try clear c10
                        try clear c10b0
                        try clear p10
                        try clear q10
                        try clear hx10
                        try clear c11
                        try clear c11b0
                        try clear c11b1
                        try clear c12
                        try clear c12b0
                        try clear c12b1
                        try clear c20
                        try clear c20b0
                        try clear c21
                        try clear c21b0
                        try clear c22
                        try clear c22b0
                        try clear c23
                        try clear c23b0
                        try clear c24
                        try clear c24b0
                        try clear c25
                        try clear c25b0
                        try clear c26
                        try clear c26b0
                        try clear q27
                        try clear c28
                        try clear c29
                        try clear c33
                        try clear c33b0
                        try clear c33b1
                        try clear c33b2
                        try clear c35
                        try clear c35b0
                        try clear c36
                        try clear c36b0
                        try clear c37
                        try clear p37
                        try clear q37
                        try clear hx37
                        try clear hf37
                        try clear c41
                        try clear c41b0
                        try clear c41b1
                        try clear c43
                        try clear c43b0
                        try clear c44
                        try clear c44b0
                        try clear c45
                        try clear c45b0
                        try clear c45b1
                        try clear c46
                        try clear c46b0
                        try clear c47
                        try clear c47b0
                        try clear q48
                        try clear c49
                        try clear q51
                        try clear c52
                        try clear c52b0
                        try clear q53
                        try clear c54
                        try clear p55
                        try clear q55
                        try clear hx55
                        try clear hf55
                        try clear c57
                        try clear q59
                        try clear p64
                        try clear q68
                        try clear c72
                        try clear hcz14_0
                        try clear hcz14_1
                        try clear hcz14_2
                        try clear hcz14_3
                        try clear hcz14_4
                        try clear hcz17_0
                        try clear hcz17_1
                        try clear hcz17_2
                        try clear hcz17_3
                        try clear hcz17_4
                        try clear hcz5_0
                        try clear hcz5_1
                        try clear hcz5_2
                        try clear hcz5_3
                        try clear hcz5_4
                        try clear hcz63_0
                        try clear hcz63_1
                        try clear hcz63_2
                        try clear hcz63_3
                        try clear hcz63_4
                        try clear hcz73_0
                        try clear hcz73_1
                        try clear hcz7_0
                        try clear hcz7_1
                        try clear hcz7_2
                        try clear hcz7_3
                        try clear hcz7_4
                        try clear hcz9_0
                        try clear hcz9_1
                        try clear hcz9_2
                        try clear hcz9_3
                        try clear hcz9_4
                        try clear hfz14_0
                        try clear hfz14_1
                        try clear hfz14_2
                        try clear hfz14_3
                        try clear hfz14_4
                        try clear hfz17_0
                        try clear hfz17_1
                        try clear hfz17_2
                        try clear hfz17_3
                        try clear hfz17_4
                        try clear hfz5_0
                        try clear hfz5_1
                        try clear hfz5_2
                        try clear hfz5_3
                        try clear hfz5_4
                        try clear hfz63_0
                        try clear hfz63_1
                        try clear hfz63_2
                        try clear hfz63_3
                        try clear hfz63_4
                        try clear hfz73_0
                        try clear hfz73_1
                        try clear hfz7_0
                        try clear hfz7_1
                        try clear hfz7_2
                        try clear hfz7_3
                        try clear hfz7_4
                        try clear hfz9_0
                        try clear hfz9_1
                        try clear hfz9_2
                        try clear hfz9_3
                        try clear hfz9_4
                        try clear hx1022_0
                        try clear hx1023_0
                        try clear hx1024_0
                        try clear hx1029_0
                        try clear hx1033_0
                        try clear hx1034_0
                        try clear hx37_0
                        try clear hx55_0
                        try clear p1
                        try clear p10
                        try clear p1022
                        try clear p1023
                        try clear p1024
                        try clear p1029
                        try clear p1033
                        try clear p1034
                        try clear p2
                        try clear p3
                        try clear p37
                        try clear p55
                        try clear p6
                        try clear q1
                        try clear q10
                        try clear q1022
                        try clear q1023
                        try clear q1024
                        try clear q1029
                        try clear q1033
                        try clear q1034
                        try clear q2
                        try clear q27
                        try clear q3
                        try clear q37
                        try clear q51
                        try clear q55
                        try clear q59
                        try clear q68
                        obtain ⟨x91_4, x1043001_4, u1043001, rfl, HA, HK4, HO_3, HO_4, HO_5, HO_7, HO_1043001, BK1009, BK1042, HB⟩ := hrel
                        cases gk with
                        | zero => exact absurd HA.out (by simp [impl_Loops.l3])
                        | succ k4 =>
                         have H := HA.out
                         clear HA
                         simp only [impl_Loops.l3] at H
                         by_cases c74 : x91_4 < (x7_3.length : Int)
                         · rw [if_pos c74] at H
                           have c74b0 : decide (x91_4 < (x7_3.length : Int)) = true := decide_eq_true c74
                           clear c74
                           by_cases c75 : 0 ≤ x91_4
                           · rw [if_pos c75] at H
                             have c75b0 : decide (0 ≤ x91_4) = true := decide_eq_true c75
                             clear c75
                             by_cases c76 : x91_4 < (x7_3.length : Int)
                             · rw [if_pos c76] at H
                               have c76b0 : decide (x91_4 < (x7_3.length : Int)) = true := decide_eq_true c76
                               clear c76
                               obtain ⟨bq77, hbq77⟩ : ∃ b_ : Bool, b_ = (rdOf false x7_3 x91_4) := ⟨_, rfl⟩
                               replace H : (if bq77 = true then (if x1043001_4.length < 17592186044416 then (impl_Loops.l3 k4 t1010 x4_1 x5_1 x7_3 (l0_4.length : Int) x21_1 (x7_3.length : Int) (wrap64 (x91_4 + 1)) a0_0 a0_1 l0_2 a0_3 l0_4 x21_1 (x1043001_4 ++ [x91_4])) else (none)) else (impl_Loops.l3 k4 t1010 x4_1 x5_1 x7_3 (l0_4.length : Int) x21_1 (x7_3.length : Int) (wrap64 (x91_4 + 1)) a0_0 a0_1 l0_2 a0_3 l0_4 x21_1 x1043001_4)) = some r := by rw [← hbq77] at H; exact H
                               have Nbq77 := Aside0.mk hbq77
                               clear hbq77
                               by_cases c78 : bq77 = true
                               · subst c78
                                 have H1 : (if x1043001_4.length < 17592186044416 then (impl_Loops.l3 k4 t1010 x4_1 x5_1 x7_3 (l0_4.length : Int) x21_1 (x7_3.length : Int) (wrap64 (x91_4 + 1)) a0_0 a0_1 l0_2 a0_3 l0_4 x21_1 (x1043001_4 ++ [x91_4])) else (none)) = some r := by rw [if_pos rfl] at H; exact H
                                 clear H
                                 have H := H1
                                 clear H1
                                 by_cases c79 : x1043001_4.length < 17592186044416
                                 · rw [if_pos c79] at H
                                   have LMc79 := Aside0.mk c79
                                   clear c79
                                   obtain ⟨y1044, hy1044⟩ : ∃ y_ : List Int, y_ = (x1043001_4 ++ [x91_4]) := ⟨_, rfl⟩
                                   replace H : (impl_Loops.l3 k4 t1010 x4_1 x5_1 x7_3 (l0_4.length : Int) x21_1 (x7_3.length : Int) (wrap64 (x91_4 + 1)) a0_0 a0_1 l0_2 a0_3 l0_4 x21_1 y1044) = some r := by first | (rw [hy1044]; with_reducible exact H) | (have H2_ := (Option.bind_some _ _).symm.trans H; rw [hy1044]; with_reducible exact H2_) | (have H2_ := (Option.bind_some _ _).symm.trans H; with_reducible exact H2_) | with_reducible exact H | (rw [hy1044]; exact H) | exact H
                                   have Ny1044 := Aside0.mk hy1044
                                   clear hy1044
                                   have H' := Aside0.mk H
                                   clear H
                                   have p1043 : 0 ≤ (x91_4 : Int) := of_decide_eq_true az
                                   have q1043 : x91_4 < (x7_3.length : Int) := of_decide_eq_true az
                                   obtain ⟨ad1043, e1043, hx1043_0⟩ := Kd.at_bool (Kd.R_reads' HO_7.out).2.2 x91_4 p1043 q1043
                                   (try rw [← Nbq77.out] at hx1043_0)
                                   obtain rfl : (⟨go37, 0, none⟩ : Addr) = ad1043 := (by injection e1043)
                                   (first | simp only [add_plain] at hx1043_0 | simp only [add_at] at hx1043_0 | simp only [Addr.add, Nat.zero_add] at hx1043_0 | skip)
                                   replace p1043 := eq_true p1043
                                   replace q1043 := eq_true q1043
                                   have hnb80 := NB1042_1009.out
                                   have hnc80 := NB1009_1042.out
                                   have hcz81_0 : wr.cell? ⟨gb1042, 0, none⟩ = some (.int .i64 x21_1) := (blk_cell BK1042.out 0).trans rfl
                                   have hcz81_1 : wr.cell? ⟨gb1042, 1, none⟩ = some (u1043001) := (blk_cell BK1042.out 1).trans rfl
                                   have hfz81_0 := blk_frozen BK1042.out 0
                                   have hfz81_1 := blk_frozen BK1042.out 1
                                   go_wp2_with (first | ((with_reducible refine gate_builtin (b := .append) (xs := #[.tmp 99, .tmp 101]) rfl ?_); at_builtin; refine Kd.R_append (Kd.int .i64) (w0 := w) w.heap.size rfl (.tmp 99) (.tmp 101) 22 2 (.int .i64 0) 8 rfl Try.underlying22 info2 rfl (by decide) (by omega) u1043001 x1043001_4 x91_4 [.int .i64 x91_4] (fun _ => True) (fun _ => False) rfl rfl ?aP (fun _ hk => hk.elim) ?aF ?aO ?aB ?aS ?aL ?_; (case aP => exact rfl); (case aB => exact bz); (case aF => exact (fun _ _ => trivial)); (case aO => exact (rz HO_1043001.out)); (case aS => exact (below_size bz)); (case aL => have := LMc79.out; omega); intro v1045 w82 ho hb hg hat; rw [← Ny1044.out] at ho; have n0_ := Aside0.mk (Kd.S_over' (rs HO_3.out) (Kd.R_typed (rz HO_1043001.out)) (by decide) hg); have n1_ := Aside0.mk (Kd.R_over' (rz HO_4.out) (Kd.R_typed (rz HO_1043001.out)) (by decide) hg); have n2_ := Aside0.mk (Kd.S_after (ok := (fun k_ => k_ ≠ gb1042)) (by (with_reducible repeat (first | apply Kd.S_alloc | apply Kd.S_drewN | apply Kd.S_drew)); exact Kd.S_mono HO_5.out (fun _ hk => ⟨hk.2, hk.1⟩)) hg hat); have n3_ := Aside0.mk (Kd.R_over' (rz HO_7.out) (Kd.R_typed (rz HO_1043001.out)) (by decide) hg); have n4_ := Aside0.mk (blk_grown (g := gb1009) (o := .cells #[.string a0_0, .int .i64 a0_1, .slice A0_2 l0_2.length c0_2, .int .i64 a0_3, .slice A0_4 l0_4.length c0_4] 30 (0, 0)) kz hg (Kd.R_ne HO_1043001.out BK1009.out (by decide))); have n5_ := Aside0.mk (blk_grown (g := gb1042) (o := .cells #[.int .i64 x21_1, u1043001] 86 (0, 0)) kz hg (Kd.R_ne HO_1043001.out BK1042.out (by decide))); have n6_ := Aside0.mk (hb); have n7_ := Aside0.mk (ho); clear HO_3; clear HO_4; clear HO_5; clear HO_7; clear BK1009; clear BK1042; clear HB; clear HO_1043001; have HO_3 := n0_; have HO_4 := n1_; have HO_5 := n2_; have HO_7 := n3_; have BK1009 := n4_; have BK1042 := n5_; have HB := n6_; have HO1046 := n7_; clear n0_ n1_ n2_ n3_ n4_ n5_ n6_ n7_; clear ho hb hg hat; obtain ⟨Ao83, co83, eo83⟩ := Kd.R_slice HO1046.out; subst eo83; have hcz84_0 : w82.cell? ⟨gb1042, 0, none⟩ = some (.int .i64 x21_1) := (blk_cell BK1042.out 0).trans rfl; have hcz84_1 : w82.cell? ⟨gb1042, 1, none⟩ = some (u1043001) := (blk_cell BK1042.out 1).trans rfl; have hfz84_0 := blk_frozen BK1042.out 0; have hfz84_1 := blk_frozen BK1042.out 1))
                                   go_roundg k4
                                   case measure => have := HK1.out; have := HK2.out; have := HK3.out; have := HK4.out; omega
                                   case rel => exact ⟨(wrap64 (x91_4 + 1)), (y1044), (.slice Ao83 y1044.length co83), sz_, H', ⟨by have := HK1.out; have := HK2.out; have := HK3.out; have := HK4.out; omega⟩, ⟨by (try simp only [hl7_3]); (with_reducible repeat (first | apply Kd.S_alloc | apply Kd.S_drewN | apply Kd.S_drew)); exact Kd.S_mono (Kd.S_far (p := ⟨gb1042, 1, none⟩) (Kd.S_types HO_3.out BK1042.out (by decide)) (fun _ hk => hk.2) (.slice Ao83 y1044.length co83)) (fun _ hk => ⟨hk.1.1, hk.1.2⟩)⟩, ⟨by (try simp only [hl7_3]); (with_reducible repeat (first | apply Kd.R_alloc | apply Kd.R_drewN | apply Kd.R_drew)); exact Kd.R_mono (Kd.R_far (p := ⟨gb1042, 1, none⟩) (Kd.R_types HO_4.out BK1042.out (by decide)) (fun _ hk => hk.2) (.slice Ao83 y1044.length co83)) (fun _ hk => hk.1)⟩, ⟨by (try simp only [hl7_3]); (with_reducible repeat (first | apply Kd.S_alloc | apply Kd.S_drewN | apply Kd.S_drew)); exact Kd.S_mono (Kd.S_far (p := ⟨gb1042, 1, none⟩) (Kd.S_mono HO_5.out (fun k_ hk => (⟨hk, hk.1⟩ : _ ∧ k_ ≠ gb1042))) (fun _ hk => hk.2) (.slice Ao83 y1044.length co83)) (fun _ hk => ⟨hk.1.2, hk.1.1⟩)⟩, ⟨by (try simp only [hl7_3]); (with_reducible repeat (first | apply Kd.R_alloc | apply Kd.R_drewN | apply Kd.R_drew)); exact Kd.R_mono (Kd.R_far (p := ⟨gb1042, 1, none⟩) (Kd.R_types HO_7.out BK1042.out (by decide)) (fun _ hk => hk.2) (.slice Ao83 y1044.length co83)) (fun _ hk => hk.1)⟩, ⟨by (try simp only [hl7_3]); (with_reducible repeat (first | apply Kd.R_alloc | apply Kd.R_drewN | apply Kd.R_drew)); exact Kd.R_mono (Kd.R_far (p := ⟨gb1042, 1, none⟩) (Kd.R_types HO1046.out BK1042.out (by decide)) (fun _ hk => hk.2) (.slice Ao83 y1044.length co83)) (fun _ hk => trivial)⟩, ⟨by (try simp only [hl7_3]); (with_reducible repeat (first | refine blk_drewN ?_ _ | refine blk_drew ?_ | refine blk_alloc ?_ _)); refine blk_far ?_ NB1009_1042.out _; (with_reducible repeat (first | refine blk_drewN ?_ _ | refine blk_drew ?_ | refine blk_alloc ?_ _)); exact BK1009.out⟩, ⟨by (try simp only [hl7_3]); (with_reducible repeat (first | refine blk_drewN ?_ _ | refine blk_drew ?_ | refine blk_alloc ?_ _)); refine blk_put (cs := #[.int .i64 x21_1, u1043001]) ?_ 1 _ rfl; (with_reducible repeat (first | refine blk_drewN ?_ _ | refine blk_drew ?_ | refine blk_alloc ?_ _)); exact BK1042.out⟩, ⟨ bz⟩⟩
                                 · rw [if_neg c79] at H
                                   exact absurd H (by simp)
                               · replace c78 := Bool.eq_false_iff.mpr c78
                                 subst c78
                                 have H1 : (impl_Loops.l3 k4 t1010 x4_1 x5_1 x7_3 (l0_4.length : Int) x21_1 (x7_3.length : Int) (wrap64 (x91_4 + 1)) a0_0 a0_1 l0_2 a0_3 l0_4 x21_1 x1043001_4) = some r := by rw [if_neg (show ¬ (false = true) by decide)] at H; exact H
                                 clear H
                                 have H := H1
                                 clear H1
                                 have H' := Aside0.mk H
                                 clear H
                                 have p1043 : 0 ≤ (x91_4 : Int) := of_decide_eq_true az
                                 have q1043 : x91_4 < (x7_3.length : Int) := of_decide_eq_true az
                                 obtain ⟨ad1043, e1043, hx1043_0⟩ := Kd.at_bool (Kd.R_reads' HO_7.out).2.2 x91_4 p1043 q1043
                                 (try rw [← Nbq77.out] at hx1043_0)
                                 obtain rfl : (⟨go37, 0, none⟩ : Addr) = ad1043 := (by injection e1043)
                                 (first | simp only [add_plain] at hx1043_0 | simp only [add_at] at hx1043_0 | simp only [Addr.add, Nat.zero_add] at hx1043_0 | skip)
                                 replace p1043 := eq_true p1043
                                 replace q1043 := eq_true q1043
                                 go_wp2
                                 go_roundg k4
                                 case measure => have := HK1.out; have := HK2.out; have := HK3.out; have := HK4.out; omega
                                 case rel => exact ⟨(wrap64 (x91_4 + 1)), (x1043001_4), (u1043001), sz_, H', ⟨by have := HK1.out; have := HK2.out; have := HK3.out; have := HK4.out; omega⟩, ⟨by (try simp only [hl7_3]); (with_reducible repeat (first | apply Kd.S_alloc | apply Kd.S_drewN | apply Kd.S_drew)); exact HO_3.out⟩, ⟨by (try simp only [hl7_3]); (with_reducible repeat (first | apply Kd.R_alloc | apply Kd.R_drewN | apply Kd.R_drew)); exact HO_4.out⟩, ⟨by (try simp only [hl7_3]); (with_reducible repeat (first | apply Kd.S_alloc | apply Kd.S_drewN | apply Kd.S_drew)); exact HO_5.out⟩, ⟨by (try simp only [hl7_3]); (with_reducible repeat (first | apply Kd.R_alloc | apply Kd.R_drewN | apply Kd.R_drew)); exact HO_7.out⟩, ⟨by (try simp only [hl7_3]); (with_reducible repeat (first | apply Kd.R_alloc | apply Kd.R_drewN | apply Kd.R_drew)); exact HO_1043001.out⟩, ⟨by (try simp only [hl7_3]); (with_reducible repeat (first | refine blk_drewN ?_ _ | refine blk_drew ?_ | refine blk_alloc ?_ _)); exact BK1009.out⟩, ⟨by (try simp only [hl7_3]); (with_reducible repeat (first | refine blk_drewN ?_ _ | refine blk_drew ?_ | refine blk_alloc ?_ _)); exact BK1042.out⟩, ⟨ bz⟩⟩
                             · rw [if_neg c76] at H
                               exact absurd H (by simp)
                           · rw [if_neg c75] at H
                             exact absurd H (by simp)
                         · rw [if_neg c74] at H
                           have c74b0 : decide (x91_4 < (x7_3.length : Int)) = false := decide_eq_false c74
                           clear c74
                           by_cases c85 : x5_1.length < 4398046511104
                           · rw [if_pos c85] at H
                             have LMc85 := Aside0.mk c85
                             clear c85
                             obtain ⟨y1047, hy1047⟩ : ∃ y_ : List (S86), y_ = (x5_1 ++ [(⟨x21_1, x1043001_4⟩ : S86)]) := ⟨_, rfl⟩
                             replace H : (impl_Loops.l0 k4 t1010 x4_1 y1047 (l0_4.length : Int) (wrap64 (x21_1 + 1)) a0_0 a0_1 l0_2 a0_3 l0_4) = some r := by first | (rw [hy1047]; with_reducible exact H) | (have H2_ := (Option.bind_some _ _).symm.trans H; rw [hy1047]; with_reducible exact H2_) | (have H2_ := (Option.bind_some _ _).symm.trans H; with_reducible exact H2_) | with_reducible exact H | (rw [hy1047]; exact H) | exact H
                             have Ny1047 := Aside0.mk hy1047
                             clear hy1047
                             have H' := Aside0.mk H
                             clear H
                             have hnb86 := NB1042_1009.out
                             have hnc86 := NB1009_1042.out
                             have hcz87_0 : wr.cell? ⟨gb1042, 0, none⟩ = some (.int .i64 x21_1) := (blk_cell BK1042.out 0).trans rfl
                             have hcz87_1 : wr.cell? ⟨gb1042, 1, none⟩ = some (u1043001) := (blk_cell BK1042.out 1).trans rfl
                             have hfz87_0 := blk_frozen BK1042.out 0
                             have hfz87_1 := blk_frozen BK1042.out 1
                             obtain ⟨Ao89, co89, eo89⟩ := Kd.R_slice HO_1043001.out
                             subst eo89
                             go_wp2_with (first | ((with_reducible refine gate_builtin (b := .append) (xs := #[.tmp 105, .tmp 107]) rfl ?_); at_builtin; refine Kd.S_append k86 (w0 := w) w.heap.size rfl (.tmp 105) (.tmp 107) 45 86 (.agg #[(.int .i64 0), (.slice none 0 0)]) 32 rfl Try.underlying45 info86 rfl (by decide) (by omega) u5 x5_1 (⟨x21_1, x1043001_4⟩ : S86) [.int .i64 x21_1, .slice Ao89 x1043001_4.length co89] (fun k_ => k_ ≠ gb1042) (fun k_ => some k_ = (.slice Ao89 x1043001_4.length co89 : Value).ownBlock) rfl rfl ?aP (fun k_ hk_ => ((Kd.R_mono (ok' := fun k_ => ((fun k_ => k_ ≠ gb1042)) k_ ∧ some k_ ≠ (u5 : Value).ownBlock) (Kd.R_types (Kd.R_apart' (HO_1043001.out) (Kd.S_typed HO_5.out) (by decide)) BK1042.out (by decide)) (fun k_ hk => ⟨hk.2, hk.1.2⟩))).1 k_ hk_.symm) ?aF ?aO ?aB ?aS ?aL ?_; (case aP => exact k86_mkM _ _ _ (⟨x21_1, x1043001_4⟩ : S86) (Kd.R_mono (Kd.R_tight rfl (Kd.R_mono (ok' := fun k_ => ((fun k_ => k_ ≠ gb1042)) k_ ∧ some k_ ≠ (u5 : Value).ownBlock) (Kd.R_types (Kd.R_apart' (HO_1043001.out) (Kd.S_typed HO_5.out) (by decide)) BK1042.out (by decide)) (fun k_ hk => ⟨hk.2, hk.1.2⟩))) (fun _ h_ => h_))); (case aB => exact bz); (case aF => exact (fun k_ hk => Kd.freshB (g := gb1042) (o := .cells #[.int .i64 x21_1, .slice Ao89 x1043001_4.length co89] 86 (0, 0)) kz k_ hk)); (case aO => exact (by (with_reducible repeat (first | apply Kd.S_alloc | apply Kd.S_drewN | apply Kd.S_drew)); exact Kd.S_mono HO_5.out (fun k_ hk => ⟨hk.2, fun e_ => hk.1 e_⟩))); (case aS => exact (below_size bz)); (case aL => have := LMc85.out; omega); intro v1048 w88 ho hb hg hat; rw [← Ny1047.out] at ho; have n0_ := Aside0.mk (Kd.S_over' (rs HO_3.out) (Kd.S_typed (rs HO_5.out)) (by decide) hg); have n1_ := Aside0.mk (Kd.R_over' (rz HO_4.out) (Kd.S_typed (rs HO_5.out)) (by decide) hg); have n2_ := Aside0.mk (Kd.R_over' (rz HO_7.out) (Kd.S_typed (rs HO_5.out)) (by decide) hg); have n3_ := Aside0.mk (blk_grown (g := gb1009) (o := .cells #[.string a0_0, .int .i64 a0_1, .slice A0_2 l0_2.length c0_2, .int .i64 a0_3, .slice A0_4 l0_4.length c0_4] 30 (0, 0)) kz hg (Kd.S_ne HO_5.out BK1009.out (by decide))); have n4_ := Aside0.mk (blk_grown (g := gb1042) (o := .cells #[.int .i64 x21_1, .slice Ao89 x1043001_4.length co89] 86 (0, 0)) kz hg (Kd.S_away HO_5.out (fun _ hk => hk.2))); have n5_ := Aside0.mk (hb); have n6_ := Aside0.mk (ho); clear HO_3; clear HO_4; clear HO_7; clear BK1009; clear BK1042; clear HB; clear HO_5; clear HO_1043001; have HO_3 := n0_; have HO_4 := n1_; have HO_7 := n2_; have BK1009 := n3_; have BK1042 := n4_; have HB := n5_; have HO1049 := n6_; clear n0_ n1_ n2_ n3_ n4_ n5_ n6_; clear ho hb hg hat))
                             (try simp only [← hl7_3])
                             go_roundg k4
                             case measure => have := HK1.out; have := HK2.out; have := HK3.out; have := HK4.out; omega
                             case rel => exact ⟨(x4_1), (y1047), (wrap64 (x21_1 + 1)), sz_, H', ⟨by have := HK1.out; have := HK2.out; have := HK3.out; have := HK4.out; omega⟩, ⟨by (try simp only [hl7_3]); (with_reducible repeat (first | apply Kd.S_alloc | apply Kd.S_drewN | apply Kd.S_drew)); exact Kd.S_mono HO_3.out (fun _ hk => hk.1)⟩, ⟨by (try simp only [hl7_3]); (with_reducible repeat (first | apply Kd.R_alloc | apply Kd.R_drewN | apply Kd.R_drew)); exact Kd.R_mono HO_4.out (fun _ hk => trivial)⟩, ⟨by (try simp only [hl7_3]); (with_reducible repeat (first | apply Kd.S_alloc | apply Kd.S_drewN | apply Kd.S_drew)); exact Kd.S_mono HO1049.out (fun _ hk => trivial)⟩, ⟨by (try simp only [hl7_3]); (with_reducible repeat (first | refine blk_drewN ?_ _ | refine blk_drew ?_ | refine blk_alloc ?_ _)); exact BK1009.out⟩, ⟨ bz⟩⟩
                           · rw [if_neg c85] at H
                             exact absurd H (by simp)
                 · rw [if_neg c36] at H
                   exact absurd H (by simp)
               · rw [if_neg c35] at H
                 exact absurd H (by simp)
       · rw [if_neg c12] at H
         exact absurd H (by simp)
     · rw [if_neg c11] at H
       exact absurd H (by simp)
   · rw [if_neg c10] at H
     have c10b0 : decide (x21_1 < (l0_4.length : Int)) = false := decide_eq_false c10
     clear c10
     obtain rfl := Option.some.inj H
     go_wp2
     go_ret
     exact ⟨_, by first | rfl | (simp [errW_none, errW_some] <;> rfl) | (simp [*, errW_none, errW_some] <;> rfl), by (with_reducible repeat (first | apply Kd.S_alloc | apply Kd.S_drewN | apply Kd.S_drew)); exact HO_5.out, bz⟩

set_option linter.unusedVariables false
set_option linter.unusedSimpArgs false

def laws_eqLoop.f (k : Nat) (a0_0 : Int) (l0_1 : List Int) (a1_0 : Int) (l1_1 : List Int) : Option (Bool) := if a0_0 = a1_0 then ((laws_eqInt64S.f k l0_1 l1_1).bind fun t1052 => (if t1052 = true then (some true) else (some false))) else (some false)
set_option maxHeartbeats 8000000 in
set_option maxRecDepth 100000 in
theorem laws_eqLoop.calls (k : Nat) (a0_0 : Int) (A0_1 : Option Addr) (c0_1 : Nat) (l0_1 : List Int) (a1_0 : Int) (A1_1 : Option Addr) (c1_1 : Nat) (l1_1 : List Int) (r : Bool) (w : World) (hr0_1 : Kd.C (Kd.int .i64) w A0_1 l0_1.length l0_1) (hc0_1 : l0_1.length ≤ c0_1) (hr1_1 : Kd.C (Kd.int .i64) w A1_1 l1_1.length l1_1) (hc1_1 : l1_1.length ≤ c1_1) (h : laws_eqLoop.f k a0_0 l0_1 a1_0 l1_1 = some r) :
 Calls Try.prog 63 #[.agg #[.int .i64 a0_0, .slice A0_1 l0_1.length c0_1], .agg #[.int .i64 a1_0, .slice A1_1 l1_1.length c1_1]] w fun e w' => e = .returned (.bool r) ∧ Below w.heap.size w w' := by
 have hu86 := Try.underlying86
 have HR0_1 := Aside0.mk hr0_1
 have HC0_1 := Aside0.mk hc0_1
 clear hr0_1 hc0_1
 have HR1_1 := Aside0.mk hr1_1
 have HC1_1 := Aside0.mk hc1_1
 clear hr1_1 hc1_1
 have HB := Aside0.mk (Below.refl w.heap.size w)
 have H : (if a0_0 = a1_0 then ((laws_eqInt64S.f k l0_1 l1_1).bind fun t1052 => (if t1052 = true then (some true) else (some false))) else (some false)) = some r := h
 clear h
 by_cases c3 : a0_0 = a1_0
 · rw [if_pos c3] at H
   have c3b0 : (a0_0 == a1_0) = true := beq_iff_eq.mpr c3
   have c3b1 : (a0_0 != a1_0) = false := bne_eq_false_iff_eq.mpr c3
   clear c3
   replace H := Option.bind_eq_some_iff.mp H
   obtain ⟨t1052, A40, H⟩ := H
   replace H : (if t1052 = true then (some true) else (some false)) = some r := H
   have A4 := Aside0.mk A40
   clear A40
   by_cases c5 : t1052 = true
   · subst c5
     have H1 : (some true) = some r := by rw [if_pos rfl] at H; exact H
     clear H
     have H := H1
     clear H1
     obtain rfl := Option.some.inj H
     go_enter Try.func63, Try.ntmps63
     go_wp2_with (first | ((with_reducible refine gate_dst (N := 2) rfl ?_); refine box_event ?hg (N := 2) ?hd (cs := #[.int .i64 a0_0, .slice A0_1 l0_1.length c0_1]) (t := 86) ?hr ?_; (case hd => rfl); (case hg => rfl); (case hr => first | (go_simp; done) | (go_simp; rfl)); intro gb1050 hg w6 hbox hb; have n0_ := Aside0.mk (below_step bz hb); have n1_ := Aside0.mk (hbox); have n2_ := Aside0.mk ((by rw [hg]; exact (below_size bz) : w.heap.size ≤ gb1050)); have n3_ := Aside0.mk ((by rw [hg]; exact (below_size bz) : w.heap.size ≤ gb1050)); clear HB; have HB := n0_; have BK1050 := n1_; have GW1050 := n2_; have GE1050 := n3_; clear n0_ n1_ n2_ n3_; clear hb hbox hg) | ((with_reducible refine gate_dst (N := 3) rfl ?_); refine box_event ?hg (N := 3) ?hd (cs := #[.int .i64 a1_0, .slice A1_1 l1_1.length c1_1]) (t := 86) ?hr ?_; (case hd => rfl); (case hg => rfl); (case hr => first | (go_simp; done) | (go_simp; rfl)); intro gb1051 hg w7 hbox hb; have n0_ := Aside0.mk (blk_below (g := gb1050) (o := .cells #[.int .i64 a0_0, .slice A0_1 l0_1.length c0_1] 86 (0, 0)) kz hb); have n1_ := Aside0.mk (below_step bz hb); have n2_ := Aside0.mk (hbox); have n3_ := Aside0.mk ((by rw [hg]; exact (below_size bz) : w.heap.size ≤ gb1051)); have n4_ := Aside0.mk ((by rw [hg]; exact (below_size bz) : w.heap.size ≤ gb1051)); have n5_ := Aside0.mk ((by rw [hg]; exact Nat.ne_of_lt (blk_lt (g := gb1050) (o := .cells #[.int .i64 a0_0, .slice A0_1 l0_1.length c0_1] 86 (0, 0)) kz) : gb1050 ≠ gb1051)); have n6_ := Aside0.mk ((by rw [hg]; exact Nat.ne_of_gt (blk_lt (g := gb1050) (o := .cells #[.int .i64 a0_0, .slice A0_1 l0_1.length c0_1] 86 (0, 0)) kz) : gb1051 ≠ gb1050)); clear BK1050; clear HB; have BK1050 := n0_; have HB := n1_; have BK1051 := n2_; have GW1051 := n3_; have GE1051 := n4_; have NB1050_1051 := n5_; have NB1051_1050 := n6_; clear n0_ n1_ n2_ n3_ n4_ n5_ n6_; clear hb hbox hg; have hnb8 := NB1050_1051.out; have hnc8 := NB1051_1050.out; have hcz9_0 : w7.cell? ⟨gb1050, 0, none⟩ = some (.int .i64 a0_0) := (blk_cell BK1050.out 0).trans rfl; have hcz9_1 : w7.cell? ⟨gb1050, 1, none⟩ = some (.slice A0_1 l0_1.length c0_1) := (blk_cell BK1050.out 1).trans rfl; have hfz9_0 := blk_frozen BK1050.out 0; have hfz9_1 := blk_frozen BK1050.out 1; have hcz10_0 : w7.cell? ⟨gb1051, 0, none⟩ = some (.int .i64 a1_0) := (blk_cell BK1051.out 0).trans rfl; have hcz10_1 : w7.cell? ⟨gb1051, 1, none⟩ = some (.slice A1_1 l1_1.length c1_1) := (blk_cell BK1051.out 1).trans rfl; have hfz10_0 := blk_frozen BK1051.out 0; have hfz10_1 := blk_frozen BK1051.out 1) | ((with_reducible refine gate_callee (f := 19) rfl ?_); refine goesL_ (some 14) rfl rfl Try.func19 (by kernel_rfl) rfl #[.slice A0_1 l0_1.length c0_1, .slice A1_1 l1_1.length c1_1] rfl lz ?_; (with_reducible refine (laws_eqInt64S.calls k _ _ l0_1 _ _ l1_1 true _ ?side1 ?side2 ?side3 ?side4 A4.out).mono ?_); (case side1 => exact cz HR0_1.out); (case side2 => exact HC0_1.out); (case side3 => exact cz HR1_1.out); (case side4 => exact HC1_1.out); rintro e w' ⟨rfl, ⟨nd, rfl⟩⟩; refine ⟨_, rfl, ?_⟩))
     go_ret
     exact ⟨by first | rfl | (simp [errW_none, errW_some] <;> rfl) | (simp [*, errW_none, errW_some] <;> rfl), bz⟩
   · replace c5 := Bool.eq_false_iff.mpr c5
     subst c5
     have H1 : (some false) = some r := by rw [if_neg (show ¬ (false = true) by decide)] at H; exact H
     clear H
     have H := H1
     clear H1
     obtain rfl := Option.some.inj H
     go_enter Try.func63, Try.ntmps63
     go_wp2_with (first | ((with_reducible refine gate_dst (N := 2) rfl ?_); refine box_event ?hg (N := 2) ?hd (cs := #[.int .i64 a0_0, .slice A0_1 l0_1.length c0_1]) (t := 86) ?hr ?_; (case hd => rfl); (case hg => rfl); (case hr => first | (go_simp; done) | (go_simp; rfl)); intro gb1050 hg w11 hbox hb; have n0_ := Aside0.mk (below_step bz hb); have n1_ := Aside0.mk (hbox); have n2_ := Aside0.mk ((by rw [hg]; exact (below_size bz) : w.heap.size ≤ gb1050)); have n3_ := Aside0.mk ((by rw [hg]; exact (below_size bz) : w.heap.size ≤ gb1050)); clear HB; have HB := n0_; have BK1050 := n1_; have GW1050 := n2_; have GE1050 := n3_; clear n0_ n1_ n2_ n3_; clear hb hbox hg) | ((with_reducible refine gate_dst (N := 3) rfl ?_); refine box_event ?hg (N := 3) ?hd (cs := #[.int .i64 a1_0, .slice A1_1 l1_1.length c1_1]) (t := 86) ?hr ?_; (case hd => rfl); (case hg => rfl); (case hr => first | (go_simp; done) | (go_simp; rfl)); intro gb1051 hg w12 hbox hb; have n0_ := Aside0.mk (blk_below (g := gb1050) (o := .cells #[.int .i64 a0_0, .slice A0_1 l0_1.length c0_1] 86 (0, 0)) kz hb); have n1_ := Aside0.mk (below_step bz hb); have n2_ := Aside0.mk (hbox); have n3_ := Aside0.mk ((by rw [hg]; exact (below_size bz) : w.heap.size ≤ gb1051)); have n4_ := Aside0.mk ((by rw [hg]; exact (below_size bz) : w.heap.size ≤ gb1051)); have n5_ := Aside0.mk ((by rw [hg]; exact Nat.ne_of_lt (blk_lt (g := gb1050) (o := .cells #[.int .i64 a0_0, .slice A0_1 l0_1.length c0_1] 86 (0, 0)) kz) : gb1050 ≠ gb1051)); have n6_ := Aside0.mk ((by rw [hg]; exact Nat.ne_of_gt (blk_lt (g := gb1050) (o := .cells #[.int .i64 a0_0, .slice A0_1 l0_1.length c0_1] 86 (0, 0)) kz) : gb1051 ≠ gb1050)); clear BK1050; clear HB; have BK1050 := n0_; have HB := n1_; have BK1051 := n2_; have GW1051 := n3_; have GE1051 := n4_; have NB1050_1051 := n5_; have NB1051_1050 := n6_; clear n0_ n1_ n2_ n3_ n4_ n5_ n6_; clear hb hbox hg; have hnb13 := NB1050_1051.out; have hnc13 := NB1051_1050.out; have hcz14_0 : w12.cell? ⟨gb1050, 0, none⟩ = some (.int .i64 a0_0) := (blk_cell BK1050.out 0).trans rfl; have hcz14_1 : w12.cell? ⟨gb1050, 1, none⟩ = some (.slice A0_1 l0_1.length c0_1) := (blk_cell BK1050.out 1).trans rfl; have hfz14_0 := blk_frozen BK1050.out 0; have hfz14_1 := blk_frozen BK1050.out 1; have hcz15_0 : w12.cell? ⟨gb1051, 0, none⟩ = some (.int .i64 a1_0) := (blk_cell BK1051.out 0).trans rfl; have hcz15_1 : w12.cell? ⟨gb1051, 1, none⟩ = some (.slice A1_1 l1_1.length c1_1) := (blk_cell BK1051.out 1).trans rfl; have hfz15_0 := blk_frozen BK1051.out 0; have hfz15_1 := blk_frozen BK1051.out 1) | ((with_reducible refine gate_callee (f := 19) rfl ?_); refine goesL_ (some 14) rfl rfl Try.func19 (by kernel_rfl) rfl #[.slice A0_1 l0_1.length c0_1, .slice A1_1 l1_1.length c1_1] rfl lz ?_; (with_reducible refine (laws_eqInt64S.calls k _ _ l0_1 _ _ l1_1 false _ ?side1 ?side2 ?side3 ?side4 A4.out).mono ?_); (case side1 => exact cz HR0_1.out); (case side2 => exact HC0_1.out); (case side3 => exact cz HR1_1.out); (case side4 => exact HC1_1.out); rintro e w' ⟨rfl, ⟨nd, rfl⟩⟩; refine ⟨_, rfl, ?_⟩))
     go_ret
     exact ⟨by first | rfl | (simp [errW_none, errW_some] <;> rfl) | (simp [*, errW_none, errW_some] <;> rfl), bz⟩
 · rw [if_neg c3] at H
   have c3b0 : (a0_0 == a1_0) = false := beq_eq_false_iff_ne.mpr c3
   have c3b1 : (a0_0 != a1_0) = true := bne_iff_ne.mpr c3
   obtain rfl := Option.some.inj H
   go_enter Try.func63, Try.ntmps63
   go_wp2_with (first | ((with_reducible refine gate_dst (N := 2) rfl ?_); refine box_event ?hg (N := 2) ?hd (cs := #[.int .i64 a0_0, .slice A0_1 l0_1.length c0_1]) (t := 86) ?hr ?_; (case hd => rfl); (case hg => rfl); (case hr => first | (go_simp; done) | (go_simp; rfl)); intro gb1050 hg w16 hbox hb; have n0_ := Aside0.mk (below_step bz hb); have n1_ := Aside0.mk (hbox); have n2_ := Aside0.mk ((by rw [hg]; exact (below_size bz) : w.heap.size ≤ gb1050)); have n3_ := Aside0.mk ((by rw [hg]; exact (below_size bz) : w.heap.size ≤ gb1050)); clear HB; have HB := n0_; have BK1050 := n1_; have GW1050 := n2_; have GE1050 := n3_; clear n0_ n1_ n2_ n3_; clear hb hbox hg) | ((with_reducible refine gate_dst (N := 3) rfl ?_); refine box_event ?hg (N := 3) ?hd (cs := #[.int .i64 a1_0, .slice A1_1 l1_1.length c1_1]) (t := 86) ?hr ?_; (case hd => rfl); (case hg => rfl); (case hr => first | (go_simp; done) | (go_simp; rfl)); intro gb1051 hg w17 hbox hb; have n0_ := Aside0.mk (blk_below (g := gb1050) (o := .cells #[.int .i64 a0_0, .slice A0_1 l0_1.length c0_1] 86 (0, 0)) kz hb); have n1_ := Aside0.mk (below_step bz hb); have n2_ := Aside0.mk (hbox); have n3_ := Aside0.mk ((by rw [hg]; exact (below_size bz) : w.heap.size ≤ gb1051)); have n4_ := Aside0.mk ((by rw [hg]; exact (below_size bz) : w.heap.size ≤ gb1051)); have n5_ := Aside0.mk ((by rw [hg]; exact Nat.ne_of_lt (blk_lt (g := gb1050) (o := .cells #[.int .i64 a0_0, .slice A0_1 l0_1.length c0_1] 86 (0, 0)) kz) : gb1050 ≠ gb1051)); have n6_ := Aside0.mk ((by rw [hg]; exact Nat.ne_of_gt (blk_lt (g := gb1050) (o := .cells #[.int .i64 a0_0, .slice A0_1 l0_1.length c0_1] 86 (0, 0)) kz) : gb1051 ≠ gb1050)); clear BK1050; clear HB; have BK1050 := n0_; have HB := n1_; have BK1051 := n2_; have GW1051 := n3_; have GE1051 := n4_; have NB1050_1051 := n5_; have NB1051_1050 := n6_; clear n0_ n1_ n2_ n3_ n4_ n5_ n6_; clear hb hbox hg; have hnb18 := NB1050_1051.out; have hnc18 := NB1051_1050.out; have hcz19_0 : w17.cell? ⟨gb1050, 0, none⟩ = some (.int .i64 a0_0) := (blk_cell BK1050.out 0).trans rfl; have hcz19_1 : w17.cell? ⟨gb1050, 1, none⟩ = some (.slice A0_1 l0_1.length c0_1) := (blk_cell BK1050.out 1).trans rfl; have hfz19_0 := blk_frozen BK1050.out 0; have hfz19_1 := blk_frozen BK1050.out 1; have hcz20_0 : w17.cell? ⟨gb1051, 0, none⟩ = some (.int .i64 a1_0) := (blk_cell BK1051.out 0).trans rfl; have hcz20_1 : w17.cell? ⟨gb1051, 1, none⟩ = some (.slice A1_1 l1_1.length c1_1) := (blk_cell BK1051.out 1).trans rfl; have hfz20_0 := blk_frozen BK1051.out 0; have hfz20_1 := blk_frozen BK1051.out 1))
   go_ret
   exact ⟨by first | rfl | (simp [errW_none, errW_some] <;> rfl) | (simp [*, errW_none, errW_some] <;> rfl), bz⟩

set_option linter.unusedVariables false
set_option linter.unusedSimpArgs false

def laws_eqLoopS.l0 : Nat → List (S86) → List (S86) → Int → Option (Bool)
 | 0, _, _, _ => none
 | k + 1, x0, x1, x5 => if x5 < (x0.length : Int) then (if 0 ≤ x5 then (if x5 < (x1.length : Int) then ((laws_eqLoop.f k ((rd_T86 x0 x5).f0) ((rd_T86 x0 x5).f1) ((rd_T86 x1 x5).f0) ((rd_T86 x1 x5).f1)).bind fun t1055 => (if t1055 = true then (laws_eqLoopS.l0 k x0 x1 (wrap64 (x5 + 1))) else (some false))) else (none)) else (none)) else (some true)
def laws_eqLoopS.f (k : Nat) (l0 : List (S86)) (l1 : List (S86)) : Option (Bool) := if (l0.length : Int) = (l1.length : Int) then (laws_eqLoopS.l0 k l0 l1 0) else (some false)
def laws_eqLoopS.T6 : Bool × List (List Nat × List Nat) := (true, [([], []), ([], []), ([0, 1], [0, 1]), ([2], [2]), ([], []), ([], []), ([4, 5], [4, 5]), ([6], [6]), ([3, 7], [3, 7]), ([8], [8])])
def laws_eqLoopS.B6 : List Nat := [0, 0, 3, 7, 0, 0, 48, 112, 255, 511]
theorem laws_eqLoopS.tab6 : rtab .any (opsOf Try.f38 6) = laws_eqLoopS.T6 := by kernel_rfl
theorem laws_eqLoopS.bits6 : waitsOk laws_eqLoopS.T6.2 laws_eqLoopS.B6 = true := by kernel_rfl
set_option maxHeartbeats 8000000 in
set_option maxRecDepth 100000 in
theorem laws_eqLoopS.calls (k : Nat) (A0 : Option Addr) (c0 : Nat) (l0 : List (S86)) (A1 : Option Addr) (c1 : Nat) (l1 : List (S86)) (r : Bool) (w : World) (hr0 : Kd.C k86 w A0 l0.length l0) (hc0 : l0.length ≤ c0) (hr1 : Kd.C k86 w A1 l1.length l1) (hc1 : l1.length ≤ c1) (h : laws_eqLoopS.f k l0 l1 = some r) :
 Calls Try.prog 38 #[.slice A0 l0.length c0, .slice A1 l1.length c1] w fun e w' => e = .returned (.bool r) ∧ Below w.heap.size w w' := by
 have hu86 := Try.underlying86
 have HR0 := Aside0.mk hr0
 have HC0 := Aside0.mk hc0
 clear hr0 hc0
 have HR1 := Aside0.mk hr1
 have HC1 := Aside0.mk hc1
 clear hr1 hc1
 have HB := Aside0.mk (Below.refl w.heap.size w)
 have H : (if (l0.length : Int) = (l1.length : Int) then (laws_eqLoopS.l0 k l0 l1 0) else (some false)) = some r := h
 clear h
 by_cases c3 : (l0.length : Int) = (l1.length : Int)
 · rw [if_pos c3] at H
   have c3b0 : ((l0.length : Int) == (l1.length : Int)) = true := beq_iff_eq.mpr c3
   have c3b1 : ((l0.length : Int) != (l1.length : Int)) = false := bne_eq_false_iff_eq.mpr c3
   have c3b2 : (l0.length == l1.length) = true := by first | simpa using c3 | (simp at c3 ⊢; omega)
   clear c3
   have H' := Aside0.mk H
   clear H
   go_enter Try.func38, Try.ntmps38
   go_wp2
   go_loopg [5] k (fun kq v5 w' => ∃ (x5_1 : Int), v5 = .int .i64 x5_1 ∧ Aside0 (laws_eqLoopS.l0 kq l0 l1 x5_1 = some r) ∧ Aside0 (kq ≤ k) ∧ Aside0 (Below w.heap.size w w'))
   case atStart => exact ⟨(0), sz_, H', ⟨Nat.le_refl _⟩, ⟨ bz⟩⟩
   case round =>
    clear H'
    try clear c1
    try clear p2
    try clear c3
    try clear c3b0
    try clear c3b1
    try clear c3b2
    obtain ⟨x5_1, rfl, HA, HK1, HB⟩ := hrel
    cases gk with
    | zero => exact absurd HA.out (by simp [laws_eqLoopS.l0])
    | succ k1 =>
     have H := HA.out
     clear HA
     simp only [laws_eqLoopS.l0] at H
     by_cases c4 : x5_1 < (l0.length : Int)
     · rw [if_pos c4] at H
       have c4b0 : decide (x5_1 < (l0.length : Int)) = true := decide_eq_true c4
       clear c4
       by_cases c5 : 0 ≤ x5_1
       · rw [if_pos c5] at H
         have c5b0 : decide (0 ≤ x5_1) = true := decide_eq_true c5
         clear c5
         by_cases c6 : x5_1 < (l1.length : Int)
         · rw [if_pos c6] at H
           have c6b0 : decide (x5_1 < (l1.length : Int)) = true := decide_eq_true c6
           clear c6
           replace H := Option.bind_eq_some_iff.mp H
           obtain ⟨t1055, A70, H⟩ := H
           replace H : (if t1055 = true then (laws_eqLoopS.l0 k1 l0 l1 (wrap64 (x5_1 + 1))) else (some false)) = some r := H
           have A7 := Aside0.mk A70
           clear A70
           by_cases c8 : t1055 = true
           · subst c8
             have H1 : (laws_eqLoopS.l0 k1 l0 l1 (wrap64 (x5_1 + 1))) = some r := by rw [if_pos rfl] at H; exact H
             clear H
             have H := H1
             clear H1
             have H' := Aside0.mk H
             clear H
             try go_wp2
             have n0_ := Aside0.mk (below_drew1 HB.out)
             clear HB
             have HB := n0_
             clear n0_
             have p1053 : 0 ≤ (x5_1 : Int) := of_decide_eq_true az
             have q1053 : x5_1 < (l0.length : Int) := of_decide_eq_true az
             obtain ⟨ad1053, A1053_1, c1053_1, e1053, hx1053_0, hx1053_1, hl1053_1, hi1053_1⟩ := at_T86 HR0.out x5_1 p1053 q1053
             have hw1053_1 := hx1053_1
             have hw1053_0 := hx1053_0
             cases e1053
             replace hx1053_0 := ck HB hx1053_0
             replace hx1053_1 := ck HB hx1053_1
             have HR1053_1 := Aside0.mk hi1053_1
             have HC1053_1 := Aside0.mk hl1053_1
             clear hi1053_1 hl1053_1
             replace p1053 := eq_true p1053
             replace q1053 := eq_true q1053
             have p1054 : 0 ≤ (x5_1 : Int) := of_decide_eq_true az
             have q1054 : x5_1 < (l1.length : Int) := of_decide_eq_true az
             obtain ⟨ad1054, A1054_1, c1054_1, e1054, hx1054_0, hx1054_1, hl1054_1, hi1054_1⟩ := at_T86 HR1.out x5_1 p1054 q1054
             have hw1054_1 := hx1054_1
             have hw1054_0 := hx1054_0
             cases e1054
             replace hx1054_0 := ck HB hx1054_0
             replace hx1054_1 := ck HB hx1054_1
             have HR1054_1 := Aside0.mk hi1054_1
             have HC1054_1 := Aside0.mk hl1054_1
             clear hi1054_1 hl1054_1
             replace p1054 := eq_true p1054
             replace q1054 := eq_true q1054
             refine start_ (n := 10) (S := fun w' => w'.cell? (ad1053.add ((x5_1).toNat * 2)) = some (.int .i64 ((rd_T86 l0 x5_1).f0)) ∧ w'.cell? ⟨(ad1053.add ((x5_1).toNat * 2)).block, (ad1053.add ((x5_1).toNat * 2)).off + 1, none⟩ = some (.slice A1053_1 ((rd_T86 l0 x5_1).f1).length c1053_1) ∧ w'.cell? (ad1054.add ((x5_1).toNat * 2)) = some (.int .i64 ((rd_T86 l1 x5_1).f0)) ∧ w'.cell? ⟨(ad1054.add ((x5_1).toNat * 2)).block, (ad1054.add ((x5_1).toNat * 2)).off + 1, none⟩ = some (.slice A1054_1 ((rd_T86 l1 x5_1).f1).length c1054_1)) (ds := []) #[false, false, false, false, false, false, false, false, false, false] (by kernel_rfl) rfl rfl ⟨(ck HB hw1053_0), (ck HB hw1053_1), (ck HB hw1054_0), (ck HB hw1054_1)⟩ (fun hHeld => ?_); refine with_tabW laws_eqLoopS.tab6 laws_eqLoopS.bits6 (fun HT_ HW_ => ?_)
             generalize wr.drew = w9 at HB HR1053_1 HR1054_1 hx1053_0 hx1053_1 hx1054_0 hx1054_1 hHeld ⊢
             refine pure_ (i := 0) (N := some 17) (v := ?_) (a' := ?_) #[true, false, false, false, false, false, false, false, false, false] rfl rfl (any_of HT_.out (by kernel_rfl)) (fun _ _ _ h => h) (Or.inl ⟨by rfl, ?_⟩) ?_ ?_
             rotate_left
             · intro w'
               go_simp
               with_reducible rfl
             rotate_left
             · simp only [Act.put, sx1, sx2, sx3, i64_w, i32_w]
               rfl
             refine pure_ (i := 1) (N := some 18) (v := ?_) (a' := ?_) #[true, true, false, false, false, false, false, false, false, false] rfl rfl (any_of HT_.out (by kernel_rfl)) (fun _ _ _ h => h) (Or.inl ⟨by rfl, ?_⟩) ?_ ?_
             rotate_left
             · intro w'
               go_simp
               with_reducible rfl
             rotate_left
             · simp only [Act.put, sx1, sx2, sx3, i64_w, i32_w]
               rfl
             refine pure_ (i := 2) (N := some 19) (v := ?_) (a' := ?_) #[true, true, true, false, false, false, false, false, false, false] rfl rfl (any_of HT_.out (by kernel_rfl)) (fun _ _ _ h => h) (Or.inl ⟨by rfl, ?_⟩) ?_ ?_
             rotate_left
             · intro w'
               go_simp
               with_reducible rfl
             rotate_left
             · simp only [Act.put, sx1, sx2, sx3, i64_w, i32_w]
               rfl
             refine pure_ (i := 4) (N := some 21) (v := ?_) (a' := ?_) #[true, true, true, false, true, false, false, false, false, false] rfl rfl (any_of HT_.out (by kernel_rfl)) (fun _ _ _ h => h) (Or.inl ⟨by rfl, ?_⟩) ?_ ?_
             rotate_left
             · intro w'
               go_simp
               with_reducible rfl
             rotate_left
             · simp only [Act.put, sx1, sx2, sx3, i64_w, i32_w]
               rfl
             refine pure_ (i := 5) (N := some 22) (v := ?_) (a' := ?_) #[true, true, true, false, true, true, false, false, false, false] rfl rfl (any_of HT_.out (by kernel_rfl)) (fun _ _ _ h => h) (Or.inl ⟨by rfl, ?_⟩) ?_ ?_
             rotate_left
             · intro w'
               go_simp
               with_reducible rfl
             rotate_left
             · simp only [Act.put, sx1, sx2, sx3, i64_w, i32_w]
               rfl
             refine pure_ (i := 6) (N := some 23) (v := ?_) (a' := ?_) #[true, true, true, false, true, true, true, false, false, false] rfl rfl (any_of HT_.out (by kernel_rfl)) (fun _ _ _ h => h) (Or.inl ⟨by rfl, ?_⟩) ?_ ?_
             rotate_left
             · intro w'
               go_simp
               with_reducible rfl
             rotate_left
             · simp only [Act.put, sx1, sx2, sx3, i64_w, i32_w]
               rfl
             refine take_ (i := 3) (N := some 20) (v := ?_) (a' := ?_) #[true, true, true, true, true, true, true, false, false, false] rfl rfl (take_ofW HT_.out HW_.out (by kernel_rfl)) (fun _ _ _ h => h) (Or.inl ⟨by rfl, ?_⟩) hHeld ?_ ?_
             rotate_left
             · rintro w' ⟨s0, s1, s2, s3⟩
               go_simp
               with_reducible rfl
             rotate_left
             · simp only [Act.put, sx1, sx2, sx3, i64_w, i32_w]
               rfl
             refine take_ (i := 7) (N := some 24) (v := ?_) (a' := ?_) #[true, true, true, true, true, true, true, true, false, false] rfl rfl (take_ofW HT_.out HW_.out (by kernel_rfl)) (fun _ _ _ h => h) (Or.inl ⟨by rfl, ?_⟩) hHeld ?_ ?_
             rotate_left
             · rintro w' ⟨s0, s1, s2, s3⟩
               go_simp
               with_reducible rfl
             rotate_left
             · simp only [Act.put, sx1, sx2, sx3, i64_w, i32_w]
               rfl
             refine one_ (i := 8) (N := some 25) #[true, true, true, true, true, true, true, true, true, false] rfl rfl (one_of HT_.out (by kernel_rfl)) (by decide) (fun K hK => ?_)
             refine goes_ Try.func63 (by kernel_rfl) rfl #[.agg #[.int .i64 ((rd_T86 l0 x5_1).f0), .slice A1053_1 ((rd_T86 l0 x5_1).f1).length c1053_1], .agg #[.int .i64 ((rd_T86 l1 x5_1).f0), .slice A1054_1 ((rd_T86 l1 x5_1).f1).length c1054_1]] (by rfl) rfl rfl lz ?_
             with_reducible refine (laws_eqLoop.calls k1 ((rd_T86 l0 x5_1).f0) _ _ ((rd_T86 l0 x5_1).f1) ((rd_T86 l1 x5_1).f0) _ _ ((rd_T86 l1 x5_1).f1) true _ ?side1 ?side2 ?side3 ?side4 A7.out).mono ?_
             (case side1 => exact cz HR1053_1.out)
             (case side2 => exact HC1053_1.out)
             (case side3 => exact cz HR1054_1.out)
             (case side4 => exact HC1054_1.out)
             rintro e w10 ⟨rfl, hb⟩
             refine ⟨_, rfl, ?_⟩
             have n0_ := Aside0.mk (below_step bz hb)
             clear HB
             have HB := n0_
             clear n0_
             (try clear hb)
             (try clear hb2)
             (try clear hk)
             (try clear hi)
             refine hK.out _ _ ⟨(ck HB hw1053_0), (ck HB hw1053_1), (ck HB hw1054_0), (ck HB hw1054_1)⟩ (fun hHeld => ?_)
             clear hK K
             refine norm_ (a' := ?_) ?_ ?_
             rotate_left
             · show Act.put _ (some 25) _ = _
               simp only [Act.put, sx1, sx2, sx3, i64_w, i32_w]
               rfl
             refine pure_ (i := 9) (N := some 26) (v := ?_) (a' := ?_) #[true, true, true, true, true, true, true, true, true, true] rfl rfl (any_of HT_.out (by kernel_rfl)) (fun _ _ _ h => h) (Or.inl ⟨by rfl, ?_⟩) ?_ ?_
             rotate_left
             · intro w'
               go_simp
               with_reducible rfl
             rotate_left
             · simp only [Act.put, sx1, sx2, sx3, i64_w, i32_w]
               rfl
             refine done_ (done_of HT_.out (by kernel_rfl)) ?_
             try go_wp2
             go_roundg k1
             case measure => have := HK1.out; omega
             case rel => exact ⟨(wrap64 (x5_1 + 1)), sz_, H', ⟨by have := HK1.out; omega⟩, ⟨ bz⟩⟩
           · replace c8 := Bool.eq_false_iff.mpr c8
             subst c8
             have H1 : (some false) = some r := by rw [if_neg (show ¬ (false = true) by decide)] at H; exact H
             clear H
             have H := H1
             clear H1
             obtain rfl := Option.some.inj H
             try go_wp2
             have n0_ := Aside0.mk (below_drew1 HB.out)
             clear HB
             have HB := n0_
             clear n0_
             have p1053 : 0 ≤ (x5_1 : Int) := of_decide_eq_true az
             have q1053 : x5_1 < (l0.length : Int) := of_decide_eq_true az
             obtain ⟨ad1053, A1053_1, c1053_1, e1053, hx1053_0, hx1053_1, hl1053_1, hi1053_1⟩ := at_T86 HR0.out x5_1 p1053 q1053
             have hw1053_1 := hx1053_1
             have hw1053_0 := hx1053_0
             cases e1053
             replace hx1053_0 := ck HB hx1053_0
             replace hx1053_1 := ck HB hx1053_1
             have HR1053_1 := Aside0.mk hi1053_1
             have HC1053_1 := Aside0.mk hl1053_1
             clear hi1053_1 hl1053_1
             replace p1053 := eq_true p1053
             replace q1053 := eq_true q1053
             have p1054 : 0 ≤ (x5_1 : Int) := of_decide_eq_true az
             have q1054 : x5_1 < (l1.length : Int) := of_decide_eq_true az
             obtain ⟨ad1054, A1054_1, c1054_1, e1054, hx1054_0, hx1054_1, hl1054_1, hi1054_1⟩ := at_T86 HR1.out x5_1 p1054 q1054
             have hw1054_1 := hx1054_1
             have hw1054_0 := hx1054_0
             cases e1054
             replace hx1054_0 := ck HB hx1054_0
             replace hx1054_1 := ck HB hx1054_1
             have HR1054_1 := Aside0.mk hi1054_1
             have HC1054_1 := Aside0.mk hl1054_1
             clear hi1054_1 hl1054_1
             replace p1054 := eq_true p1054
             replace q1054 := eq_true q1054
             refine start_ (n := 10) (S := fun w' => w'.cell? (ad1053.add ((x5_1).toNat * 2)) = some (.int .i64 ((rd_T86 l0 x5_1).f0)) ∧ w'.cell? ⟨(ad1053.add ((x5_1).toNat * 2)).block, (ad1053.add ((x5_1).toNat * 2)).off + 1, none⟩ = some (.slice A1053_1 ((rd_T86 l0 x5_1).f1).length c1053_1) ∧ w'.cell? (ad1054.add ((x5_1).toNat * 2)) = some (.int .i64 ((rd_T86 l1 x5_1).f0)) ∧ w'.cell? ⟨(ad1054.add ((x5_1).toNat * 2)).block, (ad1054.add ((x5_1).toNat * 2)).off + 1, none⟩ = some (.slice A1054_1 ((rd_T86 l1 x5_1).f1).length c1054_1)) (ds := []) #[false, false, false, false, false, false, false, false, false, false] (by kernel_rfl) rfl rfl ⟨(ck HB hw1053_0), (ck HB hw1053_1), (ck HB hw1054_0), (ck HB hw1054_1)⟩ (fun hHeld => ?_); refine with_tabW laws_eqLoopS.tab6 laws_eqLoopS.bits6 (fun HT_ HW_ => ?_)
             generalize wr.drew = w11 at HB HR1053_1 HR1054_1 hx1053_0 hx1053_1 hx1054_0 hx1054_1 hHeld ⊢
             refine pure_ (i := 0) (N := some 17) (v := ?_) (a' := ?_) #[true, false, false, false, false, false, false, false, false, false] rfl rfl (any_of HT_.out (by kernel_rfl)) (fun _ _ _ h => h) (Or.inl ⟨by rfl, ?_⟩) ?_ ?_
             rotate_left
             · intro w'
               go_simp
               with_reducible rfl
             rotate_left
             · simp only [Act.put, sx1, sx2, sx3, i64_w, i32_w]
               rfl
             refine pure_ (i := 1) (N := some 18) (v := ?_) (a' := ?_) #[true, true, false, false, false, false, false, false, false, false] rfl rfl (any_of HT_.out (by kernel_rfl)) (fun _ _ _ h => h) (Or.inl ⟨by rfl, ?_⟩) ?_ ?_
             rotate_left
             · intro w'
               go_simp
               with_reducible rfl
             rotate_left
             · simp only [Act.put, sx1, sx2, sx3, i64_w, i32_w]
               rfl
             refine pure_ (i := 2) (N := some 19) (v := ?_) (a' := ?_) #[true, true, true, false, false, false, false, false, false, false] rfl rfl (any_of HT_.out (by kernel_rfl)) (fun _ _ _ h => h) (Or.inl ⟨by rfl, ?_⟩) ?_ ?_
             rotate_left
             · intro w'
               go_simp
               with_reducible rfl
             rotate_left
             · simp only [Act.put, sx1, sx2, sx3, i64_w, i32_w]
               rfl
             refine pure_ (i := 4) (N := some 21) (v := ?_) (a' := ?_) #[true, true, true, false, true, false, false, false, false, false] rfl rfl (any_of HT_.out (by kernel_rfl)) (fun _ _ _ h => h) (Or.inl ⟨by rfl, ?_⟩) ?_ ?_
             rotate_left
             · intro w'
               go_simp
               with_reducible rfl
             rotate_left
             · simp only [Act.put, sx1, sx2, sx3, i64_w, i32_w]
               rfl
             refine pure_ (i := 5) (N := some 22) (v := ?_) (a' := ?_) #[true, true, true, false, true, true, false, false, false, false] rfl rfl (any_of HT_.out (by kernel_rfl)) (fun _ _ _ h => h) (Or.inl ⟨by rfl, ?_⟩) ?_ ?_
             rotate_left
             · intro w'
               go_simp
               with_reducible rfl
             rotate_left
             · simp only [Act.put, sx1, sx2, sx3, i64_w, i32_w]
               rfl
             refine pure_ (i := 6) (N := some 23) (v := ?_) (a' := ?_) #[true, true, true, false, true, true, true, false, false, false] rfl rfl (any_of HT_.out (by kernel_rfl)) (fun _ _ _ h => h) (Or.inl ⟨by rfl, ?_⟩) ?_ ?_
             rotate_left
             · intro w'
               go_simp
               with_reducible rfl
             rotate_left
             · simp only [Act.put, sx1, sx2, sx3, i64_w, i32_w]
               rfl
             refine take_ (i := 3) (N := some 20) (v := ?_) (a' := ?_) #[true, true, true, true, true, true, true, false, false, false] rfl rfl (take_ofW HT_.out HW_.out (by kernel_rfl)) (fun _ _ _ h => h) (Or.inl ⟨by rfl, ?_⟩) hHeld ?_ ?_
             rotate_left
             · rintro w' ⟨s0, s1, s2, s3⟩
               go_simp
               with_reducible rfl
             rotate_left
             · simp only [Act.put, sx1, sx2, sx3, i64_w, i32_w]
               rfl
             refine take_ (i := 7) (N := some 24) (v := ?_) (a' := ?_) #[true, true, true, true, true, true, true, true, false, false] rfl rfl (take_ofW HT_.out HW_.out (by kernel_rfl)) (fun _ _ _ h => h) (Or.inl ⟨by rfl, ?_⟩) hHeld ?_ ?_
             rotate_left
             · rintro w' ⟨s0, s1, s2, s3⟩
               go_simp
               with_reducible rfl
             rotate_left
             · simp only [Act.put, sx1, sx2, sx3, i64_w, i32_w]
               rfl
             refine one_ (i := 8) (N := some 25) #[true, true, true, true, true, true, true, true, true, false] rfl rfl (one_of HT_.out (by kernel_rfl)) (by decide) (fun K hK => ?_)
             refine goes_ Try.func63 (by kernel_rfl) rfl #[.agg #[.int .i64 ((rd_T86 l0 x5_1).f0), .slice A1053_1 ((rd_T86 l0 x5_1).f1).length c1053_1], .agg #[.int .i64 ((rd_T86 l1 x5_1).f0), .slice A1054_1 ((rd_T86 l1 x5_1).f1).length c1054_1]] (by rfl) rfl rfl lz ?_
             with_reducible refine (laws_eqLoop.calls k1 ((rd_T86 l0 x5_1).f0) _ _ ((rd_T86 l0 x5_1).f1) ((rd_T86 l1 x5_1).f0) _ _ ((rd_T86 l1 x5_1).f1) false _ ?side1 ?side2 ?side3 ?side4 A7.out).mono ?_
             (case side1 => exact cz HR1053_1.out)
             (case side2 => exact HC1053_1.out)
             (case side3 => exact cz HR1054_1.out)
             (case side4 => exact HC1054_1.out)
             rintro e w12 ⟨rfl, hb⟩
             refine ⟨_, rfl, ?_⟩
             have n0_ := Aside0.mk (below_step bz hb)
             clear HB
             have HB := n0_
             clear n0_
             (try clear hb)
             (try clear hb2)
             (try clear hk)
             (try clear hi)
             refine hK.out _ _ ⟨(ck HB hw1053_0), (ck HB hw1053_1), (ck HB hw1054_0), (ck HB hw1054_1)⟩ (fun hHeld => ?_)
             clear hK K
             refine norm_ (a' := ?_) ?_ ?_
             rotate_left
             · show Act.put _ (some 25) _ = _
               simp only [Act.put, sx1, sx2, sx3, i64_w, i32_w]
               rfl
             refine pure_ (i := 9) (N := some 26) (v := ?_) (a' := ?_) #[true, true, true, true, true, true, true, true, true, true] rfl rfl (any_of HT_.out (by kernel_rfl)) (fun _ _ _ h => h) (Or.inl ⟨by rfl, ?_⟩) ?_ ?_
             rotate_left
             · intro w'
               go_simp
               with_reducible rfl
             rotate_left
             · simp only [Act.put, sx1, sx2, sx3, i64_w, i32_w]
               rfl
             refine done_ (done_of HT_.out (by kernel_rfl)) ?_
             try go_wp2
             go_ret
             exact ⟨by first | rfl | (simp [errW_none, errW_some] <;> rfl) | (simp [*, errW_none, errW_some] <;> rfl), bz⟩
         · rw [if_neg c6] at H
           exact absurd H (by simp)
       · rw [if_neg c5] at H
         exact absurd H (by simp)
     · rw [if_neg c4] at H
       have c4b0 : decide (x5_1 < (l0.length : Int)) = false := decide_eq_false c4
       clear c4
       obtain rfl := Option.some.inj H
       go_wp2
       go_ret
       exact ⟨by first | rfl | (simp [errW_none, errW_some] <;> rfl) | (simp [*, errW_none, errW_some] <;> rfl), bz⟩
 · rw [if_neg c3] at H
   have c3b0 : ((l0.length : Int) == (l1.length : Int)) = false := beq_eq_false_iff_ne.mpr c3
   have c3b1 : ((l0.length : Int) != (l1.length : Int)) = true := bne_iff_ne.mpr c3
   have c3b2 : (l0.length == l1.length) = false := by first | simpa using c3 | (simp at c3 ⊢; omega)
   obtain rfl := Option.some.inj H
   go_enter Try.func38, Try.ntmps38
   go_wp2
   go_ret
   exact ⟨by first | rfl | (simp [errW_none, errW_some] <;> rfl) | (simp [*, errW_none, errW_some] <;> rfl), bz⟩

end Go.Proofs.Ytoedcnhgobbnfaa.All

