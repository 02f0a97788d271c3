/- Part 3 of the proof of FnExactNeeded: functions of the translation with what they return, and plain laws of these. Written by programs of this session over the kit's print, and by hand. -/
import Derived.Test.YthegbhfoleiegaaProg
import Derived.Test.YthegbhfoleiegaaCFnExactNeededWApart
import Derived.Test.YthegbhfoleiegaaCFnExactNeededWArr
import Derived.Test.YthegbhfoleiegaaCFnExactNeededWEqStruct
import Derived.Test.YthegbhfoleiegaaCFnExactNeededWFoot
import Derived.Test.YthegbhfoleiegaaCFnExactNeededWGuard
import Derived.Test.YthegbhfoleiegaaCFnExactNeededWKept
import Derived.Test.YthegbhfoleiegaaCFnExactNeededWLast
import Derived.Test.YthegbhfoleiegaaCFnExactNeededWMore
import Derived.Test.YthegbhfoleiegaaCFnExactNeededWN
import Derived.Test.YthegbhfoleiegaaCFnExactNeededWNEv
import Derived.Test.YthegbhfoleiegaaCFnExactNeededWQPut
import Derived.Test.YthegbhfoleiegaaCFnExactNeededWRepsOne
import Derived.Test.YthegbhfoleiegaaCFnExactNeededWShare
import Derived.Test.YthegbhfoleiegaaCFnExactNeededWTab
import Derived.Test.YthegbhfoleiegaaCFnExactNeededWWords
import Derived.Test.YthegbhfoleiegaaCFnExactNeededWZeros
import Derived.Below
import Derived.Deep.Draws
import Derived.Deep.AppendLies
import Derived.Maps.AppendAt
import Derived.OwnWalk
import Derived.Laws.BytesArg
import Derived.Laws.MakeOwn
import Derived.Laws.OwnMore
import Derived.Deep.OwnRows
import Derived.Tactics
import Derived.Lib.ConvBytes
import Derived.Laws.Slices
import Derived.WalkKit
import Derived.KernelRfl
import Derived.RowKit3
import Derived.Deep.LoopGhost
import Derived.Deep.QuietTactic
import Derived.BigQuiet
import Derived.WideLaws
import Derived.Deep.DeepCutAuto
import Derived.Deep.CutBlock
import Derived.Deep.RegionHeld3
import Derived.Laws.Rows
import Derived.Lib.AppendStr
import Derived.ArgAppend
import Derived.Laws.IdiomCopy
import Derived.OrdersHeld
import Derived.Laws.BitsLemmas
import Derived.RowKit
import Derived.Laws.ResultCell
import Derived.Maps.OwnSet
import Derived.Maps.OwnOps
import Derived.DeepKeys4
import Derived.Deep.Slices
import Derived.ChangeArms
import Derived.ProofKit
import Derived.OpenShut
import Derived.ShutString
import Derived.ChangeOld
import Derived.SizedLaws
import Derived.Test.YthegbhfoleiegaaCFnExactNeeded1
import Derived.Test.YthegbhfoleiegaaCFnExactNeeded2
namespace Go.Proofs.Ythegbhfoleiegaa.All
open Go.RowKit Go.Proofs.YthegbhfoleiegaaW.PrintWords Go.Proofs.YthegbhfoleiegaaW.PrintLast Go.Proofs.YthegbhfoleiegaaW.PrintMore
attribute [local go_sem] max2_int min2_int max_two min_two max_three min_three max_four min_four   -- for this text's walks alone
set_option linter.unusedVariables false
set_option linter.unusedSimpArgs false

/-! ### laws_toInt64S: function 62 -/
def laws_toInt64S.l0 : Nat → List Int → List Int → Int → Option (List Int)
 | 0, _, _, _ => none
 | k + 1, x0, x3, x4 => if x4 < (x0.length : Int) then (if 0 ≤ x4 then (if x4 < (x3.length : Int) then (laws_toInt64S.l0 k x0 (x3.set (x4 : Int).toNat (rd x0 x4)) (wrap64 (x4 + 1))) else (none)) else (none)) else (some x3)
def laws_toInt64S.f (k : Nat) (l0 : List Int) : Option (List Int) := if 0 ≤ (l0.length : Int) then (if ((l0.length : Int) : Int).toNat ≤ 35184372088832 then (laws_toInt64S.l0 k l0 (List.replicate ((l0.length : Int) : Int).toNat 0) 0) else (none)) else (none)
set_option maxHeartbeats 8000000 in
set_option maxRecDepth 100000 in
theorem laws_toInt64S.calls (k : Nat) (A0 : Option Addr) (c0 : Nat) (l0 : List Int) (r : List Int) (w : World) (hr0 : Kd.C (Kd.int .i64) w A0 l0.length l0) (hc0 : l0.length ≤ c0) (h : laws_toInt64S.f k l0 = some r) :
 Calls Try.prog 62 #[.slice A0 l0.length c0] w fun e w' => ∃ v0_ : Value, e = .returned (v0_) ∧ Kd.R (Kd.int .i64) 2 w' w.heap.size (fun _ => True) v0_ r ∧ Below w.heap.size w w' := by
 have HR0 := Aside0.mk hr0
 have HC0 := Aside0.mk hc0
 clear hr0 hc0
 have HB := Aside0.mk (Below.refl w.heap.size w)
 have H : (if 0 ≤ (l0.length : Int) then (if ((l0.length : Int) : Int).toNat ≤ 35184372088832 then (laws_toInt64S.l0 k l0 (List.replicate ((l0.length : Int) : Int).toNat 0) 0) else (none)) else (none)) = some r := h
 clear h
 by_cases c2 : 0 ≤ (l0.length : Int)
 · rw [if_pos c2] at H
   have c2b0 := eq_true c2
   have c2b1 : decide (0 ≤ (l0.length : Int)) = true := decide_eq_true c2
   clear c2
   by_cases c3 : ((l0.length : Int) : Int).toNat ≤ 35184372088832
   · rw [if_pos c3] at H
     have c3b0 := eq_true c3
     have c3b1 : decide (((l0.length : Int) : Int).toNat ≤ 35184372088832) = true := decide_eq_true c3
     clear c3
     obtain ⟨y192, hy192⟩ : ∃ y_ : List Int, y_ = (List.replicate ((l0.length : Int) : Int).toNat 0) := ⟨_, rfl⟩
     replace H : (laws_toInt64S.l0 k l0 y192 0) = some r := by first | (rw [hy192]; with_reducible exact H) | (have H2_ := (Option.bind_some _ _).symm.trans H; rw [hy192]; with_reducible exact H2_) | (have H2_ := (Option.bind_some _ _).symm.trans H; with_reducible exact H2_) | with_reducible exact H | (rw [hy192]; exact H) | exact H
     have Ny192 := Aside0.mk hy192
     clear hy192
     have H' := Aside0.mk H
     clear H
     go_enter Try.func62, Try.ntmps62
     go_wp2_with (first | ((with_reducible refine gate_dst (N := 7) rfl ?_); refine Kd.R_make (Kd.int .i64) _ 2 rfl (N := 7) rfl 22 _ _ rfl (l0.length : Int) rfl rfl Try.underlying22 (.int .i64 0) 8 info2 rfl (by decide) (by omega) 0 (ok := fun _ => True) (okp := fun _ => True) rfl (fun _ hk => hk) trivial (of_decide_eq_true (by first | (with_reducible assumption) | assumption)) (Nat.le_trans (Nat.mul_le_mul_right _ (of_decide_eq_true (by first | (with_reducible assumption) | assumption) : (l0.length : Int).toNat ≤ 35184372088832)) (by omega)) (Below.refl _ _) (Nat.le_refl _) ?_; intro v193 w4 ho5 hb hg_ hnew_; clear hg_ hnew_; (first | rw [← Ny192.out] at ho5 | (simp only [Int.reduceToNat] at ho5; rw [← Ny192.out] at ho5)); have n0_ := Aside0.mk (Kd.R_lower ho5 (below_size (by repeat (first | (with_reducible first | exact HB.out | apply below_alloc | apply pw_below_drewN | apply below_drew1) | exact HB.out)))); have n1_ := Aside0.mk (below_step (by repeat (first | (with_reducible first | exact HB.out | apply below_alloc | apply pw_below_drewN | apply below_drew1) | exact HB.out)) hb); clear HB; have HO194 := n0_; have HB := n1_; clear n0_ n1_; clear hb ho5))
     go_loopg [4] k (fun kq v4 w' => ∃ (x3_1 : List Int) (x4_1 : Int), v4 = .int .i64 x4_1 ∧ Aside0 (laws_toInt64S.l0 kq l0 x3_1 x4_1 = some r) ∧ Aside0 (kq ≤ k) ∧ Aside0 (Kd.R (Kd.int .i64) 2 w' w.heap.size (fun _ => True) v193 x3_1) ∧ Aside0 (Below w.heap.size w w'))
     case atStart => exact ⟨(y192), (0), (by first | rfl | (simp; done) | (simp [*]; done)), H', ⟨Nat.le_refl _⟩, ⟨by (with_reducible repeat (first | apply Kd.R_alloc | apply Kd.R_drewN | apply Kd.R_drew)); exact HO194.out⟩, ⟨by repeat (first | (with_reducible first | exact HB.out | apply below_alloc | apply pw_below_drewN | apply below_drew1) | exact HB.out)⟩⟩
     case round =>
      clear H'
      try clear c2
      try clear c2b0
      try clear c2b1
      try clear p2
      try clear c3
      try clear c3b0
      try clear c3b1
      obtain ⟨x3_1, x4_1, rfl, HA, HK1, HO_3, HB⟩ := hrel
      cases gk with
      | zero => exact absurd HA.out (by simp [laws_toInt64S.l0])
      | succ k1 =>
       have H := HA.out
       clear HA
       simp only [laws_toInt64S.l0] at H
       by_cases c6 : x4_1 < (l0.length : Int)
       · rw [if_pos c6] at H
         have c6b0 : decide (x4_1 < (l0.length : Int)) = true := decide_eq_true c6
         clear c6
         by_cases c7 : 0 ≤ x4_1
         · rw [if_pos c7] at H
           have c7b0 : decide (0 ≤ x4_1) = true := decide_eq_true c7
           clear c7
           by_cases c8 : x4_1 < (x3_1.length : Int)
           · rw [if_pos c8] at H
             have c8b0 : decide (x4_1 < (x3_1.length : Int)) = true := decide_eq_true c8
             clear c8
             obtain ⟨y196, hy196⟩ : ∃ y_ : List Int, y_ = (x3_1.set (x4_1 : Int).toNat (rd l0 x4_1)) := ⟨_, rfl⟩
             replace H : (laws_toInt64S.l0 k1 l0 y196 (wrap64 (x4_1 + 1))) = some r := by first | (rw [hy196]; with_reducible exact H) | (have H2_ := (Option.bind_some _ _).symm.trans H; rw [hy196]; with_reducible exact H2_) | (have H2_ := (Option.bind_some _ _).symm.trans H; with_reducible exact H2_) | with_reducible exact H | (rw [hy196]; exact H) | exact H
             have Ny196 := Aside0.mk hy196
             clear hy196
             have H' := Aside0.mk H
             clear H
             have p195 : 0 ≤ (x4_1 : Int) := of_decide_eq_true (by first | (with_reducible assumption) | assumption)
             have q195 : x4_1 < (l0.length : Int) := of_decide_eq_true (by first | (with_reducible assumption) | assumption)
             obtain ⟨ad195, e195, hx195_0⟩ := Kd.at_int HR0.out x4_1 p195 q195
             cases e195
             replace hx195_0 := (HB.out.cell (World.block_lt_of_cell? w _ hx195_0)).trans hx195_0
             replace p195 := eq_true p195
             replace q195 := eq_true q195
             have p9 : 0 ≤ (x4_1 : Int) := of_decide_eq_true (by first | (with_reducible assumption) | assumption)
             have q9 : (x4_1 : Int) < ((x3_1.length : Int) : Int) := of_decide_eq_true (by first | (with_reducible assumption) | assumption)
             obtain ⟨go9, co9, eo9, gb9, gl9, cl9, HG9⟩ := Kd.R_form HO_3.out (by omega)
             (first | cases eo9 | (injection eo9 with ea_ en_ ec_; (first | subst ea_ | (injection ea_ with ea_; subst ea_)); subst ec_; clear en_))
             have GB9 := Aside0.mk gb9
             have GG9 := Aside0.mk HG9
             clear gb9 gl9 HG9
             obtain ⟨hx9_0, hf9_0⟩ := Kd.R_celln 0 HO_3.out (x4_1 : Int) p9 q9
             replace p9 := eq_true p9
             replace q9 := eq_true q9
             have HP10 := Kd.R_putg HO_3.out (x4_1 : Int) (rd l0 x4_1)
             go_wp2_with (first | ((with_reducible refine gate_store (t := 2) (p := 20) rfl ?_); refine store_event (t := 2) (p := 20) (v := ?vo_w11) (w1 := (wr.setCell ⟨go9, (x4_1 : Int).toNat, none⟩ (.int .i64 (rd l0 x4_1)))) ?hg ?ho ?hn ?hr ?_; (case ho => rfl); (case hg => rfl); (case hn => rfl); (case hr => first | (go_simp; done) | (go_simp; rfl)); intro w11 hw; have hg : wr.grownBy w11 (some go9) := (by rw [hw]; exact HP10.2); have hp_ : Kd.R (Kd.int .i64) 2 w11 w.heap.size (fun _ => True) (.slice (some ⟨go9, 0, none⟩) x3_1.length co9) y196 := (by rw [hw, Ny196.out]; exact HP10.1); clear HP10; have n0_ := Aside0.mk (hp_); have n1_ := Aside0.mk ((by rw [hw]; exact below_set (HB.out) GB9.out : Below w.heap.size w w11)); clear HO_3; clear HB; have HO_3 := n0_; have HB := n1_; clear n0_ n1_; clear hg hw hp_))
             go_roundg k1
             case measure => have := HK1.out; omega
             case rel => exact ⟨(y196), (wrap64 (x4_1 + 1)), (by first | rfl | (simp; done) | (simp [*]; done)), H', ⟨by have := HK1.out; omega⟩, ⟨by (with_reducible repeat (first | apply Kd.R_alloc | apply Kd.R_drewN | apply Kd.R_drew)); exact HO_3.out⟩, ⟨by repeat (first | (with_reducible first | exact HB.out | apply below_alloc | apply pw_below_drewN | apply below_drew1) | exact HB.out)⟩⟩
           · rw [if_neg c8] at H
             exact absurd H (by simp)
         · rw [if_neg c7] at H
           exact absurd H (by simp)
       · rw [if_neg c6] at H
         have c6b0 : decide (x4_1 < (l0.length : Int)) = false := decide_eq_false c6
         clear c6
         obtain rfl := Option.some.inj H
         go_wp2
         go_ret
         exact ⟨_, by first | rfl | (simp [errW_none, errW_some] <;> rfl) | (simp [*, errW_none, errW_some] <;> rfl), by (with_reducible repeat (first | apply Kd.R_alloc | apply Kd.R_drewN | apply Kd.R_drew)); exact HO_3.out, by repeat (first | (with_reducible first | exact HB.out | apply below_alloc | apply pw_below_drewN | apply below_drew1) | exact HB.out)⟩
   · rw [if_neg c3] at H
     exact absurd H (by simp)
 · rw [if_neg c2] at H
   exact absurd H (by simp)

end Go.Proofs.Ythegbhfoleiegaa.All


namespace Go.Proofs.Ythegbhfoleiegaa.All
open Go.RowKit Go.Proofs.YthegbhfoleiegaaW.PrintWords Go.Proofs.YthegbhfoleiegaaW.PrintLast Go.Proofs.YthegbhfoleiegaaW.PrintMore
attribute [local go_sem] max2_int min2_int max_two min_two max_three min_three max_four min_four   -- for this text's walks alone
set_option linter.unusedVariables false
set_option linter.unusedSimpArgs false

/-! ### laws_toByteS: function 50 -/
def laws_toByteS.l0 : Nat → List Int → List Int → Int → Option (List Int)
 | 0, _, _, _ => none
 | k + 1, x0, x3, x4 => if x4 < (x0.length : Int) then (if 0 ≤ x4 then (if x4 < (x3.length : Int) then (laws_toByteS.l0 k x0 (x3.set (x4 : Int).toNat (rd x0 x4)) (wrap64 (x4 + 1))) else (none)) else (none)) else (some x3)
def laws_toByteS.f (k : Nat) (l0 : List Int) : Option (List Int) := if 0 ≤ (l0.length : Int) then (if ((l0.length : Int) : Int).toNat ≤ 281474976710656 then (laws_toByteS.l0 k l0 (List.replicate ((l0.length : Int) : Int).toNat 0) 0) else (none)) else (none)
set_option maxHeartbeats 8000000 in
set_option maxRecDepth 100000 in
theorem laws_toByteS.calls (k : Nat) (A0 : Option Addr) (c0 : Nat) (l0 : List Int) (r : List Int) (w : World) (hr0 : Kd.C (Kd.int .u8) w A0 l0.length l0) (hc0 : l0.length ≤ c0) (h : laws_toByteS.f k l0 = some r) :
 Calls Try.prog 50 #[.slice A0 l0.length c0] w fun e w' => ∃ v0_ : Value, e = .returned (v0_) ∧ Kd.R (Kd.int .u8) 5 w' w.heap.size (fun _ => True) v0_ r ∧ Below w.heap.size w w' := by
 have HR0 := Aside0.mk hr0
 have HC0 := Aside0.mk hc0
 clear hr0 hc0
 have HB := Aside0.mk (Below.refl w.heap.size w)
 have H : (if 0 ≤ (l0.length : Int) then (if ((l0.length : Int) : Int).toNat ≤ 281474976710656 then (laws_toByteS.l0 k l0 (List.replicate ((l0.length : Int) : Int).toNat 0) 0) else (none)) else (none)) = some r := h
 clear h
 by_cases c2 : 0 ≤ (l0.length : Int)
 · rw [if_pos c2] at H
   have c2b0 := eq_true c2
   have c2b1 : decide (0 ≤ (l0.length : Int)) = true := decide_eq_true c2
   clear c2
   by_cases c3 : ((l0.length : Int) : Int).toNat ≤ 281474976710656
   · rw [if_pos c3] at H
     have c3b0 := eq_true c3
     have c3b1 : decide (((l0.length : Int) : Int).toNat ≤ 281474976710656) = true := decide_eq_true c3
     clear c3
     obtain ⟨y589, hy589⟩ : ∃ y_ : List Int, y_ = (List.replicate ((l0.length : Int) : Int).toNat 0) := ⟨_, rfl⟩
     replace H : (laws_toByteS.l0 k l0 y589 0) = some r := by first | (rw [hy589]; with_reducible exact H) | (have H2_ := (Option.bind_some _ _).symm.trans H; rw [hy589]; with_reducible exact H2_) | (have H2_ := (Option.bind_some _ _).symm.trans H; with_reducible exact H2_) | with_reducible exact H | (rw [hy589]; exact H) | exact H
     have Ny589 := Aside0.mk hy589
     clear hy589
     have H' := Aside0.mk H
     clear H
     go_enter Try.func50, Try.ntmps50
     go_wp2_with (first | ((with_reducible refine gate_dst (N := 7) rfl ?_); refine Kd.R_make (Kd.int .u8) _ 5 rfl (N := 7) rfl 72 _ _ rfl (l0.length : Int) rfl rfl Try.underlying72 (.int .u8 0) 1 info5 rfl (by decide) (by omega) 0 (ok := fun _ => True) (okp := fun _ => True) rfl (fun _ hk => hk) trivial (of_decide_eq_true (by first | (with_reducible assumption) | assumption)) (Nat.le_trans (Nat.mul_le_mul_right _ (of_decide_eq_true (by first | (with_reducible assumption) | assumption) : (l0.length : Int).toNat ≤ 281474976710656)) (by omega)) (Below.refl _ _) (Nat.le_refl _) ?_; intro v590 w4 ho5 hb hg_ hnew_; clear hg_ hnew_; (first | rw [← Ny589.out] at ho5 | (simp only [Int.reduceToNat] at ho5; rw [← Ny589.out] at ho5)); have n0_ := Aside0.mk (Kd.R_lower ho5 (below_size (by repeat (first | (with_reducible first | exact HB.out | apply below_alloc | apply pw_below_drewN | apply below_drew1) | exact HB.out)))); have n1_ := Aside0.mk (below_step (by repeat (first | (with_reducible first | exact HB.out | apply below_alloc | apply pw_below_drewN | apply below_drew1) | exact HB.out)) hb); clear HB; have HO591 := n0_; have HB := n1_; clear n0_ n1_; clear hb ho5))
     go_loopg [4] k (fun kq v4 w' => ∃ (x3_1 : List Int) (x4_1 : Int), v4 = .int .i64 x4_1 ∧ Aside0 (laws_toByteS.l0 kq l0 x3_1 x4_1 = some r) ∧ Aside0 (kq ≤ k) ∧ Aside0 (Kd.R (Kd.int .u8) 5 w' w.heap.size (fun _ => True) v590 x3_1) ∧ Aside0 (Below w.heap.size w w'))
     case atStart => exact ⟨(y589), (0), (by first | rfl | (simp; done) | (simp [*]; done)), H', ⟨Nat.le_refl _⟩, ⟨by (with_reducible repeat (first | apply Kd.R_alloc | apply Kd.R_drewN | apply Kd.R_drew)); exact HO591.out⟩, ⟨by repeat (first | (with_reducible first | exact HB.out | apply below_alloc | apply pw_below_drewN | apply below_drew1) | exact HB.out)⟩⟩
     case round =>
      clear H'
      try clear c2
      try clear c2b0
      try clear c2b1
      try clear p2
      try clear c3
      try clear c3b0
      try clear c3b1
      try clear c5
      obtain ⟨x3_1, x4_1, rfl, HA, HK1, HO_3, HB⟩ := hrel
      cases gk with
      | zero => exact absurd HA.out (by simp [laws_toByteS.l0])
      | succ k1 =>
       have H := HA.out
       clear HA
       simp only [laws_toByteS.l0] at H
       by_cases c6 : x4_1 < (l0.length : Int)
       · rw [if_pos c6] at H
         have c6b0 : decide (x4_1 < (l0.length : Int)) = true := decide_eq_true c6
         clear c6
         by_cases c7 : 0 ≤ x4_1
         · rw [if_pos c7] at H
           have c7b0 : decide (0 ≤ x4_1) = true := decide_eq_true c7
           clear c7
           by_cases c8 : x4_1 < (x3_1.length : Int)
           · rw [if_pos c8] at H
             have c8b0 : decide (x4_1 < (x3_1.length : Int)) = true := decide_eq_true c8
             clear c8
             obtain ⟨y593, hy593⟩ : ∃ y_ : List Int, y_ = (x3_1.set (x4_1 : Int).toNat (rd l0 x4_1)) := ⟨_, rfl⟩
             replace H : (laws_toByteS.l0 k1 l0 y593 (wrap64 (x4_1 + 1))) = some r := by first | (rw [hy593]; with_reducible exact H) | (have H2_ := (Option.bind_some _ _).symm.trans H; rw [hy593]; with_reducible exact H2_) | (have H2_ := (Option.bind_some _ _).symm.trans H; with_reducible exact H2_) | with_reducible exact H | (rw [hy593]; exact H) | exact H
             have Ny593 := Aside0.mk hy593
             clear hy593
             have H' := Aside0.mk H
             clear H
             have p592 : 0 ≤ (x4_1 : Int) := of_decide_eq_true (by first | (with_reducible assumption) | assumption)
             have q592 : x4_1 < (l0.length : Int) := of_decide_eq_true (by first | (with_reducible assumption) | assumption)
             obtain ⟨ad592, e592, hx592_0⟩ := Kd.at_int HR0.out x4_1 p592 q592
             cases e592
             replace hx592_0 := (HB.out.cell (World.block_lt_of_cell? w _ hx592_0)).trans hx592_0
             replace p592 := eq_true p592
             replace q592 := eq_true q592
             have p9 : 0 ≤ (x4_1 : Int) := of_decide_eq_true (by first | (with_reducible assumption) | assumption)
             have q9 : (x4_1 : Int) < ((x3_1.length : Int) : Int) := of_decide_eq_true (by first | (with_reducible assumption) | assumption)
             obtain ⟨go9, co9, eo9, gb9, gl9, cl9, HG9⟩ := Kd.R_form HO_3.out (by omega)
             (first | cases eo9 | (injection eo9 with ea_ en_ ec_; (first | subst ea_ | (injection ea_ with ea_; subst ea_)); subst ec_; clear en_))
             have GB9 := Aside0.mk gb9
             have GG9 := Aside0.mk HG9
             clear gb9 gl9 HG9
             obtain ⟨hx9_0, hf9_0⟩ := Kd.R_celln 0 HO_3.out (x4_1 : Int) p9 q9
             replace p9 := eq_true p9
             replace q9 := eq_true q9
             have HP10 := Kd.R_putg HO_3.out (x4_1 : Int) (rd l0 x4_1)
             go_wp2_with (first | ((with_reducible refine gate_store (t := 5) (p := 20) rfl ?_); refine store_event (t := 5) (p := 20) (v := ?vo_w11) (w1 := (wr.setCell ⟨go9, (x4_1 : Int).toNat, none⟩ (.int .u8 (rd l0 x4_1)))) ?hg ?ho ?hn ?hr ?_; (case ho => rfl); (case hg => rfl); (case hn => rfl); (case hr => first | (go_simp; done) | (go_simp; rfl)); intro w11 hw; have hg : wr.grownBy w11 (some go9) := (by rw [hw]; exact HP10.2); have hp_ : Kd.R (Kd.int .u8) 5 w11 w.heap.size (fun _ => True) (.slice (some ⟨go9, 0, none⟩) x3_1.length co9) y593 := (by rw [hw, Ny593.out]; exact HP10.1); clear HP10; have n0_ := Aside0.mk (hp_); have n1_ := Aside0.mk ((by rw [hw]; exact below_set (HB.out) GB9.out : Below w.heap.size w w11)); clear HO_3; clear HB; have HO_3 := n0_; have HB := n1_; clear n0_ n1_; clear hg hw hp_))
             go_roundg k1
             case measure => have := HK1.out; omega
             case rel => exact ⟨(y593), (wrap64 (x4_1 + 1)), (by first | rfl | (simp; done) | (simp [*]; done)), H', ⟨by have := HK1.out; omega⟩, ⟨by (with_reducible repeat (first | apply Kd.R_alloc | apply Kd.R_drewN | apply Kd.R_drew)); exact HO_3.out⟩, ⟨by repeat (first | (with_reducible first | exact HB.out | apply below_alloc | apply pw_below_drewN | apply below_drew1) | exact HB.out)⟩⟩
           · rw [if_neg c8] at H
             exact absurd H (by simp)
         · rw [if_neg c7] at H
           exact absurd H (by simp)
       · rw [if_neg c6] at H
         have c6b0 : decide (x4_1 < (l0.length : Int)) = false := decide_eq_false c6
         clear c6
         obtain rfl := Option.some.inj H
         go_wp2
         go_ret
         exact ⟨_, by first | rfl | (simp [errW_none, errW_some] <;> rfl) | (simp [*, errW_none, errW_some] <;> rfl), by (with_reducible repeat (first | apply Kd.R_alloc | apply Kd.R_drewN | apply Kd.R_drew)); exact HO_3.out, by repeat (first | (with_reducible first | exact HB.out | apply below_alloc | apply pw_below_drewN | apply below_drew1) | exact HB.out)⟩
   · rw [if_neg c3] at H
     exact absurd H (by simp)
 · rw [if_neg c2] at H
   exact absurd H (by simp)

end Go.Proofs.Ythegbhfoleiegaa.All


namespace Go.Proofs.Ythegbhfoleiegaa.All
open Go.RowKit Go.Proofs.YthegbhfoleiegaaW.PrintWords Go.Proofs.YthegbhfoleiegaaW.PrintLast Go.Proofs.YthegbhfoleiegaaW.PrintMore
attribute [local go_sem] max2_int min2_int max_two min_two max_three min_three max_four min_four   -- for this text's walks alone
set_option linter.unusedVariables false
set_option linter.unusedSimpArgs false

/-! ### laws_toReloc: function 205 -/
def laws_toReloc.f (a0_0 : Int) (a0_1 : Int) (a0_2 : ByteArray) : Option (Int × Int × ByteArray) := some (a0_0, a0_1, a0_2)
set_option maxHeartbeats 8000000 in
set_option maxRecDepth 100000 in
theorem laws_toReloc.calls (a0_0 : Int) (a0_1 : Int) (a0_2 : ByteArray) (r1 : Int) (r2 : Int) (r3 : ByteArray) (w : World) (h : laws_toReloc.f a0_0 a0_1 a0_2 = some (r1, r2, r3)) :
 Calls Try.prog 205 #[.agg #[.int .i64 a0_0, .int .i64 a0_1, .string a0_2]] w fun e w' => e = .returned (.agg #[.int .i64 r1, .int .i64 r2, .string r3]) ∧ Below w.heap.size w w' := by
 have hu237 := Try.underlying237
 have hu132 := Try.underlying132
 have HB := Aside0.mk (Below.refl w.heap.size w)
 have H : (some (a0_0, a0_1, a0_2)) = some (r1, r2, r3) := h
 clear h
 simp only [Option.some.injEq, Prod.mk.injEq] at H
 obtain ⟨rfl, rfl, rfl⟩ := H
 go_enter Try.func205, Try.ntmps205
 go_wp2_with (first | ((with_reducible refine gate_dst (N := 1) rfl ?_); refine box_event ?hg (N := 1) ?hd (cs := #[.int .i64 a0_0, .int .i64 a0_1, .string a0_2]) (t := 237) ?hr ?_; (case hd => rfl); (case hg => rfl); (case hr => first | (go_simp; done) | (go_simp; rfl)); intro gb594 hg w2 hbox hb; have n0_ := Aside0.mk (below_step (by repeat (first | (with_reducible first | exact HB.out | apply below_alloc | apply pw_below_drewN | apply below_drew1) | exact HB.out)) hb); have n1_ := Aside0.mk (hbox); have n2_ := Aside0.mk ((by rw [hg]; exact (below_size (by repeat (first | (with_reducible first | exact HB.out | apply below_alloc | apply pw_below_drewN | apply below_drew1) | exact HB.out))) : w.heap.size ≤ gb594)); have n3_ := Aside0.mk ((by rw [hg]; exact (below_size (by repeat (first | (with_reducible first | exact HB.out | apply below_alloc | apply pw_below_drewN | apply below_drew1) | exact HB.out))) : w.heap.size ≤ gb594)); clear HB; have HB := n0_; have BK594 := n1_; have GW594 := n2_; have GE594 := n3_; clear n0_ n1_ n2_ n3_; clear hb hbox hg) | ((with_reducible refine gate_dst (N := 2) rfl ?_); refine box_event ?hg (N := 2) ?hd (cs := #[.int .i64 0, .int .i64 0, .string (⟨#[]⟩ : ByteArray)]) (t := 132) ?hr ?_; (case hd => rfl); (case hg => rfl); (case hr => first | (go_simp; done) | (go_simp; rfl)); intro gb595 hg w3 hbox hb; have n0_ := Aside0.mk (blk_below (g := gb594) (o := .cells #[.int .i64 a0_0, .int .i64 a0_1, .string a0_2] 237 (0, 0)) (by (with_reducible repeat (first | refine blk_drewN ?_ _ | refine blk_drew ?_ | refine blk_alloc ?_ _)); exact BK594.out) hb); have n1_ := Aside0.mk (below_step (by repeat (first | (with_reducible first | exact HB.out | apply below_alloc | apply pw_below_drewN | apply below_drew1 | refine below_set ?_ GE594.out) | exact HB.out)) hb); have n2_ := Aside0.mk (hbox); have n3_ := Aside0.mk ((by rw [hg]; exact (below_size (by repeat (first | (with_reducible first | exact HB.out | apply below_alloc | apply pw_below_drewN | apply below_drew1 | refine below_set ?_ GE594.out) | exact HB.out))) : w.heap.size ≤ gb595)); have n4_ := Aside0.mk ((by rw [hg]; exact (below_size (by repeat (first | (with_reducible first | exact HB.out | apply below_alloc | apply pw_below_drewN | apply below_drew1 | refine below_set ?_ GE594.out) | exact HB.out))) : w.heap.size ≤ gb595)); have n5_ := Aside0.mk ((by rw [hg]; exact Nat.ne_of_lt (blk_lt (g := gb594) (o := .cells #[.int .i64 a0_0, .int .i64 a0_1, .string a0_2] 237 (0, 0)) (by (with_reducible repeat (first | refine blk_drewN ?_ _ | refine blk_drew ?_ | refine blk_alloc ?_ _)); exact BK594.out)) : gb594 ≠ gb595)); have n6_ := Aside0.mk ((by rw [hg]; exact Nat.ne_of_gt (blk_lt (g := gb594) (o := .cells #[.int .i64 a0_0, .int .i64 a0_1, .string a0_2] 237 (0, 0)) (by (with_reducible repeat (first | refine blk_drewN ?_ _ | refine blk_drew ?_ | refine blk_alloc ?_ _)); exact BK594.out)) : gb595 ≠ gb594)); clear BK594; clear HB; have BK594 := n0_; have HB := n1_; have BK595 := n2_; have GW595 := n3_; have GE595 := n4_; have NB594_595 := n5_; have NB595_594 := n6_; clear n0_ n1_ n2_ n3_ n4_ n5_ n6_; clear hb hbox hg) | ((with_reducible refine gate_dst (N := 3) rfl ?_); refine box_event ?hg (N := 3) ?hd (cs := #[.int .i64 0, .int .i64 0, .string (⟨#[]⟩ : ByteArray)]) (t := 132) ?hr ?_; (case hd => rfl); (case hg => rfl); (case hr => first | (go_simp; done) | (go_simp; rfl)); intro gb596 hg w4 hbox hb; have n0_ := Aside0.mk (blk_below (g := gb594) (o := .cells #[.int .i64 a0_0, .int .i64 a0_1, .string a0_2] 237 (0, 0)) (by (with_reducible repeat (first | refine blk_drewN ?_ _ | refine blk_drew ?_ | refine blk_alloc ?_ _)); exact BK594.out) hb); have n1_ := Aside0.mk (blk_below (g := gb595) (o := .cells #[.int .i64 0, .int .i64 0, .string (⟨#[]⟩ : ByteArray)] 132 (0, 0)) (by (with_reducible repeat (first | refine blk_drewN ?_ _ | refine blk_drew ?_ | refine blk_alloc ?_ _)); exact BK595.out) hb); have n2_ := Aside0.mk (below_step (by repeat (first | (with_reducible first | exact HB.out | apply below_alloc | apply pw_below_drewN | apply below_drew1 | refine below_set ?_ GE594.out | refine below_set ?_ GE595.out) | exact HB.out)) hb); have n3_ := Aside0.mk (hbox); have n4_ := Aside0.mk ((by rw [hg]; exact (below_size (by repeat (first | (with_reducible first | exact HB.out | apply below_alloc | apply pw_below_drewN | apply below_drew1 | refine below_set ?_ GE594.out | refine below_set ?_ GE595.out) | exact HB.out))) : w.heap.size ≤ gb596)); have n5_ := Aside0.mk ((by rw [hg]; exact (below_size (by repeat (first | (with_reducible first | exact HB.out | apply below_alloc | apply pw_below_drewN | apply below_drew1 | refine below_set ?_ GE594.out | refine below_set ?_ GE595.out) | exact HB.out))) : w.heap.size ≤ gb596)); have n6_ := Aside0.mk ((by rw [hg]; exact Nat.ne_of_lt (blk_lt (g := gb594) (o := .cells #[.int .i64 a0_0, .int .i64 a0_1, .string a0_2] 237 (0, 0)) (by (with_reducible repeat (first | refine blk_drewN ?_ _ | refine blk_drew ?_ | refine blk_alloc ?_ _)); exact BK594.out)) : gb594 ≠ gb596)); have n7_ := Aside0.mk ((by rw [hg]; exact Nat.ne_of_gt (blk_lt (g := gb594) (o := .cells #[.int .i64 a0_0, .int .i64 a0_1, .string a0_2] 237 (0, 0)) (by (with_reducible repeat (first | refine blk_drewN ?_ _ | refine blk_drew ?_ | refine blk_alloc ?_ _)); exact BK594.out)) : gb596 ≠ gb594)); have n8_ := Aside0.mk ((by rw [hg]; exact Nat.ne_of_lt (blk_lt (g := gb595) (o := .cells #[.int .i64 0, .int .i64 0, .string (⟨#[]⟩ : ByteArray)] 132 (0, 0)) (by (with_reducible repeat (first | refine blk_drewN ?_ _ | refine blk_drew ?_ | refine blk_alloc ?_ _)); exact BK595.out)) : gb595 ≠ gb596)); have n9_ := Aside0.mk ((by rw [hg]; exact Nat.ne_of_gt (blk_lt (g := gb595) (o := .cells #[.int .i64 0, .int .i64 0, .string (⟨#[]⟩ : ByteArray)] 132 (0, 0)) (by (with_reducible repeat (first | refine blk_drewN ?_ _ | refine blk_drew ?_ | refine blk_alloc ?_ _)); exact BK595.out)) : gb596 ≠ gb595)); clear BK594; clear BK595; clear HB; have BK594 := n0_; have BK595 := n1_; have HB := n2_; have BK596 := n3_; have GW596 := n4_; have GE596 := n5_; have NB594_596 := n6_; have NB596_594 := n7_; have NB595_596 := n8_; have NB596_595 := n9_; clear n0_ n1_ n2_ n3_ n4_ n5_ n6_ n7_ n8_ n9_; clear hb hbox hg; have hnb5 := NB594_595.out; have hnc5 := NB595_594.out; have hnb6 := NB594_596.out; have hnc6 := NB596_594.out; have hcz7_0 : w4.cell? ⟨gb594, 0, none⟩ = some (.int .i64 a0_0) := (blk_cell BK594.out 0).trans rfl; have hcz7_1 : w4.cell? ⟨gb594, 1, none⟩ = some (.int .i64 a0_1) := (blk_cell BK594.out 1).trans rfl; have hcz7_2 : w4.cell? ⟨gb594, 2, none⟩ = some (.string a0_2) := (blk_cell BK594.out 2).trans rfl; have hfz7_0 := blk_frozen BK594.out 0; have hfz7_1 := blk_frozen BK594.out 1; have hfz7_2 := blk_frozen BK594.out 2; have hnb8 := NB596_595.out; have hnc8 := NB595_596.out; have hcz9_0 : w4.cell? ⟨gb596, 0, none⟩ = some (.int .i64 0) := (blk_cell BK596.out 0).trans rfl; have hcz9_1 : w4.cell? ⟨gb596, 1, none⟩ = some (.int .i64 0) := (blk_cell BK596.out 1).trans rfl; have hcz9_2 : w4.cell? ⟨gb596, 2, none⟩ = some (.string (⟨#[]⟩ : ByteArray)) := (blk_cell BK596.out 2).trans rfl; have hfz9_0 := blk_frozen BK596.out 0; have hfz9_1 := blk_frozen BK596.out 1; have hfz9_2 := blk_frozen BK596.out 2; have hcz10_0 : w4.cell? ⟨gb595, 0, none⟩ = some (.int .i64 0) := (blk_cell BK595.out 0).trans rfl; have hcz10_1 : w4.cell? ⟨gb595, 1, none⟩ = some (.int .i64 0) := (blk_cell BK595.out 1).trans rfl; have hcz10_2 : w4.cell? ⟨gb595, 2, none⟩ = some (.string (⟨#[]⟩ : ByteArray)) := (blk_cell BK595.out 2).trans rfl; have hfz10_0 := blk_frozen BK595.out 0; have hfz10_1 := blk_frozen BK595.out 1; have hfz10_2 := blk_frozen BK595.out 2))
 refine bodyPost_ret (results_cell_row rfl _ _ gb595 132 #[.int .i64 a0_0, .int .i64 a0_1, .string a0_2] (0, 0) _ rfl (by (with_reducible repeat (first | refine blk_drewN ?_ _ | refine blk_drew ?_ | refine blk_alloc ?_ _)); refine blk_put (cs := #[.int .i64 a0_0, .int .i64 a0_1, .string (⟨#[]⟩ : ByteArray)]) ?_ 2 _ rfl; (with_reducible repeat (first | refine blk_drewN ?_ _ | refine blk_drew ?_ | refine blk_alloc ?_ _)); refine blk_put (cs := #[.int .i64 a0_0, .int .i64 0, .string (⟨#[]⟩ : ByteArray)]) ?_ 1 _ rfl; (with_reducible repeat (first | refine blk_drewN ?_ _ | refine blk_drew ?_ | refine blk_alloc ?_ _)); refine blk_put (cs := #[.int .i64 0, .int .i64 0, .string (⟨#[]⟩ : ByteArray)]) ?_ 0 _ rfl; (with_reducible repeat (first | refine blk_drewN ?_ _ | refine blk_drew ?_ | refine blk_alloc ?_ _)); refine blk_far ?_ NB595_596.out _; (with_reducible repeat (first | refine blk_drewN ?_ _ | refine blk_drew ?_ | refine blk_alloc ?_ _)); refine blk_far ?_ NB595_596.out _; (with_reducible repeat (first | refine blk_drewN ?_ _ | refine blk_drew ?_ | refine blk_alloc ?_ _)); refine blk_far ?_ NB595_596.out _; (with_reducible repeat (first | refine blk_drewN ?_ _ | refine blk_drew ?_ | refine blk_alloc ?_ _)); exact BK595.out) Try.underlying132 rfl (by kernel_rfl)) rfl ?_
 exact ⟨by first | rfl | (simp [errW_none, errW_some] <;> rfl) | (simp [*, errW_none, errW_some] <;> rfl), by repeat (first | (with_reducible first | exact HB.out | apply below_alloc | apply pw_below_drewN | apply below_drew1 | refine below_set ?_ GE594.out | refine below_set ?_ GE595.out | refine below_set ?_ GE596.out) | exact HB.out)⟩

end Go.Proofs.Ythegbhfoleiegaa.All


namespace Go.Proofs.Ythegbhfoleiegaa.All
open Go.RowKit Go.Proofs.YthegbhfoleiegaaW.PrintWords Go.Proofs.YthegbhfoleiegaaW.PrintLast Go.Proofs.YthegbhfoleiegaaW.PrintMore
attribute [local go_sem] max2_int min2_int max_two min_two max_three min_three max_four min_four   -- for this text's walks alone
set_option linter.unusedVariables false
set_option linter.unusedSimpArgs false

/-! ### laws_toRelocS: function 181 -/
def laws_toRelocS.l0 : Nat → List (S237) → List (S132) → Int → Option ((List (S132)))
 | 0, _, _, _ => none
 | k + 1, x0, x3, x4 => if x4 < (x0.length : Int) then (if 0 ≤ x4 then ((laws_toReloc.f ((rd_T237 x0 x4).f0) ((rd_T237 x0 x4).f1) ((rd_T237 x0 x4).f2)).bind fun bt601 => (if x4 < (x3.length : Int) then (laws_toRelocS.l0 k x0 (x3.set (x4 : Int).toNat (⟨bt601.1, bt601.2.1, bt601.2.2⟩ : S132)) (wrap64 (x4 + 1))) else (none))) else (none)) else (some x3)
def laws_toRelocS.f (k : Nat) (l0 : List (S237)) : Option ((List (S132))) := if 0 ≤ (l0.length : Int) then (if ((l0.length : Int) : Int).toNat ≤ 8796093022208 then (laws_toRelocS.l0 k l0 (List.replicate ((l0.length : Int) : Int).toNat z132) 0) else (none)) else (none)
set_option maxHeartbeats 8000000 in
set_option maxRecDepth 100000 in
theorem laws_toRelocS.calls (k : Nat) (A0 : Option Addr) (c0 : Nat) (l0 : List (S237)) (r : List (S132)) (w : World) (hr0 : Kd.C k237 w A0 l0.length l0) (hc0 : l0.length ≤ c0) (h : laws_toRelocS.f k l0 = some r) :
 Calls Try.prog 181 #[.slice A0 l0.length c0] w fun e w' => ∃ v0_ : Value, e = .returned (v0_) ∧ Kd.R k132 132 w' w.heap.size (fun _ => True) v0_ r ∧ Below w.heap.size w w' := by
 have hu237 := Try.underlying237
 have hu132 := Try.underlying132
 have HR0 := Aside0.mk hr0
 have HC0 := Aside0.mk hc0
 clear hr0 hc0
 have HB := Aside0.mk (Below.refl w.heap.size w)
 have H : (if 0 ≤ (l0.length : Int) then (if ((l0.length : Int) : Int).toNat ≤ 8796093022208 then (laws_toRelocS.l0 k l0 (List.replicate ((l0.length : Int) : Int).toNat z132) 0) else (none)) else (none)) = some r := h
 clear h
 by_cases c2 : 0 ≤ (l0.length : Int)
 · rw [if_pos c2] at H
   have c2b0 := eq_true c2
   have c2b1 : decide (0 ≤ (l0.length : Int)) = true := decide_eq_true c2
   clear c2
   by_cases c3 : ((l0.length : Int) : Int).toNat ≤ 8796093022208
   · rw [if_pos c3] at H
     have c3b0 := eq_true c3
     have c3b1 : decide (((l0.length : Int) : Int).toNat ≤ 8796093022208) = true := decide_eq_true c3
     clear c3
     obtain ⟨y597, hy597⟩ : ∃ y_ : List (S132), y_ = (List.replicate ((l0.length : Int) : Int).toNat z132) := ⟨_, rfl⟩
     replace H : (laws_toRelocS.l0 k l0 y597 0) = some r := by first | (rw [hy597]; with_reducible exact H) | (have H2_ := (Option.bind_some _ _).symm.trans H; rw [hy597]; with_reducible exact H2_) | (have H2_ := (Option.bind_some _ _).symm.trans H; with_reducible exact H2_) | with_reducible exact H | (rw [hy597]; exact H) | exact H
     have Ny597 := Aside0.mk hy597
     clear hy597
     have H' := Aside0.mk H
     clear H
     go_enter Try.func181, Try.ntmps181
     go_wp2_with (first | ((with_reducible refine gate_dst (N := 7) rfl ?_); refine Kd.R_make k132 _ 132 rfl (N := 7) rfl 128 _ _ rfl (l0.length : Int) rfl rfl Try.underlying128 (.agg #[(.int .i64 0), (.int .i64 0), (.string ⟨#[]⟩)]) 32 info132 rfl (by decide) (by omega) z132 (ok := fun _ => True) (okp := fun _ => True) (k132_mkM _ _ _ z132 ) (fun _ hk => hk) trivial (of_decide_eq_true (by first | (with_reducible assumption) | assumption)) (Nat.le_trans (Nat.mul_le_mul_right _ (of_decide_eq_true (by first | (with_reducible assumption) | assumption) : (l0.length : Int).toNat ≤ 8796093022208)) (by omega)) (Below.refl _ _) (Nat.le_refl _) ?_; intro v598 w4 ho5 hb hg_ hnew_; clear hg_ hnew_; (first | rw [← Ny597.out] at ho5 | (simp only [Int.reduceToNat] at ho5; rw [← Ny597.out] at ho5)); have n0_ := Aside0.mk (Kd.R_lower ho5 (below_size (by repeat (first | (with_reducible first | exact HB.out | apply below_alloc | apply pw_below_drewN | apply below_drew1) | exact HB.out)))); have n1_ := Aside0.mk (below_step (by repeat (first | (with_reducible first | exact HB.out | apply below_alloc | apply pw_below_drewN | apply below_drew1) | exact HB.out)) hb); clear HB; have HO599 := n0_; have HB := n1_; clear n0_ n1_; clear hb ho5))
     go_loopg [4] k (fun kq v4 w' => ∃ (x3_1 : List (S132)) (x4_1 : Int), v4 = .int .i64 x4_1 ∧ Aside0 (laws_toRelocS.l0 kq l0 x3_1 x4_1 = some r) ∧ Aside0 (kq ≤ k) ∧ Aside0 (Kd.R k132 132 w' w.heap.size (fun _ => True) v598 x3_1) ∧ Aside0 (Below w.heap.size w w'))
     case atStart => exact ⟨(y597), (0), (by first | rfl | (simp; done) | (simp [*]; done)), H', ⟨Nat.le_refl _⟩, ⟨by (with_reducible repeat (first | apply Kd.R_alloc | apply Kd.R_drewN | apply Kd.R_drew)); exact HO599.out⟩, ⟨by repeat (first | (with_reducible first | exact HB.out | apply below_alloc | apply pw_below_drewN | apply below_drew1) | exact HB.out)⟩⟩
     case round =>
      clear H'
      try clear c1
      try clear c2
      try clear c2b0
      try clear c2b1
      try clear p2
      try clear c3
      try clear c3b0
      try clear c3b1
      obtain ⟨x3_1, x4_1, rfl, HA, HK1, HO_3, HB⟩ := hrel
      cases gk with
      | zero => exact absurd HA.out (by simp [laws_toRelocS.l0])
      | succ k1 =>
       have H := HA.out
       clear HA
       simp only [laws_toRelocS.l0] at H
       by_cases c6 : x4_1 < (l0.length : Int)
       · rw [if_pos c6] at H
         have c6b0 : decide (x4_1 < (l0.length : Int)) = true := decide_eq_true c6
         clear c6
         by_cases c7 : 0 ≤ x4_1
         · rw [if_pos c7] at H
           have c7b0 : decide (0 ≤ x4_1) = true := decide_eq_true c7
           clear c7
           replace H := Option.bind_eq_some_iff.mp H
           obtain ⟨⟨t601, t602, t603⟩, A80, H⟩ := H
           replace H : (if x4_1 < (x3_1.length : Int) then (laws_toRelocS.l0 k1 l0 (x3_1.set (x4_1 : Int).toNat (⟨t601, t602, t603⟩ : S132)) (wrap64 (x4_1 + 1))) else (none)) = some r := H
           have A8 := Aside0.mk A80
           clear A80
           by_cases c9 : x4_1 < (x3_1.length : Int)
           · rw [if_pos c9] at H
             have c9b0 : decide (x4_1 < (x3_1.length : Int)) = true := decide_eq_true c9
             clear c9
             obtain ⟨y604, hy604⟩ : ∃ y_ : List (S132), y_ = (x3_1.set (x4_1 : Int).toNat (⟨t601, t602, t603⟩ : S132)) := ⟨_, rfl⟩
             replace H : (laws_toRelocS.l0 k1 l0 y604 (wrap64 (x4_1 + 1))) = some r := by first | (rw [hy604]; with_reducible exact H) | (have H2_ := (Option.bind_some _ _).symm.trans H; rw [hy604]; with_reducible exact H2_) | (have H2_ := (Option.bind_some _ _).symm.trans H; with_reducible exact H2_) | with_reducible exact H | (rw [hy604]; exact H) | exact H
             have Ny604 := Aside0.mk hy604
             clear hy604
             have H' := Aside0.mk H
             clear H
             have p600 : 0 ≤ (x4_1 : Int) := of_decide_eq_true (by first | (with_reducible assumption) | assumption)
             have q600 : x4_1 < (l0.length : Int) := of_decide_eq_true (by first | (with_reducible assumption) | assumption)
             obtain ⟨ad600, e600, hx600_0, hx600_1, hx600_2⟩ := at_T237 HR0.out x4_1 p600 q600
             cases e600
             replace hx600_0 := (HB.out.cell (World.block_lt_of_cell? w _ hx600_0)).trans hx600_0
             replace hx600_1 := (HB.out.cell (World.block_lt_of_cell? w _ hx600_1)).trans hx600_1
             replace hx600_2 := (HB.out.cell (World.block_lt_of_cell? w _ hx600_2)).trans hx600_2
             replace p600 := eq_true p600
             replace q600 := eq_true q600
             go_wp2_with (first | ((with_reducible refine gate_callee (f := 205) rfl ?_); refine goesL_ (some 20) rfl rfl Try.func205 (by kernel_rfl) rfl #[.agg #[.int .i64 ((rd_T237 l0 x4_1).f0), .int .i64 ((rd_T237 l0 x4_1).f1), .string ((rd_T237 l0 x4_1).f2)]] rfl (by (try simp only [List.map_toArray, List.map_cons, List.map_nil]); first | done | rfl | (simp only [List.length_drop, List.length_take]; rfl)) ?_; (with_reducible refine (laws_toReloc.calls ((rd_T237 l0 x4_1).f0) ((rd_T237 l0 x4_1).f1) ((rd_T237 l0 x4_1).f2) t601 t602 t603 _ A8.out).mono ?_); rintro e w11 ⟨rfl, hb⟩; refine ⟨_, rfl, ?_⟩; have n0_ := Aside0.mk (Kd.R_below (by (with_reducible repeat (first | apply Kd.R_alloc | apply Kd.R_drewN | apply Kd.R_drew)); exact HO_3.out) hb); have n1_ := Aside0.mk (below_step (by repeat (first | (with_reducible first | exact HB.out | apply below_alloc | apply pw_below_drewN | apply below_drew1) | exact HB.out)) hb); clear HO_3; clear HB; have HO_3 := n0_; have HB := n1_; clear n0_ n1_; (try clear hb); (try clear hb2); (try clear hk); (try clear hi); have p10 : 0 ≤ (x4_1 : Int) := of_decide_eq_true (by first | (with_reducible assumption) | assumption); have q10 : (x4_1 : Int) < ((x3_1.length : Int) : Int) := of_decide_eq_true (by first | (with_reducible assumption) | assumption); obtain ⟨go10, co10, eo10, gb10, gl10, cl10, HG10⟩ := Kd.R_form HO_3.out (by omega); (first | cases eo10 | (injection eo10 with ea_ en_ ec_; (first | subst ea_ | (injection ea_ with ea_; subst ea_)); subst ec_; clear en_)); have GB10 := Aside0.mk gb10; have GG10 := Aside0.mk HG10; clear gb10 gl10 HG10; obtain ⟨ce10, hcl10, hM10, hcc10, hfr10⟩ := Kd.R_elem HO_3.out z132 (x4_1 : Int) p10 q10; obtain rfl := k132_openM hM10; have hx10_0 : w11.cell? ⟨go10, (x4_1 : Int).toNat * 3, none⟩ = some (.int .i64 ((rd_T132 x3_1 x4_1).f0)) := hcc10 0 _ rfl; have hx10_1 : w11.cell? ⟨go10, (x4_1 : Int).toNat * 3 + 1, none⟩ = some (.int .i64 ((rd_T132 x3_1 x4_1).f1)) := hcc10 1 _ rfl; have hx10_2 : w11.cell? ⟨go10, (x4_1 : Int).toNat * 3 + 2, none⟩ = some (.string ((rd_T132 x3_1 x4_1).f2)) := hcc10 2 _ rfl; have hf10_0 : w11.frozen? ⟨go10, (x4_1 : Int).toNat * 3, none⟩ = false := hfr10 0; have hf10_1 : w11.frozen? ⟨go10, (x4_1 : Int).toNat * 3 + 1, none⟩ = false := hfr10 1; have hf10_2 : w11.frozen? ⟨go10, (x4_1 : Int).toNat * 3 + 2, none⟩ = false := hfr10 2; clear hcl10 hcc10 hfr10 hM10; replace p10 := eq_true p10; replace q10 := eq_true q10; have HX12 := Aside0.mk (show Kd.R k132 132 w11 w.heap.size (fun _ => True) (.slice (some ⟨go10, 0, none⟩) x3_1.length co10) x3_1 from (by (with_reducible repeat (first | apply Kd.R_alloc | apply Kd.R_drewN | apply Kd.R_drew)); exact HO_3.out)); obtain ⟨ce12, hcl12, hM12, hcc12, hfr12⟩ := Kd.R_elem HX12.out z132 (x4_1 : Int) (of_decide_eq_true (by first | (with_reducible assumption) | assumption)) (by have h_ : (x4_1 : Int) < ((x3_1.length : Int) : Int) := of_decide_eq_true (by first | (with_reducible assumption) | assumption); first | exact h_ | (have e_ := (Kd.R_reads' HO_3.out).1; omega) | simpa using h_); obtain rfl := k132_openM hM12; have HP12 := Kd.R_seg HX12.out (x4_1 : Int) (of_decide_eq_true (by first | (with_reducible assumption) | assumption)) (by have h_ : (x4_1 : Int) < ((x3_1.length : Int) : Int) := of_decide_eq_true (by first | (with_reducible assumption) | assumption); first | exact h_ | (have e_ := (Kd.R_reads' HO_3.out).1; omega) | simpa using h_) (seg := [.int .i64 t601, .int .i64 t602, .string t603]) (j := 0) hcl12 hcc12 (show 3 ≤ 3 from by decide) (x' := (⟨t601, t602, t603⟩ : S132)) (k132_mkM _ _ _ (⟨t601, t602, t603⟩ : S132) ) (fun _ hk => hk); have hx12_0 := hcc12 0 _ rfl; (try simp only [show (k132).sz = 3 from rfl, Nat.mul_one, Nat.add_zero] at hx12_0); have hf12_0 := hfr12 0; (try simp only [show (k132).sz = 3 from rfl, Nat.mul_one, Nat.add_zero] at hf12_0); have hx12_1 := hcc12 1 _ rfl; (try simp only [show (k132).sz = 3 from rfl, Nat.mul_one, Nat.add_zero] at hx12_1); have hf12_1 := hfr12 1; (try simp only [show (k132).sz = 3 from rfl, Nat.mul_one, Nat.add_zero] at hf12_1); have hx12_2 := hcc12 2 _ rfl; (try simp only [show (k132).sz = 3 from rfl, Nat.mul_one, Nat.add_zero] at hx12_2); have hf12_2 := hfr12 2; (try simp only [show (k132).sz = 3 from rfl, Nat.mul_one, Nat.add_zero] at hf12_2); clear hcl12 hcc12 hfr12 hM12) | ((with_reducible refine gate_store (t := 132) (p := 21) rfl ?_); refine store_event (t := 132) (p := 21) (v := ?vo_w13) (w1 := (((w11.setCell ⟨go10, (x4_1 : Int).toNat * 3, none⟩ (.int .i64 t601)).setCell ⟨go10, (x4_1 : Int).toNat * 3 + 1, none⟩ (.int .i64 t602)).setCell ⟨go10, (x4_1 : Int).toNat * 3 + 2, none⟩ (.string t603))) ?hg ?ho ?hn ?hr ?_; (case ho => rfl); (case hg => rfl); (case hn => rfl); (case hr => first | (go_simp; done) | (go_simp; rfl)); intro w13 hw; have hg : w11.grownBy w13 (some go10) := (by rw [hw]; exact HP12.2); have hp_ : Kd.R k132 132 w13 w.heap.size (fun _ => True) (.slice (some ⟨go10, 0, none⟩) x3_1.length co10) y604 := (by rw [hw, Ny604.out]; exact HP12.1); clear HP12; have n0_ := Aside0.mk (hp_); have n1_ := Aside0.mk ((by rw [hw]; exact below_set (below_set (below_set (HB.out) GB10.out) GB10.out) GB10.out : Below w.heap.size w w13)); clear HO_3; clear HB; have HO_3 := n0_; have HB := n1_; clear n0_ n1_; clear hg hw hp_))
             go_roundg k1
             case measure => have := HK1.out; omega
             case rel => exact ⟨(y604), (wrap64 (x4_1 + 1)), (by first | rfl | (simp; done) | (simp [*]; done)), H', ⟨by have := HK1.out; omega⟩, ⟨by (with_reducible repeat (first | apply Kd.R_alloc | apply Kd.R_drewN | apply Kd.R_drew)); exact HO_3.out⟩, ⟨by repeat (first | (with_reducible first | exact HB.out | apply below_alloc | apply pw_below_drewN | apply below_drew1) | exact HB.out)⟩⟩
           · rw [if_neg c9] at H
             exact absurd H (by simp)
         · rw [if_neg c7] at H
           exact absurd H (by simp)
       · rw [if_neg c6] at H
         have c6b0 : decide (x4_1 < (l0.length : Int)) = false := decide_eq_false c6
         clear c6
         obtain rfl := Option.some.inj H
         go_wp2
         go_ret
         exact ⟨_, by first | rfl | (simp [errW_none, errW_some] <;> rfl) | (simp [*, errW_none, errW_some] <;> rfl), by (with_reducible repeat (first | apply Kd.R_alloc | apply Kd.R_drewN | apply Kd.R_drew)); exact HO_3.out, by repeat (first | (with_reducible first | exact HB.out | apply below_alloc | apply pw_below_drewN | apply below_drew1) | exact HB.out)⟩
   · rw [if_neg c3] at H
     exact absurd H (by simp)
 · rw [if_neg c2] at H
   exact absurd H (by simp)

end Go.Proofs.Ythegbhfoleiegaa.All


namespace Go.Proofs.Ythegbhfoleiegaa.All
open Go.RowKit Go.Proofs.YthegbhfoleiegaaW.PrintWords Go.Proofs.YthegbhfoleiegaaW.PrintLast Go.Proofs.YthegbhfoleiegaaW.PrintMore
attribute [local go_sem] max2_int min2_int max_two min_two max_three min_three max_four min_four   -- for this text's walks alone
set_option linter.unusedVariables false
set_option linter.unusedSimpArgs false

/-! ### laws_toSection: function 143 -/
def laws_toSection.f (k : Nat) (a0_0 : ByteArray) (a0_1 : Int) (a0_2 : Int) (a0_3 : Int) (l0_4 : List Int) (a0_5 : Int) (l0_6 : List Int) (l0_7 : List (S237)) : Option (ByteArray × Int × Int × Int × List Int × Int × List Int × (List (S132))) := (laws_toInt64S.f k l0_4).bind fun t608 => ((laws_toByteS.f k l0_6).bind fun t611 => ((laws_toRelocS.f k l0_7).bind fun t614 => (some (a0_0, a0_1, a0_2, a0_3, t608, a0_5, t611, t614))))
set_option maxHeartbeats 8000000 in
set_option maxRecDepth 100000 in
theorem laws_toSection.calls (k : Nat) (a0_0 : ByteArray) (a0_1 : Int) (a0_2 : Int) (a0_3 : Int) (A0_4 : Option Addr) (c0_4 : Nat) (l0_4 : List Int) (a0_5 : Int) (A0_6 : Option Addr) (c0_6 : Nat) (l0_6 : List Int) (A0_7 : Option Addr) (c0_7 : Nat) (l0_7 : List (S237)) (r1 : ByteArray) (r2 : Int) (r3 : Int) (r4 : Int) (r5 : List Int) (r6 : Int) (r7 : List Int) (r8 : List (S132)) (w : World) (hr0_4 : Kd.C (Kd.int .i64) w A0_4 l0_4.length l0_4) (hc0_4 : l0_4.length ≤ c0_4) (hr0_6 : Kd.C (Kd.int .u8) w A0_6 l0_6.length l0_6) (hc0_6 : l0_6.length ≤ c0_6) (hr0_7 : Kd.C k237 w A0_7 l0_7.length l0_7) (hc0_7 : l0_7.length ≤ c0_7) (h : laws_toSection.f k a0_0 a0_1 a0_2 a0_3 l0_4 a0_5 l0_6 l0_7 = some (r1, r2, r3, r4, r5, r6, r7, r8)) :
 Calls Try.prog 143 #[.agg #[.string a0_0, .int .i64 a0_1, .int .i64 a0_2, .int .i64 a0_3, .slice A0_4 l0_4.length c0_4, .int .i64 a0_5, .slice A0_6 l0_6.length c0_6, .slice A0_7 l0_7.length c0_7]] w fun e w' => ∃ v4_ v6_ v7_ : Value, e = .returned (.agg #[.string r1, .int .i64 r2, .int .i64 r3, .int .i64 r4, v4_, .int .i64 r6, v6_, v7_]) ∧ Kd.R (Kd.int .i64) 2 w' w.heap.size (fun _ => True) v4_ r5 ∧ Kd.R (Kd.int .u8) 5 w' w.heap.size (fun _ => True) v6_ r7 ∧ Kd.R k132 132 w' w.heap.size (fun _ => True) v7_ r8 ∧ Below w.heap.size w w' := by
 have hu191 := Try.underlying191
 have hu130 := Try.underlying130
 have HR0_4 := Aside0.mk hr0_4
 have HC0_4 := Aside0.mk hc0_4
 clear hr0_4 hc0_4
 have HR0_6 := Aside0.mk hr0_6
 have HC0_6 := Aside0.mk hc0_6
 clear hr0_6 hc0_6
 have HR0_7 := Aside0.mk hr0_7
 have HC0_7 := Aside0.mk hc0_7
 clear hr0_7 hc0_7
 have HB := Aside0.mk (Below.refl w.heap.size w)
 have H : ((laws_toInt64S.f k l0_4).bind fun t608 => ((laws_toByteS.f k l0_6).bind fun t611 => ((laws_toRelocS.f k l0_7).bind fun t614 => (some (a0_0, a0_1, a0_2, a0_3, t608, a0_5, t611, t614))))) = some (r1, r2, r3, r4, r5, r6, r7, r8) := h
 clear h
 replace H := Option.bind_eq_some_iff.mp H
 obtain ⟨t608, A20, H⟩ := H
 replace H : ((laws_toByteS.f k l0_6).bind fun t611 => ((laws_toRelocS.f k l0_7).bind fun t614 => (some (a0_0, a0_1, a0_2, a0_3, t608, a0_5, t611, t614)))) = some (r1, r2, r3, r4, r5, r6, r7, r8) := H
 have A2 := Aside0.mk A20
 clear A20
 replace H := Option.bind_eq_some_iff.mp H
 obtain ⟨t611, A30, H⟩ := H
 replace H : ((laws_toRelocS.f k l0_7).bind fun t614 => (some (a0_0, a0_1, a0_2, a0_3, t608, a0_5, t611, t614))) = some (r1, r2, r3, r4, r5, r6, r7, r8) := H
 have A3 := Aside0.mk A30
 clear A30
 replace H := Option.bind_eq_some_iff.mp H
 obtain ⟨t614, A40, H⟩ := H
 replace H : (some (a0_0, a0_1, a0_2, a0_3, t608, a0_5, t611, t614)) = some (r1, r2, r3, r4, r5, r6, r7, r8) := H
 have A4 := Aside0.mk A40
 clear A40
 simp only [Option.some.injEq, Prod.mk.injEq] at H
 obtain ⟨rfl, rfl, rfl, rfl, rfl, rfl, rfl, rfl⟩ := H
 go_enter Try.func143, Try.ntmps143
 go_wp2_with (first | ((with_reducible refine gate_dst (N := 1) rfl ?_); refine box_event ?hg (N := 1) ?hd (cs := #[.string a0_0, .int .i64 a0_1, .int .i64 a0_2, .int .i64 a0_3, .slice A0_4 l0_4.length c0_4, .int .i64 a0_5, .slice A0_6 l0_6.length c0_6, .slice A0_7 l0_7.length c0_7]) (t := 191) ?hr ?_; (case hd => rfl); (case hg => rfl); (case hr => first | (go_simp; done) | (go_simp; rfl)); intro gb605 hg w5 hbox hb; have n0_ := Aside0.mk (below_step (by repeat (first | (with_reducible first | exact HB.out | apply below_alloc | apply pw_below_drewN | apply below_drew1) | exact HB.out)) hb); have n1_ := Aside0.mk (hbox); have n2_ := Aside0.mk ((by rw [hg]; exact (below_size (by repeat (first | (with_reducible first | exact HB.out | apply below_alloc | apply pw_below_drewN | apply below_drew1) | exact HB.out))) : w.heap.size ≤ gb605)); have n3_ := Aside0.mk ((by rw [hg]; exact (below_size (by repeat (first | (with_reducible first | exact HB.out | apply below_alloc | apply pw_below_drewN | apply below_drew1) | exact HB.out))) : w.heap.size ≤ gb605)); clear HB; have HB := n0_; have BK605 := n1_; have GW605 := n2_; have GE605 := n3_; clear n0_ n1_ n2_ n3_; clear hb hbox hg) | ((with_reducible refine gate_dst (N := 2) rfl ?_); refine box_event ?hg (N := 2) ?hd (cs := #[.string (⟨#[]⟩ : ByteArray), .int .i64 0, .int .i64 0, .int .i64 0, .slice none 0 0, .int .i64 0, .slice none 0 0, .slice none 0 0]) (t := 130) ?hr ?_; (case hd => rfl); (case hg => rfl); (case hr => first | (go_simp; done) | (go_simp; rfl)); intro gb606 hg w6 hbox hb; have n0_ := Aside0.mk (blk_below (g := gb605) (o := .cells #[.string a0_0, .int .i64 a0_1, .int .i64 a0_2, .int .i64 a0_3, .slice A0_4 l0_4.length c0_4, .int .i64 a0_5, .slice A0_6 l0_6.length c0_6, .slice A0_7 l0_7.length c0_7] 191 (0, 0)) (by (with_reducible repeat (first | refine blk_drewN ?_ _ | refine blk_drew ?_ | refine blk_alloc ?_ _)); exact BK605.out) hb); have n1_ := Aside0.mk (below_step (by repeat (first | (with_reducible first | exact HB.out | apply below_alloc | apply pw_below_drewN | apply below_drew1 | refine below_set ?_ GE605.out) | exact HB.out)) hb); have n2_ := Aside0.mk (hbox); have n3_ := Aside0.mk ((by rw [hg]; exact (below_size (by repeat (first | (with_reducible first | exact HB.out | apply below_alloc | apply pw_below_drewN | apply below_drew1 | refine below_set ?_ GE605.out) | exact HB.out))) : w.heap.size ≤ gb606)); have n4_ := Aside0.mk ((by rw [hg]; exact (below_size (by repeat (first | (with_reducible first | exact HB.out | apply below_alloc | apply pw_below_drewN | apply below_drew1 | refine below_set ?_ GE605.out) | exact HB.out))) : w.heap.size ≤ gb606)); have n5_ := Aside0.mk ((by rw [hg]; exact Nat.ne_of_lt (blk_lt (g := gb605) (o := .cells #[.string a0_0, .int .i64 a0_1, .int .i64 a0_2, .int .i64 a0_3, .slice A0_4 l0_4.length c0_4, .int .i64 a0_5, .slice A0_6 l0_6.length c0_6, .slice A0_7 l0_7.length c0_7] 191 (0, 0)) (by (with_reducible repeat (first | refine blk_drewN ?_ _ | refine blk_drew ?_ | refine blk_alloc ?_ _)); exact BK605.out)) : gb605 ≠ gb606)); have n6_ := Aside0.mk ((by rw [hg]; exact Nat.ne_of_gt (blk_lt (g := gb605) (o := .cells #[.string a0_0, .int .i64 a0_1, .int .i64 a0_2, .int .i64 a0_3, .slice A0_4 l0_4.length c0_4, .int .i64 a0_5, .slice A0_6 l0_6.length c0_6, .slice A0_7 l0_7.length c0_7] 191 (0, 0)) (by (with_reducible repeat (first | refine blk_drewN ?_ _ | refine blk_drew ?_ | refine blk_alloc ?_ _)); exact BK605.out)) : gb606 ≠ gb605)); clear BK605; clear HB; have BK605 := n0_; have HB := n1_; have BK606 := n2_; have GW606 := n3_; have GE606 := n4_; have NB605_606 := n5_; have NB606_605 := n6_; clear n0_ n1_ n2_ n3_ n4_ n5_ n6_; clear hb hbox hg) | ((with_reducible refine gate_dst (N := 3) rfl ?_); refine box_event ?hg (N := 3) ?hd (cs := #[.string (⟨#[]⟩ : ByteArray), .int .i64 0, .int .i64 0, .int .i64 0, .slice none 0 0, .int .i64 0, .slice none 0 0, .slice none 0 0]) (t := 130) ?hr ?_; (case hd => rfl); (case hg => rfl); (case hr => first | (go_simp; done) | (go_simp; rfl)); intro gb607 hg w7 hbox hb; have n0_ := Aside0.mk (blk_below (g := gb605) (o := .cells #[.string a0_0, .int .i64 a0_1, .int .i64 a0_2, .int .i64 a0_3, .slice A0_4 l0_4.length c0_4, .int .i64 a0_5, .slice A0_6 l0_6.length c0_6, .slice A0_7 l0_7.length c0_7] 191 (0, 0)) (by (with_reducible repeat (first | refine blk_drewN ?_ _ | refine blk_drew ?_ | refine blk_alloc ?_ _)); exact BK605.out) hb); have n1_ := Aside0.mk (blk_below (g := gb606) (o := .cells #[.string (⟨#[]⟩ : ByteArray), .int .i64 0, .int .i64 0, .int .i64 0, .slice none 0 0, .int .i64 0, .slice none 0 0, .slice none 0 0] 130 (0, 0)) (by (with_reducible repeat (first | refine blk_drewN ?_ _ | refine blk_drew ?_ | refine blk_alloc ?_ _)); exact BK606.out) hb); have n2_ := Aside0.mk (below_step (by repeat (first | (with_reducible first | exact HB.out | apply below_alloc | apply pw_below_drewN | apply below_drew1 | refine below_set ?_ GE605.out | refine below_set ?_ GE606.out) | exact HB.out)) hb); have n3_ := Aside0.mk (hbox); have n4_ := Aside0.mk ((by rw [hg]; exact (below_size (by repeat (first | (with_reducible first | exact HB.out | apply below_alloc | apply pw_below_drewN | apply below_drew1 | refine below_set ?_ GE605.out | refine below_set ?_ GE606.out) | exact HB.out))) : w.heap.size ≤ gb607)); have n5_ := Aside0.mk ((by rw [hg]; exact (below_size (by repeat (first | (with_reducible first | exact HB.out | apply below_alloc | apply pw_below_drewN | apply below_drew1 | refine below_set ?_ GE605.out | refine below_set ?_ GE606.out) | exact HB.out))) : w.heap.size ≤ gb607)); have n6_ := Aside0.mk ((by rw [hg]; exact Nat.ne_of_lt (blk_lt (g := gb605) (o := .cells #[.string a0_0, .int .i64 a0_1, .int .i64 a0_2, .int .i64 a0_3, .slice A0_4 l0_4.length c0_4, .int .i64 a0_5, .slice A0_6 l0_6.length c0_6, .slice A0_7 l0_7.length c0_7] 191 (0, 0)) (by (with_reducible repeat (first | refine blk_drewN ?_ _ | refine blk_drew ?_ | refine blk_alloc ?_ _)); exact BK605.out)) : gb605 ≠ gb607)); have n7_ := Aside0.mk ((by rw [hg]; exact Nat.ne_of_gt (blk_lt (g := gb605) (o := .cells #[.string a0_0, .int .i64 a0_1, .int .i64 a0_2, .int .i64 a0_3, .slice A0_4 l0_4.length c0_4, .int .i64 a0_5, .slice A0_6 l0_6.length c0_6, .slice A0_7 l0_7.length c0_7] 191 (0, 0)) (by (with_reducible repeat (first | refine blk_drewN ?_ _ | refine blk_drew ?_ | refine blk_alloc ?_ _)); exact BK605.out)) : gb607 ≠ gb605)); have n8_ := Aside0.mk ((by rw [hg]; exact Nat.ne_of_lt (blk_lt (g := gb606) (o := .cells #[.string (⟨#[]⟩ : ByteArray), .int .i64 0, .int .i64 0, .int .i64 0, .slice none 0 0, .int .i64 0, .slice none 0 0, .slice none 0 0] 130 (0, 0)) (by (with_reducible repeat (first | refine blk_drewN ?_ _ | refine blk_drew ?_ | refine blk_alloc ?_ _)); exact BK606.out)) : gb606 ≠ gb607)); have n9_ := Aside0.mk ((by rw [hg]; exact Nat.ne_of_gt (blk_lt (g := gb606) (o := .cells #[.string (⟨#[]⟩ : ByteArray), .int .i64 0, .int .i64 0, .int .i64 0, .slice none 0 0, .int .i64 0, .slice none 0 0, .slice none 0 0] 130 (0, 0)) (by (with_reducible repeat (first | refine blk_drewN ?_ _ | refine blk_drew ?_ | refine blk_alloc ?_ _)); exact BK606.out)) : gb607 ≠ gb606)); clear BK605; clear BK606; clear HB; have BK605 := n0_; have BK606 := n1_; have HB := n2_; have BK607 := n3_; have GW607 := n4_; have GE607 := n5_; have NB605_607 := n6_; have NB607_605 := n7_; have NB606_607 := n8_; have NB607_606 := n9_; clear n0_ n1_ n2_ n3_ n4_ n5_ n6_ n7_ n8_ n9_; clear hb hbox hg; have hnb8 := NB605_606.out; have hnc8 := NB606_605.out; have hnb9 := NB605_607.out; have hnc9 := NB607_605.out; have hcz10_0 : w7.cell? ⟨gb605, 0, none⟩ = some (.string a0_0) := (blk_cell BK605.out 0).trans rfl; have hcz10_1 : w7.cell? ⟨gb605, 1, none⟩ = some (.int .i64 a0_1) := (blk_cell BK605.out 1).trans rfl; have hcz10_2 : w7.cell? ⟨gb605, 2, none⟩ = some (.int .i64 a0_2) := (blk_cell BK605.out 2).trans rfl; have hcz10_3 : w7.cell? ⟨gb605, 3, none⟩ = some (.int .i64 a0_3) := (blk_cell BK605.out 3).trans rfl; have hcz10_4 : w7.cell? ⟨gb605, 4, none⟩ = some (.slice A0_4 l0_4.length c0_4) := (blk_cell BK605.out 4).trans rfl; have hcz10_5 : w7.cell? ⟨gb605, 5, none⟩ = some (.int .i64 a0_5) := (blk_cell BK605.out 5).trans rfl; have hcz10_6 : w7.cell? ⟨gb605, 6, none⟩ = some (.slice A0_6 l0_6.length c0_6) := (blk_cell BK605.out 6).trans rfl; have hcz10_7 : w7.cell? ⟨gb605, 7, none⟩ = some (.slice A0_7 l0_7.length c0_7) := (blk_cell BK605.out 7).trans rfl; have hfz10_0 := blk_frozen BK605.out 0; have hfz10_1 := blk_frozen BK605.out 1; have hfz10_2 := blk_frozen BK605.out 2; have hfz10_3 := blk_frozen BK605.out 3; have hfz10_4 := blk_frozen BK605.out 4; have hfz10_5 := blk_frozen BK605.out 5; have hfz10_6 := blk_frozen BK605.out 6; have hfz10_7 := blk_frozen BK605.out 7; have hnb11 := NB607_606.out; have hnc11 := NB606_607.out; have hcz12_0 : w7.cell? ⟨gb607, 0, none⟩ = some (.string (⟨#[]⟩ : ByteArray)) := (blk_cell BK607.out 0).trans rfl; have hcz12_1 : w7.cell? ⟨gb607, 1, none⟩ = some (.int .i64 0) := (blk_cell BK607.out 1).trans rfl; have hcz12_2 : w7.cell? ⟨gb607, 2, none⟩ = some (.int .i64 0) := (blk_cell BK607.out 2).trans rfl; have hcz12_3 : w7.cell? ⟨gb607, 3, none⟩ = some (.int .i64 0) := (blk_cell BK607.out 3).trans rfl; have hcz12_4 : w7.cell? ⟨gb607, 4, none⟩ = some (.slice none 0 0) := (blk_cell BK607.out 4).trans rfl; have hcz12_5 : w7.cell? ⟨gb607, 5, none⟩ = some (.int .i64 0) := (blk_cell BK607.out 5).trans rfl; have hcz12_6 : w7.cell? ⟨gb607, 6, none⟩ = some (.slice none 0 0) := (blk_cell BK607.out 6).trans rfl; have hcz12_7 : w7.cell? ⟨gb607, 7, none⟩ = some (.slice none 0 0) := (blk_cell BK607.out 7).trans rfl; have hfz12_0 := blk_frozen BK607.out 0; have hfz12_1 := blk_frozen BK607.out 1; have hfz12_2 := blk_frozen BK607.out 2; have hfz12_3 := blk_frozen BK607.out 3; have hfz12_4 := blk_frozen BK607.out 4; have hfz12_5 := blk_frozen BK607.out 5; have hfz12_6 := blk_frozen BK607.out 6; have hfz12_7 := blk_frozen BK607.out 7) | ((with_reducible refine gate_callee (f := 62) rfl ?_); refine goesL_ (some 18) rfl rfl Try.func62 (by kernel_rfl) rfl #[.slice A0_4 l0_4.length c0_4] rfl (by (try simp only [List.map_toArray, List.map_cons, List.map_nil]); first | done | rfl | (simp only [List.length_drop, List.length_take]; rfl)) ?_; (with_reducible refine (laws_toInt64S.calls k _ _ l0_4 t608 _ ?side1 ?side2 A2.out).mono ?_); (case side1 => exact Kd.C_below HR0_4.out (by repeat (first | (with_reducible first | exact HB.out | apply below_alloc | apply pw_below_drewN | apply below_drew1 | refine below_set ?_ GE605.out | refine below_set ?_ GE606.out | refine below_set ?_ GE607.out) | exact HB.out))); (case side2 => exact HC0_4.out); rintro e w13 ⟨v609, rfl, ho0, hb⟩; refine ⟨_, rfl, ?_⟩; have n0_ := Aside0.mk (Kd.R_lower ho0 (below_size (by repeat (first | (with_reducible first | exact HB.out | apply below_alloc | apply pw_below_drewN | apply below_drew1 | refine below_set ?_ GE605.out | refine below_set ?_ GE606.out | refine below_set ?_ GE607.out) | exact HB.out)))); have n1_ := Aside0.mk (blk_below (g := gb605) (o := .cells #[.string a0_0, .int .i64 a0_1, .int .i64 a0_2, .int .i64 a0_3, .slice A0_4 l0_4.length c0_4, .int .i64 a0_5, .slice A0_6 l0_6.length c0_6, .slice A0_7 l0_7.length c0_7] 191 (0, 0)) (by (with_reducible repeat (first | refine blk_drewN ?_ _ | refine blk_drew ?_ | refine blk_alloc ?_ _)); refine blk_far ?_ NB605_607.out _; (with_reducible repeat (first | refine blk_drewN ?_ _ | refine blk_drew ?_ | refine blk_alloc ?_ _)); refine blk_far ?_ NB605_607.out _; (with_reducible repeat (first | refine blk_drewN ?_ _ | refine blk_drew ?_ | refine blk_alloc ?_ _)); refine blk_far ?_ NB605_607.out _; (with_reducible repeat (first | refine blk_drewN ?_ _ | refine blk_drew ?_ | refine blk_alloc ?_ _)); refine blk_far ?_ NB605_607.out _; (with_reducible repeat (first | refine blk_drewN ?_ _ | refine blk_drew ?_ | refine blk_alloc ?_ _)); exact BK605.out) hb); have n2_ := Aside0.mk (blk_below (g := gb606) (o := .cells #[.string (⟨#[]⟩ : ByteArray), .int .i64 0, .int .i64 0, .int .i64 0, .slice none 0 0, .int .i64 0, .slice none 0 0, .slice none 0 0] 130 (0, 0)) (by (with_reducible repeat (first | refine blk_drewN ?_ _ | refine blk_drew ?_ | refine blk_alloc ?_ _)); refine blk_far ?_ NB606_607.out _; (with_reducible repeat (first | refine blk_drewN ?_ _ | refine blk_drew ?_ | refine blk_alloc ?_ _)); refine blk_far ?_ NB606_607.out _; (with_reducible repeat (first | refine blk_drewN ?_ _ | refine blk_drew ?_ | refine blk_alloc ?_ _)); refine blk_far ?_ NB606_607.out _; (with_reducible repeat (first | refine blk_drewN ?_ _ | refine blk_drew ?_ | refine blk_alloc ?_ _)); refine blk_far ?_ NB606_607.out _; (with_reducible repeat (first | refine blk_drewN ?_ _ | refine blk_drew ?_ | refine blk_alloc ?_ _)); exact BK606.out) hb); have n3_ := Aside0.mk (blk_below (g := gb607) (o := .cells #[.string a0_0, .int .i64 a0_1, .int .i64 a0_2, .int .i64 a0_3, .slice none 0 0, .int .i64 0, .slice none 0 0, .slice none 0 0] 130 (0, 0)) (by (with_reducible repeat (first | refine blk_drewN ?_ _ | refine blk_drew ?_ | refine blk_alloc ?_ _)); refine blk_put (cs := #[.string a0_0, .int .i64 a0_1, .int .i64 a0_2, .int .i64 0, .slice none 0 0, .int .i64 0, .slice none 0 0, .slice none 0 0]) ?_ 3 _ rfl; (with_reducible repeat (first | refine blk_drewN ?_ _ | refine blk_drew ?_ | refine blk_alloc ?_ _)); refine blk_put (cs := #[.string a0_0, .int .i64 a0_1, .int .i64 0, .int .i64 0, .slice none 0 0, .int .i64 0, .slice none 0 0, .slice none 0 0]) ?_ 2 _ rfl; (with_reducible repeat (first | refine blk_drewN ?_ _ | refine blk_drew ?_ | refine blk_alloc ?_ _)); refine blk_put (cs := #[.string a0_0, .int .i64 0, .int .i64 0, .int .i64 0, .slice none 0 0, .int .i64 0, .slice none 0 0, .slice none 0 0]) ?_ 1 _ rfl; (with_reducible repeat (first | refine blk_drewN ?_ _ | refine blk_drew ?_ | refine blk_alloc ?_ _)); refine blk_put (cs := #[.string (⟨#[]⟩ : ByteArray), .int .i64 0, .int .i64 0, .int .i64 0, .slice none 0 0, .int .i64 0, .slice none 0 0, .slice none 0 0]) ?_ 0 _ rfl; (with_reducible repeat (first | refine blk_drewN ?_ _ | refine blk_drew ?_ | refine blk_alloc ?_ _)); exact BK607.out) hb); have n4_ := Aside0.mk (below_step (by repeat (first | (with_reducible first | exact HB.out | apply below_alloc | apply pw_below_drewN | apply below_drew1 | refine below_set ?_ GE605.out | refine below_set ?_ GE606.out | refine below_set ?_ GE607.out) | exact HB.out)) hb); clear BK605; clear BK606; clear BK607; clear HB; have HO610 := n0_; have BK605 := n1_; have BK606 := n2_; have BK607 := n3_; have HB := n4_; clear n0_ n1_ n2_ n3_ n4_; (try clear hb); (try clear hb2); (try clear hk); (try clear hi); (try clear ho0); obtain ⟨Ao14, co14, eo14⟩ := Kd.R_slice HO610.out; subst eo14; have hcz15_0 : w13.cell? ⟨gb607, 0, none⟩ = some (.string a0_0) := (blk_cell BK607.out 0).trans rfl; have hcz15_1 : w13.cell? ⟨gb607, 1, none⟩ = some (.int .i64 a0_1) := (blk_cell BK607.out 1).trans rfl; have hcz15_2 : w13.cell? ⟨gb607, 2, none⟩ = some (.int .i64 a0_2) := (blk_cell BK607.out 2).trans rfl; have hcz15_3 : w13.cell? ⟨gb607, 3, none⟩ = some (.int .i64 a0_3) := (blk_cell BK607.out 3).trans rfl; have hcz15_4 : w13.cell? ⟨gb607, 4, none⟩ = some (.slice none 0 0) := (blk_cell BK607.out 4).trans rfl; have hcz15_5 : w13.cell? ⟨gb607, 5, none⟩ = some (.int .i64 0) := (blk_cell BK607.out 5).trans rfl; have hcz15_6 : w13.cell? ⟨gb607, 6, none⟩ = some (.slice none 0 0) := (blk_cell BK607.out 6).trans rfl; have hcz15_7 : w13.cell? ⟨gb607, 7, none⟩ = some (.slice none 0 0) := (blk_cell BK607.out 7).trans rfl; have hfz15_0 := blk_frozen BK607.out 0; have hfz15_1 := blk_frozen BK607.out 1; have hfz15_2 := blk_frozen BK607.out 2; have hfz15_3 := blk_frozen BK607.out 3; have hfz15_4 := blk_frozen BK607.out 4; have hfz15_5 := blk_frozen BK607.out 5; have hfz15_6 := blk_frozen BK607.out 6; have hfz15_7 := blk_frozen BK607.out 7; have hcz16_0 : w13.cell? ⟨gb605, 0, none⟩ = some (.string a0_0) := (blk_cell BK605.out 0).trans rfl; have hcz16_1 : w13.cell? ⟨gb605, 1, none⟩ = some (.int .i64 a0_1) := (blk_cell BK605.out 1).trans rfl; have hcz16_2 : w13.cell? ⟨gb605, 2, none⟩ = some (.int .i64 a0_2) := (blk_cell BK605.out 2).trans rfl; have hcz16_3 : w13.cell? ⟨gb605, 3, none⟩ = some (.int .i64 a0_3) := (blk_cell BK605.out 3).trans rfl; have hcz16_4 : w13.cell? ⟨gb605, 4, none⟩ = some (.slice A0_4 l0_4.length c0_4) := (blk_cell BK605.out 4).trans rfl; have hcz16_5 : w13.cell? ⟨gb605, 5, none⟩ = some (.int .i64 a0_5) := (blk_cell BK605.out 5).trans rfl; have hcz16_6 : w13.cell? ⟨gb605, 6, none⟩ = some (.slice A0_6 l0_6.length c0_6) := (blk_cell BK605.out 6).trans rfl; have hcz16_7 : w13.cell? ⟨gb605, 7, none⟩ = some (.slice A0_7 l0_7.length c0_7) := (blk_cell BK605.out 7).trans rfl; have hfz16_0 := blk_frozen BK605.out 0; have hfz16_1 := blk_frozen BK605.out 1; have hfz16_2 := blk_frozen BK605.out 2; have hfz16_3 := blk_frozen BK605.out 3; have hfz16_4 := blk_frozen BK605.out 4; have hfz16_5 := blk_frozen BK605.out 5; have hfz16_6 := blk_frozen BK605.out 6; have hfz16_7 := blk_frozen BK605.out 7) | ((with_reducible refine gate_callee (f := 50) rfl ?_); refine goesL_ (some 25) rfl rfl Try.func50 (by kernel_rfl) rfl #[.slice A0_6 l0_6.length c0_6] rfl (by (try simp only [List.map_toArray, List.map_cons, List.map_nil]); first | done | rfl | (simp only [List.length_drop, List.length_take]; rfl)) ?_; (with_reducible refine (laws_toByteS.calls k _ _ l0_6 t611 _ ?side1 ?side2 A3.out).mono ?_); (case side1 => exact Kd.C_below HR0_6.out (by repeat (first | (with_reducible first | exact HB.out | apply below_alloc | apply pw_below_drewN | apply below_drew1 | refine below_set ?_ GE605.out | refine below_set ?_ GE606.out | refine below_set ?_ GE607.out) | exact HB.out))); (case side2 => exact HC0_6.out); rintro e w17 ⟨v612, rfl, ho0, hb⟩; refine ⟨_, rfl, ?_⟩; have n0_ := Aside0.mk (Kd.R_below (by (with_reducible repeat (first | apply Kd.R_alloc | apply Kd.R_drewN | apply Kd.R_drew)); exact (Kd.R_mono (Kd.R_far (p := ⟨gb607, 5, none⟩) (Kd.R_far (p := ⟨gb607, 4, none⟩) (Kd.R_types HO610.out BK607.out (by decide)) (fun _ hk => hk.2) (.slice Ao14 t608.length co14)) (fun _ hk => hk.2) (.int .i64 a0_5)) (fun _ h_ => h_.1))) hb); have n1_ := Aside0.mk (Kd.R_lower ho0 (below_size (by repeat (first | (with_reducible first | exact HB.out | apply below_alloc | apply pw_below_drewN | apply below_drew1 | refine below_set ?_ GE605.out | refine below_set ?_ GE606.out | refine below_set ?_ GE607.out) | exact HB.out)))); have n2_ := Aside0.mk (blk_below (g := gb605) (o := .cells #[.string a0_0, .int .i64 a0_1, .int .i64 a0_2, .int .i64 a0_3, .slice A0_4 l0_4.length c0_4, .int .i64 a0_5, .slice A0_6 l0_6.length c0_6, .slice A0_7 l0_7.length c0_7] 191 (0, 0)) (by (with_reducible repeat (first | refine blk_drewN ?_ _ | refine blk_drew ?_ | refine blk_alloc ?_ _)); refine blk_far ?_ NB605_607.out _; (with_reducible repeat (first | refine blk_drewN ?_ _ | refine blk_drew ?_ | refine blk_alloc ?_ _)); refine blk_far ?_ NB605_607.out _; (with_reducible repeat (first | refine blk_drewN ?_ _ | refine blk_drew ?_ | refine blk_alloc ?_ _)); exact BK605.out) hb); have n3_ := Aside0.mk (blk_below (g := gb606) (o := .cells #[.string (⟨#[]⟩ : ByteArray), .int .i64 0, .int .i64 0, .int .i64 0, .slice none 0 0, .int .i64 0, .slice none 0 0, .slice none 0 0] 130 (0, 0)) (by (with_reducible repeat (first | refine blk_drewN ?_ _ | refine blk_drew ?_ | refine blk_alloc ?_ _)); refine blk_far ?_ NB606_607.out _; (with_reducible repeat (first | refine blk_drewN ?_ _ | refine blk_drew ?_ | refine blk_alloc ?_ _)); refine blk_far ?_ NB606_607.out _; (with_reducible repeat (first | refine blk_drewN ?_ _ | refine blk_drew ?_ | refine blk_alloc ?_ _)); exact BK606.out) hb); have n4_ := Aside0.mk (blk_below (g := gb607) (o := .cells #[.string a0_0, .int .i64 a0_1, .int .i64 a0_2, .int .i64 a0_3, .slice Ao14 t608.length co14, .int .i64 a0_5, .slice none 0 0, .slice none 0 0] 130 (0, 0)) (by (with_reducible repeat (first | refine blk_drewN ?_ _ | refine blk_drew ?_ | refine blk_alloc ?_ _)); refine blk_put (cs := #[.string a0_0, .int .i64 a0_1, .int .i64 a0_2, .int .i64 a0_3, .slice Ao14 t608.length co14, .int .i64 0, .slice none 0 0, .slice none 0 0]) ?_ 5 _ rfl; (with_reducible repeat (first | refine blk_drewN ?_ _ | refine blk_drew ?_ | refine blk_alloc ?_ _)); refine blk_put (cs := #[.string a0_0, .int .i64 a0_1, .int .i64 a0_2, .int .i64 a0_3, .slice none 0 0, .int .i64 0, .slice none 0 0, .slice none 0 0]) ?_ 4 _ rfl; (with_reducible repeat (first | refine blk_drewN ?_ _ | refine blk_drew ?_ | refine blk_alloc ?_ _)); exact BK607.out) hb); have n5_ := Aside0.mk (below_step (by repeat (first | (with_reducible first | exact HB.out | apply below_alloc | apply pw_below_drewN | apply below_drew1 | refine below_set ?_ GE605.out | refine below_set ?_ GE606.out | refine below_set ?_ GE607.out) | exact HB.out)) hb); clear HO610; clear BK605; clear BK606; clear BK607; clear HB; have HO610 := n0_; have HO613 := n1_; have BK605 := n2_; have BK606 := n3_; have BK607 := n4_; have HB := n5_; clear n0_ n1_ n2_ n3_ n4_ n5_; (try clear hb); (try clear hb2); (try clear hk); (try clear hi); (try clear ho0); obtain ⟨Ao18, co18, eo18⟩ := Kd.R_slice HO613.out; subst eo18; have hcz19_0 : w17.cell? ⟨gb607, 0, none⟩ = some (.string a0_0) := (blk_cell BK607.out 0).trans rfl; have hcz19_1 : w17.cell? ⟨gb607, 1, none⟩ = some (.int .i64 a0_1) := (blk_cell BK607.out 1).trans rfl; have hcz19_2 : w17.cell? ⟨gb607, 2, none⟩ = some (.int .i64 a0_2) := (blk_cell BK607.out 2).trans rfl; have hcz19_3 : w17.cell? ⟨gb607, 3, none⟩ = some (.int .i64 a0_3) := (blk_cell BK607.out 3).trans rfl; have hcz19_4 : w17.cell? ⟨gb607, 4, none⟩ = some (.slice Ao14 t608.length co14) := (blk_cell BK607.out 4).trans rfl; have hcz19_5 : w17.cell? ⟨gb607, 5, none⟩ = some (.int .i64 a0_5) := (blk_cell BK607.out 5).trans rfl; have hcz19_6 : w17.cell? ⟨gb607, 6, none⟩ = some (.slice none 0 0) := (blk_cell BK607.out 6).trans rfl; have hcz19_7 : w17.cell? ⟨gb607, 7, none⟩ = some (.slice none 0 0) := (blk_cell BK607.out 7).trans rfl; have hfz19_0 := blk_frozen BK607.out 0; have hfz19_1 := blk_frozen BK607.out 1; have hfz19_2 := blk_frozen BK607.out 2; have hfz19_3 := blk_frozen BK607.out 3; have hfz19_4 := blk_frozen BK607.out 4; have hfz19_5 := blk_frozen BK607.out 5; have hfz19_6 := blk_frozen BK607.out 6; have hfz19_7 := blk_frozen BK607.out 7; have hcz20_0 : w17.cell? ⟨gb605, 0, none⟩ = some (.string a0_0) := (blk_cell BK605.out 0).trans rfl; have hcz20_1 : w17.cell? ⟨gb605, 1, none⟩ = some (.int .i64 a0_1) := (blk_cell BK605.out 1).trans rfl; have hcz20_2 : w17.cell? ⟨gb605, 2, none⟩ = some (.int .i64 a0_2) := (blk_cell BK605.out 2).trans rfl; have hcz20_3 : w17.cell? ⟨gb605, 3, none⟩ = some (.int .i64 a0_3) := (blk_cell BK605.out 3).trans rfl; have hcz20_4 : w17.cell? ⟨gb605, 4, none⟩ = some (.slice A0_4 l0_4.length c0_4) := (blk_cell BK605.out 4).trans rfl; have hcz20_5 : w17.cell? ⟨gb605, 5, none⟩ = some (.int .i64 a0_5) := (blk_cell BK605.out 5).trans rfl; have hcz20_6 : w17.cell? ⟨gb605, 6, none⟩ = some (.slice A0_6 l0_6.length c0_6) := (blk_cell BK605.out 6).trans rfl; have hcz20_7 : w17.cell? ⟨gb605, 7, none⟩ = some (.slice A0_7 l0_7.length c0_7) := (blk_cell BK605.out 7).trans rfl; have hfz20_0 := blk_frozen BK605.out 0; have hfz20_1 := blk_frozen BK605.out 1; have hfz20_2 := blk_frozen BK605.out 2; have hfz20_3 := blk_frozen BK605.out 3; have hfz20_4 := blk_frozen BK605.out 4; have hfz20_5 := blk_frozen BK605.out 5; have hfz20_6 := blk_frozen BK605.out 6; have hfz20_7 := blk_frozen BK605.out 7) | ((with_reducible refine gate_callee (f := 181) rfl ?_); refine goesL_ (some 29) rfl rfl Try.func181 (by kernel_rfl) rfl #[.slice A0_7 l0_7.length c0_7] rfl (by (try simp only [List.map_toArray, List.map_cons, List.map_nil]); first | done | rfl | (simp only [List.length_drop, List.length_take]; rfl)) ?_; (with_reducible refine (laws_toRelocS.calls k _ _ l0_7 t614 _ ?side1 ?side2 A4.out).mono ?_); (case side1 => exact Kd.C_below HR0_7.out (by repeat (first | (with_reducible first | exact HB.out | apply below_alloc | apply pw_below_drewN | apply below_drew1 | refine below_set ?_ GE605.out | refine below_set ?_ GE606.out | refine below_set ?_ GE607.out) | exact HB.out))); (case side2 => exact HC0_7.out); rintro e w21 ⟨v615, rfl, ho0, hb⟩; refine ⟨_, rfl, ?_⟩; have n0_ := Aside0.mk (Kd.R_below (by (with_reducible repeat (first | apply Kd.R_alloc | apply Kd.R_drewN | apply Kd.R_drew)); exact (Kd.R_mono (Kd.R_far (p := ⟨gb607, 6, none⟩) (Kd.R_types HO610.out BK607.out (by decide)) (fun _ hk => hk.2) (.slice Ao18 t611.length co18)) (fun _ h_ => h_.1))) hb); have n1_ := Aside0.mk (Kd.R_below (by (with_reducible repeat (first | apply Kd.R_alloc | apply Kd.R_drewN | apply Kd.R_drew)); exact (Kd.R_mono (Kd.R_far (p := ⟨gb607, 6, none⟩) (Kd.R_types HO613.out BK607.out (by decide)) (fun _ hk => hk.2) (.slice Ao18 t611.length co18)) (fun _ h_ => h_.1))) hb); have n2_ := Aside0.mk (Kd.R_lower ho0 (below_size (by repeat (first | (with_reducible first | exact HB.out | apply below_alloc | apply pw_below_drewN | apply below_drew1 | refine below_set ?_ GE605.out | refine below_set ?_ GE606.out | refine below_set ?_ GE607.out) | exact HB.out)))); have n3_ := Aside0.mk (blk_below (g := gb605) (o := .cells #[.string a0_0, .int .i64 a0_1, .int .i64 a0_2, .int .i64 a0_3, .slice A0_4 l0_4.length c0_4, .int .i64 a0_5, .slice A0_6 l0_6.length c0_6, .slice A0_7 l0_7.length c0_7] 191 (0, 0)) (by (with_reducible repeat (first | refine blk_drewN ?_ _ | refine blk_drew ?_ | refine blk_alloc ?_ _)); refine blk_far ?_ NB605_607.out _; (with_reducible repeat (first | refine blk_drewN ?_ _ | refine blk_drew ?_ | refine blk_alloc ?_ _)); exact BK605.out) hb); have n4_ := Aside0.mk (blk_below (g := gb606) (o := .cells #[.string (⟨#[]⟩ : ByteArray), .int .i64 0, .int .i64 0, .int .i64 0, .slice none 0 0, .int .i64 0, .slice none 0 0, .slice none 0 0] 130 (0, 0)) (by (with_reducible repeat (first | refine blk_drewN ?_ _ | refine blk_drew ?_ | refine blk_alloc ?_ _)); refine blk_far ?_ NB606_607.out _; (with_reducible repeat (first | refine blk_drewN ?_ _ | refine blk_drew ?_ | refine blk_alloc ?_ _)); exact BK606.out) hb); have n5_ := Aside0.mk (blk_below (g := gb607) (o := .cells #[.string a0_0, .int .i64 a0_1, .int .i64 a0_2, .int .i64 a0_3, .slice Ao14 t608.length co14, .int .i64 a0_5, .slice Ao18 t611.length co18, .slice none 0 0] 130 (0, 0)) (by (with_reducible repeat (first | refine blk_drewN ?_ _ | refine blk_drew ?_ | refine blk_alloc ?_ _)); refine blk_put (cs := #[.string a0_0, .int .i64 a0_1, .int .i64 a0_2, .int .i64 a0_3, .slice Ao14 t608.length co14, .int .i64 a0_5, .slice none 0 0, .slice none 0 0]) ?_ 6 _ rfl; (with_reducible repeat (first | refine blk_drewN ?_ _ | refine blk_drew ?_ | refine blk_alloc ?_ _)); exact BK607.out) hb); have n6_ := Aside0.mk (below_step (by repeat (first | (with_reducible first | exact HB.out | apply below_alloc | apply pw_below_drewN | apply below_drew1 | refine below_set ?_ GE605.out | refine below_set ?_ GE606.out | refine below_set ?_ GE607.out) | exact HB.out)) hb); clear HO610; clear HO613; clear BK605; clear BK606; clear BK607; clear HB; have HO610 := n0_; have HO613 := n1_; have HO616 := n2_; have BK605 := n3_; have BK606 := n4_; have BK607 := n5_; have HB := n6_; clear n0_ n1_ n2_ n3_ n4_ n5_ n6_; (try clear hb); (try clear hb2); (try clear hk); (try clear hi); (try clear ho0); obtain ⟨Ao22, co22, eo22⟩ := Kd.R_slice HO616.out; subst eo22; have hcz23_0 : w21.cell? ⟨gb607, 0, none⟩ = some (.string a0_0) := (blk_cell BK607.out 0).trans rfl; have hcz23_1 : w21.cell? ⟨gb607, 1, none⟩ = some (.int .i64 a0_1) := (blk_cell BK607.out 1).trans rfl; have hcz23_2 : w21.cell? ⟨gb607, 2, none⟩ = some (.int .i64 a0_2) := (blk_cell BK607.out 2).trans rfl; have hcz23_3 : w21.cell? ⟨gb607, 3, none⟩ = some (.int .i64 a0_3) := (blk_cell BK607.out 3).trans rfl; have hcz23_4 : w21.cell? ⟨gb607, 4, none⟩ = some (.slice Ao14 t608.length co14) := (blk_cell BK607.out 4).trans rfl; have hcz23_5 : w21.cell? ⟨gb607, 5, none⟩ = some (.int .i64 a0_5) := (blk_cell BK607.out 5).trans rfl; have hcz23_6 : w21.cell? ⟨gb607, 6, none⟩ = some (.slice Ao18 t611.length co18) := (blk_cell BK607.out 6).trans rfl; have hcz23_7 : w21.cell? ⟨gb607, 7, none⟩ = some (.slice none 0 0) := (blk_cell BK607.out 7).trans rfl; have hfz23_0 := blk_frozen BK607.out 0; have hfz23_1 := blk_frozen BK607.out 1; have hfz23_2 := blk_frozen BK607.out 2; have hfz23_3 := blk_frozen BK607.out 3; have hfz23_4 := blk_frozen BK607.out 4; have hfz23_5 := blk_frozen BK607.out 5; have hfz23_6 := blk_frozen BK607.out 6; have hfz23_7 := blk_frozen BK607.out 7; have hcz24_0 : w21.cell? ⟨gb606, 0, none⟩ = some (.string (⟨#[]⟩ : ByteArray)) := (blk_cell BK606.out 0).trans rfl; have hcz24_1 : w21.cell? ⟨gb606, 1, none⟩ = some (.int .i64 0) := (blk_cell BK606.out 1).trans rfl; have hcz24_2 : w21.cell? ⟨gb606, 2, none⟩ = some (.int .i64 0) := (blk_cell BK606.out 2).trans rfl; have hcz24_3 : w21.cell? ⟨gb606, 3, none⟩ = some (.int .i64 0) := (blk_cell BK606.out 3).trans rfl; have hcz24_4 : w21.cell? ⟨gb606, 4, none⟩ = some (.slice none 0 0) := (blk_cell BK606.out 4).trans rfl; have hcz24_5 : w21.cell? ⟨gb606, 5, none⟩ = some (.int .i64 0) := (blk_cell BK606.out 5).trans rfl; have hcz24_6 : w21.cell? ⟨gb606, 6, none⟩ = some (.slice none 0 0) := (blk_cell BK606.out 6).trans rfl; have hcz24_7 : w21.cell? ⟨gb606, 7, none⟩ = some (.slice none 0 0) := (blk_cell BK606.out 7).trans rfl; have hfz24_0 := blk_frozen BK606.out 0; have hfz24_1 := blk_frozen BK606.out 1; have hfz24_2 := blk_frozen BK606.out 2; have hfz24_3 := blk_frozen BK606.out 3; have hfz24_4 := blk_frozen BK606.out 4; have hfz24_5 := blk_frozen BK606.out 5; have hfz24_6 := blk_frozen BK606.out 6; have hfz24_7 := blk_frozen BK606.out 7))
 refine bodyPost_ret (results_cell_row rfl _ _ gb606 130 #[.string a0_0, .int .i64 a0_1, .int .i64 a0_2, .int .i64 a0_3, .slice Ao14 t608.length co14, .int .i64 a0_5, .slice Ao18 t611.length co18, .slice Ao22 t614.length co22] (0, 0) _ rfl (by (with_reducible repeat (first | refine blk_drewN ?_ _ | refine blk_drew ?_ | refine blk_alloc ?_ _)); refine blk_put (cs := #[.string a0_0, .int .i64 a0_1, .int .i64 a0_2, .int .i64 a0_3, .slice Ao14 t608.length co14, .int .i64 a0_5, .slice Ao18 t611.length co18, .slice none 0 0]) ?_ 7 _ rfl; (with_reducible repeat (first | refine blk_drewN ?_ _ | refine blk_drew ?_ | refine blk_alloc ?_ _)); refine blk_put (cs := #[.string a0_0, .int .i64 a0_1, .int .i64 a0_2, .int .i64 a0_3, .slice Ao14 t608.length co14, .int .i64 a0_5, .slice none 0 0, .slice none 0 0]) ?_ 6 _ rfl; (with_reducible repeat (first | refine blk_drewN ?_ _ | refine blk_drew ?_ | refine blk_alloc ?_ _)); refine blk_put (cs := #[.string a0_0, .int .i64 a0_1, .int .i64 a0_2, .int .i64 a0_3, .slice Ao14 t608.length co14, .int .i64 0, .slice none 0 0, .slice none 0 0]) ?_ 5 _ rfl; (with_reducible repeat (first | refine blk_drewN ?_ _ | refine blk_drew ?_ | refine blk_alloc ?_ _)); refine blk_put (cs := #[.string a0_0, .int .i64 a0_1, .int .i64 a0_2, .int .i64 a0_3, .slice none 0 0, .int .i64 0, .slice none 0 0, .slice none 0 0]) ?_ 4 _ rfl; (with_reducible repeat (first | refine blk_drewN ?_ _ | refine blk_drew ?_ | refine blk_alloc ?_ _)); refine blk_put (cs := #[.string a0_0, .int .i64 a0_1, .int .i64 a0_2, .int .i64 0, .slice none 0 0, .int .i64 0, .slice none 0 0, .slice none 0 0]) ?_ 3 _ rfl; (with_reducible repeat (first | refine blk_drewN ?_ _ | refine blk_drew ?_ | refine blk_alloc ?_ _)); refine blk_put (cs := #[.string a0_0, .int .i64 a0_1, .int .i64 0, .int .i64 0, .slice none 0 0, .int .i64 0, .slice none 0 0, .slice none 0 0]) ?_ 2 _ rfl; (with_reducible repeat (first | refine blk_drewN ?_ _ | refine blk_drew ?_ | refine blk_alloc ?_ _)); refine blk_put (cs := #[.string a0_0, .int .i64 0, .int .i64 0, .int .i64 0, .slice none 0 0, .int .i64 0, .slice none 0 0, .slice none 0 0]) ?_ 1 _ rfl; (with_reducible repeat (first | refine blk_drewN ?_ _ | refine blk_drew ?_ | refine blk_alloc ?_ _)); refine blk_put (cs := #[.string (⟨#[]⟩ : ByteArray), .int .i64 0, .int .i64 0, .int .i64 0, .slice none 0 0, .int .i64 0, .slice none 0 0, .slice none 0 0]) ?_ 0 _ rfl; (with_reducible repeat (first | refine blk_drewN ?_ _ | refine blk_drew ?_ | refine blk_alloc ?_ _)); refine blk_far ?_ NB606_607.out _; (with_reducible repeat (first | refine blk_drewN ?_ _ | refine blk_drew ?_ | refine blk_alloc ?_ _)); exact BK606.out) Try.underlying130 rfl (by kernel_rfl)) rfl ?_
 exact ⟨_, _, _, by first | rfl | (simp [errW_none, errW_some] <;> rfl) | (simp [*, errW_none, errW_some] <;> rfl), by (with_reducible repeat (first | apply Kd.R_alloc | apply Kd.R_drewN | apply Kd.R_drew)); exact Kd.R_mono (Kd.R_far (p := ⟨gb606, 7, none⟩) (Kd.R_far (p := ⟨gb606, 6, none⟩) (Kd.R_far (p := ⟨gb606, 5, none⟩) (Kd.R_far (p := ⟨gb606, 4, none⟩) (Kd.R_far (p := ⟨gb606, 3, none⟩) (Kd.R_far (p := ⟨gb606, 2, none⟩) (Kd.R_far (p := ⟨gb606, 1, none⟩) (Kd.R_far (p := ⟨gb606, 0, none⟩) (Kd.R_far (p := ⟨gb607, 7, none⟩) (Kd.R_types (Kd.R_types HO610.out BK607.out (by decide)) BK606.out (by decide)) (fun _ hk => hk.1.2) (.slice Ao22 t614.length co22)) (fun _ hk => hk.2) (.string a0_0)) (fun _ hk => hk.2) (.int .i64 a0_1)) (fun _ hk => hk.2) (.int .i64 a0_2)) (fun _ hk => hk.2) (.int .i64 a0_3)) (fun _ hk => hk.2) (.slice Ao14 t608.length co14)) (fun _ hk => hk.2) (.int .i64 a0_5)) (fun _ hk => hk.2) (.slice Ao18 t611.length co18)) (fun _ hk => hk.2) (.slice Ao22 t614.length co22)) (fun _ hk => trivial), by (with_reducible repeat (first | apply Kd.R_alloc | apply Kd.R_drewN | apply Kd.R_drew)); exact Kd.R_mono (Kd.R_far (p := ⟨gb606, 7, none⟩) (Kd.R_far (p := ⟨gb606, 6, none⟩) (Kd.R_far (p := ⟨gb606, 5, none⟩) (Kd.R_far (p := ⟨gb606, 4, none⟩) (Kd.R_far (p := ⟨gb606, 3, none⟩) (Kd.R_far (p := ⟨gb606, 2, none⟩) (Kd.R_far (p := ⟨gb606, 1, none⟩) (Kd.R_far (p := ⟨gb606, 0, none⟩) (Kd.R_far (p := ⟨gb607, 7, none⟩) (Kd.R_types (Kd.R_types HO613.out BK607.out (by decide)) BK606.out (by decide)) (fun _ hk => hk.1.2) (.slice Ao22 t614.length co22)) (fun _ hk => hk.2) (.string a0_0)) (fun _ hk => hk.2) (.int .i64 a0_1)) (fun _ hk => hk.2) (.int .i64 a0_2)) (fun _ hk => hk.2) (.int .i64 a0_3)) (fun _ hk => hk.2) (.slice Ao14 t608.length co14)) (fun _ hk => hk.2) (.int .i64 a0_5)) (fun _ hk => hk.2) (.slice Ao18 t611.length co18)) (fun _ hk => hk.2) (.slice Ao22 t614.length co22)) (fun _ hk => trivial), by (with_reducible repeat (first | apply Kd.R_alloc | apply Kd.R_drewN | apply Kd.R_drew)); exact Kd.R_mono (Kd.R_far (p := ⟨gb606, 7, none⟩) (Kd.R_far (p := ⟨gb606, 6, none⟩) (Kd.R_far (p := ⟨gb606, 5, none⟩) (Kd.R_far (p := ⟨gb606, 4, none⟩) (Kd.R_far (p := ⟨gb606, 3, none⟩) (Kd.R_far (p := ⟨gb606, 2, none⟩) (Kd.R_far (p := ⟨gb606, 1, none⟩) (Kd.R_far (p := ⟨gb606, 0, none⟩) (Kd.R_far (p := ⟨gb607, 7, none⟩) (Kd.R_types (Kd.R_types HO616.out BK607.out (by decide)) BK606.out (by decide)) (fun _ hk => hk.1.2) (.slice Ao22 t614.length co22)) (fun _ hk => hk.2) (.string a0_0)) (fun _ hk => hk.2) (.int .i64 a0_1)) (fun _ hk => hk.2) (.int .i64 a0_2)) (fun _ hk => hk.2) (.int .i64 a0_3)) (fun _ hk => hk.2) (.slice Ao14 t608.length co14)) (fun _ hk => hk.2) (.int .i64 a0_5)) (fun _ hk => hk.2) (.slice Ao18 t611.length co18)) (fun _ hk => hk.2) (.slice Ao22 t614.length co22)) (fun _ hk => trivial), by repeat (first | (with_reducible first | exact HB.out | apply below_alloc | apply pw_below_drewN | apply below_drew1 | refine below_set ?_ GE605.out | refine below_set ?_ GE606.out | refine below_set ?_ GE607.out) | exact HB.out)⟩

end Go.Proofs.Ythegbhfoleiegaa.All


namespace Go.Proofs.Ythegbhfoleiegaa.All
open Go.RowKit Go.Proofs.YthegbhfoleiegaaW.PrintWords Go.Proofs.YthegbhfoleiegaaW.PrintLast Go.Proofs.YthegbhfoleiegaaW.PrintMore
attribute [local go_sem] max2_int min2_int max_two min_two max_three min_three max_four min_four   -- for this text's walks alone
set_option linter.unusedVariables false
set_option linter.unusedSimpArgs false

/-! ### laws_toSectionS: function 99 -/
def laws_toSectionS.l0 : Nat → List (S191) → List (S130) → Int → Option ((List (S130)))
 | 0, _, _, _ => none
 | k + 1, x0, x3, x4 => if x4 < (x0.length : Int) then (if 0 ≤ x4 then ((laws_toSection.f k ((rd_T191 x0 x4).f0) ((rd_T191 x0 x4).f1) ((rd_T191 x0 x4).f2) ((rd_T191 x0 x4).f3) ((rd_T191 x0 x4).f4) ((rd_T191 x0 x4).f5) ((rd_T191 x0 x4).f6) ((rd_T191 x0 x4).f7)).bind fun bt621 => (if x4 < (x3.length : Int) then (laws_toSectionS.l0 k x0 (x3.set (x4 : Int).toNat (⟨bt621.1, bt621.2.1, bt621.2.2.1, bt621.2.2.2.1, bt621.2.2.2.2.1, bt621.2.2.2.2.2.1, bt621.2.2.2.2.2.2.1, bt621.2.2.2.2.2.2.2⟩ : S130)) (wrap64 (x4 + 1))) else (none))) else (none)) else (some x3)
def laws_toSectionS.f (k : Nat) (l0 : List (S191)) : Option ((List (S130))) := if 0 ≤ (l0.length : Int) then (if ((l0.length : Int) : Int).toNat ≤ 2345624805922 then (laws_toSectionS.l0 k l0 (List.replicate ((l0.length : Int) : Int).toNat z130) 0) else (none)) else (none)
set_option maxHeartbeats 8000000 in
set_option maxRecDepth 100000 in
theorem laws_toSectionS.calls (k : Nat) (A0 : Option Addr) (c0 : Nat) (l0 : List (S191)) (r : List (S130)) (w : World) (hr0 : Kd.C k191 w A0 l0.length l0) (hc0 : l0.length ≤ c0) (h : laws_toSectionS.f k l0 = some r) :
 Calls Try.prog 99 #[.slice A0 l0.length c0] w fun e w' => ∃ v0_ : Value, e = .returned (v0_) ∧ Kd.S k130 130 w' w.heap.size (fun _ => True) v0_ r ∧ Below w.heap.size w w' := by
 have hu191 := Try.underlying191
 have hu130 := Try.underlying130
 have HR0 := Aside0.mk hr0
 have HC0 := Aside0.mk hc0
 clear hr0 hc0
 have HB := Aside0.mk (Below.refl w.heap.size w)
 have H : (if 0 ≤ (l0.length : Int) then (if ((l0.length : Int) : Int).toNat ≤ 2345624805922 then (laws_toSectionS.l0 k l0 (List.replicate ((l0.length : Int) : Int).toNat z130) 0) else (none)) else (none)) = some r := h
 clear h
 by_cases c2 : 0 ≤ (l0.length : Int)
 · rw [if_pos c2] at H
   have c2b0 := eq_true c2
   have c2b1 : decide (0 ≤ (l0.length : Int)) = true := decide_eq_true c2
   clear c2
   by_cases c3 : ((l0.length : Int) : Int).toNat ≤ 2345624805922
   · rw [if_pos c3] at H
     have c3b0 := eq_true c3
     have c3b1 : decide (((l0.length : Int) : Int).toNat ≤ 2345624805922) = true := decide_eq_true c3
     clear c3
     obtain ⟨y617, hy617⟩ : ∃ y_ : List (S130), y_ = (List.replicate ((l0.length : Int) : Int).toNat z130) := ⟨_, rfl⟩
     replace H : (laws_toSectionS.l0 k l0 y617 0) = some r := by first | (rw [hy617]; with_reducible exact H) | (have H2_ := (Option.bind_some _ _).symm.trans H; rw [hy617]; with_reducible exact H2_) | (have H2_ := (Option.bind_some _ _).symm.trans H; with_reducible exact H2_) | with_reducible exact H | (rw [hy617]; exact H) | exact H
     have Ny617 := Aside0.mk hy617
     clear hy617
     have H' := Aside0.mk H
     clear H
     go_enter Try.func99, Try.ntmps99
     go_wp2_with (first | ((with_reducible refine gate_dst (N := 7) rfl ?_); refine Kd.S_make k130 _ 130 rfl (N := 7) rfl 66 _ _ rfl (l0.length : Int) rfl rfl Try.underlying66 (.agg #[(.string ⟨#[]⟩), (.int .i64 0), (.int .i64 0), (.int .i64 0), (.slice none 0 0), (.int .i64 0), (.slice none 0 0), (.slice none 0 0)]) 120 info130 rfl (by decide) (by omega) z130 (ok := fun _ => True) (okp := fun _ => True) (k130_mkM _ _ _ z130 (Kd.R_nil _ _ _ _ _) (Kd.R_nil _ _ _ _ _) (Kd.R_nil _ _ _ _ _)) (fun _ hk => hk) trivial (of_decide_eq_true (by first | (with_reducible assumption) | assumption)) (Nat.le_trans (Nat.mul_le_mul_right _ (of_decide_eq_true (by first | (with_reducible assumption) | assumption) : (l0.length : Int).toNat ≤ 2345624805922)) (by omega)) (Below.refl _ _) (Nat.le_refl _) ?_; intro v618 w4 ho5 hb hg_ hnew_; clear hg_ hnew_; (first | rw [← Ny617.out] at ho5 | (simp only [Int.reduceToNat] at ho5; rw [← Ny617.out] at ho5)); have n0_ := Aside0.mk (Kd.S_lower ho5 (below_size (by repeat (first | (with_reducible first | exact HB.out | apply below_alloc | apply pw_below_drewN | apply below_drew1) | exact HB.out)))); have n1_ := Aside0.mk (below_step (by repeat (first | (with_reducible first | exact HB.out | apply below_alloc | apply pw_below_drewN | apply below_drew1) | exact HB.out)) hb); clear HB; have HO619 := n0_; have HB := n1_; clear n0_ n1_; clear hb ho5))
     go_loopg [4] k (fun kq v4 w' => ∃ (x3_1 : List (S130)) (x4_1 : Int), v4 = .int .i64 x4_1 ∧ Aside0 (laws_toSectionS.l0 kq l0 x3_1 x4_1 = some r) ∧ Aside0 (kq ≤ k) ∧ Aside0 (Kd.S k130 130 w' w.heap.size (fun _ => True) v618 x3_1) ∧ Aside0 (Below w.heap.size w w'))
     case atStart => exact ⟨(y617), (0), (by first | rfl | (simp; done) | (simp [*]; done)), H', ⟨Nat.le_refl _⟩, ⟨by (with_reducible repeat (first | apply Kd.S_alloc | apply Kd.S_drewN | apply Kd.S_drew)); exact HO619.out⟩, ⟨by repeat (first | (with_reducible first | exact HB.out | apply below_alloc | apply pw_below_drewN | apply below_drew1) | exact HB.out)⟩⟩
     case round =>
      clear H'
      try clear c2
      try clear c2b0
      try clear c2b1
      try clear p2
      try clear c3
      try clear c3b0
      try clear c3b1
      obtain ⟨x3_1, x4_1, rfl, HA, HK1, HO_3, HB⟩ := hrel
      cases gk with
      | zero => exact absurd HA.out (by simp [laws_toSectionS.l0])
      | succ k1 =>
       have H := HA.out
       clear HA
       simp only [laws_toSectionS.l0] at H
       by_cases c6 : x4_1 < (l0.length : Int)
       · rw [if_pos c6] at H
         have c6b0 : decide (x4_1 < (l0.length : Int)) = true := decide_eq_true c6
         clear c6
         by_cases c7 : 0 ≤ x4_1
         · rw [if_pos c7] at H
           have c7b0 : decide (0 ≤ x4_1) = true := decide_eq_true c7
           clear c7
           replace H := Option.bind_eq_some_iff.mp H
           obtain ⟨⟨t621, t622, t623, t624, t625, t628, t629, t632⟩, A80, H⟩ := H
           replace H : (if x4_1 < (x3_1.length : Int) then (laws_toSectionS.l0 k1 l0 (x3_1.set (x4_1 : Int).toNat (⟨t621, t622, t623, t624, t625, t628, t629, t632⟩ : S130)) (wrap64 (x4_1 + 1))) else (none)) = some r := H
           have A8 := Aside0.mk A80
           clear A80
           by_cases c9 : x4_1 < (x3_1.length : Int)
           · rw [if_pos c9] at H
             have c9b0 : decide (x4_1 < (x3_1.length : Int)) = true := decide_eq_true c9
             clear c9
             obtain ⟨y635, hy635⟩ : ∃ y_ : List (S130), y_ = (x3_1.set (x4_1 : Int).toNat (⟨t621, t622, t623, t624, t625, t628, t629, t632⟩ : S130)) := ⟨_, rfl⟩
             replace H : (laws_toSectionS.l0 k1 l0 y635 (wrap64 (x4_1 + 1))) = some r := by first | (rw [hy635]; with_reducible exact H) | (have H2_ := (Option.bind_some _ _).symm.trans H; rw [hy635]; with_reducible exact H2_) | (have H2_ := (Option.bind_some _ _).symm.trans H; with_reducible exact H2_) | with_reducible exact H | (rw [hy635]; exact H) | exact H
             have Ny635 := Aside0.mk hy635
             clear hy635
             have H' := Aside0.mk H
             clear H
             have p620 : 0 ≤ (x4_1 : Int) := of_decide_eq_true (by first | (with_reducible assumption) | assumption)
             have q620 : x4_1 < (l0.length : Int) := of_decide_eq_true (by first | (with_reducible assumption) | assumption)
             obtain ⟨ad620, A620_4, c620_4, A620_6, c620_6, A620_7, c620_7, e620, hx620_0, hx620_1, hx620_2, hx620_3, hx620_4, hx620_5, hx620_6, hx620_7, hl620_4, hi620_4, hl620_6, hi620_6, hl620_7, hi620_7⟩ := at_T191 HR0.out x4_1 p620 q620
             cases e620
             replace hx620_0 := (HB.out.cell (World.block_lt_of_cell? w _ hx620_0)).trans hx620_0
             replace hx620_1 := (HB.out.cell (World.block_lt_of_cell? w _ hx620_1)).trans hx620_1
             replace hx620_2 := (HB.out.cell (World.block_lt_of_cell? w _ hx620_2)).trans hx620_2
             replace hx620_3 := (HB.out.cell (World.block_lt_of_cell? w _ hx620_3)).trans hx620_3
             replace hx620_4 := (HB.out.cell (World.block_lt_of_cell? w _ hx620_4)).trans hx620_4
             replace hx620_5 := (HB.out.cell (World.block_lt_of_cell? w _ hx620_5)).trans hx620_5
             replace hx620_6 := (HB.out.cell (World.block_lt_of_cell? w _ hx620_6)).trans hx620_6
             replace hx620_7 := (HB.out.cell (World.block_lt_of_cell? w _ hx620_7)).trans hx620_7
             have HR620_4 := Aside0.mk hi620_4
             have HC620_4 := Aside0.mk hl620_4
             clear hi620_4 hl620_4
             have HR620_6 := Aside0.mk hi620_6
             have HC620_6 := Aside0.mk hl620_6
             clear hi620_6 hl620_6
             have HR620_7 := Aside0.mk hi620_7
             have HC620_7 := Aside0.mk hl620_7
             clear hi620_7 hl620_7
             replace p620 := eq_true p620
             replace q620 := eq_true q620
             go_wp2_with (first | ((with_reducible refine gate_callee (f := 143) rfl ?_); refine goesL_ (some 20) rfl rfl Try.func143 (by kernel_rfl) rfl #[.agg #[.string ((rd_T191 l0 x4_1).f0), .int .i64 ((rd_T191 l0 x4_1).f1), .int .i64 ((rd_T191 l0 x4_1).f2), .int .i64 ((rd_T191 l0 x4_1).f3), .slice A620_4 ((rd_T191 l0 x4_1).f4).length c620_4, .int .i64 ((rd_T191 l0 x4_1).f5), .slice A620_6 ((rd_T191 l0 x4_1).f6).length c620_6, .slice A620_7 ((rd_T191 l0 x4_1).f7).length c620_7]] rfl (by (try simp only [List.map_toArray, List.map_cons, List.map_nil]); first | done | rfl | (simp only [List.length_drop, List.length_take]; rfl)) ?_; (with_reducible refine (laws_toSection.calls k1 ((rd_T191 l0 x4_1).f0) ((rd_T191 l0 x4_1).f1) ((rd_T191 l0 x4_1).f2) ((rd_T191 l0 x4_1).f3) _ _ ((rd_T191 l0 x4_1).f4) ((rd_T191 l0 x4_1).f5) _ _ ((rd_T191 l0 x4_1).f6) _ _ ((rd_T191 l0 x4_1).f7) t621 t622 t623 t624 t625 t628 t629 t632 _ ?side1 ?side2 ?side3 ?side4 ?side5 ?side6 A8.out).mono ?_); (case side1 => repeat (first | exact (Kd.C_below HR620_4.out HB.out) | (with_reducible refine Kd.C_alloc ?_ _) | (with_reducible refine Kd.C_drewN ?_ _) | (with_reducible refine Kd.C_drew ?_))); (case side2 => exact HC620_4.out); (case side3 => repeat (first | exact (Kd.C_below HR620_6.out HB.out) | (with_reducible refine Kd.C_alloc ?_ _) | (with_reducible refine Kd.C_drewN ?_ _) | (with_reducible refine Kd.C_drew ?_))); (case side4 => exact HC620_6.out); (case side5 => repeat (first | exact (Kd.C_below HR620_7.out HB.out) | (with_reducible refine Kd.C_alloc ?_ _) | (with_reducible refine Kd.C_drewN ?_ _) | (with_reducible refine Kd.C_drew ?_))); (case side6 => exact HC620_7.out); rintro e w11 ⟨v626, v630, v633, rfl, ho0, ho1, ho2, hb⟩; refine ⟨_, rfl, ?_⟩; have n0_ := Aside0.mk (Kd.S_mono (Kd.S_told (Kd.S_told (Kd.S_told (Kd.S_old (by (with_reducible repeat (first | apply Kd.S_alloc | apply Kd.S_drewN | apply Kd.S_drew)); exact HO_3.out) hb) (Kd.R_base ho0)) (Kd.R_base ho1)) (Kd.R_base ho2)) (fun _ h_ => h_.1)); have n1_ := Aside0.mk (Kd.R_lower ho0 (below_size (by repeat (first | (with_reducible first | exact HB.out | apply below_alloc | apply pw_below_drewN | apply below_drew1) | exact HB.out)))); have n2_ := Aside0.mk (Kd.R_lower ho1 (below_size (by repeat (first | (with_reducible first | exact HB.out | apply below_alloc | apply pw_below_drewN | apply below_drew1) | exact HB.out)))); have n3_ := Aside0.mk (Kd.R_lower ho2 (below_size (by repeat (first | (with_reducible first | exact HB.out | apply below_alloc | apply pw_below_drewN | apply below_drew1) | exact HB.out)))); have n4_ := Aside0.mk (below_step (by repeat (first | (with_reducible first | exact HB.out | apply below_alloc | apply pw_below_drewN | apply below_drew1) | exact HB.out)) hb); clear HO_3; clear HB; have HO_3 := n0_; have HO627 := n1_; have HO631 := n2_; have HO634 := n3_; have HB := n4_; clear n0_ n1_ n2_ n3_ n4_; (try clear hb); (try clear hb2); (try clear hk); (try clear hi); (try clear ho0); (try clear ho1); (try clear ho2); have p10 : 0 ≤ (x4_1 : Int) := of_decide_eq_true (by first | (with_reducible assumption) | assumption); have q10 : (x4_1 : Int) < ((x3_1.length : Int) : Int) := of_decide_eq_true (by first | (with_reducible assumption) | assumption); obtain ⟨go10, co10, eo10, gb10, gl10, cl10, HG10⟩ := Kd.S_form HO_3.out (by omega); (first | cases eo10 | (injection eo10 with ea_ en_ ec_; (first | subst ea_ | (injection ea_ with ea_; subst ea_)); subst ec_; clear en_)); have GB10 := Aside0.mk gb10; have GG10 := Aside0.mk HG10; clear gb10 gl10 HG10; obtain ⟨_, ce10, hcl10, hM10, hcc10, hfr10, _, _⟩ := Kd.S_elem HO_3.out z130 (x4_1 : Int) p10 q10; obtain ⟨ve10_4, ve10_6, ve10_7, rfl, ge10_4, ge10_6, ge10_7⟩ := k130_openM hM10; have hx10_0 : w11.cell? ⟨go10, (x4_1 : Int).toNat * 8, none⟩ = some (.string ((rd_T130 x3_1 x4_1).f0)) := hcc10 0 _ rfl; have hx10_1 : w11.cell? ⟨go10, (x4_1 : Int).toNat * 8 + 1, none⟩ = some (.int .i64 ((rd_T130 x3_1 x4_1).f1)) := hcc10 1 _ rfl; have hx10_2 : w11.cell? ⟨go10, (x4_1 : Int).toNat * 8 + 2, none⟩ = some (.int .i64 ((rd_T130 x3_1 x4_1).f2)) := hcc10 2 _ rfl; have hx10_3 : w11.cell? ⟨go10, (x4_1 : Int).toNat * 8 + 3, none⟩ = some (.int .i64 ((rd_T130 x3_1 x4_1).f3)) := hcc10 3 _ rfl; have hx10_4 : w11.cell? ⟨go10, (x4_1 : Int).toNat * 8 + 4, none⟩ = some (ve10_4) := hcc10 4 _ rfl; have hx10_5 : w11.cell? ⟨go10, (x4_1 : Int).toNat * 8 + 5, none⟩ = some (.int .i64 ((rd_T130 x3_1 x4_1).f5)) := hcc10 5 _ rfl; have hx10_6 : w11.cell? ⟨go10, (x4_1 : Int).toNat * 8 + 6, none⟩ = some (ve10_6) := hcc10 6 _ rfl; have hx10_7 : w11.cell? ⟨go10, (x4_1 : Int).toNat * 8 + 7, none⟩ = some (ve10_7) := hcc10 7 _ rfl; have hf10_0 : w11.frozen? ⟨go10, (x4_1 : Int).toNat * 8, none⟩ = false := hfr10 0; have hf10_1 : w11.frozen? ⟨go10, (x4_1 : Int).toNat * 8 + 1, none⟩ = false := hfr10 1; have hf10_2 : w11.frozen? ⟨go10, (x4_1 : Int).toNat * 8 + 2, none⟩ = false := hfr10 2; have hf10_3 : w11.frozen? ⟨go10, (x4_1 : Int).toNat * 8 + 3, none⟩ = false := hfr10 3; have hf10_4 : w11.frozen? ⟨go10, (x4_1 : Int).toNat * 8 + 4, none⟩ = false := hfr10 4; have hf10_5 : w11.frozen? ⟨go10, (x4_1 : Int).toNat * 8 + 5, none⟩ = false := hfr10 5; have hf10_6 : w11.frozen? ⟨go10, (x4_1 : Int).toNat * 8 + 6, none⟩ = false := hfr10 6; have hf10_7 : w11.frozen? ⟨go10, (x4_1 : Int).toNat * 8 + 7, none⟩ = false := hfr10 7; clear hcl10 hcc10 hfr10 hM10; replace p10 := eq_true p10; replace q10 := eq_true q10; have n_ := Aside0.mk (Kd.S_mono (ok' := (fun k_ => some k_ ≠ (v626 : Value).ownBlock ∧ some k_ ≠ (v630 : Value).ownBlock ∧ some k_ ≠ (v633 : Value).ownBlock)) HO_3.out (fun k_ hk => ⟨hk.1.1.2, ⟨hk.1.2, hk.2⟩⟩)); clear HO_3; have HO_3 := n_; clear n_; have HX12 := Aside0.mk (show Kd.S k130 130 w11 w.heap.size (fun k_ => ((fun _ => True)) k_ ∧ ¬ ((fun k_ => some k_ = (v626 : Value).ownBlock ∨ some k_ = (v630 : Value).ownBlock ∨ some k_ = (v633 : Value).ownBlock)) k_) (.slice (some ⟨go10, 0, none⟩) x3_1.length co10) x3_1 from (by (with_reducible repeat (first | apply Kd.S_alloc | apply Kd.S_drewN | apply Kd.S_drew)); exact Kd.S_mono HO_3.out (fun k_ hk => ⟨trivial, fun e_ => e_.elim (fun h_ => hk.1 h_) (fun h_ => h_.elim (fun h_ => hk.2.1 h_) (fun h_ => hk.2.2 h_))⟩))); obtain ⟨oki12, ce12, hcl12, hM12, hcc12, hfr12, hoki12, hH12⟩ := Kd.S_elem HX12.out z130 (x4_1 : Int) (of_decide_eq_true (by first | (with_reducible assumption) | assumption)) (by have h_ : (x4_1 : Int) < ((x3_1.length : Int) : Int) := of_decide_eq_true (by first | (with_reducible assumption) | assumption); first | exact h_ | (have e_ := (Kd.S_reads' HO_3.out).1; omega) | simpa using h_); obtain ⟨ve12_4, ve12_6, ve12_7, rfl, ge12_4, ge12_6, ge12_7⟩ := k130_openM hM12; have HP12 := Kd.S_seg hH12 (of_decide_eq_true (by first | (with_reducible assumption) | assumption)) (by have h_ : (x4_1 : Int) < ((x3_1.length : Int) : Int) := of_decide_eq_true (by first | (with_reducible assumption) | assumption); first | exact h_ | (have e_ := (Kd.S_reads' HO_3.out).1; omega) | simpa using h_) (seg := [.string t621, .int .i64 t622, .int .i64 t623, .int .i64 t624, v626, .int .i64 t628, v630, v633]) (j := 0) (show 8 ≤ 8 from by decide) (x' := (⟨t621, t622, t623, t624, t625, t628, t629, t632⟩ : S130)) (k130_mkM _ _ _ (⟨t621, t622, t623, t624, t625, t628, t629, t632⟩ : S130) (Kd.R_mono (Kd.R_tight rfl (Kd.R_mono (ok' := fun k_ => ((fun _ => True)) k_ ∧ k_ ≠ go10) (Kd.R_apart' (HO627.out) (Kd.S_typed HO_3.out) (by decide)) (fun k_ hk => ⟨trivial, fun e_ => (hk.2) (by rw [e_]; rfl)⟩))) (fun _ h_ => Or.inr (Or.inl h_))) (Kd.R_mono (Kd.R_tight rfl (Kd.R_mono (ok' := fun k_ => ((fun _ => True)) k_ ∧ k_ ≠ go10) (Kd.R_apart' (HO631.out) (Kd.S_typed HO_3.out) (by decide)) (fun k_ hk => ⟨trivial, fun e_ => (hk.2) (by rw [e_]; rfl)⟩))) (fun _ h_ => Or.inr (Or.inr (Or.inl h_)))) (Kd.R_mono (Kd.R_tight rfl (Kd.R_mono (ok' := fun k_ => ((fun _ => True)) k_ ∧ k_ ≠ go10) (Kd.R_apart' (HO634.out) (Kd.S_typed HO_3.out) (by decide)) (fun k_ hk => ⟨trivial, fun e_ => (hk.2) (by rw [e_]; rfl)⟩))) (fun _ h_ => Or.inr (Or.inr (Or.inr (h_)))))) (fun _ hk => hk) (fun k_ hk_ => hk_.elim (fun h_ => ((Kd.R_mono (ok' := fun k_ => ((fun _ => True)) k_ ∧ k_ ≠ go10) (Kd.R_apart' (HO627.out) (Kd.S_typed HO_3.out) (by decide)) (fun k_ hk => ⟨trivial, fun e_ => (hk.2) (by rw [e_]; rfl)⟩))).1 k_ h_.symm) (fun h_ => h_.elim (fun h_ => ((Kd.R_mono (ok' := fun k_ => ((fun _ => True)) k_ ∧ k_ ≠ go10) (Kd.R_apart' (HO631.out) (Kd.S_typed HO_3.out) (by decide)) (fun k_ hk => ⟨trivial, fun e_ => (hk.2) (by rw [e_]; rfl)⟩))).1 k_ h_.symm) (fun h_ => ((Kd.R_mono (ok' := fun k_ => ((fun _ => True)) k_ ∧ k_ ≠ go10) (Kd.R_apart' (HO634.out) (Kd.S_typed HO_3.out) (by decide)) (fun k_ hk => ⟨trivial, fun e_ => (hk.2) (by rw [e_]; rfl)⟩))).1 k_ h_.symm))); have hx12_0 := hcc12 0 _ rfl; (try simp only [show (k130).sz = 8 from rfl, Nat.mul_one, Nat.add_zero] at hx12_0); have hf12_0 := hfr12 0; (try simp only [show (k130).sz = 8 from rfl, Nat.mul_one, Nat.add_zero] at hf12_0); have hx12_1 := hcc12 1 _ rfl; (try simp only [show (k130).sz = 8 from rfl, Nat.mul_one, Nat.add_zero] at hx12_1); have hf12_1 := hfr12 1; (try simp only [show (k130).sz = 8 from rfl, Nat.mul_one, Nat.add_zero] at hf12_1); have hx12_2 := hcc12 2 _ rfl; (try simp only [show (k130).sz = 8 from rfl, Nat.mul_one, Nat.add_zero] at hx12_2); have hf12_2 := hfr12 2; (try simp only [show (k130).sz = 8 from rfl, Nat.mul_one, Nat.add_zero] at hf12_2); have hx12_3 := hcc12 3 _ rfl; (try simp only [show (k130).sz = 8 from rfl, Nat.mul_one, Nat.add_zero] at hx12_3); have hf12_3 := hfr12 3; (try simp only [show (k130).sz = 8 from rfl, Nat.mul_one, Nat.add_zero] at hf12_3); have hx12_4 := hcc12 4 _ rfl; (try simp only [show (k130).sz = 8 from rfl, Nat.mul_one, Nat.add_zero] at hx12_4); have hf12_4 := hfr12 4; (try simp only [show (k130).sz = 8 from rfl, Nat.mul_one, Nat.add_zero] at hf12_4); have hx12_5 := hcc12 5 _ rfl; (try simp only [show (k130).sz = 8 from rfl, Nat.mul_one, Nat.add_zero] at hx12_5); have hf12_5 := hfr12 5; (try simp only [show (k130).sz = 8 from rfl, Nat.mul_one, Nat.add_zero] at hf12_5); have hx12_6 := hcc12 6 _ rfl; (try simp only [show (k130).sz = 8 from rfl, Nat.mul_one, Nat.add_zero] at hx12_6); have hf12_6 := hfr12 6; (try simp only [show (k130).sz = 8 from rfl, Nat.mul_one, Nat.add_zero] at hf12_6); have hx12_7 := hcc12 7 _ rfl; (try simp only [show (k130).sz = 8 from rfl, Nat.mul_one, Nat.add_zero] at hx12_7); have hf12_7 := hfr12 7; (try simp only [show (k130).sz = 8 from rfl, Nat.mul_one, Nat.add_zero] at hf12_7); clear hcl12 hcc12 hfr12 hM12 hoki12 hH12) | ((with_reducible refine gate_store (t := 130) (p := 21) rfl ?_); (try have st12_4 := fun (a_ : Addr) (m_ : Mode) (W_ : World) => run_store Try.prog W_ a_ v626 m_ (Kd.R_val HO627.out).2); (try have st12_6 := fun (a_ : Addr) (m_ : Mode) (W_ : World) => run_store Try.prog W_ a_ v630 m_ (Kd.R_val HO631.out).2); (try have st12_7 := fun (a_ : Addr) (m_ : Mode) (W_ : World) => run_store Try.prog W_ a_ v633 m_ (Kd.R_val HO634.out).2); refine store_event (t := 130) (p := 21) (v := ?vo_w13) (w1 := ((((((((w11.setCell ⟨go10, (x4_1 : Int).toNat * 8, none⟩ (.string t621)).setCell ⟨go10, (x4_1 : Int).toNat * 8 + 1, none⟩ (.int .i64 t622)).setCell ⟨go10, (x4_1 : Int).toNat * 8 + 2, none⟩ (.int .i64 t623)).setCell ⟨go10, (x4_1 : Int).toNat * 8 + 3, none⟩ (.int .i64 t624)).setCell ⟨go10, (x4_1 : Int).toNat * 8 + 4, none⟩ (v626)).setCell ⟨go10, (x4_1 : Int).toNat * 8 + 5, none⟩ (.int .i64 t628)).setCell ⟨go10, (x4_1 : Int).toNat * 8 + 6, none⟩ (v630)).setCell ⟨go10, (x4_1 : Int).toNat * 8 + 7, none⟩ (v633))) ?hg ?ho ?hn ?hr ?_; (case ho => rfl); (case hg => rfl); (case hn => rfl); (case hr => first | (go_simp; done) | (go_simp; rfl)); intro w13 hw; have hg : w11.grownBy w13 (some go10) := (by rw [hw]; exact HP12.2); have hp_ : Kd.S k130 130 w13 w.heap.size (fun _ => True) (.slice (some ⟨go10, 0, none⟩) x3_1.length co10) y635 := (by rw [hw, Ny635.out]; exact HP12.1); clear HP12; (try clear st12_4); (try clear st12_6); (try clear st12_7); have n0_ := Aside0.mk (hp_); have n1_ := Aside0.mk ((by rw [hw]; exact below_set (below_set (below_set (below_set (below_set (below_set (below_set (below_set (HB.out) GB10.out) GB10.out) GB10.out) GB10.out) GB10.out) GB10.out) GB10.out) GB10.out : Below w.heap.size w w13)); clear HO_3; clear HB; clear HO627; clear HO631; clear HO634; have HO_3 := n0_; have HB := n1_; clear n0_ n1_; clear hg hw hp_))
             go_roundg k1
             case measure => have := HK1.out; omega
             case rel => exact ⟨(y635), (wrap64 (x4_1 + 1)), (by first | rfl | (simp; done) | (simp [*]; done)), H', ⟨by have := HK1.out; omega⟩, ⟨by (with_reducible repeat (first | apply Kd.S_alloc | apply Kd.S_drewN | apply Kd.S_drew)); exact HO_3.out⟩, ⟨by repeat (first | (with_reducible first | exact HB.out | apply below_alloc | apply pw_below_drewN | apply below_drew1) | exact HB.out)⟩⟩
           · rw [if_neg c9] at H
             exact absurd H (by simp)
         · rw [if_neg c7] at H
           exact absurd H (by simp)
       · rw [if_neg c6] at H
         have c6b0 : decide (x4_1 < (l0.length : Int)) = false := decide_eq_false c6
         clear c6
         obtain rfl := Option.some.inj H
         go_wp2
         go_ret
         exact ⟨_, by first | rfl | (simp [errW_none, errW_some] <;> rfl) | (simp [*, errW_none, errW_some] <;> rfl), by (with_reducible repeat (first | apply Kd.S_alloc | apply Kd.S_drewN | apply Kd.S_drew)); exact HO_3.out, by repeat (first | (with_reducible first | exact HB.out | apply below_alloc | apply pw_below_drewN | apply below_drew1) | exact HB.out)⟩
   · rw [if_neg c3] at H
     exact absurd H (by simp)
 · rw [if_neg c2] at H
   exact absurd H (by simp)

end Go.Proofs.Ythegbhfoleiegaa.All


namespace Go.Proofs.Ythegbhfoleiegaa.All
open Go.RowKit Go.Proofs.YthegbhfoleiegaaW.PrintWords Go.Proofs.YthegbhfoleiegaaW.PrintLast Go.Proofs.YthegbhfoleiegaaW.PrintMore
attribute [local go_sem] max2_int min2_int max_two min_two max_three min_three max_four min_four   -- for this text's walks alone
set_option linter.unusedVariables false
set_option linter.unusedSimpArgs false

/-! ### laws_toObject: function 46 -/
def laws_toObject.f (k : Nat) (l0_0 : List (S191)) : Option ((List (S130))) := (laws_toSectionS.f k l0_0).bind fun t639 => (some t639)
set_option maxHeartbeats 8000000 in
set_option maxRecDepth 100000 in
theorem laws_toObject.calls (k : Nat) (A0_0 : Option Addr) (c0_0 : Nat) (l0_0 : List (S191)) (r : List (S130)) (w : World) (hr0_0 : Kd.C k191 w A0_0 l0_0.length l0_0) (hc0_0 : l0_0.length ≤ c0_0) (h : laws_toObject.f k l0_0 = some r) :
 Calls Try.prog 46 #[.agg #[.slice A0_0 l0_0.length c0_0]] w fun e w' => ∃ v0_ : Value, e = .returned (.agg #[v0_]) ∧ Kd.S k130 130 w' w.heap.size (fun _ => True) v0_ r ∧ Below w.heap.size w w' := by
 have hu63 := Try.underlying63
 have hu68 := Try.underlying68
 have HR0_0 := Aside0.mk hr0_0
 have HC0_0 := Aside0.mk hc0_0
 clear hr0_0 hc0_0
 have HB := Aside0.mk (Below.refl w.heap.size w)
 have H : ((laws_toSectionS.f k l0_0).bind fun t639 => (some t639)) = some r := h
 clear h
 replace H := Option.bind_eq_some_iff.mp H
 obtain ⟨t639, A20, H⟩ := H
 replace H : (some t639) = some r := H
 have A2 := Aside0.mk A20
 clear A20
 obtain rfl := Option.some.inj H
 go_enter Try.func46, Try.ntmps46
 go_wp2_with (first | ((with_reducible refine gate_dst (N := 1) rfl ?_); refine box_event ?hg (N := 1) ?hd (cs := #[.slice A0_0 l0_0.length c0_0]) (t := 63) ?hr ?_; (case hd => rfl); (case hg => rfl); (case hr => first | (go_simp; done) | (go_simp; rfl)); intro gb636 hg w3 hbox hb; have n0_ := Aside0.mk (below_step (by repeat (first | (with_reducible first | exact HB.out | apply below_alloc | apply pw_below_drewN | apply below_drew1) | exact HB.out)) hb); have n1_ := Aside0.mk (hbox); have n2_ := Aside0.mk ((by rw [hg]; exact (below_size (by repeat (first | (with_reducible first | exact HB.out | apply below_alloc | apply pw_below_drewN | apply below_drew1) | exact HB.out))) : w.heap.size ≤ gb636)); have n3_ := Aside0.mk ((by rw [hg]; exact (below_size (by repeat (first | (with_reducible first | exact HB.out | apply below_alloc | apply pw_below_drewN | apply below_drew1) | exact HB.out))) : w.heap.size ≤ gb636)); clear HB; have HB := n0_; have BK636 := n1_; have GW636 := n2_; have GE636 := n3_; clear n0_ n1_ n2_ n3_; clear hb hbox hg) | ((with_reducible refine gate_dst (N := 2) rfl ?_); refine box_event ?hg (N := 2) ?hd (cs := #[.slice none 0 0]) (t := 68) ?hr ?_; (case hd => rfl); (case hg => rfl); (case hr => first | (go_simp; done) | (go_simp; rfl)); intro gb637 hg w4 hbox hb; have n0_ := Aside0.mk (blk_below (g := gb636) (o := .cells #[.slice A0_0 l0_0.length c0_0] 63 (0, 0)) (by (with_reducible repeat (first | refine blk_drewN ?_ _ | refine blk_drew ?_ | refine blk_alloc ?_ _)); exact BK636.out) hb); have n1_ := Aside0.mk (below_step (by repeat (first | (with_reducible first | exact HB.out | apply below_alloc | apply pw_below_drewN | apply below_drew1 | refine below_set ?_ GE636.out) | exact HB.out)) hb); have n2_ := Aside0.mk (hbox); have n3_ := Aside0.mk ((by rw [hg]; exact (below_size (by repeat (first | (with_reducible first | exact HB.out | apply below_alloc | apply pw_below_drewN | apply below_drew1 | refine below_set ?_ GE636.out) | exact HB.out))) : w.heap.size ≤ gb637)); have n4_ := Aside0.mk ((by rw [hg]; exact (below_size (by repeat (first | (with_reducible first | exact HB.out | apply below_alloc | apply pw_below_drewN | apply below_drew1 | refine below_set ?_ GE636.out) | exact HB.out))) : w.heap.size ≤ gb637)); have n5_ := Aside0.mk ((by rw [hg]; exact Nat.ne_of_lt (blk_lt (g := gb636) (o := .cells #[.slice A0_0 l0_0.length c0_0] 63 (0, 0)) (by (with_reducible repeat (first | refine blk_drewN ?_ _ | refine blk_drew ?_ | refine blk_alloc ?_ _)); exact BK636.out)) : gb636 ≠ gb637)); have n6_ := Aside0.mk ((by rw [hg]; exact Nat.ne_of_gt (blk_lt (g := gb636) (o := .cells #[.slice A0_0 l0_0.length c0_0] 63 (0, 0)) (by (with_reducible repeat (first | refine blk_drewN ?_ _ | refine blk_drew ?_ | refine blk_alloc ?_ _)); exact BK636.out)) : gb637 ≠ gb636)); clear BK636; clear HB; have BK636 := n0_; have HB := n1_; have BK637 := n2_; have GW637 := n3_; have GE637 := n4_; have NB636_637 := n5_; have NB637_636 := n6_; clear n0_ n1_ n2_ n3_ n4_ n5_ n6_; clear hb hbox hg) | ((with_reducible refine gate_dst (N := 3) rfl ?_); refine box_event ?hg (N := 3) ?hd (cs := #[.slice none 0 0]) (t := 68) ?hr ?_; (case hd => rfl); (case hg => rfl); (case hr => first | (go_simp; done) | (go_simp; rfl)); intro gb638 hg w5 hbox hb; have n0_ := Aside0.mk (blk_below (g := gb636) (o := .cells #[.slice A0_0 l0_0.length c0_0] 63 (0, 0)) (by (with_reducible repeat (first | refine blk_drewN ?_ _ | refine blk_drew ?_ | refine blk_alloc ?_ _)); exact BK636.out) hb); have n1_ := Aside0.mk (blk_below (g := gb637) (o := .cells #[.slice none 0 0] 68 (0, 0)) (by (with_reducible repeat (first | refine blk_drewN ?_ _ | refine blk_drew ?_ | refine blk_alloc ?_ _)); exact BK637.out) hb); have n2_ := Aside0.mk (below_step (by repeat (first | (with_reducible first | exact HB.out | apply below_alloc | apply pw_below_drewN | apply below_drew1 | refine below_set ?_ GE636.out | refine below_set ?_ GE637.out) | exact HB.out)) hb); have n3_ := Aside0.mk (hbox); have n4_ := Aside0.mk ((by rw [hg]; exact (below_size (by repeat (first | (with_reducible first | exact HB.out | apply below_alloc | apply pw_below_drewN | apply below_drew1 | refine below_set ?_ GE636.out | refine below_set ?_ GE637.out) | exact HB.out))) : w.heap.size ≤ gb638)); have n5_ := Aside0.mk ((by rw [hg]; exact (below_size (by repeat (first | (with_reducible first | exact HB.out | apply below_alloc | apply pw_below_drewN | apply below_drew1 | refine below_set ?_ GE636.out | refine below_set ?_ GE637.out) | exact HB.out))) : w.heap.size ≤ gb638)); have n6_ := Aside0.mk ((by rw [hg]; exact Nat.ne_of_lt (blk_lt (g := gb636) (o := .cells #[.slice A0_0 l0_0.length c0_0] 63 (0, 0)) (by (with_reducible repeat (first | refine blk_drewN ?_ _ | refine blk_drew ?_ | refine blk_alloc ?_ _)); exact BK636.out)) : gb636 ≠ gb638)); have n7_ := Aside0.mk ((by rw [hg]; exact Nat.ne_of_gt (blk_lt (g := gb636) (o := .cells #[.slice A0_0 l0_0.length c0_0] 63 (0, 0)) (by (with_reducible repeat (first | refine blk_drewN ?_ _ | refine blk_drew ?_ | refine blk_alloc ?_ _)); exact BK636.out)) : gb638 ≠ gb636)); have n8_ := Aside0.mk ((by rw [hg]; exact Nat.ne_of_lt (blk_lt (g := gb637) (o := .cells #[.slice none 0 0] 68 (0, 0)) (by (with_reducible repeat (first | refine blk_drewN ?_ _ | refine blk_drew ?_ | refine blk_alloc ?_ _)); exact BK637.out)) : gb637 ≠ gb638)); have n9_ := Aside0.mk ((by rw [hg]; exact Nat.ne_of_gt (blk_lt (g := gb637) (o := .cells #[.slice none 0 0] 68 (0, 0)) (by (with_reducible repeat (first | refine blk_drewN ?_ _ | refine blk_drew ?_ | refine blk_alloc ?_ _)); exact BK637.out)) : gb638 ≠ gb637)); clear BK636; clear BK637; clear HB; have BK636 := n0_; have BK637 := n1_; have HB := n2_; have BK638 := n3_; have GW638 := n4_; have GE638 := n5_; have NB636_638 := n6_; have NB638_636 := n7_; have NB637_638 := n8_; have NB638_637 := n9_; clear n0_ n1_ n2_ n3_ n4_ n5_ n6_ n7_ n8_ n9_; clear hb hbox hg; have hnb6 := NB636_637.out; have hnc6 := NB637_636.out; have hnb7 := NB636_638.out; have hnc7 := NB638_636.out; have hcz8_0 : w5.cell? ⟨gb636, 0, none⟩ = some (.slice A0_0 l0_0.length c0_0) := (blk_cell BK636.out 0).trans rfl; have hfz8_0 := blk_frozen BK636.out 0) | ((with_reducible refine gate_callee (f := 99) rfl ?_); refine goesL_ (some 6) rfl rfl Try.func99 (by kernel_rfl) rfl #[.slice A0_0 l0_0.length c0_0] rfl (by (try simp only [List.map_toArray, List.map_cons, List.map_nil]); first | done | rfl | (simp only [List.length_drop, List.length_take]; rfl)) ?_; (with_reducible refine (laws_toSectionS.calls k _ _ l0_0 t639 _ ?side1 ?side2 A2.out).mono ?_); (case side1 => repeat (first | exact (Kd.C_below HR0_0.out HB.out) | (with_reducible refine Kd.C_alloc ?_ _) | (with_reducible refine Kd.C_drewN ?_ _) | (with_reducible refine Kd.C_drew ?_))); (case side2 => exact HC0_0.out); rintro e w9 ⟨v640, rfl, ho0, hb⟩; refine ⟨_, rfl, ?_⟩; have n0_ := Aside0.mk (Kd.S_lower ho0 (below_size (by repeat (first | (with_reducible first | exact HB.out | apply below_alloc | apply pw_below_drewN | apply below_drew1 | refine below_set ?_ GE636.out | refine below_set ?_ GE637.out | refine below_set ?_ GE638.out) | exact HB.out)))); have n1_ := Aside0.mk (blk_below (g := gb636) (o := .cells #[.slice A0_0 l0_0.length c0_0] 63 (0, 0)) (by (with_reducible repeat (first | refine blk_drewN ?_ _ | refine blk_drew ?_ | refine blk_alloc ?_ _)); exact BK636.out) hb); have n2_ := Aside0.mk (blk_below (g := gb637) (o := .cells #[.slice none 0 0] 68 (0, 0)) (by (with_reducible repeat (first | refine blk_drewN ?_ _ | refine blk_drew ?_ | refine blk_alloc ?_ _)); exact BK637.out) hb); have n3_ := Aside0.mk (blk_below (g := gb638) (o := .cells #[.slice none 0 0] 68 (0, 0)) (by (with_reducible repeat (first | refine blk_drewN ?_ _ | refine blk_drew ?_ | refine blk_alloc ?_ _)); exact BK638.out) hb); have n4_ := Aside0.mk (below_step (by repeat (first | (with_reducible first | exact HB.out | apply below_alloc | apply pw_below_drewN | apply below_drew1 | refine below_set ?_ GE636.out | refine below_set ?_ GE637.out | refine below_set ?_ GE638.out) | exact HB.out)) hb); clear BK636; clear BK637; clear BK638; clear HB; have HO641 := n0_; have BK636 := n1_; have BK637 := n2_; have BK638 := n3_; have HB := n4_; clear n0_ n1_ n2_ n3_ n4_; (try clear hb); (try clear hb2); (try clear hk); (try clear hi); (try clear ho0); obtain ⟨Ao10, co10, eo10⟩ := Kd.S_slice HO641.out; subst eo10; have hnb11 := NB638_637.out; have hnc11 := NB637_638.out; have hcz12_0 : w9.cell? ⟨gb638, 0, none⟩ = some (.slice none 0 0) := (blk_cell BK638.out 0).trans rfl; have hfz12_0 := blk_frozen BK638.out 0; have hcz13_0 : w9.cell? ⟨gb637, 0, none⟩ = some (.slice none 0 0) := (blk_cell BK637.out 0).trans rfl; have hfz13_0 := blk_frozen BK637.out 0))
 refine bodyPost_ret (results_cell_row rfl _ _ gb637 68 #[.slice Ao10 t639.length co10] (0, 0) _ rfl (by (with_reducible repeat (first | refine blk_drewN ?_ _ | refine blk_drew ?_ | refine blk_alloc ?_ _)); refine blk_put (cs := #[.slice none 0 0]) ?_ 0 _ rfl; (with_reducible repeat (first | refine blk_drewN ?_ _ | refine blk_drew ?_ | refine blk_alloc ?_ _)); refine blk_far ?_ NB637_638.out _; (with_reducible repeat (first | refine blk_drewN ?_ _ | refine blk_drew ?_ | refine blk_alloc ?_ _)); exact BK637.out) Try.underlying68 rfl (by kernel_rfl)) rfl ?_
 exact ⟨_, by first | rfl | (simp [errW_none, errW_some] <;> rfl) | (simp [*, errW_none, errW_some] <;> rfl), by (with_reducible repeat (first | apply Kd.S_alloc | apply Kd.S_drewN | apply Kd.S_drew)); exact Kd.S_mono (Kd.S_far (p := ⟨gb637, 0, none⟩) (Kd.S_far (p := ⟨gb638, 0, none⟩) (Kd.S_types (Kd.S_types HO641.out BK638.out (by decide)) BK637.out (by decide)) (fun _ hk => hk.1.2) (.slice Ao10 t639.length co10)) (fun _ hk => hk.2) (.slice Ao10 t639.length co10)) (fun _ hk => trivial), by repeat (first | (with_reducible first | exact HB.out | apply below_alloc | apply pw_below_drewN | apply below_drew1 | refine below_set ?_ GE636.out | refine below_set ?_ GE637.out | refine below_set ?_ GE638.out) | exact HB.out)⟩

end Go.Proofs.Ythegbhfoleiegaa.All


namespace Go.Proofs.Ythegbhfoleiegaa.All
open Go.RowKit Go.Proofs.YthegbhfoleiegaaW.PrintWords Go.Proofs.YthegbhfoleiegaaW.PrintLast Go.Proofs.YthegbhfoleiegaaW.PrintMore
attribute [local go_sem] max2_int min2_int max_two min_two max_three min_three max_four min_four   -- for this text's walks alone
set_option linter.unusedVariables false
set_option linter.unusedSimpArgs false

/-! ### laws_toObjectS: function 35 -/
def laws_toObjectS.l0 : Nat → List (S63) → List (S68) → Int → Option ((List (S68)))
 | 0, _, _, _ => none
 | k + 1, x0, x3, x4 => if x4 < (x0.length : Int) then (if 0 ≤ x4 then ((laws_toObject.f k ((rd_T63 x0 x4).f0)).bind fun t646 => (if x4 < (x3.length : Int) then (laws_toObjectS.l0 k x0 (x3.set (x4 : Int).toNat (⟨t646⟩ : S68)) (wrap64 (x4 + 1))) else (none))) else (none)) else (some x3)
def laws_toObjectS.f (k : Nat) (l0 : List (S63)) : Option ((List (S68))) := if 0 ≤ (l0.length : Int) then (if ((l0.length : Int) : Int).toNat ≤ 11728124029610 then (laws_toObjectS.l0 k l0 (List.replicate ((l0.length : Int) : Int).toNat z68) 0) else (none)) else (none)
set_option maxHeartbeats 8000000 in
set_option maxRecDepth 100000 in
theorem laws_toObjectS.calls (k : Nat) (A0 : Option Addr) (c0 : Nat) (l0 : List (S63)) (r : List (S68)) (w : World) (hr0 : Kd.C k63 w A0 l0.length l0) (hc0 : l0.length ≤ c0) (h : laws_toObjectS.f k l0 = some r) :
 Calls Try.prog 35 #[.slice A0 l0.length c0] w fun e w' => ∃ v0_ : Value, e = .returned (v0_) ∧ Kd.R k68 68 w' w.heap.size (fun _ => True) v0_ r ∧ Below w.heap.size w w' := by
 have hu63 := Try.underlying63
 have hu68 := Try.underlying68
 have HR0 := Aside0.mk hr0
 have HC0 := Aside0.mk hc0
 clear hr0 hc0
 have HB := Aside0.mk (Below.refl w.heap.size w)
 have H : (if 0 ≤ (l0.length : Int) then (if ((l0.length : Int) : Int).toNat ≤ 11728124029610 then (laws_toObjectS.l0 k l0 (List.replicate ((l0.length : Int) : Int).toNat z68) 0) else (none)) else (none)) = some r := h
 clear h
 by_cases c2 : 0 ≤ (l0.length : Int)
 · rw [if_pos c2] at H
   have c2b0 := eq_true c2
   have c2b1 : decide (0 ≤ (l0.length : Int)) = true := decide_eq_true c2
   clear c2
   by_cases c3 : ((l0.length : Int) : Int).toNat ≤ 11728124029610
   · rw [if_pos c3] at H
     have c3b0 := eq_true c3
     have c3b1 : decide (((l0.length : Int) : Int).toNat ≤ 11728124029610) = true := decide_eq_true c3
     clear c3
     obtain ⟨y642, hy642⟩ : ∃ y_ : List (S68), y_ = (List.replicate ((l0.length : Int) : Int).toNat z68) := ⟨_, rfl⟩
     replace H : (laws_toObjectS.l0 k l0 y642 0) = some r := by first | (rw [hy642]; with_reducible exact H) | (have H2_ := (Option.bind_some _ _).symm.trans H; rw [hy642]; with_reducible exact H2_) | (have H2_ := (Option.bind_some _ _).symm.trans H; with_reducible exact H2_) | with_reducible exact H | (rw [hy642]; exact H) | exact H
     have Ny642 := Aside0.mk hy642
     clear hy642
     have H' := Aside0.mk H
     clear H
     go_enter Try.func35, Try.ntmps35
     go_wp2_with (first | ((with_reducible refine gate_dst (N := 7) rfl ?_); refine Kd.R_make k68 _ 68 rfl (N := 7) rfl 52 _ _ rfl (l0.length : Int) rfl rfl Try.underlying52 (.agg #[(.slice none 0 0)]) 24 info68 rfl (by decide) (by omega) z68 (ok := fun _ => True) (okp := fun _ => True) (k68_mkM _ _ _ z68 (Kd.R_nil _ _ _ _ _)) (fun _ hk => hk) trivial (of_decide_eq_true (by first | (with_reducible assumption) | assumption)) (Nat.le_trans (Nat.mul_le_mul_right _ (of_decide_eq_true (by first | (with_reducible assumption) | assumption) : (l0.length : Int).toNat ≤ 11728124029610)) (by omega)) (Below.refl _ _) (Nat.le_refl _) ?_; intro v643 w4 ho5 hb hg_ hnew_; clear hg_ hnew_; (first | rw [← Ny642.out] at ho5 | (simp only [Int.reduceToNat] at ho5; rw [← Ny642.out] at ho5)); have n0_ := Aside0.mk (Kd.R_lower ho5 (below_size (by repeat (first | (with_reducible first | exact HB.out | apply below_alloc | apply pw_below_drewN | apply below_drew1) | exact HB.out)))); have n1_ := Aside0.mk (below_step (by repeat (first | (with_reducible first | exact HB.out | apply below_alloc | apply pw_below_drewN | apply below_drew1) | exact HB.out)) hb); clear HB; have HO644 := n0_; have HB := n1_; clear n0_ n1_; clear hb ho5))
     go_loopg [4] k (fun kq v4 w' => ∃ (x3_1 : List (S68)) (x4_1 : Int), v4 = .int .i64 x4_1 ∧ Aside0 (laws_toObjectS.l0 kq l0 x3_1 x4_1 = some r) ∧ Aside0 (kq ≤ k) ∧ Aside0 (Kd.R k68 68 w' w.heap.size (fun _ => True) v643 x3_1) ∧ Aside0 (Below w.heap.size w w'))
     case atStart => exact ⟨(y642), (0), (by first | rfl | (simp; done) | (simp [*]; done)), H', ⟨Nat.le_refl _⟩, ⟨by (with_reducible repeat (first | apply Kd.R_alloc | apply Kd.R_drewN | apply Kd.R_drew)); exact HO644.out⟩, ⟨by repeat (first | (with_reducible first | exact HB.out | apply below_alloc | apply pw_below_drewN | apply below_drew1) | exact HB.out)⟩⟩
     case round =>
      clear H'
      try clear c2
      try clear c2b0
      try clear c2b1
      try clear p2
      try clear c3
      try clear c3b0
      try clear c3b1
      obtain ⟨x3_1, x4_1, rfl, HA, HK1, HO_3, HB⟩ := hrel
      cases gk with
      | zero => exact absurd HA.out (by simp [laws_toObjectS.l0])
      | succ k1 =>
       have H := HA.out
       clear HA
       simp only [laws_toObjectS.l0] at H
       by_cases c6 : x4_1 < (l0.length : Int)
       · rw [if_pos c6] at H
         have c6b0 : decide (x4_1 < (l0.length : Int)) = true := decide_eq_true c6
         clear c6
         by_cases c7 : 0 ≤ x4_1
         · rw [if_pos c7] at H
           have c7b0 : decide (0 ≤ x4_1) = true := decide_eq_true c7
           clear c7
           replace H := Option.bind_eq_some_iff.mp H
           obtain ⟨t646, A80, H⟩ := H
           replace H : (if x4_1 < (x3_1.length : Int) then (laws_toObjectS.l0 k1 l0 (x3_1.set (x4_1 : Int).toNat (⟨t646⟩ : S68)) (wrap64 (x4_1 + 1))) else (none)) = some r := H
           have A8 := Aside0.mk A80
           clear A80
           by_cases c9 : x4_1 < (x3_1.length : Int)
           · rw [if_pos c9] at H
             have c9b0 : decide (x4_1 < (x3_1.length : Int)) = true := decide_eq_true c9
             clear c9
             obtain ⟨y649, hy649⟩ : ∃ y_ : List (S68), y_ = (x3_1.set (x4_1 : Int).toNat (⟨t646⟩ : S68)) := ⟨_, rfl⟩
             replace H : (laws_toObjectS.l0 k1 l0 y649 (wrap64 (x4_1 + 1))) = some r := by first | (rw [hy649]; with_reducible exact H) | (have H2_ := (Option.bind_some _ _).symm.trans H; rw [hy649]; with_reducible exact H2_) | (have H2_ := (Option.bind_some _ _).symm.trans H; with_reducible exact H2_) | with_reducible exact H | (rw [hy649]; exact H) | exact H
             have Ny649 := Aside0.mk hy649
             clear hy649
             have H' := Aside0.mk H
             clear H
             have p645 : 0 ≤ (x4_1 : Int) := of_decide_eq_true (by first | (with_reducible assumption) | assumption)
             have q645 : x4_1 < (l0.length : Int) := of_decide_eq_true (by first | (with_reducible assumption) | assumption)
             obtain ⟨ad645, A645_0, c645_0, e645, hx645_0, hl645_0, hi645_0⟩ := at_T63 HR0.out x4_1 p645 q645
             cases e645
             replace hx645_0 := (HB.out.cell (World.block_lt_of_cell? w _ hx645_0)).trans hx645_0
             have HR645_0 := Aside0.mk hi645_0
             have HC645_0 := Aside0.mk hl645_0
             clear hi645_0 hl645_0
             replace p645 := eq_true p645
             replace q645 := eq_true q645
             go_wp2_with (first | ((with_reducible refine gate_callee (f := 46) rfl ?_); refine goesL_ (some 20) rfl rfl Try.func46 (by kernel_rfl) rfl #[.agg #[.slice A645_0 ((rd_T63 l0 x4_1).f0).length c645_0]] rfl (by (try simp only [List.map_toArray, List.map_cons, List.map_nil]); first | done | rfl | (simp only [List.length_drop, List.length_take]; rfl)) ?_; (with_reducible refine (laws_toObject.calls k1 _ _ ((rd_T63 l0 x4_1).f0) t646 _ ?side1 ?side2 A8.out).mono ?_); (case side1 => repeat (first | exact (Kd.C_below HR645_0.out HB.out) | (with_reducible refine Kd.C_alloc ?_ _) | (with_reducible refine Kd.C_drewN ?_ _) | (with_reducible refine Kd.C_drew ?_))); (case side2 => exact HC645_0.out); rintro e w11 ⟨v647, rfl, ho0, hb⟩; refine ⟨_, rfl, ?_⟩; have n0_ := Aside0.mk (Kd.R_elder' (by (with_reducible repeat (first | apply Kd.R_alloc | apply Kd.R_drewN | apply Kd.R_drew)); exact HO_3.out) (Kd.S_base ho0) hb); have n1_ := Aside0.mk (Kd.S_lower ho0 (below_size (by repeat (first | (with_reducible first | exact HB.out | apply below_alloc | apply pw_below_drewN | apply below_drew1) | exact HB.out)))); have n2_ := Aside0.mk (below_step (by repeat (first | (with_reducible first | exact HB.out | apply below_alloc | apply pw_below_drewN | apply below_drew1) | exact HB.out)) hb); clear HO_3; clear HB; have HO_3 := n0_; have HO648 := n1_; have HB := n2_; clear n0_ n1_ n2_; (try clear hb); (try clear hb2); (try clear hk); (try clear hi); (try clear ho0); have p10 : 0 ≤ (x4_1 : Int) := of_decide_eq_true (by first | (with_reducible assumption) | assumption); have q10 : (x4_1 : Int) < ((x3_1.length : Int) : Int) := of_decide_eq_true (by first | (with_reducible assumption) | assumption); obtain ⟨go10, co10, eo10, gb10, gl10, cl10, HG10⟩ := Kd.R_form HO_3.out (by omega); (first | cases eo10 | (injection eo10 with ea_ en_ ec_; (first | subst ea_ | (injection ea_ with ea_; subst ea_)); subst ec_; clear en_)); have GB10 := Aside0.mk gb10; have GG10 := Aside0.mk HG10; clear gb10 gl10 HG10; obtain ⟨ce10, hcl10, hM10, hcc10, hfr10⟩ := Kd.R_elem HO_3.out z68 (x4_1 : Int) p10 q10; obtain ⟨ve10_0, rfl, ge10_0⟩ := k68_openM hM10; have hx10_0 := hcc10 0 _ rfl; have hf10_0 := hfr10 0; (try simp only [show (k68).sz = 1 from rfl, Nat.mul_one, Nat.add_zero] at hx10_0); (try simp only [show (k68).sz = 1 from rfl, Nat.mul_one, Nat.add_zero] at hf10_0); clear hcl10 hcc10 hfr10 hM10; replace p10 := eq_true p10; replace q10 := eq_true q10; have n_ := Aside0.mk (Kd.R_mono (ok' := (fun k_ => some k_ ≠ (v647 : Value).ownBlock)) HO_3.out (fun k_ hk => hk.2)); clear HO_3; have HO_3 := n_; clear n_; have HX12 := Aside0.mk (show Kd.R k68 68 w11 w.heap.size (fun _ => True) (.slice (some ⟨go10, 0, none⟩) x3_1.length co10) x3_1 from (by (with_reducible repeat (first | apply Kd.R_alloc | apply Kd.R_drewN | apply Kd.R_drew)); exact Kd.R_mono HO_3.out (fun _ hk => trivial))); obtain ⟨ce12, hcl12, hM12, hcc12, hfr12⟩ := Kd.R_elem HX12.out z68 (x4_1 : Int) (of_decide_eq_true (by first | (with_reducible assumption) | assumption)) (by have h_ : (x4_1 : Int) < ((x3_1.length : Int) : Int) := of_decide_eq_true (by first | (with_reducible assumption) | assumption); first | exact h_ | (have e_ := (Kd.R_reads' HO_3.out).1; omega) | simpa using h_); obtain ⟨ve12_0, rfl, ge12_0⟩ := k68_openM hM12; have HP12 := Kd.R_seg HX12.out (x4_1 : Int) (of_decide_eq_true (by first | (with_reducible assumption) | assumption)) (by have h_ : (x4_1 : Int) < ((x3_1.length : Int) : Int) := of_decide_eq_true (by first | (with_reducible assumption) | assumption); first | exact h_ | (have e_ := (Kd.R_reads' HO_3.out).1; omega) | simpa using h_) (seg := [v647]) (j := 0) hcl12 hcc12 (show 1 ≤ 1 from by decide) (x' := (⟨t646⟩ : S68)) (k68_mkM _ _ _ (⟨t646⟩ : S68) (Kd.R_mono (Kd.R_apart' ((Kd.S_R HO648.out)) (Kd.R_typed HO_3.out) (by decide)) (fun k_ hk => ⟨trivial, fun e_ => (hk.2) (by rw [e_]; rfl)⟩))) (fun _ hk => hk); have hx12_0 := hcc12 0 _ rfl; (try simp only [show (k68).sz = 1 from rfl, Nat.mul_one, Nat.add_zero] at hx12_0); have hf12_0 := hfr12 0; (try simp only [show (k68).sz = 1 from rfl, Nat.mul_one, Nat.add_zero] at hf12_0); clear hcl12 hcc12 hfr12 hM12; (try simp only [show (k68).sz = 1 from rfl, Nat.mul_one, Nat.add_zero] at HP12)) | ((with_reducible refine gate_store (t := 68) (p := 21) rfl ?_); (try have st12_0 := fun (a_ : Addr) (m_ : Mode) (W_ : World) => run_store Try.prog W_ a_ v647 m_ (Kd.R_val (Kd.S_R HO648.out)).2); refine store_event (t := 68) (p := 21) (v := ?vo_w13) (w1 := (w11.setCell ⟨go10, (x4_1 : Int).toNat, none⟩ (v647))) ?hg ?ho ?hn ?hr ?_; (case ho => rfl); (case hg => rfl); (case hn => rfl); (case hr => first | (go_simp; done) | (go_simp; rfl)); intro w13 hw; have hg : w11.grownBy w13 (some go10) := (by rw [hw]; exact HP12.2); have hp_ : Kd.R k68 68 w13 w.heap.size (fun _ => True) (.slice (some ⟨go10, 0, none⟩) x3_1.length co10) y649 := (by rw [hw, Ny649.out]; exact HP12.1); clear HP12; (try clear st12_0); have n0_ := Aside0.mk (hp_); have n1_ := Aside0.mk ((by rw [hw]; exact below_set (HB.out) GB10.out : Below w.heap.size w w13)); clear HO_3; clear HB; clear HO648; have HO_3 := n0_; have HB := n1_; clear n0_ n1_; clear hg hw hp_))
             go_roundg k1
             case measure => have := HK1.out; omega
             case rel => exact ⟨(y649), (wrap64 (x4_1 + 1)), (by first | rfl | (simp; done) | (simp [*]; done)), H', ⟨by have := HK1.out; omega⟩, ⟨by (with_reducible repeat (first | apply Kd.R_alloc | apply Kd.R_drewN | apply Kd.R_drew)); exact HO_3.out⟩, ⟨by repeat (first | (with_reducible first | exact HB.out | apply below_alloc | apply pw_below_drewN | apply below_drew1) | exact HB.out)⟩⟩
           · rw [if_neg c9] at H
             exact absurd H (by simp)
         · rw [if_neg c7] at H
           exact absurd H (by simp)
       · rw [if_neg c6] at H
         have c6b0 : decide (x4_1 < (l0.length : Int)) = false := decide_eq_false c6
         clear c6
         obtain rfl := Option.some.inj H
         go_wp2
         go_ret
         exact ⟨_, by first | rfl | (simp [errW_none, errW_some] <;> rfl) | (simp [*, errW_none, errW_some] <;> rfl), by (with_reducible repeat (first | apply Kd.R_alloc | apply Kd.R_drewN | apply Kd.R_drew)); exact HO_3.out, by repeat (first | (with_reducible first | exact HB.out | apply below_alloc | apply pw_below_drewN | apply below_drew1) | exact HB.out)⟩
   · rw [if_neg c3] at H
     exact absurd H (by simp)
 · rw [if_neg c2] at H
   exact absurd H (by simp)

end Go.Proofs.Ythegbhfoleiegaa.All


/- What a name stands for; what an entry needs. -/
namespace Go.Proofs.Ythegbhfoleiegaa.All
open Go.RowKit Go.Proofs.YthegbhfoleiegaaW.PrintWords Go.Proofs.YthegbhfoleiegaaW.PrintLast Go.Proofs.YthegbhfoleiegaaW.PrintMore
set_option linter.unusedVariables false
set_option linter.unusedSimpArgs false
def secHit (nm : ByteArray) (lk : Int) (s : S130) : Bool := (s.f0.toList == nm.toList) && (s.f2 == lk)
def secAt (nm : ByteArray) (lk : Int) (o : S68) : Option Nat := o.f0.findIdx? (secHit nm lk)
def objAt (l : List (S68)) (nm : ByteArray) (lk : Int) : Option (Int × Int) := (l.findIdx? fun o => (secAt nm lk o).isSome).bind fun i => (secAt nm lk (l.getD i z68)).map fun (k : Nat) => ((i : Int), (k : Int))
def locAt (l : List (S68)) (obj : Int) (nm : ByteArray) : Option (Int × Int) := if 0 ≤ obj then (secAt nm 3 (rd_T68 l obj)).map (fun (k : Nat) => (obj, (k : Int))) else none
def spotN (l : List (S68)) (obj : Int) (nm : ByteArray) : Option (Int × Int) := (locAt l obj nm).or ((objAt l nm 1).or (objAt l nm 2))
def okN (l : List (S68)) : Prop := l.length ≤ 1000000000 ∧ ∀ o ∈ l, o.f0.length ≤ 1000000000
theorem findIdx_hit {α : Type} {p : α → Bool} {l : List α} {z : α} {k : Nat} (h1 : k < l.length) (h2 : p (l.getD k z) = true) (h3 : ∀ j, j < k → p (l.getD j z) = false) : l.findIdx? p = some k := by
  rw [List.findIdx?_eq_some_iff_getElem]
  refine ⟨h1, ?_, fun j hj => ?_⟩
  · rw [List.getD_eq_getElem?_getD, List.getElem?_eq_getElem h1] at h2; exact h2
  · have := h3 j hj
    rw [List.getD_eq_getElem?_getD, List.getElem?_eq_getElem (by omega)] at this
    simpa using this
theorem findIdx_no {α : Type} {p : α → Bool} {l : List α} {z : α} (h3 : ∀ j, j < l.length → p (l.getD j z) = false) : l.findIdx? p = none := by
  rw [List.findIdx?_eq_none_iff]
  intro x hx
  obtain ⟨j, hj, rfl⟩ := List.getElem_of_mem hx
  have := h3 j hj
  rw [List.getD_eq_getElem?_getD, List.getElem?_eq_getElem hj] at this
  exact this
theorem objAt_hit {l : List (S68)} {nm : ByteArray} {lk : Int} {i k : Nat} (h1 : i < l.length) (h2 : secAt nm lk (l.getD i z68) = some k) (h3 : ∀ j, j < i → secAt nm lk (l.getD j z68) = none) : objAt l nm lk = some ((i : Int), (k : Int)) := by
  unfold objAt
  rw [findIdx_hit (z := z68) h1 (by rw [h2]; rfl) (fun j hj => by rw [h3 j hj]; rfl), Option.bind_some, h2]
  rfl
theorem objAt_no {l : List (S68)} {nm : ByteArray} {lk : Int} (h3 : ∀ j, j < l.length → secAt nm lk (l.getD j z68) = none) : objAt l nm lk = none := by
  unfold objAt
  rw [findIdx_no (z := z68) (fun j hj => by rw [h3 j hj]; rfl)]
  rfl
theorem okN_at {l : List (S68)} (h : okN l) {i : Int} (h0 : 0 ≤ i) (h1 : i < (l.length : Int)) : (rd_T68 l i).f0.length ≤ 1000000000 := by
  have hlt : i.toNat < l.length := by omega
  have : rd_T68 l i = l[i.toNat] := by unfold rd_T68; rw [List.getD_eq_getElem?_getD, List.getElem?_eq_getElem hlt]; rfl
  rw [this]
  exact h.2 _ (List.getElem_mem _)
theorem spotN_loc {l : List (S68)} {obj : Int} {nm : ByteArray} {k : Nat} (h0 : 0 ≤ obj) (h1 : k < (rd_T68 l obj).f0.length) (h2 : secHit nm 3 ((rd_T68 l obj).f0.getD k z130) = true) (h3 : ∀ j, j < k → secHit nm 3 ((rd_T68 l obj).f0.getD j z130) = false) : spotN l obj nm = some (obj, (k : Int)) := by
  unfold spotN locAt secAt
  rw [if_pos h0, findIdx_hit h1 h2 h3]
  rfl
theorem locAt_no {l : List (S68)} {obj : Int} {nm : ByteArray} (h3 : 0 ≤ obj → ∀ j, j < (rd_T68 l obj).f0.length → secHit nm 3 ((rd_T68 l obj).f0.getD j z130) = false) : locAt l obj nm = none := by
  unfold locAt secAt
  split
  · rename_i h; rw [findIdx_no (h3 h)]; rfl
  · rfl
theorem spotN_hit {l : List (S68)} {obj : Int} {nm : ByteArray} {q i k : Nat} (hl : locAt l obj nm = none) (hq : q < 2) (hp : ∀ j, j < q → objAt l nm ((j : Int) + 1) = none) (h1 : i < l.length) (ho : ∀ j, j < i → secAt nm ((q : Int) + 1) (l.getD j z68) = none)
    (hk : k < (l.getD i z68).f0.length) (h2 : secHit nm ((q : Int) + 1) ((l.getD i z68).f0.getD k z130) = true) (h3 : ∀ j, j < k → secHit nm ((q : Int) + 1) ((l.getD i z68).f0.getD j z130) = false) : spotN l obj nm = some ((i : Int), (k : Int)) := by
  have e : objAt l nm ((q : Int) + 1) = some ((i : Int), (k : Int)) := objAt_hit h1 (by unfold secAt; exact findIdx_hit hk h2 h3) ho
  unfold spotN
  rw [hl, Option.none_or]
  obtain rfl | rfl : q = 0 ∨ q = 1 := by omega
  · have e' : objAt l nm 1 = _ := e
    rw [e']; rfl
  · have e0 : objAt l nm 1 = none := hp 0 (by omega)
    have e' : objAt l nm 2 = _ := e
    rw [e0, e']; rfl
theorem spotN_none {l : List (S68)} {obj : Int} {nm : ByteArray} (hl : locAt l obj nm = none) (hp : ∀ j : Nat, j < 2 → objAt l nm ((j : Int) + 1) = none) : spotN l obj nm = none := by
  have e0 : objAt l nm 1 = none := hp 0 (by omega)
  have e1 : objAt l nm 2 = none := hp 1 (by omega)
  unfold spotN
  rw [hl, e0, e1]; rfl
end Go.Proofs.Ythegbhfoleiegaa.All


namespace Go.Proofs.Ythegbhfoleiegaa.All
open Go.RowKit Go.Proofs.YthegbhfoleiegaaW.PrintWords Go.Proofs.YthegbhfoleiegaaW.PrintLast Go.Proofs.YthegbhfoleiegaaW.PrintMore
attribute [local go_sem] max2_int min2_int max_two min_two max_three min_three max_four min_four   -- for this text's walks alone
set_option linter.unusedVariables false
set_option linter.unusedSimpArgs false

/-! ### impl_spotted: function 87 -/
def impl_spotted.f (l0 : List (S68)) (a1 : Int) (a2 : ByteArray) : Option (Option (Int × Int)) := some (spotN l0 a1 a2)
theorem sp_c0 (w : World) (t : TypeId) : (w.alloc (.cells #[.int .i64 0, .int .i64 0] t)).cell? ⟨w.heap.size, 0, none⟩ = some (.int .i64 0) := by rw [World.cell?_alloc_at (hn := rfl)]; rfl
theorem sp_c1 (w : World) (t : TypeId) : (w.alloc (.cells #[.int .i64 0, .int .i64 0] t)).cell? ⟨w.heap.size, 1, none⟩ = some (.int .i64 0) := by rw [World.cell?_alloc_at (hn := rfl)]; rfl
theorem sp_z0 (w : World) (t : TypeId) : (w.alloc (.cells #[.int .i64 0, .int .i64 0] t)).frozen? ⟨w.heap.size, 0, none⟩ = false := blk_frozen (blk_new _ _) 0
theorem sp_z1 (w : World) (t : TypeId) : (w.alloc (.cells #[.int .i64 0, .int .i64 0] t)).frozen? ⟨w.heap.size, 1, none⟩ = false := blk_frozen (blk_new _ _) 1
theorem sp_big {w w' : World} {o : Obj} (h : Below (w.heap.size + 1) (w.alloc o) w') : w.heap.size + 1 ≤ w'.heap.size := by have := h.size; rw [World.size_alloc] at this; exact this
theorem sp_low' {w w' : World} (h : Below (w.heap.size + 1) (w.alloc (.cells #[.int .i64 0, .int .i64 0] 125)) w') : Below w.heap.size w w' := Below.trans (below_alloc (Below.refl _ _) _) (h.mono (by omega))
theorem no_step {p : Nat → Prop} {k : Nat} (h : ∀ j, j < k → p j) (hk : p k) : ∀ j, j < k + 1 → p j := fun j hj => by
 by_cases e : j = k
 · subst e; exact hk
 · exact h j (by omega)
set_option maxHeartbeats 8000000 in
set_option maxRecDepth 100000 in
theorem impl_spotted.calls (A0 : Option Addr) (c0 : Nat) (l0 : List (S68)) (a1 : Int) (a2 : ByteArray) (w : World) (hr0 : Kd.C k68 w A0 l0.length l0) (h1 : a1 < (l0.length : Int)) (hk : okN l0) (r : Option (Int × Int)) (hr : spotN l0 a1 a2 = r) :
 Calls Try.prog 87 #[.slice A0 l0.length c0, .int .i64 a1, .string a2] w fun e w' => e = .returned (.tuple #[.agg #[.int .i64 (r.getD (0, 0)).1, .int .i64 (r.getD (0, 0)).2], .bool r.isSome]) ∧ Below w.heap.size w w' := by
 have hu1 := Try.underlying125
 have hu2 := Try.underlying130
 have hu3 := Try.underlying68
 have HR := Aside0.mk hr0
 have HK := Aside0.mk hk
 have HE := Aside0.mk hr
 have hn := hk.1
 clear hr0 hk hr
 have HB0 := Aside0.mk (Below.refl (w.heap.size + 1) (w.alloc (.cells #[.int .i64 0, .int .i64 0] 125)))
 by_cases c1 : 0 ≤ a1
 · have c1' : decide (0 ≤ a1) = true := decide_eq_true c1
   obtain ⟨ad, A1, c2, q_, hx, hl, hi⟩ := at_T68 HR.out a1 c1 h1
   cases q_
   obtain ⟨secs, hsecs⟩ : ∃ s, s = (rd_T68 l0 a1).f0 := ⟨_, rfl⟩
   rw [← hsecs] at hx hl hi
   have hx1 : (w.alloc (.cells #[.int .i64 0, .int .i64 0] 125)).cell? (ad.add a1.toNat) = _ := ((below_alloc (Below.refl w.heap.size w) _).cell (World.block_lt_of_cell? w _ hx)).trans hx
   have hsn : secs.length ≤ 1000000000 := by rw [hsecs]; exact okN_at HK.out c1 h1
   have HI := Aside0.mk hi
   have HS := Aside0.mk hsecs
   clear hx hl hi hsecs
   go_enter Try.func87, Try.ntmps87
   go_wp2
   go_loopw [24] (fun v wr => ∃ k : Nat, k ≤ secs.length ∧ v = .int .i64 (k : Int) ∧ Aside0 (Below (w.heap.size + 1) (w.alloc (.cells #[.int .i64 0, .int .i64 0] 125)) wr) ∧ Aside0 (∀ j, j < k → secHit a2 3 (secs.getD j z130) = false)) (fun v _ => secs.length - (intOf v).toNat)
   case atStart => exact ⟨0, Nat.zero_le _, rfl, HB0, ⟨fun j hj => absurd hj (by omega)⟩⟩
   case round =>
    obtain ⟨k, hkn, rfl, HB1, HN⟩ := hrel
    clear hx1
    by_cases hlt : k < secs.length
    · have hlt' := hlt
      obtain ⟨b, A4, e4, A6, e6, A7, e7, q_, x0, x1, x2, x3, x4, x5, x6, x7, l4, i4, l6, i6, l7, i7⟩ := at_T130 (Kd.C_below HI.out (sp_low' HB1.out)) (k : Int) (by omega) (by omega)
      cases q_
      clear l4 i4 l6 i6 l7 i7
      simp only [Int.toNat_natCast] at x0 x1 x2 x3 x4 x5 x6 x7
      have r0 : wr.cell? ⟨w.heap.size, 0, none⟩ = some (.int .i64 0) := (HB1.out.cell (p := ⟨w.heap.size, 0, none⟩) (Nat.lt_succ_self _)).trans (sp_c0 w _)
      have r1 : wr.cell? ⟨w.heap.size, 1, none⟩ = some (.int .i64 0) := (HB1.out.cell (p := ⟨w.heap.size, 1, none⟩) (Nat.lt_succ_self _)).trans (sp_c1 w _)
      have g0 : wr.frozen? ⟨w.heap.size, 0, none⟩ = false := (HB1.out.frozen (p := ⟨w.heap.size, 0, none⟩) (Nat.lt_succ_self _)).trans (sp_z0 w _)
      have g1 : wr.frozen? ⟨w.heap.size, 1, none⟩ = false := (HB1.out.frozen (p := ⟨w.heap.size, 1, none⟩) (Nat.lt_succ_self _)).trans (sp_z1 w _)
      have hsz : w.heap.size < wr.heap.size := by have := HB1.out.size; rw [World.size_alloc] at this; omega
      obtain ⟨s, hs⟩ : ∃ s, s = rd_T130 secs (k : Int) := ⟨_, rfl⟩
      rw [← hs] at x0 x1 x2 x3 x4 x5 x6 x7
      have hg : secs.getD k z130 = s := by rw [hs]; simp [rd_T130]
      have hh : secHit a2 3 (secs.getD k z130) = ((s.f0.toList == a2.toList) && (s.f2 == 3)) := by rw [hg]; rfl
      have HG := Aside0.mk hg
      have HH := Aside0.mk hh
      clear hs hg hh
      cases b1 : (s.f0.toList == a2.toList)
      · have HQ := Aside0.mk (show secHit a2 3 (secs.getD k z130) = false from by rw [HH.out, b1, Bool.false_and])
        go_wp2
        go_roundw
        case measure => simp [intOf]; omega
        case rel => exact ⟨k + 1, by omega, by go_num, ⟨HB1.out.alloc hsz _⟩, ⟨no_step HN.out HQ.out⟩⟩
      · cases b2 : (s.f2 == 3)
        · have HQ := Aside0.mk (show secHit a2 3 (secs.getD k z130) = false from by rw [HH.out, b1, b2, Bool.and_false])
          go_wp2
          go_roundw
          case measure => simp [intOf]; omega
          case rel => exact ⟨k + 1, by omega, by go_num, ⟨HB1.out.alloc hsz _⟩, ⟨no_step HN.out HQ.out⟩⟩
        · have HQ := Aside0.mk (show secHit a2 3 (secs.getD k z130) = true from by rw [HH.out, b1, b2, Bool.and_self])
          go_wp2
          have hfin : r = some ((a1), ((k : Int))) := HE.out.symm.trans (by rw [HS.out] at HN HQ hlt; exact spotN_loc c1 hlt HQ.out HN.out)
          subst hfin
          (try simp only [Exit.inBlock, Exit.then])
          refine bodyPost_ret (v := .tuple #[.agg #[.int .i64 (a1), .int .i64 ((k : Int))], .bool true]) ?_ rfl ⟨rfl, ?_⟩
          · rw [results_cell_tmp rfl]; go_simp
          · exact Below.alloc (Below.setCell (Below.setCell (sp_low' HB1.out) (Nat.le_refl _) _) (Nat.le_refl _) _) (by simp; omega) _
    · have hke : k = secs.length := by omega
      subst hke
      have HL := Aside0.mk (locAt_no (l := l0) (obj := a1) (nm := a2) (fun _ => by rw [← HS.out]; exact HN.out))
      have BB := HB1
      have BZ := Aside0.mk (show w.heap.size + 1 ≤ wr.heap.size from by have := HB1.out.size; simpa using this)
      clear HN HB1 HI
      go_wp2_with (first | ((with_reducible refine gate_dst (N := 42) rfl ?_); refine Kd.R_lit (Kd.int .i64) _ 2 ?hg (N := 42) ?hd (xs := ([1, 2] : List Int)) (inner := [.int .i64 1, .int .i64 2]) (ok := fun _ => True) (okp := fun _ => True) ?hr ?hp (fun _ hk => hk) trivial (Below.refl _ _) (Nat.le_refl _) (by simp) ?_; (case hd => rfl); (case hg => rfl); (case hr => first | (go_simp; done) | (go_simp; rfl)); (case hp => exact Reps.one (show Kd.M (Kd.int .i64) _ _ _ 1 [.int .i64 1] from rfl) (Reps.one (show Kd.M (Kd.int .i64) _ _ _ 2 [.int .i64 2] from rfl) (Reps.none _ _))); intro v42 w6 ho hb hg_ hnew_; have HB2 := Aside0.mk (Below.trans BB.out (hb.mono BZ.out)); obtain ⟨g, cap, hv, _, _, gc⟩ := Kd.R_form ho (by simp); subst hv; have GC := Aside0.mk gc; have HO := Aside0.mk ho; clear hb hg_ hnew_ ho gc))
      go_loopw [44] (fun v wr => ∃ q : Nat, q ≤ 2 ∧ v = .int .i64 (q : Int) ∧ Aside0 (Below w6.heap.size w6 wr) ∧ Aside0 (∀ j, j < q → objAt l0 a2 ((j : Int) + 1) = none)) (fun v _ => 2 - (intOf v).toNat)
      case atStart => exact ⟨0, by omega, rfl, ⟨Below.refl _ _⟩, ⟨fun j hj => absurd hj (by omega)⟩⟩
      case round =>
       obtain ⟨q, hq2, rfl, HBq, HNq⟩ := hrel
       by_cases hq : q < 2
       · obtain ⟨cq, _⟩ := Kd.R_celln 0 (Kd.R_below HO.out HBq.out) (q : Int) (by omega) (by simp; omega)
         simp only [Int.toNat_natCast, Nat.zero_add, Nat.add_zero, show (Kd.int .i64).sz = 1 from rfl, Nat.mul_one] at cq
         obtain ⟨lk, hlk⟩ : ∃ x : Int, x = (q : Int) + 1 := ⟨_, rfl⟩
         have cq' : wr.cell? ⟨g, q, none⟩ = some (.int .i64 lk) := by rw [cq, hlk]; obtain rfl | rfl : q = 0 ∨ q = 1 := (by omega) <;> rfl
         have LK := Aside0.mk hlk
         clear cq hlk
         have hqb : decide ((q : Int) < 2) = true := decide_eq_true (by omega)
         go_wp2
         go_loopw [50] (fun v wr => ∃ i : Nat, i ≤ l0.length ∧ v = .int .i64 (i : Int) ∧ Aside0 (Below w6.heap.size w6 wr) ∧ Aside0 (∀ j, j < i → secAt a2 lk (l0.getD j z68) = none)) (fun v _ => l0.length - (intOf v).toNat)
         case atStart => exact ⟨0, Nat.zero_le _, rfl, HBq, ⟨fun j hj => absurd hj (by omega)⟩⟩
         case round =>
          clear HBq cq'
          obtain ⟨i, hin, rfl, HBi, HNi⟩ := hrel
          by_cases hil : i < l0.length
          · have HB1 := Aside0.mk (Below.trans HB2.out (HBi.out.mono (sp_big HB2.out)))
            obtain ⟨bo, B1, d1, q_, y0, m0, im⟩ := at_T68 HR.out (i : Int) (by omega) (by omega)
            have A0e := Aside0.mk q_
            obtain ⟨rw_, hrw⟩ : ∃ s, s = (rd_T68 l0 (i : Int)).f0 := ⟨_, rfl⟩
            rw [← hrw, Int.toNat_natCast] at y0
            rw [← hrw] at m0 im
            have hm := okN_at HK.out (i := (i : Int)) (by omega) (by omega)
            rw [← hrw] at hm
            have HRW := Aside0.mk (show (l0.getD i z68).f0 = rw_ from by rw [hrw]; simp [rd_T68])
            have IM := Aside0.mk im
            try subst q_
            have y0' := (Below.cell (sp_low' HB1.out) (World.block_lt_of_cell? w _ y0)).trans y0
            clear y0 m0 im hrw
            go_wp2
            go_loopw [58] (fun v wr => ∃ k : Nat, k ≤ rw_.length ∧ v = .int .i64 (k : Int) ∧ Aside0 (Below w6.heap.size w6 wr) ∧ Aside0 (∀ j, j < k → secHit a2 lk (rw_.getD j z130) = false)) (fun v _ => rw_.length - (intOf v).toNat)
            case atStart => exact ⟨0, Nat.zero_le _, rfl, ⟨HBi.out.alloc HBi.out.size _⟩, ⟨fun j hj => absurd hj (by omega)⟩⟩
            case round =>
             clear HBi y0' HB1
             obtain ⟨k, hkn, rfl, HBk, HNk⟩ := hrel
             have HB1 := Aside0.mk (Below.trans HB2.out (HBk.out.mono (sp_big HB2.out)))
             by_cases hlt : k < rw_.length
             · have hlt' := hlt
               obtain ⟨b, A4, e4, A6, e6, A7, e7, q_, x0, x1, x2, x3, x4, x5, x6, x7, l4, i4, l6, i6, l7, i7⟩ := at_T130 (Kd.C_below IM.out (sp_low' HB1.out)) (k : Int) (by omega) (by omega)
               cases q_
               clear l4 i4 l6 i6 l7 i7
               simp only [Int.toNat_natCast] at x0 x1 x2 x3 x4 x5 x6 x7
               have r0 : wr.cell? ⟨w.heap.size, 0, none⟩ = some (.int .i64 0) := (HB1.out.cell (p := ⟨w.heap.size, 0, none⟩) (Nat.lt_succ_self _)).trans (sp_c0 w _)
               have r1 : wr.cell? ⟨w.heap.size, 1, none⟩ = some (.int .i64 0) := (HB1.out.cell (p := ⟨w.heap.size, 1, none⟩) (Nat.lt_succ_self _)).trans (sp_c1 w _)
               have g0 : wr.frozen? ⟨w.heap.size, 0, none⟩ = false := (HB1.out.frozen (p := ⟨w.heap.size, 0, none⟩) (Nat.lt_succ_self _)).trans (sp_z0 w _)
               have g1 : wr.frozen? ⟨w.heap.size, 1, none⟩ = false := (HB1.out.frozen (p := ⟨w.heap.size, 1, none⟩) (Nat.lt_succ_self _)).trans (sp_z1 w _)
               have hsz : w.heap.size < wr.heap.size := by have := HB1.out.size; rw [World.size_alloc] at this; omega
               obtain ⟨s, hs⟩ : ∃ s, s = rd_T130 rw_ (k : Int) := ⟨_, rfl⟩
               rw [← hs] at x0 x1 x2 x3 x4 x5 x6 x7
               have hg : rw_.getD k z130 = s := by rw [hs]; simp [rd_T130]
               have hh : secHit a2 lk (rw_.getD k z130) = ((s.f0.toList == a2.toList) && (s.f2 == lk)) := by rw [hg]; rfl
               have HG := Aside0.mk hg
               have HH := Aside0.mk hh
               clear hs hg hh
               cases b1 : (s.f0.toList == a2.toList)
               · have HQ := Aside0.mk (show secHit a2 lk (rw_.getD k z130) = false from by rw [HH.out, b1, Bool.false_and])
                 go_wp2
                 go_roundw
                 case measure => simp [intOf]; omega
                 case rel => exact ⟨k + 1, by omega, by go_num, ⟨HBk.out.alloc HBk.out.size _⟩, ⟨no_step HNk.out HQ.out⟩⟩
               · cases b2 : (s.f2 == lk)
                 · have HQ := Aside0.mk (show secHit a2 lk (rw_.getD k z130) = false from by rw [HH.out, b1, b2, Bool.and_false])
                   go_wp2
                   go_roundw
                   case measure => simp [intOf]; omega
                   case rel => exact ⟨k + 1, by omega, by go_num, ⟨HBk.out.alloc HBk.out.size _⟩, ⟨no_step HNk.out HQ.out⟩⟩
                 · have HQ := Aside0.mk (show secHit a2 lk (rw_.getD k z130) = true from by rw [HH.out, b1, b2, Bool.and_self])
                   go_wp2
                   have hfin : r = some (((i : Int)), ((k : Int))) := HE.out.symm.trans (by have h2 := HQ.out; have h3 := HNk.out; have h4 := HNi.out; rw [LK.out] at h2 h3 h4; rw [← HRW.out] at h2 h3 hlt; exact spotN_hit HL.out hq HNq.out hil h4 hlt h2 h3)
                   subst hfin
                   (try simp only [Exit.inBlock, Exit.then])
                   refine bodyPost_ret (v := .tuple #[.agg #[.int .i64 ((i : Int)), .int .i64 ((k : Int))], .bool true]) ?_ rfl ⟨rfl, ?_⟩
                   · rw [results_cell_tmp rfl]; go_simp
                   · exact Below.alloc (Below.setCell (Below.setCell (sp_low' HB1.out) (Nat.le_refl _) _) (Nat.le_refl _) _) (by simp; omega) _
             · have hke : k = rw_.length := by omega
               subst hke
               have HQ := Aside0.mk (show secAt a2 lk (l0.getD i z68) = none from by unfold secAt; rw [HRW.out]; exact findIdx_no HNk.out)
               clear HNk
               go_wp2
               go_roundw
               case measure => simp [intOf]; omega
               case rel => first | exact ⟨i + 1, by omega, by go_num, HBk, ⟨no_step HNi.out HQ.out⟩⟩ | ((repeat apply Exists.intro); exact ⟨⟨i + 1, by omega, by go_num, HBk, ⟨no_step HNi.out HQ.out⟩⟩, rfl⟩)
          · have hie : i = l0.length := by omega
            subst hie
            have HQ := Aside0.mk (show objAt l0 a2 ((q : Int) + 1) = none from by rw [← LK.out]; exact objAt_no HNi.out)
            clear HNi
            go_wp2
            go_roundw
            case measure => simp [intOf]; omega
            case rel => exact ⟨q + 1, by omega, by go_num, HBi, ⟨no_step HNq.out HQ.out⟩⟩
       · have hq' : q = 2 := by omega
         subst hq'
         have HB1 := Aside0.mk (Below.trans HB2.out (HBq.out.mono (sp_big HB2.out)))
         have r0 : wr.cell? ⟨w.heap.size, 0, none⟩ = some (.int .i64 0) := (HB1.out.cell (p := ⟨w.heap.size, 0, none⟩) (Nat.lt_succ_self _)).trans (sp_c0 w _)
         have r1 : wr.cell? ⟨w.heap.size, 1, none⟩ = some (.int .i64 0) := (HB1.out.cell (p := ⟨w.heap.size, 1, none⟩) (Nat.lt_succ_self _)).trans (sp_c1 w _)
         have g0 : wr.frozen? ⟨w.heap.size, 0, none⟩ = false := (HB1.out.frozen (p := ⟨w.heap.size, 0, none⟩) (Nat.lt_succ_self _)).trans (sp_z0 w _)
         have g1 : wr.frozen? ⟨w.heap.size, 1, none⟩ = false := (HB1.out.frozen (p := ⟨w.heap.size, 1, none⟩) (Nat.lt_succ_self _)).trans (sp_z1 w _)
         have hsz : w.heap.size < wr.heap.size := by have := HB1.out.size; rw [World.size_alloc] at this; omega
         go_wp2
         have hfin : r = none := HE.out.symm.trans (spotN_none HL.out HNq.out)
         subst hfin
         (try simp only [Exit.inBlock, Exit.then])
         refine bodyPost_ret (v := .tuple #[.agg #[.int .i64 (0), .int .i64 (0)], .bool false]) ?_ rfl ⟨rfl, ?_⟩
         · rw [results_cell_tmp rfl]; go_simp
         · exact Below.setCell (Below.setCell (sp_low' HB1.out) (Nat.le_refl _) _) (Nat.le_refl _) _
 · have c1' : decide (0 ≤ a1) = false := decide_eq_false c1
   have HL := Aside0.mk (locAt_no (l := l0) (obj := a1) (nm := a2) (fun h => absurd h c1))
   have BB := HB0
   have BZ := Aside0.mk (show w.heap.size + 1 ≤ (w.alloc (.cells #[.int .i64 0, .int .i64 0] 125)).heap.size from by simp)
   go_enter Try.func87, Try.ntmps87
   go_wp2_with (first | ((with_reducible refine gate_dst (N := 42) rfl ?_); refine Kd.R_lit (Kd.int .i64) _ 2 ?hg (N := 42) ?hd (xs := ([1, 2] : List Int)) (inner := [.int .i64 1, .int .i64 2]) (ok := fun _ => True) (okp := fun _ => True) ?hr ?hp (fun _ hk => hk) trivial (Below.refl _ _) (Nat.le_refl _) (by simp) ?_; (case hd => rfl); (case hg => rfl); (case hr => first | (go_simp; done) | (go_simp; rfl)); (case hp => exact Reps.one (show Kd.M (Kd.int .i64) _ _ _ 1 [.int .i64 1] from rfl) (Reps.one (show Kd.M (Kd.int .i64) _ _ _ 2 [.int .i64 2] from rfl) (Reps.none _ _))); intro v42 w6 ho hb hg_ hnew_; have HB2 := Aside0.mk (Below.trans BB.out (hb.mono BZ.out)); obtain ⟨g, cap, hv, _, _, gc⟩ := Kd.R_form ho (by simp); subst hv; have GC := Aside0.mk gc; have HO := Aside0.mk ho; clear hb hg_ hnew_ ho gc))
   go_loopw [44] (fun v wr => ∃ q : Nat, q ≤ 2 ∧ v = .int .i64 (q : Int) ∧ Aside0 (Below w6.heap.size w6 wr) ∧ Aside0 (∀ j, j < q → objAt l0 a2 ((j : Int) + 1) = none)) (fun v _ => 2 - (intOf v).toNat)
   case atStart => exact ⟨0, by omega, rfl, ⟨Below.refl _ _⟩, ⟨fun j hj => absurd hj (by omega)⟩⟩
   case round =>
    obtain ⟨q, hq2, rfl, HBq, HNq⟩ := hrel
    by_cases hq : q < 2
    · obtain ⟨cq, _⟩ := Kd.R_celln 0 (Kd.R_below HO.out HBq.out) (q : Int) (by omega) (by simp; omega)
      simp only [Int.toNat_natCast, Nat.zero_add, Nat.add_zero, show (Kd.int .i64).sz = 1 from rfl, Nat.mul_one] at cq
      obtain ⟨lk, hlk⟩ : ∃ x : Int, x = (q : Int) + 1 := ⟨_, rfl⟩
      have cq' : wr.cell? ⟨g, q, none⟩ = some (.int .i64 lk) := by rw [cq, hlk]; obtain rfl | rfl : q = 0 ∨ q = 1 := (by omega) <;> rfl
      have LK := Aside0.mk hlk
      clear cq hlk
      have hqb : decide ((q : Int) < 2) = true := decide_eq_true (by omega)
      go_wp2
      go_loopw [50] (fun v wr => ∃ i : Nat, i ≤ l0.length ∧ v = .int .i64 (i : Int) ∧ Aside0 (Below w6.heap.size w6 wr) ∧ Aside0 (∀ j, j < i → secAt a2 lk (l0.getD j z68) = none)) (fun v _ => l0.length - (intOf v).toNat)
      case atStart => exact ⟨0, Nat.zero_le _, rfl, HBq, ⟨fun j hj => absurd hj (by omega)⟩⟩
      case round =>
       clear HBq cq'
       obtain ⟨i, hin, rfl, HBi, HNi⟩ := hrel
       by_cases hil : i < l0.length
       · have HB1 := Aside0.mk (Below.trans HB2.out (HBi.out.mono (sp_big HB2.out)))
         obtain ⟨bo, B1, d1, q_, y0, m0, im⟩ := at_T68 HR.out (i : Int) (by omega) (by omega)
         have A0e := Aside0.mk q_
         obtain ⟨rw_, hrw⟩ : ∃ s, s = (rd_T68 l0 (i : Int)).f0 := ⟨_, rfl⟩
         rw [← hrw, Int.toNat_natCast] at y0
         rw [← hrw] at m0 im
         have hm := okN_at HK.out (i := (i : Int)) (by omega) (by omega)
         rw [← hrw] at hm
         have HRW := Aside0.mk (show (l0.getD i z68).f0 = rw_ from by rw [hrw]; simp [rd_T68])
         have IM := Aside0.mk im
         try subst q_
         have y0' := (Below.cell (sp_low' HB1.out) (World.block_lt_of_cell? w _ y0)).trans y0
         clear y0 m0 im hrw
         go_wp2
         go_loopw [58] (fun v wr => ∃ k : Nat, k ≤ rw_.length ∧ v = .int .i64 (k : Int) ∧ Aside0 (Below w6.heap.size w6 wr) ∧ Aside0 (∀ j, j < k → secHit a2 lk (rw_.getD j z130) = false)) (fun v _ => rw_.length - (intOf v).toNat)
         case atStart => exact ⟨0, Nat.zero_le _, rfl, ⟨HBi.out.alloc HBi.out.size _⟩, ⟨fun j hj => absurd hj (by omega)⟩⟩
         case round =>
          clear HBi y0' HB1
          obtain ⟨k, hkn, rfl, HBk, HNk⟩ := hrel
          have HB1 := Aside0.mk (Below.trans HB2.out (HBk.out.mono (sp_big HB2.out)))
          by_cases hlt : k < rw_.length
          · have hlt' := hlt
            obtain ⟨b, A4, e4, A6, e6, A7, e7, q_, x0, x1, x2, x3, x4, x5, x6, x7, l4, i4, l6, i6, l7, i7⟩ := at_T130 (Kd.C_below IM.out (sp_low' HB1.out)) (k : Int) (by omega) (by omega)
            cases q_
            clear l4 i4 l6 i6 l7 i7
            simp only [Int.toNat_natCast] at x0 x1 x2 x3 x4 x5 x6 x7
            have r0 : wr.cell? ⟨w.heap.size, 0, none⟩ = some (.int .i64 0) := (HB1.out.cell (p := ⟨w.heap.size, 0, none⟩) (Nat.lt_succ_self _)).trans (sp_c0 w _)
            have r1 : wr.cell? ⟨w.heap.size, 1, none⟩ = some (.int .i64 0) := (HB1.out.cell (p := ⟨w.heap.size, 1, none⟩) (Nat.lt_succ_self _)).trans (sp_c1 w _)
            have g0 : wr.frozen? ⟨w.heap.size, 0, none⟩ = false := (HB1.out.frozen (p := ⟨w.heap.size, 0, none⟩) (Nat.lt_succ_self _)).trans (sp_z0 w _)
            have g1 : wr.frozen? ⟨w.heap.size, 1, none⟩ = false := (HB1.out.frozen (p := ⟨w.heap.size, 1, none⟩) (Nat.lt_succ_self _)).trans (sp_z1 w _)
            have hsz : w.heap.size < wr.heap.size := by have := HB1.out.size; rw [World.size_alloc] at this; omega
            obtain ⟨s, hs⟩ : ∃ s, s = rd_T130 rw_ (k : Int) := ⟨_, rfl⟩
            rw [← hs] at x0 x1 x2 x3 x4 x5 x6 x7
            have hg : rw_.getD k z130 = s := by rw [hs]; simp [rd_T130]
            have hh : secHit a2 lk (rw_.getD k z130) = ((s.f0.toList == a2.toList) && (s.f2 == lk)) := by rw [hg]; rfl
            have HG := Aside0.mk hg
            have HH := Aside0.mk hh
            clear hs hg hh
            cases b1 : (s.f0.toList == a2.toList)
            · have HQ := Aside0.mk (show secHit a2 lk (rw_.getD k z130) = false from by rw [HH.out, b1, Bool.false_and])
              go_wp2
              go_roundw
              case measure => simp [intOf]; omega
              case rel => exact ⟨k + 1, by omega, by go_num, ⟨HBk.out.alloc HBk.out.size _⟩, ⟨no_step HNk.out HQ.out⟩⟩
            · cases b2 : (s.f2 == lk)
              · have HQ := Aside0.mk (show secHit a2 lk (rw_.getD k z130) = false from by rw [HH.out, b1, b2, Bool.and_false])
                go_wp2
                go_roundw
                case measure => simp [intOf]; omega
                case rel => exact ⟨k + 1, by omega, by go_num, ⟨HBk.out.alloc HBk.out.size _⟩, ⟨no_step HNk.out HQ.out⟩⟩
              · have HQ := Aside0.mk (show secHit a2 lk (rw_.getD k z130) = true from by rw [HH.out, b1, b2, Bool.and_self])
                go_wp2
                have hfin : r = some (((i : Int)), ((k : Int))) := HE.out.symm.trans (by have h2 := HQ.out; have h3 := HNk.out; have h4 := HNi.out; rw [LK.out] at h2 h3 h4; rw [← HRW.out] at h2 h3 hlt; exact spotN_hit HL.out hq HNq.out hil h4 hlt h2 h3)
                subst hfin
                (try simp only [Exit.inBlock, Exit.then])
                refine bodyPost_ret (v := .tuple #[.agg #[.int .i64 ((i : Int)), .int .i64 ((k : Int))], .bool true]) ?_ rfl ⟨rfl, ?_⟩
                · rw [results_cell_tmp rfl]; go_simp
                · exact Below.alloc (Below.setCell (Below.setCell (sp_low' HB1.out) (Nat.le_refl _) _) (Nat.le_refl _) _) (by simp; omega) _
          · have hke : k = rw_.length := by omega
            subst hke
            have HQ := Aside0.mk (show secAt a2 lk (l0.getD i z68) = none from by unfold secAt; rw [HRW.out]; exact findIdx_no HNk.out)
            clear HNk
            go_wp2
            go_roundw
            case measure => simp [intOf]; omega
            case rel => first | exact ⟨i + 1, by omega, by go_num, HBk, ⟨no_step HNi.out HQ.out⟩⟩ | ((repeat apply Exists.intro); exact ⟨⟨i + 1, by omega, by go_num, HBk, ⟨no_step HNi.out HQ.out⟩⟩, rfl⟩)
       · have hie : i = l0.length := by omega
         subst hie
         have HQ := Aside0.mk (show objAt l0 a2 ((q : Int) + 1) = none from by rw [← LK.out]; exact objAt_no HNi.out)
         clear HNi
         go_wp2
         go_roundw
         case measure => simp [intOf]; omega
         case rel => exact ⟨q + 1, by omega, by go_num, HBi, ⟨no_step HNq.out HQ.out⟩⟩
    · have hq' : q = 2 := by omega
      subst hq'
      have HB1 := Aside0.mk (Below.trans HB2.out (HBq.out.mono (sp_big HB2.out)))
      have r0 : wr.cell? ⟨w.heap.size, 0, none⟩ = some (.int .i64 0) := (HB1.out.cell (p := ⟨w.heap.size, 0, none⟩) (Nat.lt_succ_self _)).trans (sp_c0 w _)
      have r1 : wr.cell? ⟨w.heap.size, 1, none⟩ = some (.int .i64 0) := (HB1.out.cell (p := ⟨w.heap.size, 1, none⟩) (Nat.lt_succ_self _)).trans (sp_c1 w _)
      have g0 : wr.frozen? ⟨w.heap.size, 0, none⟩ = false := (HB1.out.frozen (p := ⟨w.heap.size, 0, none⟩) (Nat.lt_succ_self _)).trans (sp_z0 w _)
      have g1 : wr.frozen? ⟨w.heap.size, 1, none⟩ = false := (HB1.out.frozen (p := ⟨w.heap.size, 1, none⟩) (Nat.lt_succ_self _)).trans (sp_z1 w _)
      have hsz : w.heap.size < wr.heap.size := by have := HB1.out.size; rw [World.size_alloc] at this; omega
      go_wp2
      have hfin : r = none := HE.out.symm.trans (spotN_none HL.out HNq.out)
      subst hfin
      (try simp only [Exit.inBlock, Exit.then])
      refine bodyPost_ret (v := .tuple #[.agg #[.int .i64 (0), .int .i64 (0)], .bool false]) ?_ rfl ⟨rfl, ?_⟩
      · rw [results_cell_tmp rfl]; go_simp
      · exact Below.setCell (Below.setCell (sp_low' HB1.out) (Nat.le_refl _) _) (Nat.le_refl _) _

end Go.Proofs.Ythegbhfoleiegaa.All


/- A row of one's own from which the front is cut: a queue. -/
namespace Go.Proofs.Ythegbhfoleiegaa.All
open Go.RowKit Go.Proofs.YthegbhfoleiegaaW.PrintWords Go.Proofs.YthegbhfoleiegaaW.PrintLast Go.Proofs.YthegbhfoleiegaaW.PrintMore
set_option linter.unusedVariables false
set_option linter.unusedSimpArgs false
/-- v is a slice of n elements, s cells each, that hold xs, in a block of its own at or behind base. -/
def IsQ (w : World) (base : Nat) (e : TypeId) (s : Nat) (v : Value) (n : Nat) (xs : List Value) : Prop :=
  xs.length = n * s ∧ ∃ g off cap cur, v = .slice (some ⟨g, off, none⟩) n cap ∧ base ≤ g ∧ w.heap[g]? = some (.cells cur e (0, 0)) ∧ n ≤ cap ∧ cap ≤ maxLen ∧ off + cap * s ≤ cur.size ∧ (cur.toList.drop off).take (n * s) = xs
section
variable {P : Program} {w w1 : World} {base : Nat} {e : TypeId} {s : Nat} {v : Value} {n : Nat} {xs : List Value}
theorem IsQ.of_own (h : w.ownsRow base e s v n xs) (hn : 0 < n) : IsQ w base e s v n xs := by
  obtain ⟨h1, ⟨_, h2⟩ | ⟨g, cap, cur, hv, hb, hg, hc, hm, hs, ht⟩⟩ := h
  · omega
  · exact ⟨h1, g, 0, cap, cur, hv, hb, hg, hc, hm, by omega, by simpa using ht⟩
theorem IsQ.kept {row : Option Nat} (h : IsQ w base e s v n xs) (hg : w.grownBy w1 row) (hne : v.ownBlock ≠ row) : IsQ w1 base e s v n xs := by
  obtain ⟨h1, g, off, cap, cur, rfl, hb, hgg, rest⟩ := h
  exact ⟨h1, g, off, cap, cur, rfl, hb, (blk_grown hgg hg hne), rest⟩
theorem IsQ.below (h : IsQ w base e s v n xs) (hb : Below w.heap.size w w1) : IsQ w1 base e s v n xs := by
  obtain ⟨h1, g, off, cap, cur, rfl, hbb, hgg, rest⟩ := h
  exact ⟨h1, g, off, cap, cur, rfl, hbb, blk_below hgg hb, rest⟩
theorem IsQ.alloc (h : IsQ w base e s v n xs) (o : Obj) : IsQ (w.alloc o) base e s v n xs := h.below (below_alloc (Below.refl _ _) o)
theorem IsQ.mono (h : IsQ w base e s v n xs) {b : Nat} (hb : b ≤ base) : IsQ w b e s v n xs := by
  obtain ⟨h1, g, off, cap, cur, rfl, hbb, rest⟩ := h
  exact ⟨h1, g, off, cap, cur, rfl, Nat.le_trans hb hbb, rest⟩
theorem IsQ.form (h : IsQ w base e s v n xs) : ∃ g off cap, v = .slice (some ⟨g, off, none⟩) n cap ∧ base ≤ g ∧ g < w.heap.size ∧ n ≤ cap := by
  obtain ⟨_, g, off, cap, cur, rfl, hb, hg, hc, _⟩ := h
  exact ⟨g, off, cap, rfl, hb, blk_lt hg, hc⟩
theorem IsQ.cell {g off cap : Nat} (h : IsQ w base e s (.slice (some ⟨g, off, none⟩) n cap) n xs) {j : Nat} {u : Value} (hj : xs[j]? = some u) : w.cell? ⟨g, off + j, none⟩ = some u := by
  obtain ⟨h1, g', off', cap', cur, hv, _, hg, _, _, _, ht⟩ := h
  injection hv with ha _ hc
  injection ha with ha
  injection ha with ha hb
  subst ha
  subst hb
  rw [← ht] at hj
  rw [List.getElem?_take] at hj
  split at hj
  · rw [List.getElem?_drop, Array.getElem?_toList] at hj
    exact (blk_cell hg _).trans hj
  · cases hj
theorem IsQ.frozen {g off cap : Nat} (h : IsQ w base e s (.slice (some ⟨g, off, none⟩) n cap) n xs) (i : Nat) : w.frozen? ⟨g, i, none⟩ = false := by
  obtain ⟨h1, g', off', cap', cur, hv, _, hg, _, _, _, ht⟩ := h
  injection hv with ha _ hc
  injection ha with ha
  injection ha with ha hb
  subst ha
  exact blk_frozen hg i
theorem IsQ.tail {g off cap : Nat} (h : IsQ w base e s (.slice (some ⟨g, off, none⟩) (n + 1) cap) (n + 1) xs) : IsQ w base e s (.slice (some ⟨g, off + s, none⟩) n (cap - 1)) n (xs.drop s) := by
  obtain ⟨h1, g', off', cap', cur, hv, hb, hg, hc, hm, hs, ht⟩ := h
  injection hv with ha _ hcc
  injection ha with ha
  injection ha with ha hbb
  subst ha
  subst hbb
  subst hcc
  obtain ⟨c, rfl⟩ : ∃ c, cap = c + 1 := ⟨cap - 1, by omega⟩
  rw [Nat.add_mul, Nat.one_mul] at h1 hs ht
  refine ⟨by rw [List.length_drop]; omega, g, off + s, c, cur, rfl, hb, hg, by omega, by omega, by omega, ?_⟩
  rw [← ht, List.drop_take, List.drop_drop]
  congr 1
  omega
end
section
variable {P : Program} {ops : Array Oper} {rest : List Oper} {o : Oper} {a : Act} {Q : Exit → Act → World → Prop}
theorem IsQ.append {w0 W : World} {base s n : Nat} {v : Value} {xs : List Value} (hgd : o.guard = none) (sl x : Operand) (t e : TypeId) (z : Value) (bytes : Nat)
    (ho : o.op = .call { callee := .builtin .append, args := #[sl, x], argTypes := #[t, t] })
    (ht : P.underlying t = some (.slice e)) (hinfo : (P.info? e).map (fun i => (i.zero, i.size, i.bytes)) = some (some z, s, bytes)) (hz : z.cells.size = s) (hs0 : 0 < s) (hb0 : 0 < bytes)
    (hs : a.eval sl = v) (hx : a.eval x = .slice (some ⟨W.heap.size, 0, none⟩) 1 1) (hq : IsQ W base e s v n xs) (cs : List Value) (hcs : cs.length = s) (h1 : ∀ u ∈ cs, u.oneCell' = true)
    (HB : Below base w0 W) (hbase : base ≤ W.heap.size) (hl : (n + 1) * bytes ≤ 140737488355328)
    (h : ∀ v1 w1, IsQ w1 base e s v1 (n + 1) (xs ++ cs) → Below base w0 w1 → W.grownBy w1 v.ownBlock → (v1.ownBlock = v.ownBlock ∨ ∃ b, v1.ownBlock = some b ∧ W.heap.size ≤ b) → wpList P ops Q rest (a.put o.dst v1) w1) :
    wpList P ops Q (o :: rest) a (W.alloc (.cells cs.toArray e)) := by
  obtain ⟨i, hi, hi'⟩ := Option.map_eq_some_iff.1 hinfo
  simp only [Prod.mk.injEq] at hi'
  obtain ⟨i1, i2, i3⟩ := hi'
  have hgA : W.grownBy (W.alloc (.cells cs.toArray e)) none := grown_of_below (below_alloc (Below.refl _ _) _) none
  have hBA : Below base w0 (W.alloc (.cells cs.toArray e)) := pw_below_grown HB none hbase hgA (fun k hk => by cases hk)
  have hqA := hq.alloc (.cells cs.toArray e)
  obtain ⟨hlen, g, off, cap, cur, rfl, hb, hg, hc, hm, hsz, htk⟩ := hqA
  have hmax : n + 1 ≤ maxLen := by
    have : n + 1 ≤ (n + 1) * bytes := Nat.le_mul_of_pos_right _ hb0
    simp only [maxLen]; omega
  have hgW : g < W.heap.size := by
    obtain ⟨g', off', cap', e1, _, e3, _⟩ := hq.form
    injection e1 with e1
    injection e1 with e1
    injection e1 with e1
    omega
  refine wpList_append_arg (W.alloc (.cells cs.toArray e)) hgd sl x t ho e i z s bytes ht hi i1 i2 i3 hz hs0 g off n cap xs hs hlen (fun j u hj => ?_) ⟨W.heap.size, 0, none⟩ 1 1 cs hx (by omega) (fun j u hj => ?_) h1 (fun hr j hj => ⟨?_, blk_frozen hg _⟩) hmax hl (fun hr => ?_) (fun hr v' w' ho' hg' => ?_)
  · rw [← htk, List.getElem?_take] at hj
    split at hj
    · rw [List.getElem?_drop, Array.getElem?_toList] at hj
      exact (blk_cell hg _).trans hj
    · cases hj
  · rw [Addr.add_lit]
    have hj' : cs.toArray[0 + j]? = some u := by rw [Nat.zero_add, List.getElem?_toArray]; exact hj
    exact (blk_cell (blk_new W (.cells cs.toArray e)) _).trans hj'
  · have hk : off + n * s + j < cur.size := by
      have := Nat.mul_le_mul_right s hr
      rw [Nat.add_mul, Nat.one_mul] at this
      omega
    rw [blk_cell hg, Array.getElem?_eq_getElem hk]
    rfl
  · have hfit : off + n * s + cs.length ≤ cur.size := by
      have := Nat.mul_le_mul_right s hr
      rw [Nat.add_mul, Nat.one_mul] at this
      omega
    obtain ⟨cur', k1, k2, k3⟩ := setCells_row cs (off + n * s) (W.alloc (.cells cs.toArray e)) cur hg hfit
    have hS := setCells_same g cs (off + n * s) (W.alloc (.cells cs.toArray e))
    have hgS : W.grownBy ((W.alloc (.cells cs.toArray e)).setCells g (off + n * s) cs) (some g) := ⟨hS.1, hS.2.1, hS.2.2.1, by rw [hS.2.2.2]; simp, fun k hk hne => by
      rw [setCells_far cs _ k (fun e => hne (by rw [e]))]
      exact Below.heap_alloc W _ k hk⟩
    refine h _ _ ⟨by rw [List.length_append, Nat.add_mul]; omega, g, off, cap, cur', rfl, hb, k1, hr, hm, by omega, ?_⟩ (pw_below_grown HB (some g) hbase hgS (fun k hk => by injection hk with hk; omega)) hgS (.inl rfl)
    have hd : cur'.toList.drop off = xs ++ (cs ++ cur.toList.drop (off + n * s + cs.length)) := by
      have hl1 : off ≤ (cur.toList.take (off + n * s)).length := by rw [List.length_take, Array.length_toList]; omega
      rw [k3, List.append_assoc, List.drop_append_of_le_length hl1, ← htk]
      congr 1
      rw [List.drop_take]
      congr 1
      omega
    rw [hd, ← List.append_assoc]
    have hl2 : (xs ++ cs).length = (n + 1) * s := by rw [List.length_append, Nat.add_mul]; omega
    rw [← hl2]
    exact List.take_left
  · have hq' := (IsQ.of_own ho' (by omega)).mono (b := base) (by have := hgA.size; omega)
    have hg2 : W.grownBy w' none := ⟨hg'.os.trans hgA.os, hg'.tape.trans hgA.tape, hg'.output.trans hgA.output, Nat.le_trans hgA.size hg'.size, fun k hk hne => (hg'.block k (Nat.lt_of_lt_of_le hk hgA.size) hne).trans (hgA.block k hk hne)⟩
    obtain ⟨_, g2, off2, cap2, cur2, rfl, hb2, _⟩ := IsQ.of_own ho' (by omega)
    refine h _ _ hq' (pw_below_grown HB none hbase hg2 (fun k hk => by cases hk)) ⟨hg2.os, hg2.tape, hg2.output, hg2.size, fun k hk _ => hg2.block k hk (by simp)⟩ (.inr ⟨g2, rfl, ?_⟩)
    have := hgA.size
    omega
end
theorem IsQ.new (W : World) (base : Nat) (e : TypeId) (cs : List Value) (hb : base ≤ W.heap.size) : IsQ (W.alloc (.cells cs.toArray e)) base e cs.length (.slice (some ⟨W.heap.size, 0, none⟩) 1 1) 1 cs :=
  ⟨by omega, W.heap.size, 0, 1, _, rfl, hb, blk_new _ _, Nat.le_refl _, by simp [maxLen], by simp, by simp⟩
section
variable {P : Program} {ops : Array Oper} {rest : List Oper} {o : Oper} {a : Act} {Q : Exit → Act → World → Prop}
/-- The front is cut off. -/
theorem IsQ.cut {w : World} {base s n : Nat} {v : Value} {xs : List Value} (hgd : o.guard = none) (x c : Operand) (t e : TypeId) (hop : o.op = Op.slice t x (some c) none none)
    (ht : P.underlying t = some (.slice e)) (hinfo : (P.info? e).map (fun i => i.size) = some s) (hs : a.eval x = v) (hc : a.eval c = .int .i64 1) (hq : IsQ w base e s v (n + 1) xs)
    (hK : ∀ v', IsQ w base e s v' n (xs.drop s) → v'.ownBlock = v.ownBlock → wpList P ops Q rest (a.put o.dst v') w) : wpList P ops Q (o :: rest) a w := by
  obtain ⟨i, hi, hi'⟩ := Option.map_eq_some_iff.1 hinfo
  have he : P.elem t = e := by simp [Program.elem, ht]
  obtain ⟨g, off, cap, rfl, _, _, hcap⟩ := hq.form
  have hrun : (Instr.sliceAt t (.slice (some ⟨g, off, none⟩) (n + 1) cap) (some (.int .i64 1)) none none).run P w = .ok (sliced (some ⟨g, off, none⟩) 1 (n + 1) cap s) w := by
    rw [run_sliceAt_slice w t _ _ _ _ (by rw [he]; exact ht), run_slice_l w t _ _ _ (by rw [he]; exact ht) .i64 1 (by omega) (by omega), he]
    simp [sizeOf, typeInfo, hi, hi', Result.andThen]
  refine wpList_plain hgd fun K' hK' => ?_
  unfold Oper.wp
  simp only [execOp, hop]
  simp [hs, hc, hrun, Result.andThen]
  refine hK' _ _ (hK _ ?_ ?_)
  · unfold sliced
    by_cases h1 : cap = 1
    · subst h1
      obtain rfl : n = 0 := by omega
      rw [if_pos rfl]
      obtain ⟨h1, g', off', cap', cur, hv, hb, hg, hc, hm, hs, ht⟩ := hq
      injection hv with ha _ hcc
      injection ha with ha
      injection ha with ha hbb
      subst ha
      subst hbb
      exact ⟨by rw [List.length_drop]; omega, g, off, 0, cur, rfl, hb, hg, Nat.le_refl _, Nat.zero_le _, by omega, by rw [Nat.zero_mul, List.take_zero]; symm; rw [List.drop_eq_nil_iff]; omega⟩
    · rw [if_neg (by omega)]
      have := hq.tail
      simpa [Addr.add_lit] using this
  · unfold sliced
    by_cases h1 : cap = 1 <;> simp [h1, Value.ownBlock, Addr.add_lit]
end
end Go.Proofs.Ythegbhfoleiegaa.All


/- Maps of bools that a call makes: as sets of numbers. -/
namespace Go.Proofs.Ythegbhfoleiegaa.All
open Go.RowKit Go.Proofs.YthegbhfoleiegaaW.PrintWords Go.Proofs.YthegbhfoleiegaaW.PrintLast Go.Proofs.YthegbhfoleiegaaW.PrintMore
set_option linter.unusedVariables false
set_option linter.unusedSimpArgs false
open Go.Maps (Keyed)
theorem plainElem_bool_inv {H : Type} {P : Program} {e : TypeId} (he : P.underlying e = some .bool) {v : Value} {z : DataW H × List MemPlace} (h : plainElem P e v = some z) : ∃ x, v = .bool x ∧ z = (.lit (.bool x), []) := by
  unfold plainElem at h
  rw [he] at h
  cases v <;> simp at h
  exact ⟨_, rfl, h.symm⟩
/-- Block b is a map of at most n entries from int64 (type k) to bool (type e); S is what is told of a number. -/
def IsSet (P : Program) (k e : TypeId) (w : World) (b n : Nat) (S : Int → Bool) : Prop :=
  ∃ D : DataW Unit, w.ownsMap P k (plainElem P e) b n D ∧ ∀ x, (Lit.int .i64 x).wf = true → D.atKey (.int .i64 x) (.lit (.bool false)) = .lit (.bool (S x))
section
variable {P : Program} {k e : TypeId} {w w1 : World} {b n : Nat} {S : Int → Bool}
theorem IsSet.made (w : World) (P : Program) (k e : TypeId) : IsSet P k e (w.alloc (.map #[] 0)) w.heap.size 0 (fun _ => false) :=
  ⟨.map [], World.ownsMap_made w P k _, fun x _ => by simp [DataW.atKey]⟩
theorem IsSet.kept {row : Option Nat} (h : IsSet P k e w b n S) (hg : w.grownBy w1 row) (hne : some b ≠ row) : IsSet P k e w1 b n S := by
  obtain ⟨D, h1, h2⟩ := h
  exact ⟨D, h1.kept hg hne, h2⟩
theorem IsSet.below (h : IsSet P k e w b n S) (hb : Below w.heap.size w w1) : IsSet P k e w1 b n S := h.kept (grown_of_below hb none) (by simp)
theorem IsSet.alloc (h : IsSet P k e w b n S) (o : Obj) : IsSet P k e (w.alloc o) b n S := h.below (below_alloc (Below.refl _ _) o)
theorem IsSet.drewN (h : IsSet P k e w b n S) (m : Nat) : IsSet P k e (w.drewN m) b n S := h
theorem IsSet.drew (h : IsSet P k e w b n S) : IsSet P k e w.drew b n S := h
theorem IsSet.lt (h : IsSet P k e w b n S) : b < w.heap.size := by obtain ⟨D, h1, _⟩ := h; exact h1.lt
theorem IsSet.mono (h : IsSet P k e w b n S) {n' : Nat} (hn : n ≤ n') : IsSet P k e w b n' S := by obtain ⟨D, h1, h2⟩ := h; exact ⟨D, h1.mono hn, h2⟩
theorem IsSet.congr {S' : Int → Bool} (h : IsSet P k e w b n S) (he : ∀ x, S' x = S x) : IsSet P k e w b n S' := by obtain ⟨D, h1, h2⟩ := h; exact ⟨D, h1, fun x hx => by rw [he]; exact h2 x hx⟩
theorem IsSet.look {t : TypeId} (h : IsSet P k e w b n S) (hk : P.underlying k = some (.int .i64)) (ht : P.underlying t = some (.map k e)) (he : P.underlying e = some .bool) (hz : (zeroValue e).run P w = .ok (.bool false) w) {x : Int} (hx : (Lit.int .i64 x).wf = true) :
    (Instr.lookup t (.map (some b)) (.int .i64 x) false).run P w = .ok (.bool (S x)) w := by
  obtain ⟨D, h1, h2⟩ := h
  obtain ⟨v, ps, hrun, hv⟩ := h1.lookup (Maps.int_keyed hk) ht hz (plainElem_bool he false) (Maps.keyOf_int_mk hk hx)
  obtain ⟨c, rfl, hc⟩ := plainElem_bool_inv he hv
  simp only [Prod.mk.injEq] at hc
  have := h2 x hx
  rw [hc.1] at this
  injection this with this
  injection this with this
  rw [this] at hrun
  exact hrun
theorem IsSet.put {t : TypeId} (h : IsSet P k e w b n S) (hk : P.underlying k = some (.int .i64)) (ht : P.underlying t = some (.map k e)) (he : P.underlying e = some .bool) (hn : n < maxLen) {x : Int} (hx : (Lit.int .i64 x).wf = true) (v : Bool) :
    ∃ w', (Instr.mapUpdate t (.map (some b)) (.int .i64 x) (.bool v)).run P w = .ok () w' ∧ IsSet P k e w' b (n + 1) (fun y => if y = x then v else S y) ∧ w.grownBy w' (some b) := by
  obtain ⟨D, h1, h2⟩ := h
  have hm := h1.isMap
  obtain ⟨w', hrun, h3, hg⟩ := h1.update (Maps.int_keyed hk) ht hn (Maps.keyOf_int_mk hk hx) (plainElem_bool he v)
  refine ⟨w', hrun, ⟨_, h3, fun y hy => ?_⟩, hg⟩
  by_cases hxy : y = x
  · subst hxy
    rw [Maps.atKey_put_same hm (by simp [WideAt.IsKeyLit])]
    simp
  · rw [Maps.atKey_put_other (by simpa using hxy), h2 y hy]
    simp [hxy]
end
section
variable {P : Program} {ops : Array Oper} {rest : List Oper} {o : Oper} {a : Act} {Q : Exit → Act → World → Prop} {w : World}
end
end Go.Proofs.Ythegbhfoleiegaa.All


/- Maps of bools that a call makes, with keys of any kind: as sets of values. -/
namespace Go.Proofs.Ythegbhfoleiegaa.All
open Go.RowKit Go.Proofs.YthegbhfoleiegaaW.PrintWords Go.Proofs.YthegbhfoleiegaaW.PrintLast Go.Proofs.YthegbhfoleiegaaW.PrintMore
set_option linter.unusedVariables false
set_option linter.unusedSimpArgs false
open Go.Maps (Keyed)
/-- Block b is a map of at most n entries from type k to bool (type e); S is what is told of a key. -/
def IsSetV (P : Program) (k e : TypeId) (w : World) (b n : Nat) (S : Value → Bool) : Prop :=
  ∃ D : DataW Unit, w.ownsMap P k (plainElem P e) b n D ∧ ∀ x l, keyOf P k x = some l → D.atKey l (.lit (.bool false)) = .lit (.bool (S x))
section
variable {P : Program} {k e : TypeId} {w w1 : World} {b n : Nat} {S : Value → Bool}
theorem IsSetV.made (w : World) (P : Program) (k e : TypeId) : IsSetV P k e (w.alloc (.map #[] 0)) w.heap.size 0 (fun _ => false) :=
  ⟨.map [], World.ownsMap_made w P k _, fun x l _ => by simp [DataW.atKey]⟩
theorem IsSetV.kept {row : Option Nat} (h : IsSetV P k e w b n S) (hg : w.grownBy w1 row) (hne : some b ≠ row) : IsSetV P k e w1 b n S := by
  obtain ⟨D, h1, h2⟩ := h
  exact ⟨D, h1.kept hg hne, h2⟩
theorem IsSetV.below (h : IsSetV P k e w b n S) (hb : Below w.heap.size w w1) : IsSetV P k e w1 b n S := h.kept (grown_of_below hb none) (by simp)
theorem IsSetV.alloc (h : IsSetV P k e w b n S) (o : Obj) : IsSetV P k e (w.alloc o) b n S := h.below (below_alloc (Below.refl _ _) o)
theorem IsSetV.drewN (h : IsSetV P k e w b n S) (m : Nat) : IsSetV P k e (w.drewN m) b n S := h
theorem IsSetV.drew (h : IsSetV P k e w b n S) : IsSetV P k e w.drew b n S := h
theorem IsSetV.lt (h : IsSetV P k e w b n S) : b < w.heap.size := by obtain ⟨D, h1, _⟩ := h; exact h1.lt
theorem IsSetV.mono (h : IsSetV P k e w b n S) {n' : Nat} (hn : n ≤ n') : IsSetV P k e w b n' S := by obtain ⟨D, h1, h2⟩ := h; exact ⟨D, h1.mono hn, h2⟩
theorem IsSetV.congr {S' : Value → Bool} (h : IsSetV P k e w b n S) (he : ∀ x l, keyOf P k x = some l → S' x = S x) : IsSetV P k e w b n S' := by obtain ⟨D, h1, h2⟩ := h; exact ⟨D, h1, fun x l hx => by rw [he x l hx]; exact h2 x l hx⟩
theorem IsSetV.look {t : TypeId} (h : IsSetV P k e w b n S) (K : Keyed P k) (ht : P.underlying t = some (.map k e)) (he : P.underlying e = some .bool) (hz : (zeroValue e).run P w = .ok (.bool false) w) {x : Value} {l : Lit} (hx : keyOf P k x = some l) :
    (Instr.lookup t (.map (some b)) x false).run P w = .ok (.bool (S x)) w := by
  obtain ⟨D, h1, h2⟩ := h
  obtain ⟨v, ps, hrun, hv⟩ := h1.lookup K ht hz (plainElem_bool he false) hx
  obtain ⟨c, rfl, hc⟩ := plainElem_bool_inv he hv
  simp only [Prod.mk.injEq] at hc
  have := h2 x l hx
  rw [hc.1] at this
  injection this with this
  injection this with this
  rw [this] at hrun
  exact hrun
open Classical in
theorem IsSetV.put {t : TypeId} (h : IsSetV P k e w b n S) (K : Keyed P k) (ht : P.underlying t = some (.map k e)) (he : P.underlying e = some .bool) (hn : n < maxLen) {x : Value} {l : Lit} (hx : keyOf P k x = some l) (v : Bool) :
    ∃ w', (Instr.mapUpdate t (.map (some b)) x (.bool v)).run P w = .ok () w' ∧ IsSetV P k e w' b (n + 1) (fun y => if y = x then v else S y) ∧ w.grownBy w' (some b) := by
  obtain ⟨D, h1, h2⟩ := h
  have hm := h1.isMap
  obtain ⟨w', hrun, h3, hg⟩ := h1.update K ht hn hx (plainElem_bool he v)
  refine ⟨w', hrun, ⟨_, h3, fun y l' hy => ?_⟩, hg⟩
  by_cases hxy : y = x
  · subst hxy
    rw [hx] at hy
    obtain rfl := Option.some.inj hy
    rw [Maps.atKey_put_same hm (K.key hx)]
    simp
  · rw [Maps.atKey_put_other (by rintro rfl; exact hxy (K.inj hy hx)), h2 y l' hy]
    simp [hxy]
end
section
variable {P : Program} {ops : Array Oper} {rest : List Oper} {o : Oper} {a : Act} {Q : Exit → Act → World → Prop} {w : World}
theorem wpList_look_setV (hg : o.guard = none) (m x : Operand) (t : TypeId) (hop : o.op = Op.lookup t m x false) (k e : TypeId) (K : Keyed P k) (ht : P.underlying t = some (.map k e)) (he : P.underlying e = some .bool)
    (hz : (zeroValue e).run P w = .ok (.bool false) w) (b n : Nat) (S : Value → Bool) (hm : a.eval m = .map (some b)) (hs : IsSetV P k e w b n S) (v : Value) (hx : a.eval x = v) (l : Lit) (hw : keyOf P k v = some l)
    (hK : wpList P ops Q rest (a.put o.dst (.bool (S v))) w) : wpList P ops Q (o :: rest) a w := by
  refine wpList_plain hg fun K' hK' => ?_
  have hrun := hs.look K ht he hz hw
  unfold Oper.wp
  simp [execOp, hop, hm, hx, hrun, Result.andThen]
  exact hK' _ _ hK
open Classical in
theorem wpList_put_setV (hg : o.guard = none) (m x v : Operand) (t : TypeId) (hop : o.op = Op.mapUpdate t m x v) (k e : TypeId) (K : Keyed P k) (ht : P.underlying t = some (.map k e)) (he : P.underlying e = some .bool)
    (b n : Nat) (S : Value → Bool) (hm : a.eval m = .map (some b)) (hs : IsSetV P k e w b n S) (hn : n < maxLen) (u : Value) (hx : a.eval x = u) (l : Lit) (hw : keyOf P k u = some l) (c : Bool) (hv : a.eval v = .bool c)
    (hK : ∀ w', IsSetV P k e w' b (n + 1) (fun y => if y = u then c else S y) → w.grownBy w' (some b) → wpList P ops Q rest (a.put o.dst undef) w') : wpList P ops Q (o :: rest) a w := by
  refine wpList_plain hg fun K' hK' => ?_
  obtain ⟨w', hrun, r1, r2⟩ := hs.put K ht he hn hw c
  unfold Oper.wp
  simp [execOp, hop, hm, hx, hv, hrun, Result.andThen]
  exact hK' _ _ (hK w' r1 r2)
end
/-- A row of one's own is no map. -/
theorem Kd.R_notsetV {α : Type} {d : Kd α} {P : Program} {e : Nat} {k t : TypeId} {w : World} {base b n : Nat} {ok : Nat → Prop} {v : Value} {xs : List α} {S : Value → Bool} (h : d.R e w base ok v xs) (hs : IsSetV P k t w b n S) : d.R e w base (fun j => ok j ∧ j ≠ b) v xs := by
  obtain ⟨D, ⟨es, clock, hb, _⟩, _⟩ := hs
  refine Kd.R_mono (Kd.R_bound h) (fun j hj => ⟨hj.1, ?_⟩)
  rintro rfl
  obtain ⟨_, _, _, q, _, cells, hc⟩ := hj
  rw [hc] at hb
  injection hb with hb
  cases hb
theorem Kd.R_notset_ownV {α : Type} {d : Kd α} {P : Program} {e : Nat} {k t : TypeId} {w : World} {base b n : Nat} {ok : Nat → Prop} {v : Value} {xs : List α} {S : Value → Bool} (h : d.R e w base ok v xs) (hs : IsSetV P k t w b n S) : some b ≠ v.ownBlock := fun he => ((Kd.R_notsetV h hs).1 b he.symm).2 rfl
section
variable {P : Program} {ops : Array Oper} {rest : List Oper} {o : Oper} {a : Act} {Q : Exit → Act → World → Prop} {w : World}
open Classical in
theorem wpList_ins_setV (hg : o.guard = none) (m x v : Operand) (t : TypeId) (hop : o.op = Op.insert t m x v) (k e : TypeId) (K : Keyed P k) (ht : P.underlying t = some (.map k e)) (he : P.underlying e = some .bool)
    (b n : Nat) (S : Value → Bool) (hm : a.eval m = .map (some b)) (hs : IsSetV P k e w b n S) (hn : n < maxLen) (u : Value) (hx : a.eval x = u) (l : Lit) (hw : keyOf P k u = some l) (c : Bool) (hv : a.eval v = .bool c)
    (hK : ∀ w', IsSetV P k e w' b (n + 1) (fun y => if y = u then c else S y) → w.grownBy w' (some b) → wpList P ops Q rest (a.put o.dst undef) w') : wpList P ops Q (o :: rest) a w := by
  refine wpList_plain hg fun K' hK' => ?_
  obtain ⟨w', hrun, r1, r2⟩ := hs.put K ht he hn hw c
  unfold Oper.wp
  simp [execOp, hop, hm, hx, hv, hrun, Result.andThen]
  exact hK' _ _ (hK w' r1 r2)
end
end Go.Proofs.Ythegbhfoleiegaa.All


/- What an entry needs: the work list, as a function. -/
namespace Go.Proofs.Ythegbhfoleiegaa.All
open Go.RowKit Go.Proofs.YthegbhfoleiegaaW.PrintWords Go.Proofs.YthegbhfoleiegaaW.PrintLast Go.Proofs.YthegbhfoleiegaaW.PrintMore
set_option linter.unusedVariables false
set_option linter.unusedSimpArgs false
open Go.Maps (Keyed)
def mkP (q : Int × Int) : S125 := ⟨q.1, q.2⟩
def plv (x : S125) : Value := .agg #[.int .i64 x.f0, .int .i64 x.f1]
def pcs (xs : List (S125)) : List Value := xs.flatMap fun x => [.int .i64 x.f0, .int .i64 x.f1]
def hasP (work : List (S125)) (x : S125) : Bool := work.any fun y => y.f0 == x.f0 && y.f1 == x.f1
noncomputable def setP (work : List (S125)) (v : Value) : Bool := @decide (∃ y ∈ work, v = plv y) (Classical.propDecidable _)
theorem setP_iff {work : List (S125)} {v : Value} : setP work v = true ↔ ∃ y ∈ work, v = plv y := @decide_eq_true_iff _ (Classical.propDecidable _)
theorem plv_inj {x y : S125} (h : plv x = plv y) : x = y := by
  unfold plv at h
  injection h with h
  injection h with h
  injection h with h1 h2
  injection h1 with _ h1
  injection h2 with h2 _
  injection h2 with _ h2
  cases x
  cases y
  simp only at h1 h2
  rw [h1, h2]
theorem hasP_iff {work : List (S125)} {x : S125} : hasP work x = true ↔ x ∈ work := by
  unfold hasP
  rw [List.any_eq_true]
  constructor
  · rintro ⟨y, hy, h⟩
    rw [Bool.and_eq_true, beq_iff_eq, beq_iff_eq] at h
    have : y = x := by cases y; cases x; simp only at h; rw [h.1, h.2]
    rw [← this]; exact hy
  · intro h
    exact ⟨x, h, by simp⟩
theorem setP_plv (work : List (S125)) (x : S125) : setP work (plv x) = hasP work x := by
  rw [Bool.eq_iff_iff, hasP_iff, setP_iff]
  constructor
  · rintro ⟨y, hy, h⟩
    rw [plv_inj h]; exact hy
  · exact fun h => ⟨x, h, rfl⟩
open Classical in
theorem setP_snoc (work : List (S125)) (x : S125) (v : Value) : setP (work ++ [x]) v = if v = plv x then true else setP work v := by
  rw [Bool.eq_iff_iff]
  by_cases h : v = plv x
  · rw [if_pos h, setP_iff]
    exact ⟨fun _ => rfl, fun _ => ⟨x, by simp, h⟩⟩
  · rw [if_neg h, setP_iff, setP_iff]
    constructor
    · rintro ⟨y, hy, e⟩
      rcases List.mem_append.1 hy with hy | hy
      · exact ⟨y, hy, e⟩
      · rw [List.mem_singleton] at hy; subst hy; exact absurd e h
    · rintro ⟨y, hy, e⟩
      exact ⟨y, List.mem_append_left _ hy, e⟩
def relsOf (l : List (S68)) (p : S125) : List (S132) := (rd_T130 (rd_T68 l p.f0).f0 p.f1).f7
def addN (l : List (S68)) (p : S125) (work : List (S125)) (r : S132) : List (S125) :=
  match spotN l p.f0 r.f2 with
  | none => work
  | some q => if hasP work (mkP q) = true then work else work ++ [mkP q]
def stepP (l : List (S68)) (p : S125) (work : List (S125)) : List (S125) := (relsOf l p).foldl (addN l p) work
def bfsN : Nat → List (S68) → List (S125) → Nat → Option (List (S125))
  | 0, _, _, _ => none
  | k + 1, l, work, i => if i < work.length then bfsN k l (stepP l (work.getD i z125) work) (i + 1) else some work
def rowPl (l : List (S68)) (i : Nat) : List (S125) := (List.range (l.getD i z68).f0.length).map fun (k : Nat) => ⟨(i : Int), (k : Int)⟩
def placesOf (l : List (S68)) : List (S125) := (List.range l.length).flatMap (rowPl l)
def okR (l : List (S68)) : Prop := okN l ∧ ∀ o ∈ l, ∀ s ∈ o.f0, s.f7.length ≤ 1000000000
instance (l : List (S68)) : Decidable (okR l) := by unfold okR okN; infer_instance
def needN (k : Nat) (l : List (S68)) (entry : ByteArray) : Option (List (S125)) :=
  match spotN l (-1) entry with
  | none => some []
  | some q => if (rd_T130 (rd_T68 l q.1).f0 q.2).f1 = 1 then (bfsN k l [mkP q] 0).bind fun work => if work.length ≤ 1000000000 ∧ (placesOf l).length ≤ 1000000000 then some ((placesOf l).filter (hasP work)) else none else some []
def okP (l : List (S68)) (p : S125) : Prop := 0 ≤ p.f0 ∧ p.f0 < (l.length : Int) ∧ 0 ≤ p.f1 ∧ p.f1 < ((rd_T68 l p.f0).f0.length : Int)
theorem secAt_ok {nm : ByteArray} {lk : Int} {o : S68} {k : Nat} (h : secAt nm lk o = some k) : k < o.f0.length := by
  unfold secAt at h
  rw [List.findIdx?_eq_some_iff_getElem] at h
  exact h.1
theorem objAt_ok {l : List (S68)} {nm : ByteArray} {lk : Int} {q : Int × Int} (h : objAt l nm lk = some q) : okP l (mkP q) := by
  unfold objAt at h
  obtain ⟨i, hi, h⟩ := Option.bind_eq_some_iff.1 h
  obtain ⟨k, hk, rfl⟩ := Option.map_eq_some_iff.1 h
  rw [List.findIdx?_eq_some_iff_getElem] at hi
  have h2 := secAt_ok hk
  have e : rd_T68 l (i : Int) = l.getD i z68 := by unfold rd_T68; rw [Int.toNat_natCast]
  refine ⟨?_, ?_, ?_, ?_⟩
  · show (0 : Int) ≤ (i : Int); omega
  · show (i : Int) < _; have := hi.1; omega
  · show (0 : Int) ≤ (k : Int); omega
  · show (k : Int) < ((rd_T68 l (i : Int)).f0.length : Int); rw [e]; omega
theorem spotN_ok {l : List (S68)} {obj : Int} {nm : ByteArray} {q : Int × Int} (ho : obj < (l.length : Int)) (h : spotN l obj nm = some q) : okP l (mkP q) := by
  unfold spotN at h
  rcases Option.or_eq_some_iff.1 h with h | ⟨_, h⟩
  · unfold locAt at h
    split at h
    · rename_i h0
      obtain ⟨k, hk, rfl⟩ := Option.map_eq_some_iff.1 h
      have h2 := secAt_ok hk
      refine ⟨h0, ho, ?_, ?_⟩
      · show (0 : Int) ≤ (k : Int); omega
      · show (k : Int) < ((rd_T68 l obj).f0.length : Int); omega
    · cases h
  · rcases Option.or_eq_some_iff.1 h with h | ⟨_, h⟩
    · exact objAt_ok h
    · exact objAt_ok h
theorem addN_ok {l : List (S68)} {p : S125} {work : List (S125)} {r : S132} (hp : okP l p) (h : ∀ x ∈ work, okP l x) : ∀ x ∈ addN l p work r, okP l x := by
  unfold addN
  split
  · exact h
  · rename_i q hq
    split
    · exact h
    · intro x hx
      rcases List.mem_append.1 hx with hx | hx
      · exact h x hx
      · rw [List.mem_singleton] at hx; subst hx; exact spotN_ok hp.2.1 hq
theorem addN_len (l : List (S68)) (p : S125) (work : List (S125)) (r : S132) : work.length ≤ (addN l p work r).length := by
  unfold addN
  split
  · exact Nat.le_refl _
  · split
    · exact Nat.le_refl _
    · rw [List.length_append]; omega
theorem fold_len (l : List (S68)) (p : S125) : ∀ (rs : List (S132)) (work : List (S125)), work.length ≤ (rs.foldl (addN l p) work).length
  | [], _ => Nat.le_refl _
  | r :: rs, work => Nat.le_trans (addN_len l p work r) (fold_len l p rs _)
theorem bfs_len {l : List (S68)} : ∀ {k : Nat} {work F : List (S125)} {i : Nat}, bfsN k l work i = some F → work.length ≤ F.length
  | 0, _, _, _, h => by simp [bfsN] at h
  | k + 1, work, F, i, h => by
    unfold bfsN at h
    split at h
    · exact Nat.le_trans (fold_len l _ _ work) (bfs_len h)
    · injection h with h; rw [h]; exact Nat.le_refl _
theorem relsOf_len {l : List (S68)} (h : okR l) {p : S125} (hp : okP l p) : (relsOf l p).length ≤ 1000000000 := by
  obtain ⟨a1, a2, a3, a4⟩ := hp
  unfold relsOf
  have h1 : p.f0.toNat < l.length := by omega
  have e1 : rd_T68 l p.f0 = l[p.f0.toNat] := by unfold rd_T68; rw [List.getD_eq_getElem?_getD, List.getElem?_eq_getElem h1]; rfl
  rw [e1] at a4 ⊢
  have h2 : p.f1.toNat < (l[p.f0.toNat]).f0.length := by omega
  have e2 : rd_T130 (l[p.f0.toNat]).f0 p.f1 = (l[p.f0.toNat]).f0[p.f1.toNat] := by unfold rd_T130; rw [List.getD_eq_getElem?_getD, List.getElem?_eq_getElem h2]; rfl
  rw [e2]
  exact h.2 _ (List.getElem_mem _) _ (List.getElem_mem _)
theorem pcs_append (xs ys : List (S125)) : pcs (xs ++ ys) = pcs xs ++ pcs ys := by unfold pcs; rw [List.flatMap_append]
theorem pcs_cons (x : S125) (xs : List (S125)) : pcs (x :: xs) = [.int .i64 x.f0, .int .i64 x.f1] ++ pcs xs := rfl
/-- The key of a place. -/
theorem placeLaid : laidOutB Try.prog = true := by kernel_rfl
theorem placeRow : (125 : TypeId) < Try.prog.types.size := of_decide_eq_true (by kernel_rfl)
theorem placeDeep : Try.prog.keyTypeAt 2 125 = true := by kernel_rfl
theorem placeLaw : Keyed Try.prog 125 := Keyed.of_law (deep_law_laid placeLaid (m := 2) (by omega) placeRow placeDeep (by rw [Try.underlying125]))
theorem place_key {x y : Int} (hx : (Lit.int .i64 x).wf = true) (hy : (Lit.int .i64 y).wf = true) : ∃ l, keyOf Try.prog 125 (.agg #[.int .i64 x, .int .i64 y]) = some l := by
  have h1 : Try.prog.keyType 125 = true := by kernel_rfl
  have h2 : Try.prog.cellsOf 125 = 2 := by kernel_rfl
  have h3 : Try.prog.cellsOf 2 = 1 := by kernel_rfl
  have h4 : (Value.agg #[.int .i64 x, .int .i64 y]).formed Try.prog 125 = true := by simp [Value.formed, Try.underlying125, h2]
  have key : ∀ m : Nat, 1 ≤ m → ∃ n, m + 1 = n + 2 := fun m h => ⟨m - 1, by omega⟩
  obtain ⟨n, hn⟩ := key Try.prog.types.size (Nat.lt_of_le_of_lt (Nat.zero_le _) placeRow)
  unfold keyOf
  rw [Try.underlying125]
  simp only [h1, h4, Bool.and_self, if_true]
  rw [show (Value.agg #[.int .i64 x, .int .i64 y]).cells.toList = [.int .i64 x, .int .i64 y] from rfl, hn]
  have hw : ∀ z : Int, (Lit.int .i64 z).wf = true → Try.prog.keyLits (n + 1) 2 [.int .i64 z] = some [.int .i64 z] := fun z hz => by
    unfold Program.keyLits
    rw [Try.underlying2]
    simp [hz]
  have hk : Try.prog.keyLits (n + 2) 125 [.int .i64 x, .int .i64 y] = some [.int .i64 x, .int .i64 y] := by
    unfold Program.keyLits
    rw [Try.underlying125]
    simp [h2, h3, hw x hx, hw y hy]
  rw [hk]
  exact ⟨_, rfl⟩
theorem Q_notset {P : Program} {w : World} {base : Nat} {e : TypeId} {s n b m : Nat} {v : Value} {xs : List Value} {k t : TypeId} {S : Value → Bool} (h : IsQ w base e s v n xs) (hs : IsSetV P k t w b m S) : v.ownBlock ≠ some b := by
  obtain ⟨_, g, off, cap, cur, rfl, _, hg, _⟩ := h
  obtain ⟨D, ⟨es, clock, hb, _⟩, _⟩ := hs
  intro e
  injection e with e
  simp only at e
  subst e
  rw [hg] at hb
  injection hb with hb
  cases hb
theorem Q_lt {w : World} {base : Nat} {e : TypeId} {s n : Nat} {v : Value} {xs : List Value} (h : IsQ w base e s v n xs) {b : Nat} (hb : w.heap.size ≤ b) : v.ownBlock ≠ some b := by
  obtain ⟨g, off, cap, rfl, _, hg, _⟩ := h.form
  intro e
  injection e with e
  simp only at e
  omega
theorem nd_low {w w' : World} {o : Obj} (h : Below (w.alloc o).heap.size (w.alloc o) w') : Below w.heap.size w w' := Below.trans (below_alloc (Below.refl _ _) o) (h.mono (by simp))
theorem setP_one (x : S125) (v : Value) : setP [x] v = setP ([] ++ [x]) v := rfl
theorem setP_nil (v : Value) : setP [] v = false := by
  rw [Bool.eq_false_iff]
  intro h
  obtain ⟨y, hy, _⟩ := setP_iff.1 h
  cases hy
theorem take_fold {α β : Type} (f : β → α → β) (b : β) (z : α) (l : List α) (m : Nat) (h : m < l.length) : (l.take (m + 1)).foldl f b = f ((l.take m).foldl f b) (l.getD m z) := by
  rw [List.take_succ_eq_append_getElem h, List.foldl_append, List.getD_eq_getElem?_getD, List.getElem?_eq_getElem h]
  rfl
theorem drop_pcs {work : List (S125)} {i : Nat} (h : i < work.length) : pcs (work.drop i) = [.int .i64 (work.getD i z125).f0, .int .i64 (work.getD i z125).f1] ++ pcs (work.drop (i + 1)) := by
  rw [List.drop_eq_getElem_cons h, pcs_cons, List.getD_eq_getElem?_getD, List.getElem?_eq_getElem h]
  rfl
theorem getD_mem_ {α : Type} {l : List α} {i : Nat} {z : α} (h : i < l.length) : l.getD i z ∈ l := by
  rw [List.getD_eq_getElem?_getD, List.getElem?_eq_getElem h]
  exact List.getElem_mem _
theorem fold_ok {l : List (S68)} {p : S125} (hp : okP l p) : ∀ (rs : List (S132)) (work : List (S125)), (∀ x ∈ work, okP l x) → ∀ x ∈ rs.foldl (addN l p) work, okP l x
  | [], _, h => h
  | r :: rs, work, h => fold_ok hp rs _ (addN_ok hp h)
theorem fold_take_len (l : List (S68)) (p : S125) (rs : List (S132)) (work : List (S125)) (m : Nat) : ((rs.take m).foldl (addN l p) work).length ≤ (rs.foldl (addN l p) work).length := by
  have e : rs.foldl (addN l p) work = (rs.drop m).foldl (addN l p) ((rs.take m).foldl (addN l p) work) := by rw [← List.foldl_append, List.take_append_drop]
  rw [e]
  exact fold_len l p _ _
theorem rowPl_take (l : List (S68)) (i k : Nat) (h : k < (l.getD i z68).f0.length) : (rowPl l i).take (k + 1) = (rowPl l i).take k ++ [⟨(i : Int), (k : Int)⟩] := by
  have hl : k < (rowPl l i).length := by unfold rowPl; simpa using h
  rw [List.take_succ_eq_append_getElem hl]
  congr 1
  unfold rowPl
  simp
theorem rowPl_len (l : List (S68)) (i : Nat) : (rowPl l i).length = (l.getD i z68).f0.length := by unfold rowPl; simp
theorem plTake_succ (l : List (S68)) (m : Nat) : (List.range (m + 1)).flatMap (rowPl l) = (List.range m).flatMap (rowPl l) ++ rowPl l m := by
  rw [List.range_succ, List.flatMap_append]
  simp
theorem filter_snoc {α : Type} (f : α → Bool) (l : List α) (x : α) : (l ++ [x]).filter f = if f x = true then l.filter f ++ [x] else l.filter f := by
  rw [List.filter_append]
  split
  · rename_i h; simp [h]
  · rename_i h; simp [h]
theorem pcs_push {wk : List (S125)} {j : Nat} (h : j ≤ wk.length) (q : S125) : pcs ((wk ++ [q]).drop j) = pcs (wk.drop j) ++ [.int .i64 q.f0, .int .i64 q.f1] := by
  rw [List.drop_append_of_le_length h, pcs_append]
  rfl
theorem len_push {wk : List (S125)} {j : Nat} (h : j ≤ wk.length) (q : S125) : (wk ++ [q]).length - j = wk.length - j + 1 := by
  rw [List.length_append, List.length_singleton]
  omega
theorem addN_none {l : List (S68)} {p : S125} {wk : List (S125)} {r : S132} (h : spotN l p.f0 r.f2 = none) : addN l p wk r = wk := by unfold addN; rw [h]
theorem addN_old {l : List (S68)} {p : S125} {wk : List (S125)} {r : S132} {q : Int × Int} (h : spotN l p.f0 r.f2 = some q) (hh : hasP wk (mkP q) = true) : addN l p wk r = wk := by unfold addN; rw [h]; exact if_pos hh
theorem addN_new {l : List (S68)} {p : S125} {wk : List (S125)} {r : S132} {q : Int × Int} (h : spotN l p.f0 r.f2 = some q) (hh : hasP wk (mkP q) = false) : addN l p wk r = wk ++ [mkP q] := by unfold addN; rw [h]; exact if_neg (by rw [hh]; simp)
theorem places_len {l : List (S68)} {m : Nat} (h : m < l.length) (k : Nat) : ((List.range m).flatMap (rowPl l) ++ (rowPl l m).take k).length ≤ (placesOf l).length := by
  have e : placesOf l = (List.range (m + 1)).flatMap (rowPl l) ++ ((List.range l.length).drop (m + 1)).flatMap (rowPl l) := by
    unfold placesOf
    rw [← List.flatMap_append]
    congr 1
    have : List.range (m + 1) = (List.range l.length).take (m + 1) := by rw [List.take_range, Nat.min_eq_left (by omega)]
    rw [this, List.take_append_drop]
  rw [e, plTake_succ]
  simp only [List.length_append, List.length_take]
  omega
theorem bfsN_mono : ∀ (k : Nat) (l : List (S68)) (work : List (S125)) (i : Nat), LeO (bfsN k l work i) (bfsN (k + 1) l work i)
  | 0, _, _, _ => fun r h => by simp [bfsN] at h
  | k + 1, l, work, i => fun r h => by
    unfold bfsN at h ⊢
    split at h
    · rename_i hc
      rw [if_pos hc]
      exact bfsN_mono k _ _ _ r h
    · rename_i hc
      rw [if_neg hc]
      exact h
end Go.Proofs.Ythegbhfoleiegaa.All


namespace Go.Proofs.Ythegbhfoleiegaa.All
open Go.RowKit Go.Proofs.YthegbhfoleiegaaW.PrintWords Go.Proofs.YthegbhfoleiegaaW.PrintLast Go.Proofs.YthegbhfoleiegaaW.PrintMore
attribute [local go_sem] max2_int min2_int max_two min_two max_three min_three max_four min_four   -- for this text's walks alone
set_option linter.unusedVariables false
set_option linter.unusedSimpArgs false

/-! ### impl_Needed: function 36 -/
def impl_Needed.f (k : Nat) (l0 : List (S68)) (a1 : ByteArray) : Option (List (S125)) := if okR l0 then needN k l0 a1 else none
theorem nd_none (A0 : Option Addr) (c0 : Nat) (l0 : List (S68)) (a1 : Int) (a2 : ByteArray) (w : World) (hr0 : Kd.C k68 w A0 l0.length l0) (h1 : a1 < (l0.length : Int)) (hk : okN l0) (hr : spotN l0 a1 a2 = none) :
 Calls Try.prog 87 #[.slice A0 l0.length c0, .int .i64 a1, .string a2] w fun e w' => e = .returned (.tuple #[.agg #[.int .i64 0, .int .i64 0], .bool false]) ∧ Below w.heap.size w w' := impl_spotted.calls A0 c0 l0 a1 a2 w hr0 h1 hk none hr
theorem nd_some (A0 : Option Addr) (c0 : Nat) (l0 : List (S68)) (a1 : Int) (a2 : ByteArray) (w : World) (hr0 : Kd.C k68 w A0 l0.length l0) (h1 : a1 < (l0.length : Int)) (hk : okN l0) (x y : Int) (hr : spotN l0 a1 a2 = some (x, y)) :
 Calls Try.prog 87 #[.slice A0 l0.length c0, .int .i64 a1, .string a2] w fun e w' => e = .returned (.tuple #[.agg #[.int .i64 x, .int .i64 y], .bool true]) ∧ Below w.heap.size w w' := impl_spotted.calls A0 c0 l0 a1 a2 w hr0 h1 hk (some (x, y)) hr
theorem infoS125 : (Try.prog.info? 125).map (fun i => i.size) = some 2 := by kernel_rfl
set_option maxHeartbeats 8000000 in
set_option maxRecDepth 100000 in
theorem impl_Needed.go (k : Nat) (A0 : Option Addr) (c0 : Nat) (l0 : List (S68)) (a1 : ByteArray) (r : List (S125)) (w : World) (hr0 : Kd.C k68 w A0 l0.length l0) (hk : okR l0) (h : needN k l0 a1 = some r) :
 Calls Try.prog 36 #[.slice A0 l0.length c0, .string a1] w fun e w' => ∃ v0_ : Value, e = .returned (v0_) ∧ Kd.R k125 125 w' w.heap.size (fun _ => True) v0_ r ∧ Below w.heap.size w w' := by
 have hu1 := Try.underlying125
 have hu2 := Try.underlying130
 have hu3 := Try.underlying68
 have hu4 := Try.underlying132
 have HR := Aside0.mk hr0
 have HK := Aside0.mk hk
 have hn := hk.1.1
 unfold needN at h
 clear hr0 hk
 rcases hs : spotN l0 (-1) a1 with _ | ⟨x, y⟩
 · rw [hs] at h
   obtain rfl := Option.some.inj h
   have HS := Aside0.mk hs
   clear hs h
   go_enter Try.func36, Try.ntmps36
   go_wp2_with (first | (go_at_call 87; refine (nd_none A0 c0 l0 (-1) a1 _ HR.out (by omega) HK.out.1 HS.out).mono ?_; rintro e w1 ⟨rfl, hb⟩; have HB := Aside0.mk hb; clear hb))
   go_quiet (fail)
   go_wp2
   go_ret
   exact ⟨_, rfl, Kd.R_nil _ _ _ _ _, pw_below_drewN (Below.alloc HB.out HB.out.size _) _⟩
 · rw [hs] at h
   have hok := spotN_ok (by omega) hs
   obtain ⟨p1, p2, p3, p4⟩ := hok
   simp only [mkP] at p1 p2 p3 p4
   obtain ⟨ad, A1, c1, q_, hx, hl, hi⟩ := at_T68 HR.out x p1 p2
   cases q_
   obtain ⟨bd, A4, e4, A6, e6, A7, e7, q_, x0, x1, x2, x3, x4, x5, x6, x7, l4, i4, l6, i6, l7, i7⟩ := at_T130 hi y p3 p4
   cases q_
   have hnx9 := okN_at HK.out.1 p1 p2
   clear l4 i4 l6 i6 l7 i7 hl hi x0 x2 x3 x4 x5 x6 x7
   obtain ⟨kd, hkd⟩ : ∃ z, z = (rd_T130 (rd_T68 l0 x).f0 y).f1 := ⟨_, rfl⟩
   rw [← hkd] at x1
   simp only [← hkd] at h
   obtain ⟨nx, hnx⟩ : ∃ z : Nat, z = (rd_T68 l0 x).f0.length := ⟨_, rfl⟩
   rw [← hnx] at p4 hx hnx9
   have HS := Aside0.mk hs
   have HNX := Aside0.mk hnx
   clear hs hkd hnx
   by_cases hc : kd = 1
   · subst hc
     rw [if_pos rfl] at h
     obtain ⟨F, hF, h⟩ := Option.bind_eq_some_iff.1 h
     split at h
     case isFalse => cases h
     rename_i hFl0
     have hFl := hFl0.1
     have hPl := hFl0.2
     clear hFl0
     obtain rfl := Option.some.inj h
     have HF := Aside0.mk hF
     have HV := Aside0.mk (show ∀ z ∈ [mkP (x, y)], okP l0 z from fun z hz => by rw [List.mem_singleton] at hz; subst hz; exact ⟨p1, p2, p3, by simp only [mkP]; rw [← HNX.out]; exact p4⟩)
     obtain ⟨lt, hlt⟩ := place_key (x := x) (y := y) (WalkArith.wf_i64 ⟨by omega, by omega⟩) (WalkArith.wf_i64 ⟨by omega, by omega⟩)
     have HLT := Aside0.mk hlt
     clear h hF hlt
     have hmm := @run_makeMap Try.prog
     go_enter Try.func36, Try.ntmps36
     go_wp2_with (first | (go_at_call 87; refine (nd_some _ c0 l0 (-1) a1 _ HR.out (by omega) HK.out.1 x y HS.out).mono ?_; rintro e w1 ⟨rfl, hb⟩; have HB := Aside0.mk hb; clear hb))
     obtain ⟨W, hW⟩ : ∃ W : World, W = w1.alloc (.cells #[.int .i64 x, .int .i64 y] 125) := ⟨_, rfl⟩
     rw [← hW]
     have HBW := Aside0.mk (show Below w.heap.size w W from by rw [hW]; exact Below.alloc HB.out HB.out.size _)
     have y0 : W.cell? ⟨w1.heap.size, 0, none⟩ = some (.int .i64 x) := by rw [hW]; exact (blk_cell (blk_new _ _) 0).trans rfl
     have y1 : W.cell? ⟨w1.heap.size, 1, none⟩ = some (.int .i64 y) := by rw [hW]; exact (blk_cell (blk_new _ _) 1).trans rfl
     have hxW := pw_cell_below HBW.out hx
     have x1W := pw_cell_below HBW.out x1
     have BKe := Aside0.mk (show W.heap[w1.heap.size]? = some (.cells #[.int .i64 x, .int .i64 y] 125 (0, 0)) from by rw [hW]; exact blk_new _ _)
     clear hW hx x1
     go_quiet (fail)
     obtain ⟨W2, hW2⟩ : ∃ W2 : World, W2 = W.drewN nq := ⟨_, rfl⟩
     rw [← hW2]
     have HB2 := Aside0.mk (show Below w.heap.size w W2 from by rw [hW2]; exact pw_below_drewN HBW.out _)
     have BK2 := Aside0.mk (show W2.heap[w1.heap.size]? = some (.cells #[.int .i64 x, .int .i64 y] 125 (0, 0)) from by rw [hW2]; exact BKe.out)
     clear hW2 y0 y1 hxW x1W BKe HBW
     have hw1 := blk_lt BK2.out
     have y0 := (blk_cell BK2.out 0).trans rfl
     have y1 := (blk_cell BK2.out 1).trans rfl
     have HS0 := Aside0.mk (IsSetV.made W2 Try.prog 125 4)
     go_wp2_with (first | (refine wpList_ins_setV rfl _ _ _ 135 rfl 125 4 placeLaw Try.underlying135 Try.underlying4 W2.heap.size 0 _ rfl HS0.out (by simp [maxLen]) (.agg #[.int .i64 x, .int .i64 y]) rfl lt HLT.out true rfl ?_; intro w2 hs2 hg2; have HB3 := Aside0.mk (pw_below_grown (Below.alloc HB2.out HB2.out.size _) (some W2.heap.size) (by have := HB2.out.size; simp; omega) hg2 (fun k hk => by injection hk with hk; have := HB2.out.size; omega)); have BK3 := Aside0.mk (blk_grown (blk_alloc BK2.out _) hg2 (fun h => by injection h with h; omega)); have HS3 := Aside0.mk hs2; clear y0 y1 hs2 hg2; have y0 := (blk_cell BK3.out 0).trans rfl; have y1 := (blk_cell BK3.out 1).trans rfl))
     have HWS := Aside0.mk HB2.out.size
     clear p1 p2 p3 p4 hnx9
     go_loopg [8] k (fun gk v8 wr => ∃ (work : List (S125)) (i : Nat), i ≤ work.length ∧ Aside0 (bfsN gk l0 work i = some F) ∧ Aside0 (∀ z ∈ work, okP l0 z) ∧ Aside0 (IsQ wr w.heap.size 125 2 v8 (work.length - i) (pcs (work.drop i))) ∧ Aside0 (IsSetV Try.prog 125 4 wr W2.heap.size work.length (setP work)) ∧ Aside0 (Below w.heap.size w wr))
     case atStart => exact ⟨[mkP (x, y)], 0, by simp, HF, HV, ⟨IsQ.new _ _ _ _ HB3.out.size⟩, ⟨(HS3.out.alloc _).congr (fun v l hv => by rw [setP_one, setP_snoc, setP_nil]; rfl)⟩, ⟨Below.alloc HB3.out HB3.out.size _⟩⟩
     case round =>
      clear y0 y1 hmm HV HF HS3 HB3 BK3 hw1 BK2 HB2 HS0 HB HLT
      obtain ⟨work, i, hi, HA, HV, HQ, HS, HBr⟩ := hrel
      cases gk with
      | zero => exact absurd HA.out (by simp [bfsN])
      | succ k1 =>
       have hwl := Nat.le_trans (bfs_len HA.out) hFl
       have H := HA.out
       unfold bfsN at H
       by_cases hlt : i < work.length
       · rw [if_pos hlt] at H
         obtain ⟨p, hp⟩ : ∃ p, p = work.getD i z125 := ⟨_, rfl⟩
         have hpo := HV.out p (by rw [hp]; exact getD_mem_ hlt)
         have hq := HQ.out
         rw [drop_pcs hlt, ← hp] at hq
         rw [← hp] at H
         obtain ⟨n, hn⟩ : ∃ n, work.length - i = n + 1 := ⟨work.length - i - 1, by omega⟩
         rw [hn] at hq
         have hn1 : n = work.length - (i + 1) := by omega
         have HPO := Aside0.mk hpo
         obtain ⟨p1, p2, p3, p4⟩ := hpo
         obtain ⟨g, off, cap, hv, hg1, hg2, hcap⟩ := hq.form
         subst hv
         have e0 := hq.cell (j := 0) rfl
         have e1 := hq.cell (j := 1) rfl
         rw [Nat.add_zero] at e0
         obtain ⟨ad2, A1, c1, q_, hx, hl, hi2⟩ := at_T68 HR.out p.f0 p1 p2
         injection q_ with q_
         subst q_
         obtain ⟨bd, A4, e4, A6, e6, A7, e7, q_, x0, x1, x2, x3, x4, x5, x6, x7, l4, i4, l6, i6, l7, i7⟩ := at_T130 hi2 p.f1 p3 p4
         cases q_
         clear l4 i4 l6 i6 l7 hl hi2 x0 x1 x2 x3 x4 x5 x6
         obtain ⟨rs, hrs⟩ : ∃ rs, rs = relsOf l0 p := ⟨_, rfl⟩
         have hrs2 : (rd_T130 (rd_T68 l0 p.f0).f0 p.f1).f7 = rs := hrs.symm
         rw [hrs2] at x7 i7
         have hny9 := okN_at HK.out.1 p1 p2
         obtain ⟨ny, hny⟩ : ∃ z : Nat, z = (rd_T68 l0 p.f0).f0.length := ⟨_, rfl⟩
         rw [← hny] at p4 hx hny9
         have hrl : rs.length ≤ 1000000000 := by rw [hrs]; exact relsOf_len HK.out HPO.out
         have HST := Aside0.mk (show bfsN k1 l0 (rs.foldl (addN l0 p) work) (i + 1) = some F from by rw [hrs]; exact H)
         have HI7 := Aside0.mk i7
         have HQ1 := Aside0.mk hq
         have HN1 := Aside0.mk hn1
         have HRS := Aside0.mk hrs
         clear H HA hp hq hn hn1 i7 hrs hrs2 hny HQ
         have hbq : Value.ownBlock (.slice (some ⟨g, off, none⟩) (n + 1) cap) ≠ some wr.heap.size := Q_lt HQ1.out (Nat.le_refl _)
         have HBQ := Aside0.mk hbq
         clear hbq
         go_wp2_with (first | ((with_reducible refine gate_dst (N := 53) rfl ?_); refine IsQ.cut rfl _ _ 50 125 rfl Try.underlying50 infoS125 rfl rfl (HQ1.out.alloc _) ?_; intro v8 hq8 hb8; have HQ8 := Aside0.mk hq8; have HB8 := Aside0.mk (show v8.ownBlock ≠ some wr.heap.size from by rw [hb8]; exact HBQ.out); clear hq8 hb8))
         obtain ⟨W4, hW4⟩ : ∃ W4 : World, W4 = wr.alloc (.cells #[.int .i64 p.f0, .int .i64 p.f1] 125) := ⟨_, rfl⟩
         rw [← hW4]
         have HQ9 := Aside0.mk (show IsQ W4 w.heap.size 125 2 v8 n (pcs (work.drop (i + 1))) from by rw [hW4]; exact HQ8.out)
         obtain ⟨bp, hbp⟩ : ∃ b, b = wr.heap.size := ⟨_, rfl⟩
         rw [← hbp] at HB8 ⊢
         have BK4 := Aside0.mk (show W4.heap[bp]? = some (.cells #[.int .i64 p.f0, .int .i64 p.f1] 125 (0, 0)) from by rw [hW4, hbp]; exact blk_new _ _)
         have HB4 := Aside0.mk (show Below w.heap.size w W4 from by rw [hW4]; exact Below.alloc HBr.out HBr.out.size _)
         have HS4 := Aside0.mk (show IsSetV Try.prog 125 4 W4 W2.heap.size work.length (setP work) from by rw [hW4]; exact HS.out.alloc _)
         have hbm : W2.heap.size < bp := by rw [hbp]; exact HS.out.lt
         have HBM := Aside0.mk hbm
         have HBS := Aside0.mk (show w.heap.size ≤ bp from by rw [hbp]; exact HBr.out.size)
         have y0 := (blk_cell BK4.out 0).trans rfl
         have y1 := (blk_cell BK4.out 1).trans rfl
         have hxW := pw_cell_below HB4.out hx
         have x7W := pw_cell_below HB4.out x7
         clear hW4 hbp e0 e1 hx x7 HQ8 HQ1 HBQ HBr HS hbm
         go_quiet (fail)
         obtain ⟨W5, hW5⟩ : ∃ W5 : World, W5 = W4.drewN nq := ⟨_, rfl⟩
         rw [← hW5]
         have HQ5 := Aside0.mk (show IsQ W5 w.heap.size 125 2 v8 n (pcs (work.drop (i + 1))) from by rw [hW5]; exact HQ9.out)
         have BK5 := Aside0.mk (show W5.heap[bp]? = some (.cells #[.int .i64 p.f0, .int .i64 p.f1] 125 (0, 0)) from by rw [hW5]; exact BK4.out)
         have HB5 := Aside0.mk (show Below w.heap.size w W5 from by rw [hW5]; exact pw_below_drewN HB4.out _)
         have HS5 := Aside0.mk (show IsSetV Try.prog 125 4 W5 W2.heap.size work.length (setP work) from by rw [hW5]; exact HS4.out)
         clear hW5 HQ9 BK4 HB4 HS4 y0 y1 hxW x7W
         go_wp2
         go_loopw [8, 66] (fun v8 v66 wr => ∃ (m : Nat) (wk : List (S125)), m ≤ rs.length ∧ v66 = .int .i64 (m : Int) ∧ Aside0 (wk = ((rs.take m).foldl (addN l0 p) work)) ∧ Aside0 (IsQ wr w.heap.size 125 2 v8 (wk.length - (i + 1)) (pcs (wk.drop (i + 1)))) ∧ Aside0 (v8.ownBlock ≠ some bp) ∧ Aside0 (IsSetV Try.prog 125 4 wr W2.heap.size wk.length (setP wk)) ∧ Aside0 (wr.heap[bp]? = some (.cells #[.int .i64 p.f0, .int .i64 p.f1] 125 (0, 0))) ∧ Aside0 (Below w.heap.size w wr)) (fun _ v66 _ => rs.length - (intOf v66).toNat)
         case atStart => exact ⟨0, work, Nat.zero_le _, rfl, ⟨rfl⟩, ⟨by rw [← HN1.out]; exact HQ5.out⟩, HB8, HS5, BK5, HB5⟩
         case round =>
          clear HQ5 BK5 HB5 HS5 HB8
          obtain ⟨m, wk, hm, rfl, HWK, HQ, HB8, HS, BK, HBr⟩ := hrel
          have hwk9 : wk.length ≤ 1000000000 := by rw [HWK.out]; exact Nat.le_trans (fold_take_len l0 p rs work m) (Nat.le_trans (bfs_len HST.out) hFl)
          have hiw : i + 1 ≤ wk.length := by have := fold_len l0 p (rs.take m) work; rw [← HWK.out] at this; omega
          by_cases hlm : m < rs.length
          · obtain ⟨ad3, q_, r0, r1, r2⟩ := at_T132 (Kd.C_below HI7.out HBr.out) (m : Int) (by omega) (by omega)
            subst q_
            simp only [Int.toNat_natCast] at r0 r1 r2
            obtain ⟨rl, hrl2⟩ : ∃ z, z = rd_T132 rs (m : Int) := ⟨_, rfl⟩
            rw [← hrl2] at r0 r1 r2
            have hget : rs.getD m z132 = rl := by rw [hrl2]; simp [rd_T132]
            have HTK := Aside0.mk (show (rs.take (m + 1)).foldl (addN l0 p) work = addN l0 p wk rl from by rw [take_fold _ _ z132 _ _ hlm, ← HWK.out, hget])
            clear hrl2 hget
            have hbw : bp < wr.heap.size := blk_lt BK.out
            have y0 := (blk_cell BK.out 0).trans rfl
            have y1 := (blk_cell BK.out 1).trans rfl
            rcases hsp : spotN l0 p.f0 rl.f2 with _ | ⟨qx, qy⟩
            · have HSP := Aside0.mk hsp
              have HTE := Aside0.mk (HTK.out.trans (addN_none hsp))
              clear hsp
              go_wp2_with (first | (go_at_call 87; refine (nd_none _ c0 l0 p.f0 rl.f2 _ (Kd.C_alloc (Kd.C_below HR.out HBr.out) _) p2 HK.out.1 HSP.out).mono ?_; rintro e w5 ⟨rfl, hb⟩; have hlow := nd_low hb; have HQ5 := Aside0.mk (HQ.out.below hlow); have HS5 := Aside0.mk (HS.out.below hlow); have BK5 := Aside0.mk (blk_below BK.out hlow); have HB5 := Aside0.mk (Below.trans HBr.out (hlow.mono HBr.out.size)); clear hb hlow y0 y1 r0 r1 r2 hbw))
              go_roundw
              case measure => simp [intOf]; omega
              case rel => exact ⟨m + 1, wk, by omega, by go_num, ⟨HTE.out.symm⟩, ⟨HQ5.out.alloc _⟩, HB8, ⟨HS5.out.alloc _⟩, ⟨blk_alloc BK5.out _⟩, ⟨Below.alloc HB5.out HB5.out.size _⟩⟩
            · have HSP := Aside0.mk hsp
              have hqo := spotN_ok p2 hsp
              have hq9 := okN_at HK.out.1 hqo.1 hqo.2.1
              obtain ⟨s1, s2, s3, s4⟩ := hqo
              simp only [mkP] at s1 s2 s3 s4 hq9
              obtain ⟨lq, hlq⟩ := place_key (x := qx) (y := qy) (WalkArith.wf_i64 ⟨by omega, by omega⟩) (WalkArith.wf_i64 ⟨by omega, by omega⟩)
              have HLQ := Aside0.mk hlq
              have hz : ∀ W : World, (zeroValue 4).run Try.prog W = .ok (.bool false) W := fun W => by kernel_rfl
              have HZ := Aside0.mk hz
              clear hlq hz s1 s2 s3 s4 hq9
              cases hh : hasP wk (mkP (qx, qy))
              · have HTE := Aside0.mk (HTK.out.trans (addN_new hsp hh))
                have HHV := Aside0.mk (show setP wk (.agg #[.int .i64 qx, .int .i64 qy]) = false from (setP_plv wk (mkP (qx, qy))).trans hh)
                clear hsp hh
                go_wp2_with (first | (go_at_call 87; refine (nd_some _ c0 l0 p.f0 rl.f2 _ (Kd.C_alloc (Kd.C_below HR.out HBr.out) _) p2 HK.out.1 qx qy HSP.out).mono ?_; rintro e w5 ⟨rfl, hb⟩; have hlow := nd_low hb; have HQ5 := Aside0.mk (HQ.out.below hlow); have HS5 := Aside0.mk (HS.out.below hlow); have BK5 := Aside0.mk (blk_below BK.out hlow); have HB5 := Aside0.mk (Below.trans HBr.out (hlow.mono HBr.out.size)); clear hb hlow y0 y1 r0 r1 r2 hbw) | ((with_reducible refine gate_dst (N := 83) rfl ?_); (try (refine gate_guard (by rfl) ?_; dsimp only)); refine wpList_look_setV rfl _ _ 135 rfl 125 4 placeLaw Try.underlying135 Try.underlying4 (HZ.out _) W2.heap.size wk.length _ rfl (HS5.out.alloc _) (.agg #[.int .i64 qx, .int .i64 qy]) rfl lq HLQ.out ?_; dsimp only; rw [HHV.out]) | (at_mapUpdate; refine wpList_put_setV rfl _ _ _ 135 rfl 125 4 placeLaw Try.underlying135 Try.underlying4 W2.heap.size wk.length _ rfl (HS5.out.alloc _) ?ml (.agg #[.int .i64 qx, .int .i64 qy]) rfl lq HLQ.out true rfl ?_; (case ml => simp only [maxLen]; omega); intro w6 hs6 hg6; have hne5 : W2.heap.size < w5.heap.size := Nat.lt_trans HBM.out (blk_lt BK5.out); have HQ6 := Aside0.mk ((HQ5.out.alloc _).kept hg6 (Q_notset HQ5.out HS5.out)); have BK6 := Aside0.mk (blk_grown (blk_alloc BK5.out _) hg6 (fun h => by injection h with h; have := HBM.out; omega)); have HB6 := Aside0.mk (pw_below_grown (Below.alloc HB5.out HB5.out.size _) (some W2.heap.size) (by have := HB5.out.size; simp; omega) hg6 (fun k hk => by injection hk with hk; have := HWS.out; omega)); have BQ6 := Aside0.mk (blk_grown (blk_new w5 _) hg6 (fun h => by injection h with h; omega)); have HS6 := Aside0.mk (IsSetV.congr (S' := setP (wk ++ [mkP (qx, qy)])) hs6 (fun v l hv => setP_snoc wk (mkP (qx, qy)) v)); have z0 := (blk_cell BQ6.out 0).trans rfl; have z1 := (blk_cell BQ6.out 1).trans rfl; clear hs6 hg6 HQ5 HS5 BK5 HB5 hne5) | (at_builtin; refine IsQ.append (w0 := w) rfl (.tmp 88) (.tmp 90) 50 125 (.agg #[.int .i64 0, .int .i64 0]) 16 rfl Try.underlying50 info125 rfl (by decide) (by decide) rfl rfl HQ6.out [.int .i64 qx, .int .i64 qy] rfl (by simp [Value.oneCell']) HB6.out HB6.out.size ?hl ?_; (case hl => omega); intro v7 w7 hq7 hb7 hg7 hat7; have HS7 := Aside0.mk (HS6.out.kept hg7 (Q_notset HQ6.out HS6.out).symm); have BK7 := Aside0.mk (blk_grown BK6.out hg7 HB8.out.symm); have HO7 := Aside0.mk (show v7.ownBlock ≠ some bp from by rcases hat7 with e1 | ⟨b1, e1, hb1⟩ <;> rw [e1] <;> first | exact HB8.out | (intro h; injection h with h; have := blk_lt BK6.out; omega)); have HQ7 := Aside0.mk hq7; have HB7 := Aside0.mk hb7; clear hq7 hb7 hg7 hat7 HS6 BK6 HB6 HQ6 BQ6))
                go_roundw
                case measure => simp [intOf]; omega
                case rel => exact ⟨m + 1, wk ++ [mkP (qx, qy)], by omega, by go_num, ⟨HTE.out.symm⟩, ⟨by rw [len_push hiw, pcs_push hiw]; exact HQ7.out⟩, HO7, ⟨by rw [List.length_append]; exact HS7.out⟩, BK7, HB7⟩
              · have HTE := Aside0.mk (HTK.out.trans (addN_old hsp hh))
                have HHV := Aside0.mk (show setP wk (.agg #[.int .i64 qx, .int .i64 qy]) = true from (setP_plv wk (mkP (qx, qy))).trans hh)
                clear hsp hh
                go_wp2_with (first | (go_at_call 87; refine (nd_some _ c0 l0 p.f0 rl.f2 _ (Kd.C_alloc (Kd.C_below HR.out HBr.out) _) p2 HK.out.1 qx qy HSP.out).mono ?_; rintro e w5 ⟨rfl, hb⟩; have hlow := nd_low hb; have HQ5 := Aside0.mk (HQ.out.below hlow); have HS5 := Aside0.mk (HS.out.below hlow); have BK5 := Aside0.mk (blk_below BK.out hlow); have HB5 := Aside0.mk (Below.trans HBr.out (hlow.mono HBr.out.size)); clear hb hlow y0 y1 r0 r1 r2 hbw) | ((with_reducible refine gate_dst (N := 83) rfl ?_); (try (refine gate_guard (by rfl) ?_; dsimp only)); refine wpList_look_setV rfl _ _ 135 rfl 125 4 placeLaw Try.underlying135 Try.underlying4 (HZ.out _) W2.heap.size wk.length _ rfl (HS5.out.alloc _) (.agg #[.int .i64 qx, .int .i64 qy]) rfl lq HLQ.out ?_; dsimp only; rw [HHV.out]))
                go_roundw
                case measure => simp [intOf]; omega
                case rel => exact ⟨m + 1, wk, by omega, by go_num, ⟨HTE.out.symm⟩, ⟨HQ5.out.alloc _⟩, HB8, ⟨HS5.out.alloc _⟩, ⟨blk_alloc BK5.out _⟩, ⟨Below.alloc HB5.out HB5.out.size _⟩⟩
          · have hme : m = rs.length := by omega
            subst hme
            rw [List.take_length] at HWK
            go_wp2
            go_roundg k1
            case measure => omega
            case rel => exact ⟨wk, i + 1, hiw, ⟨by rw [HWK.out]; exact HST.out⟩, ⟨by rw [HWK.out]; exact fold_ok HPO.out rs work HV.out⟩, HQ, HS, HBr⟩
       · rw [if_neg hlt] at H
         injection H with H
         subst H
         have hq := HQ.out
         rw [show work.length - i = 0 from by omega] at hq
         obtain ⟨g, off, cap, hv, _, _, _⟩ := hq.form
         subst hv
         clear HA HV HQ hq
         go_wp2
         go_loopw [14, 95] (fun v14 v95 wr => ∃ m : Nat, m ≤ l0.length ∧ v95 = .int .i64 (m : Int) ∧ Aside0 (Kd.R k125 125 wr w.heap.size (fun _ => True) v14 (((List.range m).flatMap (rowPl l0)).filter (hasP work))) ∧ Aside0 (IsSetV Try.prog 125 4 wr W2.heap.size work.length (setP work)) ∧ Aside0 (Below w.heap.size w wr)) (fun _ v95 _ => l0.length - (intOf v95).toNat)
         case atStart => exact ⟨0, Nat.zero_le _, rfl, ⟨Kd.R_nil _ _ _ _ _⟩, HS, HBr⟩
         case round =>
          clear HS HBr
          obtain ⟨m, hm, rfl, HO, HS, HBr⟩ := hrel
          by_cases hlm : m < l0.length
          · obtain ⟨ad2, B1, d1, q_, y0, m0, im⟩ := at_T68 HR.out (m : Int) (by omega) (by omega)
            injection q_ with q_
            subst q_
            have hny9 := okN_at HK.out.1 (i := (m : Int)) (by omega) (by omega)
            obtain ⟨ny, hny⟩ : ∃ z : Nat, z = (rd_T68 l0 (m : Int)).f0.length := ⟨_, rfl⟩
            rw [← hny] at hny9
            rw [← hny, Int.toNat_natCast] at y0
            have HNY := Aside0.mk (show ny = (l0.getD m z68).f0.length from by rw [hny]; simp [rd_T68])
            have y0' := pw_cell_below HBr.out y0
            clear y0 m0 im hny
            go_wp2
            go_loopw [14, 103] (fun v14 v103 wr => ∃ k : Nat, k ≤ ny ∧ v103 = .int .i64 (k : Int) ∧ Aside0 (Kd.R k125 125 wr w.heap.size (fun _ => True) v14 (((List.range m).flatMap (rowPl l0) ++ (rowPl l0 m).take k).filter (hasP work))) ∧ Aside0 (IsSetV Try.prog 125 4 wr W2.heap.size work.length (setP work)) ∧ Aside0 (Below w.heap.size w wr)) (fun _ v103 _ => ny - (intOf v103).toNat)
            case atStart => exact ⟨0, Nat.zero_le _, rfl, ⟨by rw [List.take_zero, List.append_nil]; exact Kd.R_below HO.out (below_alloc (Below.refl _ _) _)⟩, ⟨HS.out.alloc _⟩, ⟨Below.alloc HBr.out HBr.out.size _⟩⟩
            case round =>
             clear HO HS HBr y0'
             obtain ⟨k2, hk2, rfl, HO, HS, HBr⟩ := hrel
             by_cases hlk : k2 < ny
             · obtain ⟨lq, hlq⟩ := place_key (x := (m : Int)) (y := (k2 : Int)) (WalkArith.wf_i64 ⟨by omega, by omega⟩) (WalkArith.wf_i64 ⟨by omega, by omega⟩)
               have HLQ := Aside0.mk hlq
               have hz : ∀ W : World, (zeroValue 4).run Try.prog W = .ok (.bool false) W := fun W => by kernel_rfl
               have HZ := Aside0.mk hz
               have htk := rowPl_take l0 m k2 (by rw [← HNY.out]; exact hlk)
               have hpl := Nat.le_trans (List.length_filter_le (hasP work) _) (Nat.le_trans (places_len hlm k2) hPl)
               have HPLX := Aside0.mk hpl
               clear hlq hz hpl
               cases hh : hasP work ⟨(m : Int), (k2 : Int)⟩
               · have HHV := Aside0.mk (show setP work (.agg #[.int .i64 (m : Int), .int .i64 (k2 : Int)]) = false from (setP_plv work ⟨(m : Int), (k2 : Int)⟩).trans hh)
                 have HTE := Aside0.mk (show ((List.range m).flatMap (rowPl l0) ++ (rowPl l0 m).take (k2 + 1)).filter (hasP work) = ((List.range m).flatMap (rowPl l0) ++ (rowPl l0 m).take k2).filter (hasP work) from by rw [htk, ← List.append_assoc, filter_snoc, if_neg (by rw [hh]; simp)])
                 clear htk hh
                 go_wp2_with (first | ((with_reducible refine gate_dst (N := 111) rfl ?_); (try (refine gate_guard (by rfl) ?_; dsimp only)); refine wpList_look_setV rfl _ _ 135 rfl 125 4 placeLaw Try.underlying135 Try.underlying4 (HZ.out _) W2.heap.size work.length _ rfl (HS.out.alloc _) (.agg #[.int .i64 (m : Int), .int .i64 (k2 : Int)]) rfl lq HLQ.out ?_; dsimp only; rw [HHV.out]))
                 go_roundw
                 case measure => simp [intOf]; omega
                 case rel => exact ⟨k2 + 1, by omega, by go_num, ⟨by rw [HTE.out]; exact Kd.R_below HO.out (below_alloc (Below.refl _ _) _)⟩, ⟨HS.out.alloc _⟩, ⟨Below.alloc HBr.out HBr.out.size _⟩⟩
               · have HHV := Aside0.mk (show setP work (.agg #[.int .i64 (m : Int), .int .i64 (k2 : Int)]) = true from (setP_plv work ⟨(m : Int), (k2 : Int)⟩).trans hh)
                 have HTE := Aside0.mk (show ((List.range m).flatMap (rowPl l0) ++ (rowPl l0 m).take (k2 + 1)).filter (hasP work) = ((List.range m).flatMap (rowPl l0) ++ (rowPl l0 m).take k2).filter (hasP work) ++ [⟨(m : Int), (k2 : Int)⟩] from by rw [htk, ← List.append_assoc, filter_snoc, if_pos hh])
                 clear htk hh
                 go_wp2_with (first | ((with_reducible refine gate_dst (N := 111) rfl ?_); (try (refine gate_guard (by rfl) ?_; dsimp only)); refine wpList_look_setV rfl _ _ 135 rfl 125 4 placeLaw Try.underlying135 Try.underlying4 (HZ.out _) W2.heap.size work.length _ rfl (HS.out.alloc _) (.agg #[.int .i64 (m : Int), .int .i64 (k2 : Int)]) rfl lq HLQ.out ?_; dsimp only; rw [HHV.out]; obtain ⟨W8, hW8⟩ : ∃ W8 : World, W8 = wr.alloc (.cells #[.int .i64 (m : Int), .int .i64 (k2 : Int)] 125) := ⟨_, rfl⟩; rw [← hW8]; have HW8 := Aside0.mk (show Below wr.heap.size wr W8 from by subst hW8; exact below_alloc (Below.refl _ _) _); have HO8 := Aside0.mk (Kd.R_below HO.out HW8.out); have HS8 := Aside0.mk (HS.out.below HW8.out); have HB8 := Aside0.mk (Below.trans HBr.out (HW8.out.mono HBr.out.size)); have z0 : W8.cell? ⟨wr.heap.size, 0, none⟩ = some (.int .i64 (m : Int)) := (by subst hW8; exact (blk_cell (blk_new _ _) 0).trans rfl); have z1 : W8.cell? ⟨wr.heap.size, 1, none⟩ = some (.int .i64 (k2 : Int)) := (by subst hW8; exact (blk_cell (blk_new _ _) 1).trans rfl); clear hW8) | (at_builtin; refine Kd.R_append k125 (w0 := w) w.heap.size rfl (.tmp 112) (.tmp 114) 50 125 (.agg #[.int .i64 0, .int .i64 0]) 16 rfl Try.underlying50 info125 rfl (show 0 < 2 from by decide) (by decide) _ (((List.range m).flatMap (rowPl l0) ++ (rowPl l0 m).take k2).filter (hasP work)) ⟨(m : Int), (k2 : Int)⟩ [.int .i64 (m : Int), .int .i64 (k2 : Int)] (fun _ => True) (fun _ => False) rfl rfl ?aP (fun _ hk => hk.elim) ?aF ?aO ?aB ?aS ?aL ?_; (case aP => exact k125_mkM _ _ _ ⟨(m : Int), (k2 : Int)⟩); (case aF => exact (fun _ _ => trivial)); (case aO => exact HO8.out); (case aB => exact HB8.out); (case aS => exact HB8.out.size); (case aL => have := HPLX.out; omega); intro v2 w6 ho2 hb2 hg2 hat2; have HO6 := Aside0.mk ho2; have HS6 := Aside0.mk (HS8.out.kept hg2 (Kd.R_notset_ownV HO8.out HS8.out)); have HB6 := Aside0.mk hb2; clear ho2 hb2 hg2 hat2))
                 go_roundw
                 case measure => simp [intOf]; omega
                 case rel => exact ⟨k2 + 1, by omega, by go_num, ⟨by rw [HTE.out]; exact HO6.out⟩, HS6, HB6⟩
             · have hke : k2 = ny := by omega
               subst hke
               have HTE := Aside0.mk (show ((List.range (m + 1)).flatMap (rowPl l0)) = (List.range m).flatMap (rowPl l0) ++ (rowPl l0 m).take k2 from by rw [plTake_succ, HNY.out, ← rowPl_len, List.take_length])
               go_wp2
               go_roundw
               case measure => simp [intOf]; omega
               case rel => first | exact ⟨m + 1, by omega, by go_num, ⟨by rw [HTE.out]; exact HO.out⟩, HS, HBr⟩ | ((repeat apply Exists.intro); exact ⟨⟨m + 1, by omega, by go_num, ⟨by rw [HTE.out]; exact HO.out⟩, HS, HBr⟩, rfl⟩)
          · have hme : m = l0.length := by omega
            subst hme
            go_wp2
            go_ret
            exact ⟨_, rfl, HO.out, HBr.out⟩
   · rw [if_neg hc] at h
     obtain rfl := Option.some.inj h
     have hc' : (kd == 1) = false := beq_eq_false_iff_ne.2 hc
     have hc2 : (kd != 1) = true := bne_iff_ne.2 hc
     clear h hc
     go_enter Try.func36, Try.ntmps36
     go_wp2_with (first | (go_at_call 87; refine (nd_some _ c0 l0 (-1) a1 _ HR.out (by omega) HK.out.1 x y HS.out).mono ?_; rintro e w1 ⟨rfl, hb⟩; have HB := Aside0.mk hb; clear hb))
     obtain ⟨W, hW⟩ : ∃ W : World, W = w1.alloc (.cells #[.int .i64 x, .int .i64 y] 125) := ⟨_, rfl⟩
     rw [← hW]
     have HBW := Aside0.mk (show Below w.heap.size w W from by rw [hW]; exact Below.alloc HB.out HB.out.size _)
     have y0 : W.cell? ⟨w1.heap.size, 0, none⟩ = some (.int .i64 x) := by rw [hW]; exact (blk_cell (blk_new _ _) 0).trans rfl
     have y1 : W.cell? ⟨w1.heap.size, 1, none⟩ = some (.int .i64 y) := by rw [hW]; exact (blk_cell (blk_new _ _) 1).trans rfl
     have hxW := pw_cell_below HBW.out hx
     have x1W := pw_cell_below HBW.out x1
     have BKe := Aside0.mk (show W.heap[w1.heap.size]? = some (.cells #[.int .i64 x, .int .i64 y] 125 (0, 0)) from by rw [hW]; exact blk_new _ _)
     clear hW hx x1
     go_quiet (fail)
     go_wp2
     go_ret
     exact ⟨_, rfl, Kd.R_nil _ _ _ _ _, pw_below_drewN HBW.out _⟩
theorem impl_Needed.calls (k : Nat) (A0 : Option Addr) (c0 : Nat) (l0 : List (S68)) (a1 : ByteArray) (r : List (S125)) (w : World) (hr0 : Kd.C k68 w A0 l0.length l0) (hc0 : l0.length ≤ c0) (h : impl_Needed.f k l0 a1 = some r) :
 Calls Try.prog 36 #[.slice A0 l0.length c0, .string a1] w fun e w' => ∃ v0_ : Value, e = .returned (v0_) ∧ Kd.R k125 125 w' w.heap.size (fun _ => True) v0_ r ∧ Below w.heap.size w w' := by
 unfold impl_Needed.f at h
 split at h
 · rename_i hc
   exact impl_Needed.go k A0 c0 l0 a1 r w hr0 hc h
 · cases h

end Go.Proofs.Ythegbhfoleiegaa.All


namespace Go.Proofs.Ythegbhfoleiegaa.All
open Go.RowKit Go.Proofs.YthegbhfoleiegaaW.PrintWords Go.Proofs.YthegbhfoleiegaaW.PrintLast Go.Proofs.YthegbhfoleiegaaW.PrintMore
attribute [local go_sem] max2_int min2_int max_two min_two max_three min_three max_four min_four   -- for this text's walks alone
set_option linter.unusedVariables false
set_option linter.unusedSimpArgs false

/-! ### laws_eqPlace: function 88 -/
def laws_eqPlace.f (a0_0 : Int) (a0_1 : Int) (a1_0 : Int) (a1_1 : Int) : Option (Bool) := if a0_0 = a1_0 then (if a0_1 = a1_1 then (some true) else (some false)) else (some false)
set_option maxHeartbeats 8000000 in
set_option maxRecDepth 100000 in
theorem laws_eqPlace.calls (a0_0 : Int) (a0_1 : Int) (a1_0 : Int) (a1_1 : Int) (r : Bool) (w : World) (h : laws_eqPlace.f a0_0 a0_1 a1_0 a1_1 = some r) :
 Calls Try.prog 88 #[.agg #[.int .i64 a0_0, .int .i64 a0_1], .agg #[.int .i64 a1_0, .int .i64 a1_1]] w fun e w' => e = .returned (.bool r) ∧ Below w.heap.size w w' := by
 have hu125 := Try.underlying125
 have HB := Aside0.mk (Below.refl w.heap.size w)
 have H : (if a0_0 = a1_0 then (if a0_1 = a1_1 then (some true) else (some false)) else (some false)) = some r := h
 clear h
 by_cases c3 : a0_0 = a1_0
 · rw [if_pos c3] at H
   have c3b0 : (a0_0 == a1_0) = true := beq_iff_eq.mpr c3
   have c3b1 : (a0_0 != a1_0) = false := bne_eq_false_iff_eq.mpr c3
   clear c3
   by_cases c4 : a0_1 = a1_1
   · rw [if_pos c4] at H
     have c4b0 : (a0_1 == a1_1) = true := beq_iff_eq.mpr c4
     have c4b1 : (a0_1 != a1_1) = false := bne_eq_false_iff_eq.mpr c4
     clear c4
     obtain rfl := Option.some.inj H
     go_enter Try.func88, Try.ntmps88
     go_wp2_with (first | ((with_reducible refine gate_dst (N := 2) rfl ?_); refine box_event ?hg (N := 2) ?hd (cs := #[.int .i64 a0_0, .int .i64 a0_1]) (t := 125) ?hr ?_; (case hd => rfl); (case hg => rfl); (case hr => first | (go_simp; done) | (go_simp; rfl)); intro gb650 hg w5 hbox hb; have n0_ := Aside0.mk (below_step (by repeat (first | (with_reducible first | exact HB.out | apply below_alloc | apply pw_below_drewN | apply below_drew1) | exact HB.out)) hb); have n1_ := Aside0.mk (hbox); have n2_ := Aside0.mk ((by rw [hg]; exact (below_size (by repeat (first | (with_reducible first | exact HB.out | apply below_alloc | apply pw_below_drewN | apply below_drew1) | exact HB.out))) : w.heap.size ≤ gb650)); have n3_ := Aside0.mk ((by rw [hg]; exact (below_size (by repeat (first | (with_reducible first | exact HB.out | apply below_alloc | apply pw_below_drewN | apply below_drew1) | exact HB.out))) : w.heap.size ≤ gb650)); clear HB; have HB := n0_; have BK650 := n1_; have GW650 := n2_; have GE650 := n3_; clear n0_ n1_ n2_ n3_; clear hb hbox hg) | ((with_reducible refine gate_dst (N := 3) rfl ?_); refine box_event ?hg (N := 3) ?hd (cs := #[.int .i64 a1_0, .int .i64 a1_1]) (t := 125) ?hr ?_; (case hd => rfl); (case hg => rfl); (case hr => first | (go_simp; done) | (go_simp; rfl)); intro gb651 hg w6 hbox hb; have n0_ := Aside0.mk (blk_below (g := gb650) (o := .cells #[.int .i64 a0_0, .int .i64 a0_1] 125 (0, 0)) (by (with_reducible repeat (first | refine blk_drewN ?_ _ | refine blk_drew ?_ | refine blk_alloc ?_ _)); exact BK650.out) hb); have n1_ := Aside0.mk (below_step (by repeat (first | (with_reducible first | exact HB.out | apply below_alloc | apply pw_below_drewN | apply below_drew1 | refine below_set ?_ GE650.out) | exact HB.out)) hb); have n2_ := Aside0.mk (hbox); have n3_ := Aside0.mk ((by rw [hg]; exact (below_size (by repeat (first | (with_reducible first | exact HB.out | apply below_alloc | apply pw_below_drewN | apply below_drew1 | refine below_set ?_ GE650.out) | exact HB.out))) : w.heap.size ≤ gb651)); have n4_ := Aside0.mk ((by rw [hg]; exact (below_size (by repeat (first | (with_reducible first | exact HB.out | apply below_alloc | apply pw_below_drewN | apply below_drew1 | refine below_set ?_ GE650.out) | exact HB.out))) : w.heap.size ≤ gb651)); have n5_ := Aside0.mk ((by rw [hg]; exact Nat.ne_of_lt (blk_lt (g := gb650) (o := .cells #[.int .i64 a0_0, .int .i64 a0_1] 125 (0, 0)) (by (with_reducible repeat (first | refine blk_drewN ?_ _ | refine blk_drew ?_ | refine blk_alloc ?_ _)); exact BK650.out)) : gb650 ≠ gb651)); have n6_ := Aside0.mk ((by rw [hg]; exact Nat.ne_of_gt (blk_lt (g := gb650) (o := .cells #[.int .i64 a0_0, .int .i64 a0_1] 125 (0, 0)) (by (with_reducible repeat (first | refine blk_drewN ?_ _ | refine blk_drew ?_ | refine blk_alloc ?_ _)); exact BK650.out)) : gb651 ≠ gb650)); clear BK650; clear HB; have BK650 := n0_; have HB := n1_; have BK651 := n2_; have GW651 := n3_; have GE651 := n4_; have NB650_651 := n5_; have NB651_650 := n6_; clear n0_ n1_ n2_ n3_ n4_ n5_ n6_; clear hb hbox hg; have hnb7 := NB650_651.out; have hnc7 := NB651_650.out; have hcz8_0 : w6.cell? ⟨gb650, 0, none⟩ = some (.int .i64 a0_0) := (blk_cell BK650.out 0).trans rfl; have hcz8_1 : w6.cell? ⟨gb650, 1, none⟩ = some (.int .i64 a0_1) := (blk_cell BK650.out 1).trans rfl; have hfz8_0 := blk_frozen BK650.out 0; have hfz8_1 := blk_frozen BK650.out 1; have hcz9_0 : w6.cell? ⟨gb651, 0, none⟩ = some (.int .i64 a1_0) := (blk_cell BK651.out 0).trans rfl; have hcz9_1 : w6.cell? ⟨gb651, 1, none⟩ = some (.int .i64 a1_1) := (blk_cell BK651.out 1).trans rfl; have hfz9_0 := blk_frozen BK651.out 0; have hfz9_1 := blk_frozen BK651.out 1))
     go_ret
     exact ⟨by first | rfl | (simp [errW_none, errW_some] <;> rfl) | (simp [*, errW_none, errW_some] <;> rfl), by repeat (first | (with_reducible first | exact HB.out | apply below_alloc | apply pw_below_drewN | apply below_drew1 | refine below_set ?_ GE650.out | refine below_set ?_ GE651.out) | exact HB.out)⟩
   · rw [if_neg c4] at H
     have c4b0 : (a0_1 == a1_1) = false := beq_eq_false_iff_ne.mpr c4
     have c4b1 : (a0_1 != a1_1) = true := bne_iff_ne.mpr c4
     obtain rfl := Option.some.inj H
     go_enter Try.func88, Try.ntmps88
     go_wp2_with (first | ((with_reducible refine gate_dst (N := 2) rfl ?_); refine box_event ?hg (N := 2) ?hd (cs := #[.int .i64 a0_0, .int .i64 a0_1]) (t := 125) ?hr ?_; (case hd => rfl); (case hg => rfl); (case hr => first | (go_simp; done) | (go_simp; rfl)); intro gb650 hg w10 hbox hb; have n0_ := Aside0.mk (below_step (by repeat (first | (with_reducible first | exact HB.out | apply below_alloc | apply pw_below_drewN | apply below_drew1) | exact HB.out)) hb); have n1_ := Aside0.mk (hbox); have n2_ := Aside0.mk ((by rw [hg]; exact (below_size (by repeat (first | (with_reducible first | exact HB.out | apply below_alloc | apply pw_below_drewN | apply below_drew1) | exact HB.out))) : w.heap.size ≤ gb650)); have n3_ := Aside0.mk ((by rw [hg]; exact (below_size (by repeat (first | (with_reducible first | exact HB.out | apply below_alloc | apply pw_below_drewN | apply below_drew1) | exact HB.out))) : w.heap.size ≤ gb650)); clear HB; have HB := n0_; have BK650 := n1_; have GW650 := n2_; have GE650 := n3_; clear n0_ n1_ n2_ n3_; clear hb hbox hg) | ((with_reducible refine gate_dst (N := 3) rfl ?_); refine box_event ?hg (N := 3) ?hd (cs := #[.int .i64 a1_0, .int .i64 a1_1]) (t := 125) ?hr ?_; (case hd => rfl); (case hg => rfl); (case hr => first | (go_simp; done) | (go_simp; rfl)); intro gb651 hg w11 hbox hb; have n0_ := Aside0.mk (blk_below (g := gb650) (o := .cells #[.int .i64 a0_0, .int .i64 a0_1] 125 (0, 0)) (by (with_reducible repeat (first | refine blk_drewN ?_ _ | refine blk_drew ?_ | refine blk_alloc ?_ _)); exact BK650.out) hb); have n1_ := Aside0.mk (below_step (by repeat (first | (with_reducible first | exact HB.out | apply below_alloc | apply pw_below_drewN | apply below_drew1 | refine below_set ?_ GE650.out) | exact HB.out)) hb); have n2_ := Aside0.mk (hbox); have n3_ := Aside0.mk ((by rw [hg]; exact (below_size (by repeat (first | (with_reducible first | exact HB.out | apply below_alloc | apply pw_below_drewN | apply below_drew1 | refine below_set ?_ GE650.out) | exact HB.out))) : w.heap.size ≤ gb651)); have n4_ := Aside0.mk ((by rw [hg]; exact (below_size (by repeat (first | (with_reducible first | exact HB.out | apply below_alloc | apply pw_below_drewN | apply below_drew1 | refine below_set ?_ GE650.out) | exact HB.out))) : w.heap.size ≤ gb651)); have n5_ := Aside0.mk ((by rw [hg]; exact Nat.ne_of_lt (blk_lt (g := gb650) (o := .cells #[.int .i64 a0_0, .int .i64 a0_1] 125 (0, 0)) (by (with_reducible repeat (first | refine blk_drewN ?_ _ | refine blk_drew ?_ | refine blk_alloc ?_ _)); exact BK650.out)) : gb650 ≠ gb651)); have n6_ := Aside0.mk ((by rw [hg]; exact Nat.ne_of_gt (blk_lt (g := gb650) (o := .cells #[.int .i64 a0_0, .int .i64 a0_1] 125 (0, 0)) (by (with_reducible repeat (first | refine blk_drewN ?_ _ | refine blk_drew ?_ | refine blk_alloc ?_ _)); exact BK650.out)) : gb651 ≠ gb650)); clear BK650; clear HB; have BK650 := n0_; have HB := n1_; have BK651 := n2_; have GW651 := n3_; have GE651 := n4_; have NB650_651 := n5_; have NB651_650 := n6_; clear n0_ n1_ n2_ n3_ n4_ n5_ n6_; clear hb hbox hg; have hnb12 := NB650_651.out; have hnc12 := NB651_650.out; have hcz13_0 : w11.cell? ⟨gb650, 0, none⟩ = some (.int .i64 a0_0) := (blk_cell BK650.out 0).trans rfl; have hcz13_1 : w11.cell? ⟨gb650, 1, none⟩ = some (.int .i64 a0_1) := (blk_cell BK650.out 1).trans rfl; have hfz13_0 := blk_frozen BK650.out 0; have hfz13_1 := blk_frozen BK650.out 1; have hcz14_0 : w11.cell? ⟨gb651, 0, none⟩ = some (.int .i64 a1_0) := (blk_cell BK651.out 0).trans rfl; have hcz14_1 : w11.cell? ⟨gb651, 1, none⟩ = some (.int .i64 a1_1) := (blk_cell BK651.out 1).trans rfl; have hfz14_0 := blk_frozen BK651.out 0; have hfz14_1 := blk_frozen BK651.out 1))
     go_ret
     exact ⟨by first | rfl | (simp [errW_none, errW_some] <;> rfl) | (simp [*, errW_none, errW_some] <;> rfl), by repeat (first | (with_reducible first | exact HB.out | apply below_alloc | apply pw_below_drewN | apply below_drew1 | refine below_set ?_ GE650.out | refine below_set ?_ GE651.out) | exact HB.out)⟩
 · rw [if_neg c3] at H
   have c3b0 : (a0_0 == a1_0) = false := beq_eq_false_iff_ne.mpr c3
   have c3b1 : (a0_0 != a1_0) = true := bne_iff_ne.mpr c3
   obtain rfl := Option.some.inj H
   go_enter Try.func88, Try.ntmps88
   go_wp2_with (first | ((with_reducible refine gate_dst (N := 2) rfl ?_); refine box_event ?hg (N := 2) ?hd (cs := #[.int .i64 a0_0, .int .i64 a0_1]) (t := 125) ?hr ?_; (case hd => rfl); (case hg => rfl); (case hr => first | (go_simp; done) | (go_simp; rfl)); intro gb650 hg w15 hbox hb; have n0_ := Aside0.mk (below_step (by repeat (first | (with_reducible first | exact HB.out | apply below_alloc | apply pw_below_drewN | apply below_drew1) | exact HB.out)) hb); have n1_ := Aside0.mk (hbox); have n2_ := Aside0.mk ((by rw [hg]; exact (below_size (by repeat (first | (with_reducible first | exact HB.out | apply below_alloc | apply pw_below_drewN | apply below_drew1) | exact HB.out))) : w.heap.size ≤ gb650)); have n3_ := Aside0.mk ((by rw [hg]; exact (below_size (by repeat (first | (with_reducible first | exact HB.out | apply below_alloc | apply pw_below_drewN | apply below_drew1) | exact HB.out))) : w.heap.size ≤ gb650)); clear HB; have HB := n0_; have BK650 := n1_; have GW650 := n2_; have GE650 := n3_; clear n0_ n1_ n2_ n3_; clear hb hbox hg) | ((with_reducible refine gate_dst (N := 3) rfl ?_); refine box_event ?hg (N := 3) ?hd (cs := #[.int .i64 a1_0, .int .i64 a1_1]) (t := 125) ?hr ?_; (case hd => rfl); (case hg => rfl); (case hr => first | (go_simp; done) | (go_simp; rfl)); intro gb651 hg w16 hbox hb; have n0_ := Aside0.mk (blk_below (g := gb650) (o := .cells #[.int .i64 a0_0, .int .i64 a0_1] 125 (0, 0)) (by (with_reducible repeat (first | refine blk_drewN ?_ _ | refine blk_drew ?_ | refine blk_alloc ?_ _)); exact BK650.out) hb); have n1_ := Aside0.mk (below_step (by repeat (first | (with_reducible first | exact HB.out | apply below_alloc | apply pw_below_drewN | apply below_drew1 | refine below_set ?_ GE650.out) | exact HB.out)) hb); have n2_ := Aside0.mk (hbox); have n3_ := Aside0.mk ((by rw [hg]; exact (below_size (by repeat (first | (with_reducible first | exact HB.out | apply below_alloc | apply pw_below_drewN | apply below_drew1 | refine below_set ?_ GE650.out) | exact HB.out))) : w.heap.size ≤ gb651)); have n4_ := Aside0.mk ((by rw [hg]; exact (below_size (by repeat (first | (with_reducible first | exact HB.out | apply below_alloc | apply pw_below_drewN | apply below_drew1 | refine below_set ?_ GE650.out) | exact HB.out))) : w.heap.size ≤ gb651)); have n5_ := Aside0.mk ((by rw [hg]; exact Nat.ne_of_lt (blk_lt (g := gb650) (o := .cells #[.int .i64 a0_0, .int .i64 a0_1] 125 (0, 0)) (by (with_reducible repeat (first | refine blk_drewN ?_ _ | refine blk_drew ?_ | refine blk_alloc ?_ _)); exact BK650.out)) : gb650 ≠ gb651)); have n6_ := Aside0.mk ((by rw [hg]; exact Nat.ne_of_gt (blk_lt (g := gb650) (o := .cells #[.int .i64 a0_0, .int .i64 a0_1] 125 (0, 0)) (by (with_reducible repeat (first | refine blk_drewN ?_ _ | refine blk_drew ?_ | refine blk_alloc ?_ _)); exact BK650.out)) : gb651 ≠ gb650)); clear BK650; clear HB; have BK650 := n0_; have HB := n1_; have BK651 := n2_; have GW651 := n3_; have GE651 := n4_; have NB650_651 := n5_; have NB651_650 := n6_; clear n0_ n1_ n2_ n3_ n4_ n5_ n6_; clear hb hbox hg; have hnb17 := NB650_651.out; have hnc17 := NB651_650.out; have hcz18_0 : w16.cell? ⟨gb650, 0, none⟩ = some (.int .i64 a0_0) := (blk_cell BK650.out 0).trans rfl; have hcz18_1 : w16.cell? ⟨gb650, 1, none⟩ = some (.int .i64 a0_1) := (blk_cell BK650.out 1).trans rfl; have hfz18_0 := blk_frozen BK650.out 0; have hfz18_1 := blk_frozen BK650.out 1; have hcz19_0 : w16.cell? ⟨gb651, 0, none⟩ = some (.int .i64 a1_0) := (blk_cell BK651.out 0).trans rfl; have hcz19_1 : w16.cell? ⟨gb651, 1, none⟩ = some (.int .i64 a1_1) := (blk_cell BK651.out 1).trans rfl; have hfz19_0 := blk_frozen BK651.out 0; have hfz19_1 := blk_frozen BK651.out 1))
   go_ret
   exact ⟨by first | rfl | (simp [errW_none, errW_some] <;> rfl) | (simp [*, errW_none, errW_some] <;> rfl), by repeat (first | (with_reducible first | exact HB.out | apply below_alloc | apply pw_below_drewN | apply below_drew1 | refine below_set ?_ GE650.out | refine below_set ?_ GE651.out) | exact HB.out)⟩

end Go.Proofs.Ythegbhfoleiegaa.All


namespace Go.Proofs.Ythegbhfoleiegaa.All
open Go.RowKit Go.Proofs.YthegbhfoleiegaaW.PrintWords Go.Proofs.YthegbhfoleiegaaW.PrintLast Go.Proofs.YthegbhfoleiegaaW.PrintMore
attribute [local go_sem] max2_int min2_int max_two min_two max_three min_three max_four min_four   -- for this text's walks alone
set_option linter.unusedVariables false
set_option linter.unusedSimpArgs false

/-! ### laws_eqPlaceS: function 37 -/
def laws_eqPlaceS.l0 : Nat → List (S125) → List (S125) → Int → Option (Bool)
 | 0, _, _, _ => none
 | k + 1, x0, x1, x5 => if x5 < (x0.length : Int) then (if 0 ≤ x5 then (if x5 < (x1.length : Int) then ((laws_eqPlace.f ((rd_T125 x0 x5).f0) ((rd_T125 x0 x5).f1) ((rd_T125 x1 x5).f0) ((rd_T125 x1 x5).f1)).bind fun t654 => (if t654 = true then (laws_eqPlaceS.l0 k x0 x1 (wrap64 (x5 + 1))) else (some false))) else (none)) else (none)) else (some true)
def laws_eqPlaceS.f (k : Nat) (l0 : List (S125)) (l1 : List (S125)) : Option (Bool) := if (l0.length : Int) = (l1.length : Int) then (laws_eqPlaceS.l0 k l0 l1 0) else (some false)
def laws_eqPlaceS.T6 : Bool × List (List Nat × List Nat) := (true, [([], []), ([], []), ([0, 1], [0, 1]), ([2], [2]), ([], []), ([], []), ([4, 5], [4, 5]), ([6], [6]), ([3, 7], [3, 7]), ([8], [8])])
def laws_eqPlaceS.B6 : List Nat := [0, 0, 3, 7, 0, 0, 48, 112, 255, 511]
theorem laws_eqPlaceS.tab6 : rtab .any (opsOf Try.f37 6) = laws_eqPlaceS.T6 := by kernel_rfl
theorem laws_eqPlaceS.bits6 : waitsOk laws_eqPlaceS.T6.2 laws_eqPlaceS.B6 = true := by kernel_rfl
set_option maxHeartbeats 8000000 in
set_option maxRecDepth 100000 in
theorem laws_eqPlaceS.calls (k : Nat) (A0 : Option Addr) (c0 : Nat) (l0 : List (S125)) (A1 : Option Addr) (c1 : Nat) (l1 : List (S125)) (r : Bool) (w : World) (hr0 : Kd.C k125 w A0 l0.length l0) (hc0 : l0.length ≤ c0) (hr1 : Kd.C k125 w A1 l1.length l1) (hc1 : l1.length ≤ c1) (h : laws_eqPlaceS.f k l0 l1 = some r) :
 Calls Try.prog 37 #[.slice A0 l0.length c0, .slice A1 l1.length c1] w fun e w' => e = .returned (.bool r) ∧ Below w.heap.size w w' := by
 have hu125 := Try.underlying125
 have HR0 := Aside0.mk hr0
 have HC0 := Aside0.mk hc0
 clear hr0 hc0
 have HR1 := Aside0.mk hr1
 have HC1 := Aside0.mk hc1
 clear hr1 hc1
 have HB := Aside0.mk (Below.refl w.heap.size w)
 have H : (if (l0.length : Int) = (l1.length : Int) then (laws_eqPlaceS.l0 k l0 l1 0) else (some false)) = some r := h
 clear h
 by_cases c3 : (l0.length : Int) = (l1.length : Int)
 · rw [if_pos c3] at H
   have c3b0 : ((l0.length : Int) == (l1.length : Int)) = true := beq_iff_eq.mpr c3
   have c3b1 : ((l0.length : Int) != (l1.length : Int)) = false := bne_eq_false_iff_eq.mpr c3
   have c3b2 : (l0.length == l1.length) = true := by first | simpa using c3 | (simp at c3 ⊢; omega)
   clear c3
   have H' := Aside0.mk H
   clear H
   go_enter Try.func37, Try.ntmps37
   go_wp2
   go_loopg [5] k (fun kq v5 w' => ∃ (x5_1 : Int), v5 = .int .i64 x5_1 ∧ Aside0 (laws_eqPlaceS.l0 kq l0 l1 x5_1 = some r) ∧ Aside0 (kq ≤ k) ∧ Aside0 (Below w.heap.size w w'))
   case atStart => exact ⟨(0), (by first | rfl | (simp; done) | (simp [*]; done)), H', ⟨Nat.le_refl _⟩, ⟨by repeat (first | (with_reducible first | exact HB.out | apply below_alloc | apply pw_below_drewN | apply below_drew1) | exact HB.out)⟩⟩
   case round =>
    clear H'
    try clear c1
    try clear p2
    try clear c3
    try clear c3b0
    try clear c3b1
    try clear c3b2
    obtain ⟨x5_1, rfl, HA, HK1, HB⟩ := hrel
    cases gk with
    | zero => exact absurd HA.out (by simp [laws_eqPlaceS.l0])
    | succ k1 =>
     have H := HA.out
     clear HA
     simp only [laws_eqPlaceS.l0] at H
     by_cases c4 : x5_1 < (l0.length : Int)
     · rw [if_pos c4] at H
       have c4b0 : decide (x5_1 < (l0.length : Int)) = true := decide_eq_true c4
       clear c4
       by_cases c5 : 0 ≤ x5_1
       · rw [if_pos c5] at H
         have c5b0 : decide (0 ≤ x5_1) = true := decide_eq_true c5
         clear c5
         by_cases c6 : x5_1 < (l1.length : Int)
         · rw [if_pos c6] at H
           have c6b0 : decide (x5_1 < (l1.length : Int)) = true := decide_eq_true c6
           clear c6
           replace H := Option.bind_eq_some_iff.mp H
           obtain ⟨t654, A70, H⟩ := H
           replace H : (if t654 = true then (laws_eqPlaceS.l0 k1 l0 l1 (wrap64 (x5_1 + 1))) else (some false)) = some r := H
           have A7 := Aside0.mk A70
           clear A70
           by_cases c8 : t654 = true
           · subst c8
             have H1 : (laws_eqPlaceS.l0 k1 l0 l1 (wrap64 (x5_1 + 1))) = some r := by rw [if_pos rfl] at H; exact H
             clear H
             have H := H1
             clear H1
             have H' := Aside0.mk H
             clear H
             try go_wp2
             have n0_ := Aside0.mk (below_drew1 HB.out)
             clear HB
             have HB := n0_
             clear n0_
             have p652 : 0 ≤ (x5_1 : Int) := of_decide_eq_true (by first | (with_reducible assumption) | assumption)
             have q652 : x5_1 < (l0.length : Int) := of_decide_eq_true (by first | (with_reducible assumption) | assumption)
             obtain ⟨ad652, e652, hx652_0, hx652_1⟩ := at_T125 HR0.out x5_1 p652 q652
             have hw652_1 := hx652_1
             have hw652_0 := hx652_0
             cases e652
             replace hx652_0 := (HB.out.cell (World.block_lt_of_cell? w _ hx652_0)).trans hx652_0
             replace hx652_1 := (HB.out.cell (World.block_lt_of_cell? w _ hx652_1)).trans hx652_1
             replace p652 := eq_true p652
             replace q652 := eq_true q652
             have p653 : 0 ≤ (x5_1 : Int) := of_decide_eq_true (by first | (with_reducible assumption) | assumption)
             have q653 : x5_1 < (l1.length : Int) := of_decide_eq_true (by first | (with_reducible assumption) | assumption)
             obtain ⟨ad653, e653, hx653_0, hx653_1⟩ := at_T125 HR1.out x5_1 p653 q653
             have hw653_1 := hx653_1
             have hw653_0 := hx653_0
             cases e653
             replace hx653_0 := (HB.out.cell (World.block_lt_of_cell? w _ hx653_0)).trans hx653_0
             replace hx653_1 := (HB.out.cell (World.block_lt_of_cell? w _ hx653_1)).trans hx653_1
             replace p653 := eq_true p653
             replace q653 := eq_true q653
             refine start_ (n := 10) (S := fun w' => w'.cell? (ad652.add ((x5_1).toNat * 2)) = some (.int .i64 ((rd_T125 l0 x5_1).f0)) ∧ w'.cell? ⟨(ad652.add ((x5_1).toNat * 2)).block, (ad652.add ((x5_1).toNat * 2)).off + 1, none⟩ = some (.int .i64 ((rd_T125 l0 x5_1).f1)) ∧ w'.cell? (ad653.add ((x5_1).toNat * 2)) = some (.int .i64 ((rd_T125 l1 x5_1).f0)) ∧ w'.cell? ⟨(ad653.add ((x5_1).toNat * 2)).block, (ad653.add ((x5_1).toNat * 2)).off + 1, none⟩ = some (.int .i64 ((rd_T125 l1 x5_1).f1))) (ds := []) #[false, false, false, false, false, false, false, false, false, false] (by kernel_rfl) rfl rfl ⟨((HB.out.cell (World.block_lt_of_cell? w _ hw652_0)).trans hw652_0), ((HB.out.cell (World.block_lt_of_cell? w _ hw652_1)).trans hw652_1), ((HB.out.cell (World.block_lt_of_cell? w _ hw653_0)).trans hw653_0), ((HB.out.cell (World.block_lt_of_cell? w _ hw653_1)).trans hw653_1)⟩ (fun hHeld => ?_); refine with_tabW laws_eqPlaceS.tab6 laws_eqPlaceS.bits6 (fun HT_ HW_ => ?_)
             generalize wr.drew = w9 at HB hx652_0 hx652_1 hx653_0 hx653_1 hHeld ⊢
             refine pure_ (i := 0) (N := some 17) (v := ?_) (a' := ?_) #[true, false, false, false, false, false, false, false, false, false] rfl rfl (any_of HT_.out (by kernel_rfl)) (fun _ _ _ h => h) (Or.inl ⟨by rfl, ?_⟩) ?_ ?_
             rotate_left
             · intro w'
               go_simp
               with_reducible rfl
             rotate_left
             · simp only [Act.put, List.setIfInBounds_toArray, List.set_cons_zero, List.set_cons_succ, i64_w, i32_w]
               rfl
             refine pure_ (i := 1) (N := some 18) (v := ?_) (a' := ?_) #[true, true, false, false, false, false, false, false, false, false] rfl rfl (any_of HT_.out (by kernel_rfl)) (fun _ _ _ h => h) (Or.inl ⟨by rfl, ?_⟩) ?_ ?_
             rotate_left
             · intro w'
               go_simp
               with_reducible rfl
             rotate_left
             · simp only [Act.put, List.setIfInBounds_toArray, List.set_cons_zero, List.set_cons_succ, i64_w, i32_w]
               rfl
             refine pure_ (i := 2) (N := some 19) (v := ?_) (a' := ?_) #[true, true, true, false, false, false, false, false, false, false] rfl rfl (any_of HT_.out (by kernel_rfl)) (fun _ _ _ h => h) (Or.inl ⟨by rfl, ?_⟩) ?_ ?_
             rotate_left
             · intro w'
               go_simp
               with_reducible rfl
             rotate_left
             · simp only [Act.put, List.setIfInBounds_toArray, List.set_cons_zero, List.set_cons_succ, i64_w, i32_w]
               rfl
             refine pure_ (i := 4) (N := some 21) (v := ?_) (a' := ?_) #[true, true, true, false, true, false, false, false, false, false] rfl rfl (any_of HT_.out (by kernel_rfl)) (fun _ _ _ h => h) (Or.inl ⟨by rfl, ?_⟩) ?_ ?_
             rotate_left
             · intro w'
               go_simp
               with_reducible rfl
             rotate_left
             · simp only [Act.put, List.setIfInBounds_toArray, List.set_cons_zero, List.set_cons_succ, i64_w, i32_w]
               rfl
             refine pure_ (i := 5) (N := some 22) (v := ?_) (a' := ?_) #[true, true, true, false, true, true, false, false, false, false] rfl rfl (any_of HT_.out (by kernel_rfl)) (fun _ _ _ h => h) (Or.inl ⟨by rfl, ?_⟩) ?_ ?_
             rotate_left
             · intro w'
               go_simp
               with_reducible rfl
             rotate_left
             · simp only [Act.put, List.setIfInBounds_toArray, List.set_cons_zero, List.set_cons_succ, i64_w, i32_w]
               rfl
             refine pure_ (i := 6) (N := some 23) (v := ?_) (a' := ?_) #[true, true, true, false, true, true, true, false, false, false] rfl rfl (any_of HT_.out (by kernel_rfl)) (fun _ _ _ h => h) (Or.inl ⟨by rfl, ?_⟩) ?_ ?_
             rotate_left
             · intro w'
               go_simp
               with_reducible rfl
             rotate_left
             · simp only [Act.put, List.setIfInBounds_toArray, List.set_cons_zero, List.set_cons_succ, i64_w, i32_w]
               rfl
             refine take_ (i := 3) (N := some 20) (v := ?_) (a' := ?_) #[true, true, true, true, true, true, true, false, false, false] rfl rfl (take_ofW HT_.out HW_.out (by kernel_rfl)) (fun _ _ _ h => h) (Or.inl ⟨by rfl, ?_⟩) hHeld ?_ ?_
             rotate_left
             · rintro w' ⟨s0, s1, s2, s3⟩
               go_simp
               with_reducible rfl
             rotate_left
             · simp only [Act.put, List.setIfInBounds_toArray, List.set_cons_zero, List.set_cons_succ, i64_w, i32_w]
               rfl
             refine take_ (i := 7) (N := some 24) (v := ?_) (a' := ?_) #[true, true, true, true, true, true, true, true, false, false] rfl rfl (take_ofW HT_.out HW_.out (by kernel_rfl)) (fun _ _ _ h => h) (Or.inl ⟨by rfl, ?_⟩) hHeld ?_ ?_
             rotate_left
             · rintro w' ⟨s0, s1, s2, s3⟩
               go_simp
               with_reducible rfl
             rotate_left
             · simp only [Act.put, List.setIfInBounds_toArray, List.set_cons_zero, List.set_cons_succ, i64_w, i32_w]
               rfl
             refine one_ (i := 8) (N := some 25) #[true, true, true, true, true, true, true, true, true, false] rfl rfl (one_of HT_.out (by kernel_rfl)) (by decide) (fun K hK => ?_)
             refine goes_ Try.func88 (by kernel_rfl) rfl #[.agg #[.int .i64 ((rd_T125 l0 x5_1).f0), .int .i64 ((rd_T125 l0 x5_1).f1)], .agg #[.int .i64 ((rd_T125 l1 x5_1).f0), .int .i64 ((rd_T125 l1 x5_1).f1)]] (by rfl) rfl rfl (by (try simp only [List.map_toArray, List.map_cons, List.map_nil]); first | done | rfl | (simp only [List.length_drop, List.length_take]; rfl)) ?_
             with_reducible refine (laws_eqPlace.calls ((rd_T125 l0 x5_1).f0) ((rd_T125 l0 x5_1).f1) ((rd_T125 l1 x5_1).f0) ((rd_T125 l1 x5_1).f1) true _ A7.out).mono ?_
             rintro e w10 ⟨rfl, hb⟩
             refine ⟨_, rfl, ?_⟩
             have n0_ := Aside0.mk (below_step (by repeat (first | (with_reducible first | exact HB.out | apply below_alloc | apply pw_below_drewN | apply below_drew1) | exact HB.out)) hb)
             clear HB
             have HB := n0_
             clear n0_
             (try clear hb)
             (try clear hb2)
             (try clear hk)
             (try clear hi)
             refine hK.out _ _ ⟨((HB.out.cell (World.block_lt_of_cell? w _ hw652_0)).trans hw652_0), ((HB.out.cell (World.block_lt_of_cell? w _ hw652_1)).trans hw652_1), ((HB.out.cell (World.block_lt_of_cell? w _ hw653_0)).trans hw653_0), ((HB.out.cell (World.block_lt_of_cell? w _ hw653_1)).trans hw653_1)⟩ (fun hHeld => ?_)
             clear hK K
             refine norm_ (a' := ?_) ?_ ?_
             rotate_left
             · show Act.put _ (some 25) _ = _
               simp only [Act.put, List.setIfInBounds_toArray, List.set_cons_zero, List.set_cons_succ, i64_w, i32_w]
               rfl
             refine pure_ (i := 9) (N := some 26) (v := ?_) (a' := ?_) #[true, true, true, true, true, true, true, true, true, true] rfl rfl (any_of HT_.out (by kernel_rfl)) (fun _ _ _ h => h) (Or.inl ⟨by rfl, ?_⟩) ?_ ?_
             rotate_left
             · intro w'
               go_simp
               with_reducible rfl
             rotate_left
             · simp only [Act.put, List.setIfInBounds_toArray, List.set_cons_zero, List.set_cons_succ, i64_w, i32_w]
               rfl
             refine done_ (done_of HT_.out (by kernel_rfl)) ?_
             try go_wp2
             go_roundg k1
             case measure => have := HK1.out; omega
             case rel => exact ⟨(wrap64 (x5_1 + 1)), (by first | rfl | (simp; done) | (simp [*]; done)), H', ⟨by have := HK1.out; omega⟩, ⟨by repeat (first | (with_reducible first | exact HB.out | apply below_alloc | apply pw_below_drewN | apply below_drew1) | exact HB.out)⟩⟩
           · replace c8 := Bool.eq_false_iff.mpr c8
             subst c8
             have H1 : (some false) = some r := by rw [if_neg (show ¬ (false = true) by decide)] at H; exact H
             clear H
             have H := H1
             clear H1
             obtain rfl := Option.some.inj H
             try go_wp2
             have n0_ := Aside0.mk (below_drew1 HB.out)
             clear HB
             have HB := n0_
             clear n0_
             have p652 : 0 ≤ (x5_1 : Int) := of_decide_eq_true (by first | (with_reducible assumption) | assumption)
             have q652 : x5_1 < (l0.length : Int) := of_decide_eq_true (by first | (with_reducible assumption) | assumption)
             obtain ⟨ad652, e652, hx652_0, hx652_1⟩ := at_T125 HR0.out x5_1 p652 q652
             have hw652_1 := hx652_1
             have hw652_0 := hx652_0
             cases e652
             replace hx652_0 := (HB.out.cell (World.block_lt_of_cell? w _ hx652_0)).trans hx652_0
             replace hx652_1 := (HB.out.cell (World.block_lt_of_cell? w _ hx652_1)).trans hx652_1
             replace p652 := eq_true p652
             replace q652 := eq_true q652
             have p653 : 0 ≤ (x5_1 : Int) := of_decide_eq_true (by first | (with_reducible assumption) | assumption)
             have q653 : x5_1 < (l1.length : Int) := of_decide_eq_true (by first | (with_reducible assumption) | assumption)
             obtain ⟨ad653, e653, hx653_0, hx653_1⟩ := at_T125 HR1.out x5_1 p653 q653
             have hw653_1 := hx653_1
             have hw653_0 := hx653_0
             cases e653
             replace hx653_0 := (HB.out.cell (World.block_lt_of_cell? w _ hx653_0)).trans hx653_0
             replace hx653_1 := (HB.out.cell (World.block_lt_of_cell? w _ hx653_1)).trans hx653_1
             replace p653 := eq_true p653
             replace q653 := eq_true q653
             refine start_ (n := 10) (S := fun w' => w'.cell? (ad652.add ((x5_1).toNat * 2)) = some (.int .i64 ((rd_T125 l0 x5_1).f0)) ∧ w'.cell? ⟨(ad652.add ((x5_1).toNat * 2)).block, (ad652.add ((x5_1).toNat * 2)).off + 1, none⟩ = some (.int .i64 ((rd_T125 l0 x5_1).f1)) ∧ w'.cell? (ad653.add ((x5_1).toNat * 2)) = some (.int .i64 ((rd_T125 l1 x5_1).f0)) ∧ w'.cell? ⟨(ad653.add ((x5_1).toNat * 2)).block, (ad653.add ((x5_1).toNat * 2)).off + 1, none⟩ = some (.int .i64 ((rd_T125 l1 x5_1).f1))) (ds := []) #[false, false, false, false, false, false, false, false, false, false] (by kernel_rfl) rfl rfl ⟨((HB.out.cell (World.block_lt_of_cell? w _ hw652_0)).trans hw652_0), ((HB.out.cell (World.block_lt_of_cell? w _ hw652_1)).trans hw652_1), ((HB.out.cell (World.block_lt_of_cell? w _ hw653_0)).trans hw653_0), ((HB.out.cell (World.block_lt_of_cell? w _ hw653_1)).trans hw653_1)⟩ (fun hHeld => ?_); refine with_tabW laws_eqPlaceS.tab6 laws_eqPlaceS.bits6 (fun HT_ HW_ => ?_)
             generalize wr.drew = w11 at HB hx652_0 hx652_1 hx653_0 hx653_1 hHeld ⊢
             refine pure_ (i := 0) (N := some 17) (v := ?_) (a' := ?_) #[true, false, false, false, false, false, false, false, false, false] rfl rfl (any_of HT_.out (by kernel_rfl)) (fun _ _ _ h => h) (Or.inl ⟨by rfl, ?_⟩) ?_ ?_
             rotate_left
             · intro w'
               go_simp
               with_reducible rfl
             rotate_left
             · simp only [Act.put, List.setIfInBounds_toArray, List.set_cons_zero, List.set_cons_succ, i64_w, i32_w]
               rfl
             refine pure_ (i := 1) (N := some 18) (v := ?_) (a' := ?_) #[true, true, false, false, false, false, false, false, false, false] rfl rfl (any_of HT_.out (by kernel_rfl)) (fun _ _ _ h => h) (Or.inl ⟨by rfl, ?_⟩) ?_ ?_
             rotate_left
             · intro w'
               go_simp
               with_reducible rfl
             rotate_left
             · simp only [Act.put, List.setIfInBounds_toArray, List.set_cons_zero, List.set_cons_succ, i64_w, i32_w]
               rfl
             refine pure_ (i := 2) (N := some 19) (v := ?_) (a' := ?_) #[true, true, true, false, false, false, false, false, false, false] rfl rfl (any_of HT_.out (by kernel_rfl)) (fun _ _ _ h => h) (Or.inl ⟨by rfl, ?_⟩) ?_ ?_
             rotate_left
             · intro w'
               go_simp
               with_reducible rfl
             rotate_left
             · simp only [Act.put, List.setIfInBounds_toArray, List.set_cons_zero, List.set_cons_succ, i64_w, i32_w]
               rfl
             refine pure_ (i := 4) (N := some 21) (v := ?_) (a' := ?_) #[true, true, true, false, true, false, false, false, false, false] rfl rfl (any_of HT_.out (by kernel_rfl)) (fun _ _ _ h => h) (Or.inl ⟨by rfl, ?_⟩) ?_ ?_
             rotate_left
             · intro w'
               go_simp
               with_reducible rfl
             rotate_left
             · simp only [Act.put, List.setIfInBounds_toArray, List.set_cons_zero, List.set_cons_succ, i64_w, i32_w]
               rfl
             refine pure_ (i := 5) (N := some 22) (v := ?_) (a' := ?_) #[true, true, true, false, true, true, false, false, false, false] rfl rfl (any_of HT_.out (by kernel_rfl)) (fun _ _ _ h => h) (Or.inl ⟨by rfl, ?_⟩) ?_ ?_
             rotate_left
             · intro w'
               go_simp
               with_reducible rfl
             rotate_left
             · simp only [Act.put, List.setIfInBounds_toArray, List.set_cons_zero, List.set_cons_succ, i64_w, i32_w]
               rfl
             refine pure_ (i := 6) (N := some 23) (v := ?_) (a' := ?_) #[true, true, true, false, true, true, true, false, false, false] rfl rfl (any_of HT_.out (by kernel_rfl)) (fun _ _ _ h => h) (Or.inl ⟨by rfl, ?_⟩) ?_ ?_
             rotate_left
             · intro w'
               go_simp
               with_reducible rfl
             rotate_left
             · simp only [Act.put, List.setIfInBounds_toArray, List.set_cons_zero, List.set_cons_succ, i64_w, i32_w]
               rfl
             refine take_ (i := 3) (N := some 20) (v := ?_) (a' := ?_) #[true, true, true, true, true, true, true, false, false, false] rfl rfl (take_ofW HT_.out HW_.out (by kernel_rfl)) (fun _ _ _ h => h) (Or.inl ⟨by rfl, ?_⟩) hHeld ?_ ?_
             rotate_left
             · rintro w' ⟨s0, s1, s2, s3⟩
               go_simp
               with_reducible rfl
             rotate_left
             · simp only [Act.put, List.setIfInBounds_toArray, List.set_cons_zero, List.set_cons_succ, i64_w, i32_w]
               rfl
             refine take_ (i := 7) (N := some 24) (v := ?_) (a' := ?_) #[true, true, true, true, true, true, true, true, false, false] rfl rfl (take_ofW HT_.out HW_.out (by kernel_rfl)) (fun _ _ _ h => h) (Or.inl ⟨by rfl, ?_⟩) hHeld ?_ ?_
             rotate_left
             · rintro w' ⟨s0, s1, s2, s3⟩
               go_simp
               with_reducible rfl
             rotate_left
             · simp only [Act.put, List.setIfInBounds_toArray, List.set_cons_zero, List.set_cons_succ, i64_w, i32_w]
               rfl
             refine one_ (i := 8) (N := some 25) #[true, true, true, true, true, true, true, true, true, false] rfl rfl (one_of HT_.out (by kernel_rfl)) (by decide) (fun K hK => ?_)
             refine goes_ Try.func88 (by kernel_rfl) rfl #[.agg #[.int .i64 ((rd_T125 l0 x5_1).f0), .int .i64 ((rd_T125 l0 x5_1).f1)], .agg #[.int .i64 ((rd_T125 l1 x5_1).f0), .int .i64 ((rd_T125 l1 x5_1).f1)]] (by rfl) rfl rfl (by (try simp only [List.map_toArray, List.map_cons, List.map_nil]); first | done | rfl | (simp only [List.length_drop, List.length_take]; rfl)) ?_
             with_reducible refine (laws_eqPlace.calls ((rd_T125 l0 x5_1).f0) ((rd_T125 l0 x5_1).f1) ((rd_T125 l1 x5_1).f0) ((rd_T125 l1 x5_1).f1) false _ A7.out).mono ?_
             rintro e w12 ⟨rfl, hb⟩
             refine ⟨_, rfl, ?_⟩
             have n0_ := Aside0.mk (below_step (by repeat (first | (with_reducible first | exact HB.out | apply below_alloc | apply pw_below_drewN | apply below_drew1) | exact HB.out)) hb)
             clear HB
             have HB := n0_
             clear n0_
             (try clear hb)
             (try clear hb2)
             (try clear hk)
             (try clear hi)
             refine hK.out _ _ ⟨((HB.out.cell (World.block_lt_of_cell? w _ hw652_0)).trans hw652_0), ((HB.out.cell (World.block_lt_of_cell? w _ hw652_1)).trans hw652_1), ((HB.out.cell (World.block_lt_of_cell? w _ hw653_0)).trans hw653_0), ((HB.out.cell (World.block_lt_of_cell? w _ hw653_1)).trans hw653_1)⟩ (fun hHeld => ?_)
             clear hK K
             refine norm_ (a' := ?_) ?_ ?_
             rotate_left
             · show Act.put _ (some 25) _ = _
               simp only [Act.put, List.setIfInBounds_toArray, List.set_cons_zero, List.set_cons_succ, i64_w, i32_w]
               rfl
             refine pure_ (i := 9) (N := some 26) (v := ?_) (a' := ?_) #[true, true, true, true, true, true, true, true, true, true] rfl rfl (any_of HT_.out (by kernel_rfl)) (fun _ _ _ h => h) (Or.inl ⟨by rfl, ?_⟩) ?_ ?_
             rotate_left
             · intro w'
               go_simp
               with_reducible rfl
             rotate_left
             · simp only [Act.put, List.setIfInBounds_toArray, List.set_cons_zero, List.set_cons_succ, i64_w, i32_w]
               rfl
             refine done_ (done_of HT_.out (by kernel_rfl)) ?_
             try go_wp2
             go_ret
             exact ⟨by first | rfl | (simp [errW_none, errW_some] <;> rfl) | (simp [*, errW_none, errW_some] <;> rfl), by repeat (first | (with_reducible first | exact HB.out | apply below_alloc | apply pw_below_drewN | apply below_drew1) | exact HB.out)⟩
         · rw [if_neg c6] at H
           exact absurd H (by simp)
       · rw [if_neg c5] at H
         exact absurd H (by simp)
     · rw [if_neg c4] at H
       have c4b0 : decide (x5_1 < (l0.length : Int)) = false := decide_eq_false c4
       clear c4
       obtain rfl := Option.some.inj H
       go_wp2
       go_ret
       exact ⟨by first | rfl | (simp [errW_none, errW_some] <;> rfl) | (simp [*, errW_none, errW_some] <;> rfl), by repeat (first | (with_reducible first | exact HB.out | apply below_alloc | apply pw_below_drewN | apply below_drew1) | exact HB.out)⟩
 · rw [if_neg c3] at H
   have c3b0 : ((l0.length : Int) == (l1.length : Int)) = false := beq_eq_false_iff_ne.mpr c3
   have c3b1 : ((l0.length : Int) != (l1.length : Int)) = true := bne_iff_ne.mpr c3
   have c3b2 : (l0.length == l1.length) = false := by first | simpa using c3 | (simp at c3 ⊢; omega)
   obtain rfl := Option.some.inj H
   go_enter Try.func37, Try.ntmps37
   go_wp2
   go_ret
   exact ⟨by first | rfl | (simp [errW_none, errW_some] <;> rfl) | (simp [*, errW_none, errW_some] <;> rfl), by repeat (first | (with_reducible first | exact HB.out | apply below_alloc | apply pw_below_drewN | apply below_drew1) | exact HB.out)⟩

end Go.Proofs.Ythegbhfoleiegaa.All


namespace Go.Proofs.Ythegbhfoleiegaa.All
open Go.RowKit Go.Proofs.YthegbhfoleiegaaW.PrintWords Go.Proofs.YthegbhfoleiegaaW.PrintLast Go.Proofs.YthegbhfoleiegaaW.PrintMore
attribute [local go_sem] max2_int min2_int max_two min_two max_three min_three max_four min_four   -- for this text's walks alone
set_option linter.unusedVariables false
set_option linter.unusedSimpArgs false

/-! ### laws_eqInt64S: function 20 -/
def laws_eqInt64S.l0 : Nat → List Int → List Int → Int → Option (Bool)
 | 0, _, _, _ => none
 | k + 1, x0, x1, x5 => if x5 < (x0.length : Int) then (if 0 ≤ x5 then (if x5 < (x1.length : Int) then (if (rd x0 x5) = (rd x1 x5) then (laws_eqInt64S.l0 k x0 x1 (wrap64 (x5 + 1))) else (some false)) else (none)) else (none)) else (some true)
def laws_eqInt64S.f (k : Nat) (l0 : List Int) (l1 : List Int) : Option (Bool) := if (l0.length : Int) = (l1.length : Int) then (laws_eqInt64S.l0 k l0 l1 0) else (some false)
set_option maxHeartbeats 8000000 in
set_option maxRecDepth 100000 in
theorem laws_eqInt64S.calls (k : Nat) (A0 : Option Addr) (c0 : Nat) (l0 : List Int) (A1 : Option Addr) (c1 : Nat) (l1 : List Int) (r : Bool) (w : World) (hr0 : Kd.C (Kd.int .i64) w A0 l0.length l0) (hc0 : l0.length ≤ c0) (hr1 : Kd.C (Kd.int .i64) w A1 l1.length l1) (hc1 : l1.length ≤ c1) (h : laws_eqInt64S.f k l0 l1 = some r) :
 Calls Try.prog 20 #[.slice A0 l0.length c0, .slice A1 l1.length c1] w fun e w' => e = .returned (.bool r) ∧ Drawn0 w w' := by
 have HR0 := Aside0.mk hr0
 have HC0 := Aside0.mk hc0
 clear hr0 hc0
 have HR1 := Aside0.mk hr1
 have HC1 := Aside0.mk hc1
 clear hr1 hc1
 have H : (if (l0.length : Int) = (l1.length : Int) then (laws_eqInt64S.l0 k l0 l1 0) else (some false)) = some r := h
 clear h
 by_cases c3 : (l0.length : Int) = (l1.length : Int)
 · rw [if_pos c3] at H
   have c3b0 : ((l0.length : Int) == (l1.length : Int)) = true := beq_iff_eq.mpr c3
   have c3b1 : ((l0.length : Int) != (l1.length : Int)) = false := bne_eq_false_iff_eq.mpr c3
   have c3b2 : (l0.length == l1.length) = true := by first | simpa using c3 | (simp at c3 ⊢; omega)
   clear c3
   have H' := Aside0.mk H
   clear H
   go_enter Try.func20, Try.ntmps20
   go_wp2
   repeat (go_quiet (fail); try go_wp2)
   go_loopg [5] k (fun kq v5 w' => ∃ (x5_1 : Int), v5 = .int .i64 x5_1 ∧ Aside0 (laws_eqInt64S.l0 kq l0 l1 x5_1 = some r) ∧ Aside0 (kq ≤ k) ∧ Drawn0 w w')
   case atStart => exact ⟨(0), (by first | rfl | (simp; done) | (simp [*]; done)), H', ⟨Nat.le_refl _⟩, by repeat (first | exact Drawn0.refl _ | apply Drawn0.step)⟩
   case round =>
    clear H'
    try clear c1
    try clear c2
    try clear p2
    try clear c3
    try clear c3b0
    try clear c3b1
    try clear c3b2
    obtain ⟨x5_1, rfl, HA, HK1, ⟨m1, rfl⟩⟩ := hrel
    cases gk with
    | zero => exact absurd HA.out (by simp [laws_eqInt64S.l0])
    | succ k1 =>
     have H := HA.out
     clear HA
     simp only [laws_eqInt64S.l0] at H
     by_cases c4 : x5_1 < (l0.length : Int)
     · rw [if_pos c4] at H
       have c4b0 : decide (x5_1 < (l0.length : Int)) = true := decide_eq_true c4
       clear c4
       by_cases c5 : 0 ≤ x5_1
       · rw [if_pos c5] at H
         have c5b0 : decide (0 ≤ x5_1) = true := decide_eq_true c5
         clear c5
         by_cases c6 : x5_1 < (l1.length : Int)
         · rw [if_pos c6] at H
           have c6b0 : decide (x5_1 < (l1.length : Int)) = true := decide_eq_true c6
           clear c6
           by_cases c7 : (rd l0 x5_1) = (rd l1 x5_1)
           · rw [if_pos c7] at H
             have c7b0 : ((rd l0 x5_1) == (rd l1 x5_1)) = true := beq_iff_eq.mpr c7
             have c7b1 : ((rd l0 x5_1) != (rd l1 x5_1)) = false := bne_eq_false_iff_eq.mpr c7
             clear c7
             have H' := Aside0.mk H
             clear H
             have p271 : 0 ≤ (x5_1 : Int) := of_decide_eq_true (by first | (with_reducible assumption) | assumption)
             have q271 : x5_1 < (l0.length : Int) := of_decide_eq_true (by first | (with_reducible assumption) | assumption)
             obtain ⟨ad271, e271, hx271_0⟩ := Kd.at_int HR0.out x5_1 p271 q271
             cases e271
             replace p271 := eq_true p271
             replace q271 := eq_true q271
             have p272 : 0 ≤ (x5_1 : Int) := of_decide_eq_true (by first | (with_reducible assumption) | assumption)
             have q272 : x5_1 < (l1.length : Int) := of_decide_eq_true (by first | (with_reducible assumption) | assumption)
             obtain ⟨ad272, e272, hx272_0⟩ := Kd.at_int HR1.out x5_1 p272 q272
             cases e272
             replace p272 := eq_true p272
             replace q272 := eq_true q272
             go_wp2
             repeat (go_quiet (fail); try go_wp2)
             go_roundg k1
             case measure => have := HK1.out; omega
             case rel => exact ⟨(wrap64 (x5_1 + 1)), (by first | rfl | (simp; done) | (simp [*]; done)), H', ⟨by have := HK1.out; omega⟩, by repeat (first | exact Drawn0.refl _ | apply Drawn0.step)⟩
           · rw [if_neg c7] at H
             have c7b0 : ((rd l0 x5_1) == (rd l1 x5_1)) = false := beq_eq_false_iff_ne.mpr c7
             have c7b1 : ((rd l0 x5_1) != (rd l1 x5_1)) = true := bne_iff_ne.mpr c7
             obtain rfl := Option.some.inj H
             have p271 : 0 ≤ (x5_1 : Int) := of_decide_eq_true (by first | (with_reducible assumption) | assumption)
             have q271 : x5_1 < (l0.length : Int) := of_decide_eq_true (by first | (with_reducible assumption) | assumption)
             obtain ⟨ad271, e271, hx271_0⟩ := Kd.at_int HR0.out x5_1 p271 q271
             cases e271
             replace p271 := eq_true p271
             replace q271 := eq_true q271
             have p272 : 0 ≤ (x5_1 : Int) := of_decide_eq_true (by first | (with_reducible assumption) | assumption)
             have q272 : x5_1 < (l1.length : Int) := of_decide_eq_true (by first | (with_reducible assumption) | assumption)
             obtain ⟨ad272, e272, hx272_0⟩ := Kd.at_int HR1.out x5_1 p272 q272
             cases e272
             replace p272 := eq_true p272
             replace q272 := eq_true q272
             go_wp2
             repeat (go_quiet (fail); try go_wp2)
             go_ret
             exact ⟨by first | rfl | (simp; done) | (simp [*]; done), by repeat (first | exact Drawn0.refl _ | apply Drawn0.step)⟩
         · rw [if_neg c6] at H
           exact absurd H (by simp)
       · rw [if_neg c5] at H
         exact absurd H (by simp)
     · rw [if_neg c4] at H
       have c4b0 : decide (x5_1 < (l0.length : Int)) = false := decide_eq_false c4
       clear c4
       obtain rfl := Option.some.inj H
       go_wp2
       repeat (go_quiet (fail); try go_wp2)
       go_ret
       exact ⟨by first | rfl | (simp; done) | (simp [*]; done), by repeat (first | exact Drawn0.refl _ | apply Drawn0.step)⟩
 · rw [if_neg c3] at H
   have c3b0 : ((l0.length : Int) == (l1.length : Int)) = false := beq_eq_false_iff_ne.mpr c3
   have c3b1 : ((l0.length : Int) != (l1.length : Int)) = true := bne_iff_ne.mpr c3
   have c3b2 : (l0.length == l1.length) = false := by first | simpa using c3 | (simp at c3 ⊢; omega)
   obtain rfl := Option.some.inj H
   go_enter Try.func20, Try.ntmps20
   go_wp2
   repeat (go_quiet (fail); try go_wp2)
   go_ret
   exact ⟨by first | rfl | (simp; done) | (simp [*]; done), by repeat (first | exact Drawn0.refl _ | apply Drawn0.step)⟩

end Go.Proofs.Ythegbhfoleiegaa.All

