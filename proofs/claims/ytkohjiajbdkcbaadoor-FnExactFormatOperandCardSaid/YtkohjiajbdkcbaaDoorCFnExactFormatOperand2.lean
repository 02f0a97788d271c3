/- Part 2 of the proof of FnExactFormatOperand: functions of the translation with what they return, and plain laws of these. Written by programs of this session over the kit's print, and by hand. -/
import Derived.Test.YtkohjiajbdkcbaaDoorProg
import Derived.Test.YtkohjiajbdkcbaaDoorCFnExactFormatOperandWApart
import Derived.Test.YtkohjiajbdkcbaaDoorCFnExactFormatOperandWArr
import Derived.Test.YtkohjiajbdkcbaaDoorCFnExactFormatOperandWFoot
import Derived.Test.YtkohjiajbdkcbaaDoorCFnExactFormatOperandWGuard
import Derived.Test.YtkohjiajbdkcbaaDoorCFnExactFormatOperandWKept
import Derived.Test.YtkohjiajbdkcbaaDoorCFnExactFormatOperandWLast
import Derived.Test.YtkohjiajbdkcbaaDoorCFnExactFormatOperandWMore
import Derived.Test.YtkohjiajbdkcbaaDoorCFnExactFormatOperandWN
import Derived.Test.YtkohjiajbdkcbaaDoorCFnExactFormatOperandWNEv
import Derived.Test.YtkohjiajbdkcbaaDoorCFnExactFormatOperandWQPut
import Derived.Test.YtkohjiajbdkcbaaDoorCFnExactFormatOperandWRepsOne
import Derived.Test.YtkohjiajbdkcbaaDoorCFnExactFormatOperandWShare
import Derived.Test.YtkohjiajbdkcbaaDoorCFnExactFormatOperandWTab
import Derived.Test.YtkohjiajbdkcbaaDoorCFnExactFormatOperandWWords
import Derived.Test.YtkohjiajbdkcbaaDoorCFnExactFormatOperandWZeros
import Derived.Below
import Derived.Deep.Draws
import Derived.Deep.AppendLies
import Derived.Maps.AppendAt
import Derived.OwnWalk
import Derived.Laws.BytesArg
import Derived.Laws.MakeOwn
import Derived.Laws.OwnMore
import Derived.Deep.OwnRows
import Derived.Tactics
import Derived.Lib.ConvBytes
import Derived.Laws.Slices
import Derived.WalkKit
import Derived.KernelRfl
import Derived.RowKit3
import Derived.Deep.LoopGhost
import Derived.Deep.QuietTactic
import Derived.BigQuiet
import Derived.WideLaws
import Derived.Deep.DeepCutAuto
import Derived.Deep.CutBlock
import Derived.Deep.RegionHeld3
import Derived.Laws.Rows
import Derived.Lib.AppendStr
import Derived.ArgAppend
import Derived.Laws.IdiomCopy
import Derived.OrdersHeld
import Derived.Laws.BitsLemmas
import Derived.RowKit
import Derived.Lib.LaidTab
import Derived.Lib.ItoaNum
import Derived.Sort.Grow
import Derived.Shelf.Strconv.Itoa4
import Derived.Shelf.LaysM
import Derived.Shelf.LaysC
import Derived.Shelf.Strconv.Itoa1
import Derived.Laws.BitsAllLaws
import Derived.Lib.ItoaLen
import Derived.Lib.ParseIntBCases
import Derived.Deep.Slices
import Derived.ChangeArms
import Derived.OpenShut
import Derived.Stop.LaidErr
import Derived.LaidMore
import Derived.ProofKit
import Derived.ShutString
import Derived.ChangeOld
import Derived.SizedLaws
import Derived.Deep.DeepHandedRow
import Derived.Deep.DeepWitnessRowRef
import Derived.SevenTiedAt
import Derived.Test.YtkohjiajbdkcbaaDoorCFnExactFormatOperand1
namespace Go.Proofs.YtkohjiajbdkcbaaDoor.All
open Go.RowKit Go.Proofs.YtkohjiajbdkcbaaDoorW.PrintWords Go.Proofs.YtkohjiajbdkcbaaDoorW.PrintLast Go.Proofs.YtkohjiajbdkcbaaDoorW.PrintMore
attribute [local go_sem] max2_int min2_int max_two min_two max_three min_three max_four min_four   -- for this text's walks alone
set_option linter.unusedVariables false
set_option linter.unusedSimpArgs false

/-! ### laws_toByteS: function 61 -/
def laws_toByteS.l0 : Nat → List Int → List Int → Int → Option (List Int)
 | 0, _, _, _ => none
 | k + 1, x0, x3, x4 => if x4 < (x0.length : Int) then (if 0 ≤ x4 then (if x4 < (x3.length : Int) then (laws_toByteS.l0 k x0 (x3.set (x4 : Int).toNat (rd x0 x4)) (wrap64 (x4 + 1))) else (none)) else (none)) else (some x3)
def laws_toByteS.f (k : Nat) (l0 : List Int) : Option (List Int) := if 0 ≤ (l0.length : Int) then (if ((l0.length : Int) : Int).toNat ≤ 281474976710656 then (laws_toByteS.l0 k l0 (List.replicate ((l0.length : Int) : Int).toNat 0) 0) else (none)) else (none)
set_option maxHeartbeats 8000000 in
set_option maxRecDepth 100000 in
theorem laws_toByteS.calls (k : Nat) (A0 : Option Addr) (c0 : Nat) (l0 : List Int) (r : List Int) (w : World) (hr0 : Kd.C (Kd.int .u8) w A0 l0.length l0) (hc0 : l0.length ≤ c0) (h : laws_toByteS.f k l0 = some r) :
 Calls Tryd.prog 61 #[.slice A0 l0.length c0] w fun e w' => ∃ v0_ : Value, e = .returned (v0_) ∧ Kd.R (Kd.int .u8) 5 w' w.heap.size (fun _ => True) v0_ r ∧ Below w.heap.size w w' := by
 have HR0 := Aside0.mk hr0
 have HC0 := Aside0.mk hc0
 clear hr0 hc0
 have HB := Aside0.mk (Below.refl w.heap.size w)
 have H : (if 0 ≤ (l0.length : Int) then (if ((l0.length : Int) : Int).toNat ≤ 281474976710656 then (laws_toByteS.l0 k l0 (List.replicate ((l0.length : Int) : Int).toNat 0) 0) else (none)) else (none)) = some r := h
 clear h
 by_cases c2 : 0 ≤ (l0.length : Int)
 · rw [if_pos c2] at H
   have c2b0 := eq_true c2
   have c2b1 : decide (0 ≤ (l0.length : Int)) = true := decide_eq_true c2
   clear c2
   by_cases c3 : ((l0.length : Int) : Int).toNat ≤ 281474976710656
   · rw [if_pos c3] at H
     have c3b0 := eq_true c3
     have c3b1 : decide (((l0.length : Int) : Int).toNat ≤ 281474976710656) = true := decide_eq_true c3
     clear c3
     obtain ⟨y301, hy301⟩ : ∃ y_ : List Int, y_ = (List.replicate ((l0.length : Int) : Int).toNat 0) := ⟨_, rfl⟩
     replace H : (laws_toByteS.l0 k l0 y301 0) = some r := by first | (rw [hy301]; with_reducible exact H) | (have H2_ := (Option.bind_some _ _).symm.trans H; rw [hy301]; with_reducible exact H2_) | (have H2_ := (Option.bind_some _ _).symm.trans H; with_reducible exact H2_) | with_reducible exact H | (rw [hy301]; exact H) | exact H
     have Ny301 := Aside0.mk hy301
     clear hy301
     have H' := Aside0.mk H
     clear H
     go_enter Tryd.func61, Tryd.ntmps61
     go_wp2_with (first | ((with_reducible refine gate_dst (N := 7) rfl ?_); refine Kd.R_make (Kd.int .u8) _ 5 rfl (N := 7) rfl 41 _ _ rfl (l0.length : Int) rfl rfl Tryd.underlying41 (.int .u8 0) 1 info5 rfl (by decide) (by omega) 0 (ok := fun _ => True) (okp := fun _ => True) rfl (fun _ hk => hk) trivial (of_decide_eq_true (by first | (with_reducible assumption) | assumption)) (Nat.le_trans (Nat.mul_le_mul_right _ (of_decide_eq_true (by first | (with_reducible assumption) | assumption) : (l0.length : Int).toNat ≤ 281474976710656)) (by omega)) (Below.refl _ _) (Nat.le_refl _) ?_; intro v302 w4 ho5 hb hg_ hnew_; clear hg_ hnew_; (first | rw [← Ny301.out] at ho5 | (simp only [Int.reduceToNat] at ho5; rw [← Ny301.out] at ho5)); have n0_ := Aside0.mk (Kd.R_lower ho5 (below_size (by repeat (first | (with_reducible first | exact HB.out | apply below_alloc | apply pw_below_drewN | apply below_drew1) | exact HB.out)))); have n1_ := Aside0.mk (below_step (by repeat (first | (with_reducible first | exact HB.out | apply below_alloc | apply pw_below_drewN | apply below_drew1) | exact HB.out)) hb); clear HB; have HO303 := n0_; have HB := n1_; clear n0_ n1_; clear hb ho5))
     go_loopg [4] k (fun kq v4 w' => ∃ (x3_1 : List Int) (x4_1 : Int), v4 = .int .i64 x4_1 ∧ Aside0 (laws_toByteS.l0 kq l0 x3_1 x4_1 = some r) ∧ Aside0 (kq ≤ k) ∧ Aside0 (Kd.R (Kd.int .u8) 5 w' w.heap.size (fun _ => True) v302 x3_1) ∧ Aside0 (Below w.heap.size w w'))
     case atStart => exact ⟨(y301), (0), (by first | rfl | (simp; done) | (simp [*]; done)), H', ⟨Nat.le_refl _⟩, ⟨by (with_reducible repeat (first | apply Kd.R_alloc | apply Kd.R_drewN | apply Kd.R_drew)); exact HO303.out⟩, ⟨by repeat (first | (with_reducible first | exact HB.out | apply below_alloc | apply pw_below_drewN | apply below_drew1) | exact HB.out)⟩⟩
     case round =>
      clear H'
      try clear c2
      try clear c2b0
      try clear c2b1
      try clear p2
      try clear c3
      try clear c3b0
      try clear c3b1
      obtain ⟨x3_1, x4_1, rfl, HA, HK1, HO_3, HB⟩ := hrel
      cases gk with
      | zero => exact absurd HA.out (by simp [laws_toByteS.l0])
      | succ k1 =>
       have H := HA.out
       clear HA
       simp only [laws_toByteS.l0] at H
       by_cases c6 : x4_1 < (l0.length : Int)
       · rw [if_pos c6] at H
         have c6b0 : decide (x4_1 < (l0.length : Int)) = true := decide_eq_true c6
         clear c6
         by_cases c7 : 0 ≤ x4_1
         · rw [if_pos c7] at H
           have c7b0 : decide (0 ≤ x4_1) = true := decide_eq_true c7
           clear c7
           by_cases c8 : x4_1 < (x3_1.length : Int)
           · rw [if_pos c8] at H
             have c8b0 : decide (x4_1 < (x3_1.length : Int)) = true := decide_eq_true c8
             clear c8
             obtain ⟨y305, hy305⟩ : ∃ y_ : List Int, y_ = (x3_1.set (x4_1 : Int).toNat (rd l0 x4_1)) := ⟨_, rfl⟩
             replace H : (laws_toByteS.l0 k1 l0 y305 (wrap64 (x4_1 + 1))) = some r := by first | (rw [hy305]; with_reducible exact H) | (have H2_ := (Option.bind_some _ _).symm.trans H; rw [hy305]; with_reducible exact H2_) | (have H2_ := (Option.bind_some _ _).symm.trans H; with_reducible exact H2_) | with_reducible exact H | (rw [hy305]; exact H) | exact H
             have Ny305 := Aside0.mk hy305
             clear hy305
             have H' := Aside0.mk H
             clear H
             have p304 : 0 ≤ (x4_1 : Int) := of_decide_eq_true (by first | (with_reducible assumption) | assumption)
             have q304 : x4_1 < (l0.length : Int) := of_decide_eq_true (by first | (with_reducible assumption) | assumption)
             obtain ⟨ad304, e304, hx304_0⟩ := Kd.at_int HR0.out x4_1 p304 q304
             cases e304
             replace hx304_0 := (HB.out.cell (World.block_lt_of_cell? w _ hx304_0)).trans hx304_0
             replace p304 := eq_true p304
             replace q304 := eq_true q304
             have p9 : 0 ≤ (x4_1 : Int) := of_decide_eq_true (by first | (with_reducible assumption) | assumption)
             have q9 : (x4_1 : Int) < ((x3_1.length : Int) : Int) := of_decide_eq_true (by first | (with_reducible assumption) | assumption)
             obtain ⟨go9, co9, eo9, gb9, gl9, cl9, HG9⟩ := Kd.R_form HO_3.out (by omega)
             (first | cases eo9 | (injection eo9 with ea_ en_ ec_; (first | subst ea_ | (injection ea_ with ea_; subst ea_)); subst ec_; clear en_))
             have GB9 := Aside0.mk gb9
             have GG9 := Aside0.mk HG9
             clear gb9 gl9 HG9
             obtain ⟨hx9_0, hf9_0⟩ := Kd.R_celln 0 HO_3.out (x4_1 : Int) p9 q9
             replace p9 := eq_true p9
             replace q9 := eq_true q9
             have HP10 := Kd.R_putg HO_3.out (x4_1 : Int) (rd l0 x4_1)
             go_wp2_with (first | ((with_reducible refine gate_store (t := 5) (p := 20) rfl ?_); refine store_event (t := 5) (p := 20) (v := ?vo_w11) (w1 := (wr.setCell ⟨go9, (x4_1 : Int).toNat, none⟩ (.int .u8 (rd l0 x4_1)))) ?hg ?ho ?hn ?hr ?_; (case ho => rfl); (case hg => rfl); (case hn => rfl); (case hr => first | (go_simp; done) | (go_simp; rfl)); intro w11 hw; have hg : wr.grownBy w11 (some go9) := (by rw [hw]; exact HP10.2); have hp_ : Kd.R (Kd.int .u8) 5 w11 w.heap.size (fun _ => True) (.slice (some ⟨go9, 0, none⟩) x3_1.length co9) y305 := (by rw [hw, Ny305.out]; exact HP10.1); clear HP10; have n0_ := Aside0.mk (hp_); have n1_ := Aside0.mk ((by rw [hw]; exact below_set (HB.out) GB9.out : Below w.heap.size w w11)); clear HO_3; clear HB; have HO_3 := n0_; have HB := n1_; clear n0_ n1_; clear hg hw hp_))
             go_roundg k1
             case measure => have := HK1.out; omega
             case rel => exact ⟨(y305), (wrap64 (x4_1 + 1)), (by first | rfl | (simp; done) | (simp [*]; done)), H', ⟨by have := HK1.out; omega⟩, ⟨by (with_reducible repeat (first | apply Kd.R_alloc | apply Kd.R_drewN | apply Kd.R_drew)); exact HO_3.out⟩, ⟨by repeat (first | (with_reducible first | exact HB.out | apply below_alloc | apply pw_below_drewN | apply below_drew1) | exact HB.out)⟩⟩
           · rw [if_neg c8] at H
             exact absurd H (by simp)
         · rw [if_neg c7] at H
           exact absurd H (by simp)
       · rw [if_neg c6] at H
         have c6b0 : decide (x4_1 < (l0.length : Int)) = false := decide_eq_false c6
         clear c6
         obtain rfl := Option.some.inj H
         go_wp2
         go_ret
         exact ⟨_, by first | rfl | (simp [errW_none, errW_some] <;> rfl) | (simp [*, errW_none, errW_some] <;> rfl), by (with_reducible repeat (first | apply Kd.R_alloc | apply Kd.R_drewN | apply Kd.R_drew)); exact HO_3.out, by repeat (first | (with_reducible first | exact HB.out | apply below_alloc | apply pw_below_drewN | apply below_drew1) | exact HB.out)⟩
   · rw [if_neg c3] at H
     exact absurd H (by simp)
 · rw [if_neg c2] at H
   exact absurd H (by simp)

end Go.Proofs.YtkohjiajbdkcbaaDoor.All


namespace Go.Proofs.YtkohjiajbdkcbaaDoor.All
open Go.RowKit Go.Proofs.YtkohjiajbdkcbaaDoorW.PrintWords Go.Proofs.YtkohjiajbdkcbaaDoorW.PrintLast Go.Proofs.YtkohjiajbdkcbaaDoorW.PrintMore
attribute [local go_sem] max2_int min2_int max_two min_two max_three min_three max_four min_four   -- for this text's walks alone
set_option linter.unusedVariables false
set_option linter.unusedSimpArgs false

/-! ### laws_toGlobal: function 93 -/
def laws_toGlobal.f (k : Nat) (a0_0 : ByteArray) (a0_1 : Int) (a0_2 : Bool) (a0_3 : Int) (l0_4 : List Int) : Option (ByteArray × Int × Bool × Int × List Int) := (laws_toByteS.f k l0_4).bind fun t433 => (some (a0_0, a0_1, a0_2, a0_3, t433))
set_option maxHeartbeats 8000000 in
set_option maxRecDepth 100000 in
theorem laws_toGlobal.calls (k : Nat) (a0_0 : ByteArray) (a0_1 : Int) (a0_2 : Bool) (a0_3 : Int) (A0_4 : Option Addr) (c0_4 : Nat) (l0_4 : List Int) (r1 : ByteArray) (r2 : Int) (r3 : Bool) (r4 : Int) (r5 : List Int) (w : World) (hr0_4 : Kd.C (Kd.int .u8) w A0_4 l0_4.length l0_4) (hc0_4 : l0_4.length ≤ c0_4) (h : laws_toGlobal.f k a0_0 a0_1 a0_2 a0_3 l0_4 = some (r1, r2, r3, r4, r5)) :
 Calls Tryd.prog 93 #[.agg #[.string a0_0, .int .i64 a0_1, .bool a0_2, .int .i64 a0_3, .slice A0_4 l0_4.length c0_4]] w fun e w' => ∃ v4_ : Value, e = .returned (.agg #[.string r1, .int .i64 r2, .bool r3, .int .i64 r4, v4_]) ∧ Kd.R (Kd.int .u8) 5 w' w.heap.size (fun _ => True) v4_ r5 ∧ Below w.heap.size w w' := by
 have hu141 := Tryd.underlying141
 have hu127 := Tryd.underlying127
 have HR0_4 := Aside0.mk hr0_4
 have HC0_4 := Aside0.mk hc0_4
 clear hr0_4 hc0_4
 have HB := Aside0.mk (Below.refl w.heap.size w)
 have H : ((laws_toByteS.f k l0_4).bind fun t433 => (some (a0_0, a0_1, a0_2, a0_3, t433))) = some (r1, r2, r3, r4, r5) := h
 clear h
 replace H := Option.bind_eq_some_iff.mp H
 obtain ⟨t433, A20, H⟩ := H
 replace H : (some (a0_0, a0_1, a0_2, a0_3, t433)) = some (r1, r2, r3, r4, r5) := H
 have A2 := Aside0.mk A20
 clear A20
 simp only [Option.some.injEq, Prod.mk.injEq] at H
 obtain ⟨rfl, rfl, rfl, rfl, rfl⟩ := H
 go_enter Tryd.func93, Tryd.ntmps93
 go_wp2_with (first | ((with_reducible refine gate_dst (N := 1) rfl ?_); refine box_event ?hg (N := 1) ?hd (cs := #[.string a0_0, .int .i64 a0_1, .bool a0_2, .int .i64 a0_3, .slice A0_4 l0_4.length c0_4]) (t := 141) ?hr ?_; (case hd => rfl); (case hg => rfl); (case hr => first | (go_simp; done) | (go_simp; rfl)); intro gb430 hg w3 hbox hb; have n0_ := Aside0.mk (below_step (by repeat (first | (with_reducible first | exact HB.out | apply below_alloc | apply pw_below_drewN | apply below_drew1) | exact HB.out)) hb); have n1_ := Aside0.mk (hbox); have n2_ := Aside0.mk ((by rw [hg]; exact (below_size (by repeat (first | (with_reducible first | exact HB.out | apply below_alloc | apply pw_below_drewN | apply below_drew1) | exact HB.out))) : w.heap.size ≤ gb430)); have n3_ := Aside0.mk ((by rw [hg]; exact (below_size (by repeat (first | (with_reducible first | exact HB.out | apply below_alloc | apply pw_below_drewN | apply below_drew1) | exact HB.out))) : w.heap.size ≤ gb430)); clear HB; have HB := n0_; have BK430 := n1_; have GW430 := n2_; have GE430 := n3_; clear n0_ n1_ n2_ n3_; clear hb hbox hg) | ((with_reducible refine gate_dst (N := 2) rfl ?_); refine box_event ?hg (N := 2) ?hd (cs := #[.string (⟨#[]⟩ : ByteArray), .int .i64 0, .bool false, .int .i64 0, .slice none 0 0]) (t := 127) ?hr ?_; (case hd => rfl); (case hg => rfl); (case hr => first | (go_simp; done) | (go_simp; rfl)); intro gb431 hg w4 hbox hb; have n0_ := Aside0.mk (blk_below (g := gb430) (o := .cells #[.string a0_0, .int .i64 a0_1, .bool a0_2, .int .i64 a0_3, .slice A0_4 l0_4.length c0_4] 141 (0, 0)) (by (with_reducible repeat (first | refine blk_drewN ?_ _ | refine blk_drew ?_ | refine blk_alloc ?_ _)); exact BK430.out) hb); have n1_ := Aside0.mk (below_step (by repeat (first | (with_reducible first | exact HB.out | apply below_alloc | apply pw_below_drewN | apply below_drew1 | refine below_set ?_ GE430.out) | exact HB.out)) hb); have n2_ := Aside0.mk (hbox); have n3_ := Aside0.mk ((by rw [hg]; exact (below_size (by repeat (first | (with_reducible first | exact HB.out | apply below_alloc | apply pw_below_drewN | apply below_drew1 | refine below_set ?_ GE430.out) | exact HB.out))) : w.heap.size ≤ gb431)); have n4_ := Aside0.mk ((by rw [hg]; exact (below_size (by repeat (first | (with_reducible first | exact HB.out | apply below_alloc | apply pw_below_drewN | apply below_drew1 | refine below_set ?_ GE430.out) | exact HB.out))) : w.heap.size ≤ gb431)); have n5_ := Aside0.mk ((by rw [hg]; exact Nat.ne_of_lt (blk_lt (g := gb430) (o := .cells #[.string a0_0, .int .i64 a0_1, .bool a0_2, .int .i64 a0_3, .slice A0_4 l0_4.length c0_4] 141 (0, 0)) (by (with_reducible repeat (first | refine blk_drewN ?_ _ | refine blk_drew ?_ | refine blk_alloc ?_ _)); exact BK430.out)) : gb430 ≠ gb431)); have n6_ := Aside0.mk ((by rw [hg]; exact Nat.ne_of_gt (blk_lt (g := gb430) (o := .cells #[.string a0_0, .int .i64 a0_1, .bool a0_2, .int .i64 a0_3, .slice A0_4 l0_4.length c0_4] 141 (0, 0)) (by (with_reducible repeat (first | refine blk_drewN ?_ _ | refine blk_drew ?_ | refine blk_alloc ?_ _)); exact BK430.out)) : gb431 ≠ gb430)); clear BK430; clear HB; have BK430 := n0_; have HB := n1_; have BK431 := n2_; have GW431 := n3_; have GE431 := n4_; have NB430_431 := n5_; have NB431_430 := n6_; clear n0_ n1_ n2_ n3_ n4_ n5_ n6_; clear hb hbox hg) | ((with_reducible refine gate_dst (N := 3) rfl ?_); refine box_event ?hg (N := 3) ?hd (cs := #[.string (⟨#[]⟩ : ByteArray), .int .i64 0, .bool false, .int .i64 0, .slice none 0 0]) (t := 127) ?hr ?_; (case hd => rfl); (case hg => rfl); (case hr => first | (go_simp; done) | (go_simp; rfl)); intro gb432 hg w5 hbox hb; have n0_ := Aside0.mk (blk_below (g := gb430) (o := .cells #[.string a0_0, .int .i64 a0_1, .bool a0_2, .int .i64 a0_3, .slice A0_4 l0_4.length c0_4] 141 (0, 0)) (by (with_reducible repeat (first | refine blk_drewN ?_ _ | refine blk_drew ?_ | refine blk_alloc ?_ _)); exact BK430.out) hb); have n1_ := Aside0.mk (blk_below (g := gb431) (o := .cells #[.string (⟨#[]⟩ : ByteArray), .int .i64 0, .bool false, .int .i64 0, .slice none 0 0] 127 (0, 0)) (by (with_reducible repeat (first | refine blk_drewN ?_ _ | refine blk_drew ?_ | refine blk_alloc ?_ _)); exact BK431.out) hb); have n2_ := Aside0.mk (below_step (by repeat (first | (with_reducible first | exact HB.out | apply below_alloc | apply pw_below_drewN | apply below_drew1 | refine below_set ?_ GE430.out | refine below_set ?_ GE431.out) | exact HB.out)) hb); have n3_ := Aside0.mk (hbox); have n4_ := Aside0.mk ((by rw [hg]; exact (below_size (by repeat (first | (with_reducible first | exact HB.out | apply below_alloc | apply pw_below_drewN | apply below_drew1 | refine below_set ?_ GE430.out | refine below_set ?_ GE431.out) | exact HB.out))) : w.heap.size ≤ gb432)); have n5_ := Aside0.mk ((by rw [hg]; exact (below_size (by repeat (first | (with_reducible first | exact HB.out | apply below_alloc | apply pw_below_drewN | apply below_drew1 | refine below_set ?_ GE430.out | refine below_set ?_ GE431.out) | exact HB.out))) : w.heap.size ≤ gb432)); have n6_ := Aside0.mk ((by rw [hg]; exact Nat.ne_of_lt (blk_lt (g := gb430) (o := .cells #[.string a0_0, .int .i64 a0_1, .bool a0_2, .int .i64 a0_3, .slice A0_4 l0_4.length c0_4] 141 (0, 0)) (by (with_reducible repeat (first | refine blk_drewN ?_ _ | refine blk_drew ?_ | refine blk_alloc ?_ _)); exact BK430.out)) : gb430 ≠ gb432)); have n7_ := Aside0.mk ((by rw [hg]; exact Nat.ne_of_gt (blk_lt (g := gb430) (o := .cells #[.string a0_0, .int .i64 a0_1, .bool a0_2, .int .i64 a0_3, .slice A0_4 l0_4.length c0_4] 141 (0, 0)) (by (with_reducible repeat (first | refine blk_drewN ?_ _ | refine blk_drew ?_ | refine blk_alloc ?_ _)); exact BK430.out)) : gb432 ≠ gb430)); have n8_ := Aside0.mk ((by rw [hg]; exact Nat.ne_of_lt (blk_lt (g := gb431) (o := .cells #[.string (⟨#[]⟩ : ByteArray), .int .i64 0, .bool false, .int .i64 0, .slice none 0 0] 127 (0, 0)) (by (with_reducible repeat (first | refine blk_drewN ?_ _ | refine blk_drew ?_ | refine blk_alloc ?_ _)); exact BK431.out)) : gb431 ≠ gb432)); have n9_ := Aside0.mk ((by rw [hg]; exact Nat.ne_of_gt (blk_lt (g := gb431) (o := .cells #[.string (⟨#[]⟩ : ByteArray), .int .i64 0, .bool false, .int .i64 0, .slice none 0 0] 127 (0, 0)) (by (with_reducible repeat (first | refine blk_drewN ?_ _ | refine blk_drew ?_ | refine blk_alloc ?_ _)); exact BK431.out)) : gb432 ≠ gb431)); clear BK430; clear BK431; clear HB; have BK430 := n0_; have BK431 := n1_; have HB := n2_; have BK432 := n3_; have GW432 := n4_; have GE432 := n5_; have NB430_432 := n6_; have NB432_430 := n7_; have NB431_432 := n8_; have NB432_431 := n9_; clear n0_ n1_ n2_ n3_ n4_ n5_ n6_ n7_ n8_ n9_; clear hb hbox hg; have hnb6 := NB430_431.out; have hnc6 := NB431_430.out; have hnb7 := NB430_432.out; have hnc7 := NB432_430.out; have hcz8_0 : w5.cell? ⟨gb430, 0, none⟩ = some (.string a0_0) := (blk_cell BK430.out 0).trans rfl; have hcz8_1 : w5.cell? ⟨gb430, 1, none⟩ = some (.int .i64 a0_1) := (blk_cell BK430.out 1).trans rfl; have hcz8_2 : w5.cell? ⟨gb430, 2, none⟩ = some (.bool a0_2) := (blk_cell BK430.out 2).trans rfl; have hcz8_3 : w5.cell? ⟨gb430, 3, none⟩ = some (.int .i64 a0_3) := (blk_cell BK430.out 3).trans rfl; have hcz8_4 : w5.cell? ⟨gb430, 4, none⟩ = some (.slice A0_4 l0_4.length c0_4) := (blk_cell BK430.out 4).trans rfl; have hfz8_0 := blk_frozen BK430.out 0; have hfz8_1 := blk_frozen BK430.out 1; have hfz8_2 := blk_frozen BK430.out 2; have hfz8_3 := blk_frozen BK430.out 3; have hfz8_4 := blk_frozen BK430.out 4; have hnb9 := NB432_431.out; have hnc9 := NB431_432.out; have hcz10_0 : w5.cell? ⟨gb432, 0, none⟩ = some (.string (⟨#[]⟩ : ByteArray)) := (blk_cell BK432.out 0).trans rfl; have hcz10_1 : w5.cell? ⟨gb432, 1, none⟩ = some (.int .i64 0) := (blk_cell BK432.out 1).trans rfl; have hcz10_2 : w5.cell? ⟨gb432, 2, none⟩ = some (.bool false) := (blk_cell BK432.out 2).trans rfl; have hcz10_3 : w5.cell? ⟨gb432, 3, none⟩ = some (.int .i64 0) := (blk_cell BK432.out 3).trans rfl; have hcz10_4 : w5.cell? ⟨gb432, 4, none⟩ = some (.slice none 0 0) := (blk_cell BK432.out 4).trans rfl; have hfz10_0 := blk_frozen BK432.out 0; have hfz10_1 := blk_frozen BK432.out 1; have hfz10_2 := blk_frozen BK432.out 2; have hfz10_3 := blk_frozen BK432.out 3; have hfz10_4 := blk_frozen BK432.out 4) | ((with_reducible refine gate_callee (f := 61) rfl ?_); refine goesL_ (some 18) rfl rfl Tryd.func61 (by kernel_rfl) rfl #[.slice A0_4 l0_4.length c0_4] rfl (by (try simp only [List.map_toArray, List.map_cons, List.map_nil]); first | done | rfl | (simp only [List.length_drop, List.length_take]; rfl)) ?_; (with_reducible refine (laws_toByteS.calls k _ _ l0_4 t433 _ ?side1 ?side2 A2.out).mono ?_); (case side1 => exact Kd.C_below HR0_4.out (by repeat (first | (with_reducible first | exact HB.out | apply below_alloc | apply pw_below_drewN | apply below_drew1 | refine below_set ?_ GE430.out | refine below_set ?_ GE431.out | refine below_set ?_ GE432.out) | exact HB.out))); (case side2 => exact HC0_4.out); rintro e w11 ⟨v434, rfl, ho0, hb⟩; refine ⟨_, rfl, ?_⟩; have n0_ := Aside0.mk (Kd.R_lower ho0 (below_size (by repeat (first | (with_reducible first | exact HB.out | apply below_alloc | apply pw_below_drewN | apply below_drew1 | refine below_set ?_ GE430.out | refine below_set ?_ GE431.out | refine below_set ?_ GE432.out) | exact HB.out)))); have n1_ := Aside0.mk (blk_below (g := gb430) (o := .cells #[.string a0_0, .int .i64 a0_1, .bool a0_2, .int .i64 a0_3, .slice A0_4 l0_4.length c0_4] 141 (0, 0)) (by (with_reducible repeat (first | refine blk_drewN ?_ _ | refine blk_drew ?_ | refine blk_alloc ?_ _)); refine blk_far ?_ NB430_432.out _; (with_reducible repeat (first | refine blk_drewN ?_ _ | refine blk_drew ?_ | refine blk_alloc ?_ _)); refine blk_far ?_ NB430_432.out _; (with_reducible repeat (first | refine blk_drewN ?_ _ | refine blk_drew ?_ | refine blk_alloc ?_ _)); refine blk_far ?_ NB430_432.out _; (with_reducible repeat (first | refine blk_drewN ?_ _ | refine blk_drew ?_ | refine blk_alloc ?_ _)); refine blk_far ?_ NB430_432.out _; (with_reducible repeat (first | refine blk_drewN ?_ _ | refine blk_drew ?_ | refine blk_alloc ?_ _)); exact BK430.out) hb); have n2_ := Aside0.mk (blk_below (g := gb431) (o := .cells #[.string (⟨#[]⟩ : ByteArray), .int .i64 0, .bool false, .int .i64 0, .slice none 0 0] 127 (0, 0)) (by (with_reducible repeat (first | refine blk_drewN ?_ _ | refine blk_drew ?_ | refine blk_alloc ?_ _)); refine blk_far ?_ NB431_432.out _; (with_reducible repeat (first | refine blk_drewN ?_ _ | refine blk_drew ?_ | refine blk_alloc ?_ _)); refine blk_far ?_ NB431_432.out _; (with_reducible repeat (first | refine blk_drewN ?_ _ | refine blk_drew ?_ | refine blk_alloc ?_ _)); refine blk_far ?_ NB431_432.out _; (with_reducible repeat (first | refine blk_drewN ?_ _ | refine blk_drew ?_ | refine blk_alloc ?_ _)); refine blk_far ?_ NB431_432.out _; (with_reducible repeat (first | refine blk_drewN ?_ _ | refine blk_drew ?_ | refine blk_alloc ?_ _)); exact BK431.out) hb); have n3_ := Aside0.mk (blk_below (g := gb432) (o := .cells #[.string a0_0, .int .i64 a0_1, .bool a0_2, .int .i64 a0_3, .slice none 0 0] 127 (0, 0)) (by (with_reducible repeat (first | refine blk_drewN ?_ _ | refine blk_drew ?_ | refine blk_alloc ?_ _)); refine blk_put (cs := #[.string a0_0, .int .i64 a0_1, .bool a0_2, .int .i64 0, .slice none 0 0]) ?_ 3 _ rfl; (with_reducible repeat (first | refine blk_drewN ?_ _ | refine blk_drew ?_ | refine blk_alloc ?_ _)); refine blk_put (cs := #[.string a0_0, .int .i64 a0_1, .bool false, .int .i64 0, .slice none 0 0]) ?_ 2 _ rfl; (with_reducible repeat (first | refine blk_drewN ?_ _ | refine blk_drew ?_ | refine blk_alloc ?_ _)); refine blk_put (cs := #[.string a0_0, .int .i64 0, .bool false, .int .i64 0, .slice none 0 0]) ?_ 1 _ rfl; (with_reducible repeat (first | refine blk_drewN ?_ _ | refine blk_drew ?_ | refine blk_alloc ?_ _)); refine blk_put (cs := #[.string (⟨#[]⟩ : ByteArray), .int .i64 0, .bool false, .int .i64 0, .slice none 0 0]) ?_ 0 _ rfl; (with_reducible repeat (first | refine blk_drewN ?_ _ | refine blk_drew ?_ | refine blk_alloc ?_ _)); exact BK432.out) hb); have n4_ := Aside0.mk (below_step (by repeat (first | (with_reducible first | exact HB.out | apply below_alloc | apply pw_below_drewN | apply below_drew1 | refine below_set ?_ GE430.out | refine below_set ?_ GE431.out | refine below_set ?_ GE432.out) | exact HB.out)) hb); clear BK430; clear BK431; clear BK432; clear HB; have HO435 := n0_; have BK430 := n1_; have BK431 := n2_; have BK432 := n3_; have HB := n4_; clear n0_ n1_ n2_ n3_ n4_; (try clear hb); (try clear hb2); (try clear hk); (try clear hi); (try clear ho0); obtain ⟨Ao12, co12, eo12⟩ := Kd.R_slice HO435.out; subst eo12; have hcz13_0 : w11.cell? ⟨gb432, 0, none⟩ = some (.string a0_0) := (blk_cell BK432.out 0).trans rfl; have hcz13_1 : w11.cell? ⟨gb432, 1, none⟩ = some (.int .i64 a0_1) := (blk_cell BK432.out 1).trans rfl; have hcz13_2 : w11.cell? ⟨gb432, 2, none⟩ = some (.bool a0_2) := (blk_cell BK432.out 2).trans rfl; have hcz13_3 : w11.cell? ⟨gb432, 3, none⟩ = some (.int .i64 a0_3) := (blk_cell BK432.out 3).trans rfl; have hcz13_4 : w11.cell? ⟨gb432, 4, none⟩ = some (.slice none 0 0) := (blk_cell BK432.out 4).trans rfl; have hfz13_0 := blk_frozen BK432.out 0; have hfz13_1 := blk_frozen BK432.out 1; have hfz13_2 := blk_frozen BK432.out 2; have hfz13_3 := blk_frozen BK432.out 3; have hfz13_4 := blk_frozen BK432.out 4; have hcz14_0 : w11.cell? ⟨gb431, 0, none⟩ = some (.string (⟨#[]⟩ : ByteArray)) := (blk_cell BK431.out 0).trans rfl; have hcz14_1 : w11.cell? ⟨gb431, 1, none⟩ = some (.int .i64 0) := (blk_cell BK431.out 1).trans rfl; have hcz14_2 : w11.cell? ⟨gb431, 2, none⟩ = some (.bool false) := (blk_cell BK431.out 2).trans rfl; have hcz14_3 : w11.cell? ⟨gb431, 3, none⟩ = some (.int .i64 0) := (blk_cell BK431.out 3).trans rfl; have hcz14_4 : w11.cell? ⟨gb431, 4, none⟩ = some (.slice none 0 0) := (blk_cell BK431.out 4).trans rfl; have hfz14_0 := blk_frozen BK431.out 0; have hfz14_1 := blk_frozen BK431.out 1; have hfz14_2 := blk_frozen BK431.out 2; have hfz14_3 := blk_frozen BK431.out 3; have hfz14_4 := blk_frozen BK431.out 4))
 refine bodyPost_ret (results_cell_row rfl _ _ gb431 127 #[.string a0_0, .int .i64 a0_1, .bool a0_2, .int .i64 a0_3, .slice Ao12 t433.length co12] (0, 0) _ rfl (by (with_reducible repeat (first | refine blk_drewN ?_ _ | refine blk_drew ?_ | refine blk_alloc ?_ _)); refine blk_put (cs := #[.string a0_0, .int .i64 a0_1, .bool a0_2, .int .i64 a0_3, .slice none 0 0]) ?_ 4 _ rfl; (with_reducible repeat (first | refine blk_drewN ?_ _ | refine blk_drew ?_ | refine blk_alloc ?_ _)); refine blk_put (cs := #[.string a0_0, .int .i64 a0_1, .bool a0_2, .int .i64 0, .slice none 0 0]) ?_ 3 _ rfl; (with_reducible repeat (first | refine blk_drewN ?_ _ | refine blk_drew ?_ | refine blk_alloc ?_ _)); refine blk_put (cs := #[.string a0_0, .int .i64 a0_1, .bool false, .int .i64 0, .slice none 0 0]) ?_ 2 _ rfl; (with_reducible repeat (first | refine blk_drewN ?_ _ | refine blk_drew ?_ | refine blk_alloc ?_ _)); refine blk_put (cs := #[.string a0_0, .int .i64 0, .bool false, .int .i64 0, .slice none 0 0]) ?_ 1 _ rfl; (with_reducible repeat (first | refine blk_drewN ?_ _ | refine blk_drew ?_ | refine blk_alloc ?_ _)); refine blk_put (cs := #[.string (⟨#[]⟩ : ByteArray), .int .i64 0, .bool false, .int .i64 0, .slice none 0 0]) ?_ 0 _ rfl; (with_reducible repeat (first | refine blk_drewN ?_ _ | refine blk_drew ?_ | refine blk_alloc ?_ _)); refine blk_far ?_ NB431_432.out _; (with_reducible repeat (first | refine blk_drewN ?_ _ | refine blk_drew ?_ | refine blk_alloc ?_ _)); exact BK431.out) Tryd.underlying127 rfl (by kernel_rfl)) rfl ?_
 exact ⟨_, by first | rfl | (simp [errW_none, errW_some] <;> rfl) | (simp [*, errW_none, errW_some] <;> rfl), by (with_reducible repeat (first | apply Kd.R_alloc | apply Kd.R_drewN | apply Kd.R_drew)); exact Kd.R_mono (Kd.R_far (p := ⟨gb431, 4, none⟩) (Kd.R_far (p := ⟨gb431, 3, none⟩) (Kd.R_far (p := ⟨gb431, 2, none⟩) (Kd.R_far (p := ⟨gb431, 1, none⟩) (Kd.R_far (p := ⟨gb431, 0, none⟩) (Kd.R_far (p := ⟨gb432, 4, none⟩) (Kd.R_types (Kd.R_types HO435.out BK432.out (by decide)) BK431.out (by decide)) (fun _ hk => hk.1.2) (.slice Ao12 t433.length co12)) (fun _ hk => hk.2) (.string a0_0)) (fun _ hk => hk.2) (.int .i64 a0_1)) (fun _ hk => hk.2) (.bool a0_2)) (fun _ hk => hk.2) (.int .i64 a0_3)) (fun _ hk => hk.2) (.slice Ao12 t433.length co12)) (fun _ hk => trivial), by repeat (first | (with_reducible first | exact HB.out | apply below_alloc | apply pw_below_drewN | apply below_drew1 | refine below_set ?_ GE430.out | refine below_set ?_ GE431.out | refine below_set ?_ GE432.out) | exact HB.out)⟩

end Go.Proofs.YtkohjiajbdkcbaaDoor.All


namespace Go.Proofs.YtkohjiajbdkcbaaDoor.All
open Go.RowKit Go.Proofs.YtkohjiajbdkcbaaDoorW.PrintWords Go.Proofs.YtkohjiajbdkcbaaDoorW.PrintLast Go.Proofs.YtkohjiajbdkcbaaDoorW.PrintMore
attribute [local go_sem] max2_int min2_int max_two min_two max_three min_three max_four min_four   -- for this text's walks alone
set_option linter.unusedVariables false
set_option linter.unusedSimpArgs false

/-! ### laws_toGlobalS: function 72 -/
def laws_toGlobalS.l0 : Nat → List (S141) → List (S127) → Int → Option ((List (S127)))
 | 0, _, _, _ => none
 | k + 1, x0, x3, x4 => if x4 < (x0.length : Int) then (if 0 ≤ x4 then ((laws_toGlobal.f k ((rd_T141 x0 x4).f0) ((rd_T141 x0 x4).f1) ((rd_T141 x0 x4).f2) ((rd_T141 x0 x4).f3) ((rd_T141 x0 x4).f4)).bind fun bt440 => (if x4 < (x3.length : Int) then (laws_toGlobalS.l0 k x0 (x3.set (x4 : Int).toNat (⟨bt440.1, bt440.2.1, bt440.2.2.1, bt440.2.2.2.1, bt440.2.2.2.2⟩ : S127)) (wrap64 (x4 + 1))) else (none))) else (none)) else (some x3)
def laws_toGlobalS.f (k : Nat) (l0 : List (S141)) : Option ((List (S127))) := if 0 ≤ (l0.length : Int) then (if ((l0.length : Int) : Int).toNat ≤ 4398046511104 then (laws_toGlobalS.l0 k l0 (List.replicate ((l0.length : Int) : Int).toNat z127) 0) else (none)) else (none)
set_option maxHeartbeats 8000000 in
set_option maxRecDepth 100000 in
theorem laws_toGlobalS.calls (k : Nat) (A0 : Option Addr) (c0 : Nat) (l0 : List (S141)) (r : List (S127)) (w : World) (hr0 : Kd.C k141 w A0 l0.length l0) (hc0 : l0.length ≤ c0) (h : laws_toGlobalS.f k l0 = some r) :
 Calls Tryd.prog 72 #[.slice A0 l0.length c0] w fun e w' => ∃ v0_ : Value, e = .returned (v0_) ∧ Kd.S k127 127 w' w.heap.size (fun _ => True) v0_ r ∧ Below w.heap.size w w' := by
 have hu141 := Tryd.underlying141
 have hu127 := Tryd.underlying127
 have HR0 := Aside0.mk hr0
 have HC0 := Aside0.mk hc0
 clear hr0 hc0
 have HB := Aside0.mk (Below.refl w.heap.size w)
 have H : (if 0 ≤ (l0.length : Int) then (if ((l0.length : Int) : Int).toNat ≤ 4398046511104 then (laws_toGlobalS.l0 k l0 (List.replicate ((l0.length : Int) : Int).toNat z127) 0) else (none)) else (none)) = some r := h
 clear h
 by_cases c2 : 0 ≤ (l0.length : Int)
 · rw [if_pos c2] at H
   have c2b0 := eq_true c2
   have c2b1 : decide (0 ≤ (l0.length : Int)) = true := decide_eq_true c2
   clear c2
   by_cases c3 : ((l0.length : Int) : Int).toNat ≤ 4398046511104
   · rw [if_pos c3] at H
     have c3b0 := eq_true c3
     have c3b1 : decide (((l0.length : Int) : Int).toNat ≤ 4398046511104) = true := decide_eq_true c3
     clear c3
     obtain ⟨y436, hy436⟩ : ∃ y_ : List (S127), y_ = (List.replicate ((l0.length : Int) : Int).toNat z127) := ⟨_, rfl⟩
     replace H : (laws_toGlobalS.l0 k l0 y436 0) = some r := by first | (rw [hy436]; with_reducible exact H) | (have H2_ := (Option.bind_some _ _).symm.trans H; rw [hy436]; with_reducible exact H2_) | (have H2_ := (Option.bind_some _ _).symm.trans H; with_reducible exact H2_) | with_reducible exact H | (rw [hy436]; exact H) | exact H
     have Ny436 := Aside0.mk hy436
     clear hy436
     have H' := Aside0.mk H
     clear H
     go_enter Tryd.func72, Tryd.ntmps72
     go_wp2_with (first | ((with_reducible refine gate_dst (N := 7) rfl ?_); refine Kd.S_make k127 _ 127 rfl (N := 7) rfl 72 _ _ rfl (l0.length : Int) rfl rfl Tryd.underlying72 (.agg #[(.string ⟨#[]⟩), (.int .i64 0), (.bool false), (.int .i64 0), (.slice none 0 0)]) 64 info127 rfl (by decide) (by omega) z127 (ok := fun _ => True) (okp := fun _ => True) (k127_mkM _ _ _ z127 (Kd.R_nil _ _ _ _ _)) (fun _ hk => hk) trivial (of_decide_eq_true (by first | (with_reducible assumption) | assumption)) (Nat.le_trans (Nat.mul_le_mul_right _ (of_decide_eq_true (by first | (with_reducible assumption) | assumption) : (l0.length : Int).toNat ≤ 4398046511104)) (by omega)) (Below.refl _ _) (Nat.le_refl _) ?_; intro v437 w4 ho5 hb hg_ hnew_; clear hg_ hnew_; (first | rw [← Ny436.out] at ho5 | (simp only [Int.reduceToNat] at ho5; rw [← Ny436.out] at ho5)); have n0_ := Aside0.mk (Kd.S_lower ho5 (below_size (by repeat (first | (with_reducible first | exact HB.out | apply below_alloc | apply pw_below_drewN | apply below_drew1) | exact HB.out)))); have n1_ := Aside0.mk (below_step (by repeat (first | (with_reducible first | exact HB.out | apply below_alloc | apply pw_below_drewN | apply below_drew1) | exact HB.out)) hb); clear HB; have HO438 := n0_; have HB := n1_; clear n0_ n1_; clear hb ho5))
     go_loopg [4] k (fun kq v4 w' => ∃ (x3_1 : List (S127)) (x4_1 : Int), v4 = .int .i64 x4_1 ∧ Aside0 (laws_toGlobalS.l0 kq l0 x3_1 x4_1 = some r) ∧ Aside0 (kq ≤ k) ∧ Aside0 (Kd.S k127 127 w' w.heap.size (fun _ => True) v437 x3_1) ∧ Aside0 (Below w.heap.size w w'))
     case atStart => exact ⟨(y436), (0), (by first | rfl | (simp; done) | (simp [*]; done)), H', ⟨Nat.le_refl _⟩, ⟨by (with_reducible repeat (first | apply Kd.S_alloc | apply Kd.S_drewN | apply Kd.S_drew)); exact HO438.out⟩, ⟨by repeat (first | (with_reducible first | exact HB.out | apply below_alloc | apply pw_below_drewN | apply below_drew1) | exact HB.out)⟩⟩
     case round =>
      clear H'
      try clear c2
      try clear c2b0
      try clear c2b1
      try clear p2
      try clear c3
      try clear c3b0
      try clear c3b1
      obtain ⟨x3_1, x4_1, rfl, HA, HK1, HO_3, HB⟩ := hrel
      cases gk with
      | zero => exact absurd HA.out (by simp [laws_toGlobalS.l0])
      | succ k1 =>
       have H := HA.out
       clear HA
       simp only [laws_toGlobalS.l0] at H
       by_cases c6 : x4_1 < (l0.length : Int)
       · rw [if_pos c6] at H
         have c6b0 : decide (x4_1 < (l0.length : Int)) = true := decide_eq_true c6
         clear c6
         by_cases c7 : 0 ≤ x4_1
         · rw [if_pos c7] at H
           have c7b0 : decide (0 ≤ x4_1) = true := decide_eq_true c7
           clear c7
           replace H := Option.bind_eq_some_iff.mp H
           obtain ⟨⟨t440, t441, t442, t443, t444⟩, A80, H⟩ := H
           replace H : (if x4_1 < (x3_1.length : Int) then (laws_toGlobalS.l0 k1 l0 (x3_1.set (x4_1 : Int).toNat (⟨t440, t441, t442, t443, t444⟩ : S127)) (wrap64 (x4_1 + 1))) else (none)) = some r := H
           have A8 := Aside0.mk A80
           clear A80
           by_cases c9 : x4_1 < (x3_1.length : Int)
           · rw [if_pos c9] at H
             have c9b0 : decide (x4_1 < (x3_1.length : Int)) = true := decide_eq_true c9
             clear c9
             obtain ⟨y447, hy447⟩ : ∃ y_ : List (S127), y_ = (x3_1.set (x4_1 : Int).toNat (⟨t440, t441, t442, t443, t444⟩ : S127)) := ⟨_, rfl⟩
             replace H : (laws_toGlobalS.l0 k1 l0 y447 (wrap64 (x4_1 + 1))) = some r := by first | (rw [hy447]; with_reducible exact H) | (have H2_ := (Option.bind_some _ _).symm.trans H; rw [hy447]; with_reducible exact H2_) | (have H2_ := (Option.bind_some _ _).symm.trans H; with_reducible exact H2_) | with_reducible exact H | (rw [hy447]; exact H) | exact H
             have Ny447 := Aside0.mk hy447
             clear hy447
             have H' := Aside0.mk H
             clear H
             have p439 : 0 ≤ (x4_1 : Int) := of_decide_eq_true (by first | (with_reducible assumption) | assumption)
             have q439 : x4_1 < (l0.length : Int) := of_decide_eq_true (by first | (with_reducible assumption) | assumption)
             obtain ⟨ad439, A439_4, c439_4, e439, hx439_0, hx439_1, hx439_2, hx439_3, hx439_4, hl439_4, hi439_4⟩ := at_T141 HR0.out x4_1 p439 q439
             cases e439
             replace hx439_0 := (HB.out.cell (World.block_lt_of_cell? w _ hx439_0)).trans hx439_0
             replace hx439_1 := (HB.out.cell (World.block_lt_of_cell? w _ hx439_1)).trans hx439_1
             replace hx439_2 := (HB.out.cell (World.block_lt_of_cell? w _ hx439_2)).trans hx439_2
             replace hx439_3 := (HB.out.cell (World.block_lt_of_cell? w _ hx439_3)).trans hx439_3
             replace hx439_4 := (HB.out.cell (World.block_lt_of_cell? w _ hx439_4)).trans hx439_4
             have HR439_4 := Aside0.mk hi439_4
             have HC439_4 := Aside0.mk hl439_4
             clear hi439_4 hl439_4
             replace p439 := eq_true p439
             replace q439 := eq_true q439
             go_wp2_with (first | ((with_reducible refine gate_callee (f := 93) rfl ?_); refine goesL_ (some 20) rfl rfl Tryd.func93 (by kernel_rfl) rfl #[.agg #[.string ((rd_T141 l0 x4_1).f0), .int .i64 ((rd_T141 l0 x4_1).f1), .bool ((rd_T141 l0 x4_1).f2), .int .i64 ((rd_T141 l0 x4_1).f3), .slice A439_4 ((rd_T141 l0 x4_1).f4).length c439_4]] rfl (by (try simp only [List.map_toArray, List.map_cons, List.map_nil]); first | done | rfl | (simp only [List.length_drop, List.length_take]; rfl)) ?_; (with_reducible refine (laws_toGlobal.calls k1 ((rd_T141 l0 x4_1).f0) ((rd_T141 l0 x4_1).f1) ((rd_T141 l0 x4_1).f2) ((rd_T141 l0 x4_1).f3) _ _ ((rd_T141 l0 x4_1).f4) t440 t441 t442 t443 t444 _ ?side1 ?side2 A8.out).mono ?_); (case side1 => repeat (first | exact (Kd.C_below HR439_4.out HB.out) | (with_reducible refine Kd.C_alloc ?_ _) | (with_reducible refine Kd.C_drewN ?_ _) | (with_reducible refine Kd.C_drew ?_))); (case side2 => exact HC439_4.out); rintro e w11 ⟨v445, rfl, ho0, hb⟩; refine ⟨_, rfl, ?_⟩; have n0_ := Aside0.mk (Kd.S_elder' (by (with_reducible repeat (first | apply Kd.S_alloc | apply Kd.S_drewN | apply Kd.S_drew)); exact HO_3.out) (Kd.R_base ho0) hb); have n1_ := Aside0.mk (Kd.R_lower ho0 (below_size (by repeat (first | (with_reducible first | exact HB.out | apply below_alloc | apply pw_below_drewN | apply below_drew1) | exact HB.out)))); have n2_ := Aside0.mk (below_step (by repeat (first | (with_reducible first | exact HB.out | apply below_alloc | apply pw_below_drewN | apply below_drew1) | exact HB.out)) hb); clear HO_3; clear HB; have HO_3 := n0_; have HO446 := n1_; have HB := n2_; clear n0_ n1_ n2_; (try clear hb); (try clear hb2); (try clear hk); (try clear hi); (try clear ho0); have p10 : 0 ≤ (x4_1 : Int) := of_decide_eq_true (by first | (with_reducible assumption) | assumption); have q10 : (x4_1 : Int) < ((x3_1.length : Int) : Int) := of_decide_eq_true (by first | (with_reducible assumption) | assumption); obtain ⟨go10, co10, eo10, gb10, gl10, cl10, HG10⟩ := Kd.S_form HO_3.out (by omega); (first | cases eo10 | (injection eo10 with ea_ en_ ec_; (first | subst ea_ | (injection ea_ with ea_; subst ea_)); subst ec_; clear en_)); have GB10 := Aside0.mk gb10; have GG10 := Aside0.mk HG10; clear gb10 gl10 HG10; obtain ⟨_, ce10, hcl10, hM10, hcc10, hfr10, _, _⟩ := Kd.S_elem HO_3.out z127 (x4_1 : Int) p10 q10; obtain ⟨ve10_4, rfl, ge10_4⟩ := k127_openM hM10; have hx10_0 : w11.cell? ⟨go10, (x4_1 : Int).toNat * 5, none⟩ = some (.string ((rd_T127 x3_1 x4_1).f0)) := hcc10 0 _ rfl; have hx10_1 : w11.cell? ⟨go10, (x4_1 : Int).toNat * 5 + 1, none⟩ = some (.int .i64 ((rd_T127 x3_1 x4_1).f1)) := hcc10 1 _ rfl; have hx10_2 : w11.cell? ⟨go10, (x4_1 : Int).toNat * 5 + 2, none⟩ = some (.bool ((rd_T127 x3_1 x4_1).f2)) := hcc10 2 _ rfl; have hx10_3 : w11.cell? ⟨go10, (x4_1 : Int).toNat * 5 + 3, none⟩ = some (.int .i64 ((rd_T127 x3_1 x4_1).f3)) := hcc10 3 _ rfl; have hx10_4 : w11.cell? ⟨go10, (x4_1 : Int).toNat * 5 + 4, none⟩ = some (ve10_4) := hcc10 4 _ rfl; have hf10_0 : w11.frozen? ⟨go10, (x4_1 : Int).toNat * 5, none⟩ = false := hfr10 0; have hf10_1 : w11.frozen? ⟨go10, (x4_1 : Int).toNat * 5 + 1, none⟩ = false := hfr10 1; have hf10_2 : w11.frozen? ⟨go10, (x4_1 : Int).toNat * 5 + 2, none⟩ = false := hfr10 2; have hf10_3 : w11.frozen? ⟨go10, (x4_1 : Int).toNat * 5 + 3, none⟩ = false := hfr10 3; have hf10_4 : w11.frozen? ⟨go10, (x4_1 : Int).toNat * 5 + 4, none⟩ = false := hfr10 4; clear hcl10 hcc10 hfr10 hM10; replace p10 := eq_true p10; replace q10 := eq_true q10; have n_ := Aside0.mk (Kd.S_mono (ok' := (fun k_ => some k_ ≠ (v445 : Value).ownBlock)) HO_3.out (fun k_ hk => hk.2)); clear HO_3; have HO_3 := n_; clear n_; have HX12 := Aside0.mk (show Kd.S k127 127 w11 w.heap.size (fun k_ => ((fun _ => True)) k_ ∧ ¬ ((fun k_ => some k_ = (v445 : Value).ownBlock)) k_) (.slice (some ⟨go10, 0, none⟩) x3_1.length co10) x3_1 from (by (with_reducible repeat (first | apply Kd.S_alloc | apply Kd.S_drewN | apply Kd.S_drew)); exact Kd.S_mono HO_3.out (fun k_ hk => ⟨trivial, fun e_ => hk e_⟩))); obtain ⟨oki12, ce12, hcl12, hM12, hcc12, hfr12, hoki12, hH12⟩ := Kd.S_elem HX12.out z127 (x4_1 : Int) (of_decide_eq_true (by first | (with_reducible assumption) | assumption)) (by have h_ : (x4_1 : Int) < ((x3_1.length : Int) : Int) := of_decide_eq_true (by first | (with_reducible assumption) | assumption); first | exact h_ | (have e_ := (Kd.S_reads' HO_3.out).1; omega) | simpa using h_); obtain ⟨ve12_4, rfl, ge12_4⟩ := k127_openM hM12; have HP12 := Kd.S_seg hH12 (of_decide_eq_true (by first | (with_reducible assumption) | assumption)) (by have h_ : (x4_1 : Int) < ((x3_1.length : Int) : Int) := of_decide_eq_true (by first | (with_reducible assumption) | assumption); first | exact h_ | (have e_ := (Kd.S_reads' HO_3.out).1; omega) | simpa using h_) (seg := [.string t440, .int .i64 t441, .bool t442, .int .i64 t443, v445]) (j := 0) (show 5 ≤ 5 from by decide) (x' := (⟨t440, t441, t442, t443, t444⟩ : S127)) (k127_mkM _ _ _ (⟨t440, t441, t442, t443, t444⟩ : S127) (Kd.R_mono (Kd.R_tight rfl (Kd.R_mono (ok' := fun k_ => ((fun _ => True)) k_ ∧ k_ ≠ go10) (Kd.R_apart' (HO446.out) (Kd.S_typed HO_3.out) (by decide)) (fun k_ hk => ⟨trivial, fun e_ => (hk.2) (by rw [e_]; rfl)⟩))) (fun _ h_ => Or.inr (h_)))) (fun _ hk => hk) (fun k_ hk_ => ((Kd.R_mono (ok' := fun k_ => ((fun _ => True)) k_ ∧ k_ ≠ go10) (Kd.R_apart' (HO446.out) (Kd.S_typed HO_3.out) (by decide)) (fun k_ hk => ⟨trivial, fun e_ => (hk.2) (by rw [e_]; rfl)⟩))).1 k_ hk_.symm); have hx12_0 := hcc12 0 _ rfl; (try simp only [show (k127).sz = 5 from rfl, Nat.mul_one, Nat.add_zero] at hx12_0); have hf12_0 := hfr12 0; (try simp only [show (k127).sz = 5 from rfl, Nat.mul_one, Nat.add_zero] at hf12_0); have hx12_1 := hcc12 1 _ rfl; (try simp only [show (k127).sz = 5 from rfl, Nat.mul_one, Nat.add_zero] at hx12_1); have hf12_1 := hfr12 1; (try simp only [show (k127).sz = 5 from rfl, Nat.mul_one, Nat.add_zero] at hf12_1); have hx12_2 := hcc12 2 _ rfl; (try simp only [show (k127).sz = 5 from rfl, Nat.mul_one, Nat.add_zero] at hx12_2); have hf12_2 := hfr12 2; (try simp only [show (k127).sz = 5 from rfl, Nat.mul_one, Nat.add_zero] at hf12_2); have hx12_3 := hcc12 3 _ rfl; (try simp only [show (k127).sz = 5 from rfl, Nat.mul_one, Nat.add_zero] at hx12_3); have hf12_3 := hfr12 3; (try simp only [show (k127).sz = 5 from rfl, Nat.mul_one, Nat.add_zero] at hf12_3); have hx12_4 := hcc12 4 _ rfl; (try simp only [show (k127).sz = 5 from rfl, Nat.mul_one, Nat.add_zero] at hx12_4); have hf12_4 := hfr12 4; (try simp only [show (k127).sz = 5 from rfl, Nat.mul_one, Nat.add_zero] at hf12_4); clear hcl12 hcc12 hfr12 hM12 hoki12 hH12) | ((with_reducible refine gate_store (t := 127) (p := 21) rfl ?_); (try have st12_4 := fun (a_ : Addr) (m_ : Mode) (W_ : World) => run_store Tryd.prog W_ a_ v445 m_ (Kd.R_val HO446.out).2); refine store_event (t := 127) (p := 21) (v := ?vo_w13) (w1 := (((((w11.setCell ⟨go10, (x4_1 : Int).toNat * 5, none⟩ (.string t440)).setCell ⟨go10, (x4_1 : Int).toNat * 5 + 1, none⟩ (.int .i64 t441)).setCell ⟨go10, (x4_1 : Int).toNat * 5 + 2, none⟩ (.bool t442)).setCell ⟨go10, (x4_1 : Int).toNat * 5 + 3, none⟩ (.int .i64 t443)).setCell ⟨go10, (x4_1 : Int).toNat * 5 + 4, none⟩ (v445))) ?hg ?ho ?hn ?hr ?_; (case ho => rfl); (case hg => rfl); (case hn => rfl); (case hr => first | (go_simp; done) | (go_simp; rfl)); intro w13 hw; have hg : w11.grownBy w13 (some go10) := (by rw [hw]; exact HP12.2); have hp_ : Kd.S k127 127 w13 w.heap.size (fun _ => True) (.slice (some ⟨go10, 0, none⟩) x3_1.length co10) y447 := (by rw [hw, Ny447.out]; exact HP12.1); clear HP12; (try clear st12_4); have n0_ := Aside0.mk (hp_); have n1_ := Aside0.mk ((by rw [hw]; exact below_set (below_set (below_set (below_set (below_set (HB.out) GB10.out) GB10.out) GB10.out) GB10.out) GB10.out : Below w.heap.size w w13)); clear HO_3; clear HB; clear HO446; have HO_3 := n0_; have HB := n1_; clear n0_ n1_; clear hg hw hp_))
             go_roundg k1
             case measure => have := HK1.out; omega
             case rel => exact ⟨(y447), (wrap64 (x4_1 + 1)), (by first | rfl | (simp; done) | (simp [*]; done)), H', ⟨by have := HK1.out; omega⟩, ⟨by (with_reducible repeat (first | apply Kd.S_alloc | apply Kd.S_drewN | apply Kd.S_drew)); exact HO_3.out⟩, ⟨by repeat (first | (with_reducible first | exact HB.out | apply below_alloc | apply pw_below_drewN | apply below_drew1) | exact HB.out)⟩⟩
           · rw [if_neg c9] at H
             exact absurd H (by simp)
         · rw [if_neg c7] at H
           exact absurd H (by simp)
       · rw [if_neg c6] at H
         have c6b0 : decide (x4_1 < (l0.length : Int)) = false := decide_eq_false c6
         clear c6
         obtain rfl := Option.some.inj H
         go_wp2
         go_ret
         exact ⟨_, by first | rfl | (simp [errW_none, errW_some] <;> rfl) | (simp [*, errW_none, errW_some] <;> rfl), by (with_reducible repeat (first | apply Kd.S_alloc | apply Kd.S_drewN | apply Kd.S_drew)); exact HO_3.out, by repeat (first | (with_reducible first | exact HB.out | apply below_alloc | apply pw_below_drewN | apply below_drew1) | exact HB.out)⟩
   · rw [if_neg c3] at H
     exact absurd H (by simp)
 · rw [if_neg c2] at H
   exact absurd H (by simp)

end Go.Proofs.YtkohjiajbdkcbaaDoor.All


namespace Go.Proofs.YtkohjiajbdkcbaaDoor.All
open Go.RowKit Go.Proofs.YtkohjiajbdkcbaaDoorW.PrintWords Go.Proofs.YtkohjiajbdkcbaaDoorW.PrintLast Go.Proofs.YtkohjiajbdkcbaaDoorW.PrintMore
attribute [local go_sem] max2_int min2_int max_two min_two max_three min_three max_four min_four   -- for this text's walks alone
set_option linter.unusedVariables false
set_option linter.unusedSimpArgs false

/-! ### laws_toInt64S: function 62 -/
def laws_toInt64S.l0 : Nat → List Int → List Int → Int → Option (List Int)
 | 0, _, _, _ => none
 | k + 1, x0, x3, x4 => if x4 < (x0.length : Int) then (if 0 ≤ x4 then (if x4 < (x3.length : Int) then (laws_toInt64S.l0 k x0 (x3.set (x4 : Int).toNat (rd x0 x4)) (wrap64 (x4 + 1))) else (none)) else (none)) else (some x3)
def laws_toInt64S.f (k : Nat) (l0 : List Int) : Option (List Int) := if 0 ≤ (l0.length : Int) then (if ((l0.length : Int) : Int).toNat ≤ 35184372088832 then (laws_toInt64S.l0 k l0 (List.replicate ((l0.length : Int) : Int).toNat 0) 0) else (none)) else (none)
set_option maxHeartbeats 8000000 in
set_option maxRecDepth 100000 in
theorem laws_toInt64S.calls (k : Nat) (A0 : Option Addr) (c0 : Nat) (l0 : List Int) (r : List Int) (w : World) (hr0 : Kd.C (Kd.int .i64) w A0 l0.length l0) (hc0 : l0.length ≤ c0) (h : laws_toInt64S.f k l0 = some r) :
 Calls Tryd.prog 62 #[.slice A0 l0.length c0] w fun e w' => ∃ v0_ : Value, e = .returned (v0_) ∧ Kd.R (Kd.int .i64) 2 w' w.heap.size (fun _ => True) v0_ r ∧ Below w.heap.size w w' := by
 have HR0 := Aside0.mk hr0
 have HC0 := Aside0.mk hc0
 clear hr0 hc0
 have HB := Aside0.mk (Below.refl w.heap.size w)
 have H : (if 0 ≤ (l0.length : Int) then (if ((l0.length : Int) : Int).toNat ≤ 35184372088832 then (laws_toInt64S.l0 k l0 (List.replicate ((l0.length : Int) : Int).toNat 0) 0) else (none)) else (none)) = some r := h
 clear h
 by_cases c2 : 0 ≤ (l0.length : Int)
 · rw [if_pos c2] at H
   have c2b0 := eq_true c2
   have c2b1 : decide (0 ≤ (l0.length : Int)) = true := decide_eq_true c2
   clear c2
   by_cases c3 : ((l0.length : Int) : Int).toNat ≤ 35184372088832
   · rw [if_pos c3] at H
     have c3b0 := eq_true c3
     have c3b1 : decide (((l0.length : Int) : Int).toNat ≤ 35184372088832) = true := decide_eq_true c3
     clear c3
     obtain ⟨y306, hy306⟩ : ∃ y_ : List Int, y_ = (List.replicate ((l0.length : Int) : Int).toNat 0) := ⟨_, rfl⟩
     replace H : (laws_toInt64S.l0 k l0 y306 0) = some r := by first | (rw [hy306]; with_reducible exact H) | (have H2_ := (Option.bind_some _ _).symm.trans H; rw [hy306]; with_reducible exact H2_) | (have H2_ := (Option.bind_some _ _).symm.trans H; with_reducible exact H2_) | with_reducible exact H | (rw [hy306]; exact H) | exact H
     have Ny306 := Aside0.mk hy306
     clear hy306
     have H' := Aside0.mk H
     clear H
     go_enter Tryd.func62, Tryd.ntmps62
     go_wp2_with (first | ((with_reducible refine gate_dst (N := 7) rfl ?_); refine Kd.R_make (Kd.int .i64) _ 2 rfl (N := 7) rfl 52 _ _ rfl (l0.length : Int) rfl rfl Tryd.underlying52 (.int .i64 0) 8 info2 rfl (by decide) (by omega) 0 (ok := fun _ => True) (okp := fun _ => True) rfl (fun _ hk => hk) trivial (of_decide_eq_true (by first | (with_reducible assumption) | assumption)) (Nat.le_trans (Nat.mul_le_mul_right _ (of_decide_eq_true (by first | (with_reducible assumption) | assumption) : (l0.length : Int).toNat ≤ 35184372088832)) (by omega)) (Below.refl _ _) (Nat.le_refl _) ?_; intro v307 w4 ho5 hb hg_ hnew_; clear hg_ hnew_; (first | rw [← Ny306.out] at ho5 | (simp only [Int.reduceToNat] at ho5; rw [← Ny306.out] at ho5)); have n0_ := Aside0.mk (Kd.R_lower ho5 (below_size (by repeat (first | (with_reducible first | exact HB.out | apply below_alloc | apply pw_below_drewN | apply below_drew1) | exact HB.out)))); have n1_ := Aside0.mk (below_step (by repeat (first | (with_reducible first | exact HB.out | apply below_alloc | apply pw_below_drewN | apply below_drew1) | exact HB.out)) hb); clear HB; have HO308 := n0_; have HB := n1_; clear n0_ n1_; clear hb ho5))
     go_loopg [4] k (fun kq v4 w' => ∃ (x3_1 : List Int) (x4_1 : Int), v4 = .int .i64 x4_1 ∧ Aside0 (laws_toInt64S.l0 kq l0 x3_1 x4_1 = some r) ∧ Aside0 (kq ≤ k) ∧ Aside0 (Kd.R (Kd.int .i64) 2 w' w.heap.size (fun _ => True) v307 x3_1) ∧ Aside0 (Below w.heap.size w w'))
     case atStart => exact ⟨(y306), (0), (by first | rfl | (simp; done) | (simp [*]; done)), H', ⟨Nat.le_refl _⟩, ⟨by (with_reducible repeat (first | apply Kd.R_alloc | apply Kd.R_drewN | apply Kd.R_drew)); exact HO308.out⟩, ⟨by repeat (first | (with_reducible first | exact HB.out | apply below_alloc | apply pw_below_drewN | apply below_drew1) | exact HB.out)⟩⟩
     case round =>
      clear H'
      try clear c2
      try clear c2b0
      try clear c2b1
      try clear p2
      try clear c3
      try clear c3b0
      try clear c3b1
      obtain ⟨x3_1, x4_1, rfl, HA, HK1, HO_3, HB⟩ := hrel
      cases gk with
      | zero => exact absurd HA.out (by simp [laws_toInt64S.l0])
      | succ k1 =>
       have H := HA.out
       clear HA
       simp only [laws_toInt64S.l0] at H
       by_cases c6 : x4_1 < (l0.length : Int)
       · rw [if_pos c6] at H
         have c6b0 : decide (x4_1 < (l0.length : Int)) = true := decide_eq_true c6
         clear c6
         by_cases c7 : 0 ≤ x4_1
         · rw [if_pos c7] at H
           have c7b0 : decide (0 ≤ x4_1) = true := decide_eq_true c7
           clear c7
           by_cases c8 : x4_1 < (x3_1.length : Int)
           · rw [if_pos c8] at H
             have c8b0 : decide (x4_1 < (x3_1.length : Int)) = true := decide_eq_true c8
             clear c8
             obtain ⟨y310, hy310⟩ : ∃ y_ : List Int, y_ = (x3_1.set (x4_1 : Int).toNat (rd l0 x4_1)) := ⟨_, rfl⟩
             replace H : (laws_toInt64S.l0 k1 l0 y310 (wrap64 (x4_1 + 1))) = some r := by first | (rw [hy310]; with_reducible exact H) | (have H2_ := (Option.bind_some _ _).symm.trans H; rw [hy310]; with_reducible exact H2_) | (have H2_ := (Option.bind_some _ _).symm.trans H; with_reducible exact H2_) | with_reducible exact H | (rw [hy310]; exact H) | exact H
             have Ny310 := Aside0.mk hy310
             clear hy310
             have H' := Aside0.mk H
             clear H
             have p309 : 0 ≤ (x4_1 : Int) := of_decide_eq_true (by first | (with_reducible assumption) | assumption)
             have q309 : x4_1 < (l0.length : Int) := of_decide_eq_true (by first | (with_reducible assumption) | assumption)
             obtain ⟨ad309, e309, hx309_0⟩ := Kd.at_int HR0.out x4_1 p309 q309
             cases e309
             replace hx309_0 := (HB.out.cell (World.block_lt_of_cell? w _ hx309_0)).trans hx309_0
             replace p309 := eq_true p309
             replace q309 := eq_true q309
             have p9 : 0 ≤ (x4_1 : Int) := of_decide_eq_true (by first | (with_reducible assumption) | assumption)
             have q9 : (x4_1 : Int) < ((x3_1.length : Int) : Int) := of_decide_eq_true (by first | (with_reducible assumption) | assumption)
             obtain ⟨go9, co9, eo9, gb9, gl9, cl9, HG9⟩ := Kd.R_form HO_3.out (by omega)
             (first | cases eo9 | (injection eo9 with ea_ en_ ec_; (first | subst ea_ | (injection ea_ with ea_; subst ea_)); subst ec_; clear en_))
             have GB9 := Aside0.mk gb9
             have GG9 := Aside0.mk HG9
             clear gb9 gl9 HG9
             obtain ⟨hx9_0, hf9_0⟩ := Kd.R_celln 0 HO_3.out (x4_1 : Int) p9 q9
             replace p9 := eq_true p9
             replace q9 := eq_true q9
             have HP10 := Kd.R_putg HO_3.out (x4_1 : Int) (rd l0 x4_1)
             go_wp2_with (first | ((with_reducible refine gate_store (t := 2) (p := 20) rfl ?_); refine store_event (t := 2) (p := 20) (v := ?vo_w11) (w1 := (wr.setCell ⟨go9, (x4_1 : Int).toNat, none⟩ (.int .i64 (rd l0 x4_1)))) ?hg ?ho ?hn ?hr ?_; (case ho => rfl); (case hg => rfl); (case hn => rfl); (case hr => first | (go_simp; done) | (go_simp; rfl)); intro w11 hw; have hg : wr.grownBy w11 (some go9) := (by rw [hw]; exact HP10.2); have hp_ : Kd.R (Kd.int .i64) 2 w11 w.heap.size (fun _ => True) (.slice (some ⟨go9, 0, none⟩) x3_1.length co9) y310 := (by rw [hw, Ny310.out]; exact HP10.1); clear HP10; have n0_ := Aside0.mk (hp_); have n1_ := Aside0.mk ((by rw [hw]; exact below_set (HB.out) GB9.out : Below w.heap.size w w11)); clear HO_3; clear HB; have HO_3 := n0_; have HB := n1_; clear n0_ n1_; clear hg hw hp_))
             go_roundg k1
             case measure => have := HK1.out; omega
             case rel => exact ⟨(y310), (wrap64 (x4_1 + 1)), (by first | rfl | (simp; done) | (simp [*]; done)), H', ⟨by have := HK1.out; omega⟩, ⟨by (with_reducible repeat (first | apply Kd.R_alloc | apply Kd.R_drewN | apply Kd.R_drew)); exact HO_3.out⟩, ⟨by repeat (first | (with_reducible first | exact HB.out | apply below_alloc | apply pw_below_drewN | apply below_drew1) | exact HB.out)⟩⟩
           · rw [if_neg c8] at H
             exact absurd H (by simp)
         · rw [if_neg c7] at H
           exact absurd H (by simp)
       · rw [if_neg c6] at H
         have c6b0 : decide (x4_1 < (l0.length : Int)) = false := decide_eq_false c6
         clear c6
         obtain rfl := Option.some.inj H
         go_wp2
         go_ret
         exact ⟨_, by first | rfl | (simp [errW_none, errW_some] <;> rfl) | (simp [*, errW_none, errW_some] <;> rfl), by (with_reducible repeat (first | apply Kd.R_alloc | apply Kd.R_drewN | apply Kd.R_drew)); exact HO_3.out, by repeat (first | (with_reducible first | exact HB.out | apply below_alloc | apply pw_below_drewN | apply below_drew1) | exact HB.out)⟩
   · rw [if_neg c3] at H
     exact absurd H (by simp)
 · rw [if_neg c2] at H
   exact absurd H (by simp)

end Go.Proofs.YtkohjiajbdkcbaaDoor.All


namespace Go.Proofs.YtkohjiajbdkcbaaDoor.All
open Go.RowKit Go.Proofs.YtkohjiajbdkcbaaDoorW.PrintWords Go.Proofs.YtkohjiajbdkcbaaDoorW.PrintLast Go.Proofs.YtkohjiajbdkcbaaDoorW.PrintMore
attribute [local go_sem] max2_int min2_int max_two min_two max_three min_three max_four min_four   -- for this text's walks alone
set_option linter.unusedVariables false
set_option linter.unusedSimpArgs false

/-! ### laws_toUint64S: function 37 -/
def laws_toUint64S.l0 : Nat → List Int → List Int → Int → Option (List Int)
 | 0, _, _, _ => none
 | k + 1, x0, x3, x4 => if x4 < (x0.length : Int) then (if 0 ≤ x4 then (if x4 < (x3.length : Int) then (laws_toUint64S.l0 k x0 (x3.set (x4 : Int).toNat (rd x0 x4)) (wrap64 (x4 + 1))) else (none)) else (none)) else (some x3)
def laws_toUint64S.f (k : Nat) (l0 : List Int) : Option (List Int) := if 0 ≤ (l0.length : Int) then (if ((l0.length : Int) : Int).toNat ≤ 35184372088832 then (laws_toUint64S.l0 k l0 (List.replicate ((l0.length : Int) : Int).toNat 0) 0) else (none)) else (none)
set_option maxHeartbeats 8000000 in
set_option maxRecDepth 100000 in
theorem laws_toUint64S.calls (k : Nat) (A0 : Option Addr) (c0 : Nat) (l0 : List Int) (r : List Int) (w : World) (hr0 : Kd.C (Kd.int .u64) w A0 l0.length l0) (hc0 : l0.length ≤ c0) (h : laws_toUint64S.f k l0 = some r) :
 Calls Tryd.prog 37 #[.slice A0 l0.length c0] w fun e w' => ∃ v0_ : Value, e = .returned (v0_) ∧ Kd.R (Kd.int .u64) 22 w' w.heap.size (fun _ => True) v0_ r ∧ Below w.heap.size w w' := by
 have HR0 := Aside0.mk hr0
 have HC0 := Aside0.mk hc0
 clear hr0 hc0
 have HB := Aside0.mk (Below.refl w.heap.size w)
 have H : (if 0 ≤ (l0.length : Int) then (if ((l0.length : Int) : Int).toNat ≤ 35184372088832 then (laws_toUint64S.l0 k l0 (List.replicate ((l0.length : Int) : Int).toNat 0) 0) else (none)) else (none)) = some r := h
 clear h
 by_cases c2 : 0 ≤ (l0.length : Int)
 · rw [if_pos c2] at H
   have c2b0 := eq_true c2
   have c2b1 : decide (0 ≤ (l0.length : Int)) = true := decide_eq_true c2
   clear c2
   by_cases c3 : ((l0.length : Int) : Int).toNat ≤ 35184372088832
   · rw [if_pos c3] at H
     have c3b0 := eq_true c3
     have c3b1 : decide (((l0.length : Int) : Int).toNat ≤ 35184372088832) = true := decide_eq_true c3
     clear c3
     obtain ⟨y448, hy448⟩ : ∃ y_ : List Int, y_ = (List.replicate ((l0.length : Int) : Int).toNat 0) := ⟨_, rfl⟩
     replace H : (laws_toUint64S.l0 k l0 y448 0) = some r := by first | (rw [hy448]; with_reducible exact H) | (have H2_ := (Option.bind_some _ _).symm.trans H; rw [hy448]; with_reducible exact H2_) | (have H2_ := (Option.bind_some _ _).symm.trans H; with_reducible exact H2_) | with_reducible exact H | (rw [hy448]; exact H) | exact H
     have Ny448 := Aside0.mk hy448
     clear hy448
     have H' := Aside0.mk H
     clear H
     go_enter Tryd.func37, Tryd.ntmps37
     go_wp2_with (first | ((with_reducible refine gate_dst (N := 7) rfl ?_); refine Kd.R_make (Kd.int .u64) _ 22 rfl (N := 7) rfl 25 _ _ rfl (l0.length : Int) rfl rfl Tryd.underlying25 (.int .u64 0) 8 info22 rfl (by decide) (by omega) 0 (ok := fun _ => True) (okp := fun _ => True) rfl (fun _ hk => hk) trivial (of_decide_eq_true (by first | (with_reducible assumption) | assumption)) (Nat.le_trans (Nat.mul_le_mul_right _ (of_decide_eq_true (by first | (with_reducible assumption) | assumption) : (l0.length : Int).toNat ≤ 35184372088832)) (by omega)) (Below.refl _ _) (Nat.le_refl _) ?_; intro v449 w4 ho5 hb hg_ hnew_; clear hg_ hnew_; (first | rw [← Ny448.out] at ho5 | (simp only [Int.reduceToNat] at ho5; rw [← Ny448.out] at ho5)); have n0_ := Aside0.mk (Kd.R_lower ho5 (below_size (by repeat (first | (with_reducible first | exact HB.out | apply below_alloc | apply pw_below_drewN | apply below_drew1) | exact HB.out)))); have n1_ := Aside0.mk (below_step (by repeat (first | (with_reducible first | exact HB.out | apply below_alloc | apply pw_below_drewN | apply below_drew1) | exact HB.out)) hb); clear HB; have HO450 := n0_; have HB := n1_; clear n0_ n1_; clear hb ho5))
     go_loopg [4] k (fun kq v4 w' => ∃ (x3_1 : List Int) (x4_1 : Int), v4 = .int .i64 x4_1 ∧ Aside0 (laws_toUint64S.l0 kq l0 x3_1 x4_1 = some r) ∧ Aside0 (kq ≤ k) ∧ Aside0 (Kd.R (Kd.int .u64) 22 w' w.heap.size (fun _ => True) v449 x3_1) ∧ Aside0 (Below w.heap.size w w'))
     case atStart => exact ⟨(y448), (0), (by first | rfl | (simp; done) | (simp [*]; done)), H', ⟨Nat.le_refl _⟩, ⟨by (with_reducible repeat (first | apply Kd.R_alloc | apply Kd.R_drewN | apply Kd.R_drew)); exact HO450.out⟩, ⟨by repeat (first | (with_reducible first | exact HB.out | apply below_alloc | apply pw_below_drewN | apply below_drew1) | exact HB.out)⟩⟩
     case round =>
      clear H'
      try clear c2
      try clear c2b0
      try clear c2b1
      try clear p2
      try clear c3
      try clear c3b0
      try clear c3b1
      obtain ⟨x3_1, x4_1, rfl, HA, HK1, HO_3, HB⟩ := hrel
      cases gk with
      | zero => exact absurd HA.out (by simp [laws_toUint64S.l0])
      | succ k1 =>
       have H := HA.out
       clear HA
       simp only [laws_toUint64S.l0] at H
       by_cases c6 : x4_1 < (l0.length : Int)
       · rw [if_pos c6] at H
         have c6b0 : decide (x4_1 < (l0.length : Int)) = true := decide_eq_true c6
         clear c6
         by_cases c7 : 0 ≤ x4_1
         · rw [if_pos c7] at H
           have c7b0 : decide (0 ≤ x4_1) = true := decide_eq_true c7
           clear c7
           by_cases c8 : x4_1 < (x3_1.length : Int)
           · rw [if_pos c8] at H
             have c8b0 : decide (x4_1 < (x3_1.length : Int)) = true := decide_eq_true c8
             clear c8
             obtain ⟨y452, hy452⟩ : ∃ y_ : List Int, y_ = (x3_1.set (x4_1 : Int).toNat (rd l0 x4_1)) := ⟨_, rfl⟩
             replace H : (laws_toUint64S.l0 k1 l0 y452 (wrap64 (x4_1 + 1))) = some r := by first | (rw [hy452]; with_reducible exact H) | (have H2_ := (Option.bind_some _ _).symm.trans H; rw [hy452]; with_reducible exact H2_) | (have H2_ := (Option.bind_some _ _).symm.trans H; with_reducible exact H2_) | with_reducible exact H | (rw [hy452]; exact H) | exact H
             have Ny452 := Aside0.mk hy452
             clear hy452
             have H' := Aside0.mk H
             clear H
             have p451 : 0 ≤ (x4_1 : Int) := of_decide_eq_true (by first | (with_reducible assumption) | assumption)
             have q451 : x4_1 < (l0.length : Int) := of_decide_eq_true (by first | (with_reducible assumption) | assumption)
             obtain ⟨ad451, e451, hx451_0⟩ := Kd.at_int HR0.out x4_1 p451 q451
             cases e451
             replace hx451_0 := (HB.out.cell (World.block_lt_of_cell? w _ hx451_0)).trans hx451_0
             replace p451 := eq_true p451
             replace q451 := eq_true q451
             have p9 : 0 ≤ (x4_1 : Int) := of_decide_eq_true (by first | (with_reducible assumption) | assumption)
             have q9 : (x4_1 : Int) < ((x3_1.length : Int) : Int) := of_decide_eq_true (by first | (with_reducible assumption) | assumption)
             obtain ⟨go9, co9, eo9, gb9, gl9, cl9, HG9⟩ := Kd.R_form HO_3.out (by omega)
             (first | cases eo9 | (injection eo9 with ea_ en_ ec_; (first | subst ea_ | (injection ea_ with ea_; subst ea_)); subst ec_; clear en_))
             have GB9 := Aside0.mk gb9
             have GG9 := Aside0.mk HG9
             clear gb9 gl9 HG9
             obtain ⟨hx9_0, hf9_0⟩ := Kd.R_celln 0 HO_3.out (x4_1 : Int) p9 q9
             replace p9 := eq_true p9
             replace q9 := eq_true q9
             have HP10 := Kd.R_putg HO_3.out (x4_1 : Int) (rd l0 x4_1)
             go_wp2_with (first | ((with_reducible refine gate_store (t := 22) (p := 20) rfl ?_); refine store_event (t := 22) (p := 20) (v := ?vo_w11) (w1 := (wr.setCell ⟨go9, (x4_1 : Int).toNat, none⟩ (.int .u64 (rd l0 x4_1)))) ?hg ?ho ?hn ?hr ?_; (case ho => rfl); (case hg => rfl); (case hn => rfl); (case hr => first | (go_simp; done) | (go_simp; rfl)); intro w11 hw; have hg : wr.grownBy w11 (some go9) := (by rw [hw]; exact HP10.2); have hp_ : Kd.R (Kd.int .u64) 22 w11 w.heap.size (fun _ => True) (.slice (some ⟨go9, 0, none⟩) x3_1.length co9) y452 := (by rw [hw, Ny452.out]; exact HP10.1); clear HP10; have n0_ := Aside0.mk (hp_); have n1_ := Aside0.mk ((by rw [hw]; exact below_set (HB.out) GB9.out : Below w.heap.size w w11)); clear HO_3; clear HB; have HO_3 := n0_; have HB := n1_; clear n0_ n1_; clear hg hw hp_))
             go_roundg k1
             case measure => have := HK1.out; omega
             case rel => exact ⟨(y452), (wrap64 (x4_1 + 1)), (by first | rfl | (simp; done) | (simp [*]; done)), H', ⟨by have := HK1.out; omega⟩, ⟨by (with_reducible repeat (first | apply Kd.R_alloc | apply Kd.R_drewN | apply Kd.R_drew)); exact HO_3.out⟩, ⟨by repeat (first | (with_reducible first | exact HB.out | apply below_alloc | apply pw_below_drewN | apply below_drew1) | exact HB.out)⟩⟩
           · rw [if_neg c8] at H
             exact absurd H (by simp)
         · rw [if_neg c7] at H
           exact absurd H (by simp)
       · rw [if_neg c6] at H
         have c6b0 : decide (x4_1 < (l0.length : Int)) = false := decide_eq_false c6
         clear c6
         obtain rfl := Option.some.inj H
         go_wp2
         go_ret
         exact ⟨_, by first | rfl | (simp [errW_none, errW_some] <;> rfl) | (simp [*, errW_none, errW_some] <;> rfl), by (with_reducible repeat (first | apply Kd.R_alloc | apply Kd.R_drewN | apply Kd.R_drew)); exact HO_3.out, by repeat (first | (with_reducible first | exact HB.out | apply below_alloc | apply pw_below_drewN | apply below_drew1) | exact HB.out)⟩
   · rw [if_neg c3] at H
     exact absurd H (by simp)
 · rw [if_neg c2] at H
   exact absurd H (by simp)

end Go.Proofs.YtkohjiajbdkcbaaDoor.All


namespace Go.Proofs.YtkohjiajbdkcbaaDoor.All
open Go.RowKit Go.Proofs.YtkohjiajbdkcbaaDoorW.PrintWords Go.Proofs.YtkohjiajbdkcbaaDoorW.PrintLast Go.Proofs.YtkohjiajbdkcbaaDoorW.PrintMore
attribute [local go_sem] max2_int min2_int max_two min_two max_three min_three max_four min_four   -- for this text's walks alone
set_option linter.unusedVariables false
set_option linter.unusedSimpArgs false

/-! ### laws_toOperandS: function 141 -/
def laws_toOperandS.l0 : Nat → List (S69) → List (S77) → Int → Option ((List (S77)))
 | 0, _, _, _ => none
 | k + 1, x0, x3, x4 => if x4 < (x0.length : Int) then (if 0 ≤ x4 then ((laws_toOperand.f ((rd_T69 x0 x4).f0) ((rd_T69 x0 x4).f1) ((rd_T69 x0 x4).f2) ((rd_T69 x0 x4).f3)).bind fun bt460 => (if x4 < (x3.length : Int) then (laws_toOperandS.l0 k x0 (x3.set (x4 : Int).toNat (⟨bt460.1, bt460.2.1, bt460.2.2.1, bt460.2.2.2⟩ : S77)) (wrap64 (x4 + 1))) else (none))) else (none)) else (some x3)
def laws_toOperandS.f (k : Nat) (l0 : List (S69)) : Option ((List (S77))) := if 0 ≤ (l0.length : Int) then (if ((l0.length : Int) : Int).toNat ≤ 8796093022208 then (laws_toOperandS.l0 k l0 (List.replicate ((l0.length : Int) : Int).toNat z77) 0) else (none)) else (none)
set_option maxHeartbeats 8000000 in
set_option maxRecDepth 100000 in
theorem laws_toOperandS.calls (k : Nat) (A0 : Option Addr) (c0 : Nat) (l0 : List (S69)) (r : List (S77)) (w : World) (hr0 : Kd.C k69 w A0 l0.length l0) (hc0 : l0.length ≤ c0) (h : laws_toOperandS.f k l0 = some r) :
 Calls Tryd.prog 141 #[.slice A0 l0.length c0] w fun e w' => ∃ v0_ : Value, e = .returned (v0_) ∧ Kd.R k77 77 w' w.heap.size (fun _ => True) v0_ r ∧ Below w.heap.size w w' := by
 have hu69 := Tryd.underlying69
 have hu77 := Tryd.underlying77
 have HR0 := Aside0.mk hr0
 have HC0 := Aside0.mk hc0
 clear hr0 hc0
 have HB := Aside0.mk (Below.refl w.heap.size w)
 have H : (if 0 ≤ (l0.length : Int) then (if ((l0.length : Int) : Int).toNat ≤ 8796093022208 then (laws_toOperandS.l0 k l0 (List.replicate ((l0.length : Int) : Int).toNat z77) 0) else (none)) else (none)) = some r := h
 clear h
 by_cases c2 : 0 ≤ (l0.length : Int)
 · rw [if_pos c2] at H
   have c2b0 := eq_true c2
   have c2b1 : decide (0 ≤ (l0.length : Int)) = true := decide_eq_true c2
   clear c2
   by_cases c3 : ((l0.length : Int) : Int).toNat ≤ 8796093022208
   · rw [if_pos c3] at H
     have c3b0 := eq_true c3
     have c3b1 : decide (((l0.length : Int) : Int).toNat ≤ 8796093022208) = true := decide_eq_true c3
     clear c3
     obtain ⟨y456, hy456⟩ : ∃ y_ : List (S77), y_ = (List.replicate ((l0.length : Int) : Int).toNat z77) := ⟨_, rfl⟩
     replace H : (laws_toOperandS.l0 k l0 y456 0) = some r := by first | (rw [hy456]; with_reducible exact H) | (have H2_ := (Option.bind_some _ _).symm.trans H; rw [hy456]; with_reducible exact H2_) | (have H2_ := (Option.bind_some _ _).symm.trans H; with_reducible exact H2_) | with_reducible exact H | (rw [hy456]; exact H) | exact H
     have Ny456 := Aside0.mk hy456
     clear hy456
     have H' := Aside0.mk H
     clear H
     go_enter Tryd.func141, Tryd.ntmps141
     go_wp2_with (first | ((with_reducible refine gate_dst (N := 7) rfl ?_); refine Kd.R_make k77 _ 77 rfl (N := 7) rfl 203 _ _ rfl (l0.length : Int) rfl rfl Tryd.underlying203 (.agg #[(.int .i64 0), (.int .i64 0), (.int .i64 0), (.int .u64 0)]) 32 info77 rfl (by decide) (by omega) z77 (ok := fun _ => True) (okp := fun _ => True) (k77_mkM _ _ _ z77 ) (fun _ hk => hk) trivial (of_decide_eq_true (by first | (with_reducible assumption) | assumption)) (Nat.le_trans (Nat.mul_le_mul_right _ (of_decide_eq_true (by first | (with_reducible assumption) | assumption) : (l0.length : Int).toNat ≤ 8796093022208)) (by omega)) (Below.refl _ _) (Nat.le_refl _) ?_; intro v457 w4 ho5 hb hg_ hnew_; clear hg_ hnew_; (first | rw [← Ny456.out] at ho5 | (simp only [Int.reduceToNat] at ho5; rw [← Ny456.out] at ho5)); have n0_ := Aside0.mk (Kd.R_lower ho5 (below_size (by repeat (first | (with_reducible first | exact HB.out | apply below_alloc | apply pw_below_drewN | apply below_drew1) | exact HB.out)))); have n1_ := Aside0.mk (below_step (by repeat (first | (with_reducible first | exact HB.out | apply below_alloc | apply pw_below_drewN | apply below_drew1) | exact HB.out)) hb); clear HB; have HO458 := n0_; have HB := n1_; clear n0_ n1_; clear hb ho5))
     go_loopg [4] k (fun kq v4 w' => ∃ (x3_1 : List (S77)) (x4_1 : Int), v4 = .int .i64 x4_1 ∧ Aside0 (laws_toOperandS.l0 kq l0 x3_1 x4_1 = some r) ∧ Aside0 (kq ≤ k) ∧ Aside0 (Kd.R k77 77 w' w.heap.size (fun _ => True) v457 x3_1) ∧ Aside0 (Below w.heap.size w w'))
     case atStart => exact ⟨(y456), (0), (by first | rfl | (simp; done) | (simp [*]; done)), H', ⟨Nat.le_refl _⟩, ⟨by (with_reducible repeat (first | apply Kd.R_alloc | apply Kd.R_drewN | apply Kd.R_drew)); exact HO458.out⟩, ⟨by repeat (first | (with_reducible first | exact HB.out | apply below_alloc | apply pw_below_drewN | apply below_drew1) | exact HB.out)⟩⟩
     case round =>
      clear H'
      try clear c1
      try clear c2
      try clear c2b0
      try clear c2b1
      try clear p2
      try clear c3
      try clear c3b0
      try clear c3b1
      obtain ⟨x3_1, x4_1, rfl, HA, HK1, HO_3, HB⟩ := hrel
      cases gk with
      | zero => exact absurd HA.out (by simp [laws_toOperandS.l0])
      | succ k1 =>
       have H := HA.out
       clear HA
       simp only [laws_toOperandS.l0] at H
       by_cases c6 : x4_1 < (l0.length : Int)
       · rw [if_pos c6] at H
         have c6b0 : decide (x4_1 < (l0.length : Int)) = true := decide_eq_true c6
         clear c6
         by_cases c7 : 0 ≤ x4_1
         · rw [if_pos c7] at H
           have c7b0 : decide (0 ≤ x4_1) = true := decide_eq_true c7
           clear c7
           replace H := Option.bind_eq_some_iff.mp H
           obtain ⟨⟨t460, t461, t462, t463⟩, A80, H⟩ := H
           replace H : (if x4_1 < (x3_1.length : Int) then (laws_toOperandS.l0 k1 l0 (x3_1.set (x4_1 : Int).toNat (⟨t460, t461, t462, t463⟩ : S77)) (wrap64 (x4_1 + 1))) else (none)) = some r := H
           have A8 := Aside0.mk A80
           clear A80
           by_cases c9 : x4_1 < (x3_1.length : Int)
           · rw [if_pos c9] at H
             have c9b0 : decide (x4_1 < (x3_1.length : Int)) = true := decide_eq_true c9
             clear c9
             obtain ⟨y464, hy464⟩ : ∃ y_ : List (S77), y_ = (x3_1.set (x4_1 : Int).toNat (⟨t460, t461, t462, t463⟩ : S77)) := ⟨_, rfl⟩
             replace H : (laws_toOperandS.l0 k1 l0 y464 (wrap64 (x4_1 + 1))) = some r := by first | (rw [hy464]; with_reducible exact H) | (have H2_ := (Option.bind_some _ _).symm.trans H; rw [hy464]; with_reducible exact H2_) | (have H2_ := (Option.bind_some _ _).symm.trans H; with_reducible exact H2_) | with_reducible exact H | (rw [hy464]; exact H) | exact H
             have Ny464 := Aside0.mk hy464
             clear hy464
             have H' := Aside0.mk H
             clear H
             have p459 : 0 ≤ (x4_1 : Int) := of_decide_eq_true (by first | (with_reducible assumption) | assumption)
             have q459 : x4_1 < (l0.length : Int) := of_decide_eq_true (by first | (with_reducible assumption) | assumption)
             obtain ⟨ad459, e459, hx459_0, hx459_1, hx459_2, hx459_3⟩ := at_T69 HR0.out x4_1 p459 q459
             cases e459
             replace hx459_0 := (HB.out.cell (World.block_lt_of_cell? w _ hx459_0)).trans hx459_0
             replace hx459_1 := (HB.out.cell (World.block_lt_of_cell? w _ hx459_1)).trans hx459_1
             replace hx459_2 := (HB.out.cell (World.block_lt_of_cell? w _ hx459_2)).trans hx459_2
             replace hx459_3 := (HB.out.cell (World.block_lt_of_cell? w _ hx459_3)).trans hx459_3
             replace p459 := eq_true p459
             replace q459 := eq_true q459
             go_wp2_with (first | ((with_reducible refine gate_callee (f := 32) rfl ?_); refine goesL_ (some 20) rfl rfl Tryd.func32 (by kernel_rfl) rfl #[.agg #[.int .i64 ((rd_T69 l0 x4_1).f0), .int .i64 ((rd_T69 l0 x4_1).f1), .int .i64 ((rd_T69 l0 x4_1).f2), .int .u64 ((rd_T69 l0 x4_1).f3)]] rfl (by (try simp only [List.map_toArray, List.map_cons, List.map_nil]); first | done | rfl | (simp only [List.length_drop, List.length_take]; rfl)) ?_; (with_reducible refine (laws_toOperand.calls ((rd_T69 l0 x4_1).f0) ((rd_T69 l0 x4_1).f1) ((rd_T69 l0 x4_1).f2) ((rd_T69 l0 x4_1).f3) t460 t461 t462 t463 _ A8.out).mono ?_); rintro e w11 ⟨rfl, hb⟩; refine ⟨_, rfl, ?_⟩; have n0_ := Aside0.mk (Kd.R_below (by (with_reducible repeat (first | apply Kd.R_alloc | apply Kd.R_drewN | apply Kd.R_drew)); exact HO_3.out) hb); have n1_ := Aside0.mk (below_step (by repeat (first | (with_reducible first | exact HB.out | apply below_alloc | apply pw_below_drewN | apply below_drew1) | exact HB.out)) hb); clear HO_3; clear HB; have HO_3 := n0_; have HB := n1_; clear n0_ n1_; (try clear hb); (try clear hb2); (try clear hk); (try clear hi); have p10 : 0 ≤ (x4_1 : Int) := of_decide_eq_true (by first | (with_reducible assumption) | assumption); have q10 : (x4_1 : Int) < ((x3_1.length : Int) : Int) := of_decide_eq_true (by first | (with_reducible assumption) | assumption); obtain ⟨go10, co10, eo10, gb10, gl10, cl10, HG10⟩ := Kd.R_form HO_3.out (by omega); (first | cases eo10 | (injection eo10 with ea_ en_ ec_; (first | subst ea_ | (injection ea_ with ea_; subst ea_)); subst ec_; clear en_)); have GB10 := Aside0.mk gb10; have GG10 := Aside0.mk HG10; clear gb10 gl10 HG10; obtain ⟨ce10, hcl10, hM10, hcc10, hfr10⟩ := Kd.R_elem HO_3.out z77 (x4_1 : Int) p10 q10; obtain rfl := k77_openM hM10; have hx10_0 : w11.cell? ⟨go10, (x4_1 : Int).toNat * 4, none⟩ = some (.int .i64 ((rd_T77 x3_1 x4_1).f0)) := hcc10 0 _ rfl; have hx10_1 : w11.cell? ⟨go10, (x4_1 : Int).toNat * 4 + 1, none⟩ = some (.int .i64 ((rd_T77 x3_1 x4_1).f1)) := hcc10 1 _ rfl; have hx10_2 : w11.cell? ⟨go10, (x4_1 : Int).toNat * 4 + 2, none⟩ = some (.int .i64 ((rd_T77 x3_1 x4_1).f2)) := hcc10 2 _ rfl; have hx10_3 : w11.cell? ⟨go10, (x4_1 : Int).toNat * 4 + 3, none⟩ = some (.int .u64 ((rd_T77 x3_1 x4_1).f3)) := hcc10 3 _ rfl; have hf10_0 : w11.frozen? ⟨go10, (x4_1 : Int).toNat * 4, none⟩ = false := hfr10 0; have hf10_1 : w11.frozen? ⟨go10, (x4_1 : Int).toNat * 4 + 1, none⟩ = false := hfr10 1; have hf10_2 : w11.frozen? ⟨go10, (x4_1 : Int).toNat * 4 + 2, none⟩ = false := hfr10 2; have hf10_3 : w11.frozen? ⟨go10, (x4_1 : Int).toNat * 4 + 3, none⟩ = false := hfr10 3; clear hcl10 hcc10 hfr10 hM10; replace p10 := eq_true p10; replace q10 := eq_true q10; have HX12 := Aside0.mk (show Kd.R k77 77 w11 w.heap.size (fun _ => True) (.slice (some ⟨go10, 0, none⟩) x3_1.length co10) x3_1 from (by (with_reducible repeat (first | apply Kd.R_alloc | apply Kd.R_drewN | apply Kd.R_drew)); exact HO_3.out)); obtain ⟨ce12, hcl12, hM12, hcc12, hfr12⟩ := Kd.R_elem HX12.out z77 (x4_1 : Int) (of_decide_eq_true (by first | (with_reducible assumption) | assumption)) (by have h_ : (x4_1 : Int) < ((x3_1.length : Int) : Int) := of_decide_eq_true (by first | (with_reducible assumption) | assumption); first | exact h_ | (have e_ := (Kd.R_reads' HO_3.out).1; omega) | simpa using h_); obtain rfl := k77_openM hM12; have HP12 := Kd.R_seg HX12.out (x4_1 : Int) (of_decide_eq_true (by first | (with_reducible assumption) | assumption)) (by have h_ : (x4_1 : Int) < ((x3_1.length : Int) : Int) := of_decide_eq_true (by first | (with_reducible assumption) | assumption); first | exact h_ | (have e_ := (Kd.R_reads' HO_3.out).1; omega) | simpa using h_) (seg := [.int .i64 t460, .int .i64 t461, .int .i64 t462, .int .u64 t463]) (j := 0) hcl12 hcc12 (show 4 ≤ 4 from by decide) (x' := (⟨t460, t461, t462, t463⟩ : S77)) (k77_mkM _ _ _ (⟨t460, t461, t462, t463⟩ : S77) ) (fun _ hk => hk); have hx12_0 := hcc12 0 _ rfl; (try simp only [show (k77).sz = 4 from rfl, Nat.mul_one, Nat.add_zero] at hx12_0); have hf12_0 := hfr12 0; (try simp only [show (k77).sz = 4 from rfl, Nat.mul_one, Nat.add_zero] at hf12_0); have hx12_1 := hcc12 1 _ rfl; (try simp only [show (k77).sz = 4 from rfl, Nat.mul_one, Nat.add_zero] at hx12_1); have hf12_1 := hfr12 1; (try simp only [show (k77).sz = 4 from rfl, Nat.mul_one, Nat.add_zero] at hf12_1); have hx12_2 := hcc12 2 _ rfl; (try simp only [show (k77).sz = 4 from rfl, Nat.mul_one, Nat.add_zero] at hx12_2); have hf12_2 := hfr12 2; (try simp only [show (k77).sz = 4 from rfl, Nat.mul_one, Nat.add_zero] at hf12_2); have hx12_3 := hcc12 3 _ rfl; (try simp only [show (k77).sz = 4 from rfl, Nat.mul_one, Nat.add_zero] at hx12_3); have hf12_3 := hfr12 3; (try simp only [show (k77).sz = 4 from rfl, Nat.mul_one, Nat.add_zero] at hf12_3); clear hcl12 hcc12 hfr12 hM12) | ((with_reducible refine gate_store (t := 77) (p := 21) rfl ?_); refine store_event (t := 77) (p := 21) (v := ?vo_w13) (w1 := ((((w11.setCell ⟨go10, (x4_1 : Int).toNat * 4, none⟩ (.int .i64 t460)).setCell ⟨go10, (x4_1 : Int).toNat * 4 + 1, none⟩ (.int .i64 t461)).setCell ⟨go10, (x4_1 : Int).toNat * 4 + 2, none⟩ (.int .i64 t462)).setCell ⟨go10, (x4_1 : Int).toNat * 4 + 3, none⟩ (.int .u64 t463))) ?hg ?ho ?hn ?hr ?_; (case ho => rfl); (case hg => rfl); (case hn => rfl); (case hr => first | (go_simp; done) | (go_simp; rfl)); intro w13 hw; have hg : w11.grownBy w13 (some go10) := (by rw [hw]; exact HP12.2); have hp_ : Kd.R k77 77 w13 w.heap.size (fun _ => True) (.slice (some ⟨go10, 0, none⟩) x3_1.length co10) y464 := (by rw [hw, Ny464.out]; exact HP12.1); clear HP12; have n0_ := Aside0.mk (hp_); have n1_ := Aside0.mk ((by rw [hw]; exact below_set (below_set (below_set (below_set (HB.out) GB10.out) GB10.out) GB10.out) GB10.out : Below w.heap.size w w13)); clear HO_3; clear HB; have HO_3 := n0_; have HB := n1_; clear n0_ n1_; clear hg hw hp_))
             go_roundg k1
             case measure => have := HK1.out; omega
             case rel => exact ⟨(y464), (wrap64 (x4_1 + 1)), (by first | rfl | (simp; done) | (simp [*]; done)), H', ⟨by have := HK1.out; omega⟩, ⟨by (with_reducible repeat (first | apply Kd.R_alloc | apply Kd.R_drewN | apply Kd.R_drew)); exact HO_3.out⟩, ⟨by repeat (first | (with_reducible first | exact HB.out | apply below_alloc | apply pw_below_drewN | apply below_drew1) | exact HB.out)⟩⟩
           · rw [if_neg c9] at H
             exact absurd H (by simp)
         · rw [if_neg c7] at H
           exact absurd H (by simp)
       · rw [if_neg c6] at H
         have c6b0 : decide (x4_1 < (l0.length : Int)) = false := decide_eq_false c6
         clear c6
         obtain rfl := Option.some.inj H
         go_wp2
         go_ret
         exact ⟨_, by first | rfl | (simp [errW_none, errW_some] <;> rfl) | (simp [*, errW_none, errW_some] <;> rfl), by (with_reducible repeat (first | apply Kd.R_alloc | apply Kd.R_drewN | apply Kd.R_drew)); exact HO_3.out, by repeat (first | (with_reducible first | exact HB.out | apply below_alloc | apply pw_below_drewN | apply below_drew1) | exact HB.out)⟩
   · rw [if_neg c3] at H
     exact absurd H (by simp)
 · rw [if_neg c2] at H
   exact absurd H (by simp)

end Go.Proofs.YtkohjiajbdkcbaaDoor.All


namespace Go.Proofs.YtkohjiajbdkcbaaDoor.All
open Go.RowKit Go.Proofs.YtkohjiajbdkcbaaDoorW.PrintWords Go.Proofs.YtkohjiajbdkcbaaDoorW.PrintLast Go.Proofs.YtkohjiajbdkcbaaDoorW.PrintMore
attribute [local go_sem] max2_int min2_int max_two min_two max_three min_three max_four min_four   -- for this text's walks alone
set_option linter.unusedVariables false
set_option linter.unusedSimpArgs false

/-! ### laws_toInstr: function 138 -/
def laws_toInstr.f (k : Nat) (a0_0 : Int) (a0_1 : Int) (a0_2 : Int) (a0_3 : Int) (a0_4 : Int) (a0_5 : Int) (l0_6 : List (S69)) (l0_7 : List Int) (l0_8 : List Int) : Option (Int × Int × Int × Int × Int × Int × (List (S77)) × List Int × List Int) := (laws_toOperandS.f k l0_6).bind fun t468 => ((laws_toInt64S.f k l0_7).bind fun t471 => ((laws_toUint64S.f k l0_8).bind fun t474 => (some (a0_0, a0_1, a0_2, a0_3, a0_4, a0_5, t468, t471, t474))))
set_option maxHeartbeats 8000000 in
set_option maxRecDepth 100000 in
theorem laws_toInstr.calls (k : Nat) (a0_0 : Int) (a0_1 : Int) (a0_2 : Int) (a0_3 : Int) (a0_4 : Int) (a0_5 : Int) (A0_6 : Option Addr) (c0_6 : Nat) (l0_6 : List (S69)) (A0_7 : Option Addr) (c0_7 : Nat) (l0_7 : List Int) (A0_8 : Option Addr) (c0_8 : Nat) (l0_8 : List Int) (r1 : Int) (r2 : Int) (r3 : Int) (r4 : Int) (r5 : Int) (r6 : Int) (r7 : List (S77)) (r8 : List Int) (r9 : List Int) (w : World) (hr0_6 : Kd.C k69 w A0_6 l0_6.length l0_6) (hc0_6 : l0_6.length ≤ c0_6) (hr0_7 : Kd.C (Kd.int .i64) w A0_7 l0_7.length l0_7) (hc0_7 : l0_7.length ≤ c0_7) (hr0_8 : Kd.C (Kd.int .u64) w A0_8 l0_8.length l0_8) (hc0_8 : l0_8.length ≤ c0_8) (h : laws_toInstr.f k a0_0 a0_1 a0_2 a0_3 a0_4 a0_5 l0_6 l0_7 l0_8 = some (r1, r2, r3, r4, r5, r6, r7, r8, r9)) :
 Calls Tryd.prog 138 #[.agg #[.int .i64 a0_0, .int .i64 a0_1, .int .i64 a0_2, .int .i64 a0_3, .int .i64 a0_4, .int .i64 a0_5, .slice A0_6 l0_6.length c0_6, .slice A0_7 l0_7.length c0_7, .slice A0_8 l0_8.length c0_8]] w fun e w' => ∃ v6_ v7_ v8_ : Value, e = .returned (.agg #[.int .i64 r1, .int .i64 r2, .int .i64 r3, .int .i64 r4, .int .i64 r5, .int .i64 r6, v6_, v7_, v8_]) ∧ Kd.R k77 77 w' w.heap.size (fun _ => True) v6_ r7 ∧ Kd.R (Kd.int .i64) 2 w' w.heap.size (fun _ => True) v7_ r8 ∧ Kd.R (Kd.int .u64) 22 w' w.heap.size (fun _ => True) v8_ r9 ∧ Below w.heap.size w w' := by
 have hu202 := Tryd.underlying202
 have hu205 := Tryd.underlying205
 have HR0_6 := Aside0.mk hr0_6
 have HC0_6 := Aside0.mk hc0_6
 clear hr0_6 hc0_6
 have HR0_7 := Aside0.mk hr0_7
 have HC0_7 := Aside0.mk hc0_7
 clear hr0_7 hc0_7
 have HR0_8 := Aside0.mk hr0_8
 have HC0_8 := Aside0.mk hc0_8
 clear hr0_8 hc0_8
 have HB := Aside0.mk (Below.refl w.heap.size w)
 have H : ((laws_toOperandS.f k l0_6).bind fun t468 => ((laws_toInt64S.f k l0_7).bind fun t471 => ((laws_toUint64S.f k l0_8).bind fun t474 => (some (a0_0, a0_1, a0_2, a0_3, a0_4, a0_5, t468, t471, t474))))) = some (r1, r2, r3, r4, r5, r6, r7, r8, r9) := h
 clear h
 replace H := Option.bind_eq_some_iff.mp H
 obtain ⟨t468, A20, H⟩ := H
 replace H : ((laws_toInt64S.f k l0_7).bind fun t471 => ((laws_toUint64S.f k l0_8).bind fun t474 => (some (a0_0, a0_1, a0_2, a0_3, a0_4, a0_5, t468, t471, t474)))) = some (r1, r2, r3, r4, r5, r6, r7, r8, r9) := H
 have A2 := Aside0.mk A20
 clear A20
 replace H := Option.bind_eq_some_iff.mp H
 obtain ⟨t471, A30, H⟩ := H
 replace H : ((laws_toUint64S.f k l0_8).bind fun t474 => (some (a0_0, a0_1, a0_2, a0_3, a0_4, a0_5, t468, t471, t474))) = some (r1, r2, r3, r4, r5, r6, r7, r8, r9) := H
 have A3 := Aside0.mk A30
 clear A30
 replace H := Option.bind_eq_some_iff.mp H
 obtain ⟨t474, A40, H⟩ := H
 replace H : (some (a0_0, a0_1, a0_2, a0_3, a0_4, a0_5, t468, t471, t474)) = some (r1, r2, r3, r4, r5, r6, r7, r8, r9) := H
 have A4 := Aside0.mk A40
 clear A40
 simp only [Option.some.injEq, Prod.mk.injEq] at H
 obtain ⟨rfl, rfl, rfl, rfl, rfl, rfl, rfl, rfl, rfl⟩ := H
 go_enter Tryd.func138, Tryd.ntmps138
 go_wp2_with (first | ((with_reducible refine gate_dst (N := 1) rfl ?_); refine box_event ?hg (N := 1) ?hd (cs := #[.int .i64 a0_0, .int .i64 a0_1, .int .i64 a0_2, .int .i64 a0_3, .int .i64 a0_4, .int .i64 a0_5, .slice A0_6 l0_6.length c0_6, .slice A0_7 l0_7.length c0_7, .slice A0_8 l0_8.length c0_8]) (t := 202) ?hr ?_; (case hd => rfl); (case hg => rfl); (case hr => first | (go_simp; done) | (go_simp; rfl)); intro gb465 hg w5 hbox hb; have n0_ := Aside0.mk (below_step (by repeat (first | (with_reducible first | exact HB.out | apply below_alloc | apply pw_below_drewN | apply below_drew1) | exact HB.out)) hb); have n1_ := Aside0.mk (hbox); have n2_ := Aside0.mk ((by rw [hg]; exact (below_size (by repeat (first | (with_reducible first | exact HB.out | apply below_alloc | apply pw_below_drewN | apply below_drew1) | exact HB.out))) : w.heap.size ≤ gb465)); have n3_ := Aside0.mk ((by rw [hg]; exact (below_size (by repeat (first | (with_reducible first | exact HB.out | apply below_alloc | apply pw_below_drewN | apply below_drew1) | exact HB.out))) : w.heap.size ≤ gb465)); clear HB; have HB := n0_; have BK465 := n1_; have GW465 := n2_; have GE465 := n3_; clear n0_ n1_ n2_ n3_; clear hb hbox hg) | ((with_reducible refine gate_dst (N := 2) rfl ?_); refine box_event ?hg (N := 2) ?hd (cs := #[.int .i64 0, .int .i64 0, .int .i64 0, .int .i64 0, .int .i64 0, .int .i64 0, .slice none 0 0, .slice none 0 0, .slice none 0 0]) (t := 205) ?hr ?_; (case hd => rfl); (case hg => rfl); (case hr => first | (go_simp; done) | (go_simp; rfl)); intro gb466 hg w6 hbox hb; have n0_ := Aside0.mk (blk_below (g := gb465) (o := .cells #[.int .i64 a0_0, .int .i64 a0_1, .int .i64 a0_2, .int .i64 a0_3, .int .i64 a0_4, .int .i64 a0_5, .slice A0_6 l0_6.length c0_6, .slice A0_7 l0_7.length c0_7, .slice A0_8 l0_8.length c0_8] 202 (0, 0)) (by (with_reducible repeat (first | refine blk_drewN ?_ _ | refine blk_drew ?_ | refine blk_alloc ?_ _)); exact BK465.out) hb); have n1_ := Aside0.mk (below_step (by repeat (first | (with_reducible first | exact HB.out | apply below_alloc | apply pw_below_drewN | apply below_drew1 | refine below_set ?_ GE465.out) | exact HB.out)) hb); have n2_ := Aside0.mk (hbox); have n3_ := Aside0.mk ((by rw [hg]; exact (below_size (by repeat (first | (with_reducible first | exact HB.out | apply below_alloc | apply pw_below_drewN | apply below_drew1 | refine below_set ?_ GE465.out) | exact HB.out))) : w.heap.size ≤ gb466)); have n4_ := Aside0.mk ((by rw [hg]; exact (below_size (by repeat (first | (with_reducible first | exact HB.out | apply below_alloc | apply pw_below_drewN | apply below_drew1 | refine below_set ?_ GE465.out) | exact HB.out))) : w.heap.size ≤ gb466)); have n5_ := Aside0.mk ((by rw [hg]; exact Nat.ne_of_lt (blk_lt (g := gb465) (o := .cells #[.int .i64 a0_0, .int .i64 a0_1, .int .i64 a0_2, .int .i64 a0_3, .int .i64 a0_4, .int .i64 a0_5, .slice A0_6 l0_6.length c0_6, .slice A0_7 l0_7.length c0_7, .slice A0_8 l0_8.length c0_8] 202 (0, 0)) (by (with_reducible repeat (first | refine blk_drewN ?_ _ | refine blk_drew ?_ | refine blk_alloc ?_ _)); exact BK465.out)) : gb465 ≠ gb466)); have n6_ := Aside0.mk ((by rw [hg]; exact Nat.ne_of_gt (blk_lt (g := gb465) (o := .cells #[.int .i64 a0_0, .int .i64 a0_1, .int .i64 a0_2, .int .i64 a0_3, .int .i64 a0_4, .int .i64 a0_5, .slice A0_6 l0_6.length c0_6, .slice A0_7 l0_7.length c0_7, .slice A0_8 l0_8.length c0_8] 202 (0, 0)) (by (with_reducible repeat (first | refine blk_drewN ?_ _ | refine blk_drew ?_ | refine blk_alloc ?_ _)); exact BK465.out)) : gb466 ≠ gb465)); clear BK465; clear HB; have BK465 := n0_; have HB := n1_; have BK466 := n2_; have GW466 := n3_; have GE466 := n4_; have NB465_466 := n5_; have NB466_465 := n6_; clear n0_ n1_ n2_ n3_ n4_ n5_ n6_; clear hb hbox hg) | ((with_reducible refine gate_dst (N := 3) rfl ?_); refine box_event ?hg (N := 3) ?hd (cs := #[.int .i64 0, .int .i64 0, .int .i64 0, .int .i64 0, .int .i64 0, .int .i64 0, .slice none 0 0, .slice none 0 0, .slice none 0 0]) (t := 205) ?hr ?_; (case hd => rfl); (case hg => rfl); (case hr => first | (go_simp; done) | (go_simp; rfl)); intro gb467 hg w7 hbox hb; have n0_ := Aside0.mk (blk_below (g := gb465) (o := .cells #[.int .i64 a0_0, .int .i64 a0_1, .int .i64 a0_2, .int .i64 a0_3, .int .i64 a0_4, .int .i64 a0_5, .slice A0_6 l0_6.length c0_6, .slice A0_7 l0_7.length c0_7, .slice A0_8 l0_8.length c0_8] 202 (0, 0)) (by (with_reducible repeat (first | refine blk_drewN ?_ _ | refine blk_drew ?_ | refine blk_alloc ?_ _)); exact BK465.out) hb); have n1_ := Aside0.mk (blk_below (g := gb466) (o := .cells #[.int .i64 0, .int .i64 0, .int .i64 0, .int .i64 0, .int .i64 0, .int .i64 0, .slice none 0 0, .slice none 0 0, .slice none 0 0] 205 (0, 0)) (by (with_reducible repeat (first | refine blk_drewN ?_ _ | refine blk_drew ?_ | refine blk_alloc ?_ _)); exact BK466.out) hb); have n2_ := Aside0.mk (below_step (by repeat (first | (with_reducible first | exact HB.out | apply below_alloc | apply pw_below_drewN | apply below_drew1 | refine below_set ?_ GE465.out | refine below_set ?_ GE466.out) | exact HB.out)) hb); have n3_ := Aside0.mk (hbox); have n4_ := Aside0.mk ((by rw [hg]; exact (below_size (by repeat (first | (with_reducible first | exact HB.out | apply below_alloc | apply pw_below_drewN | apply below_drew1 | refine below_set ?_ GE465.out | refine below_set ?_ GE466.out) | exact HB.out))) : w.heap.size ≤ gb467)); have n5_ := Aside0.mk ((by rw [hg]; exact (below_size (by repeat (first | (with_reducible first | exact HB.out | apply below_alloc | apply pw_below_drewN | apply below_drew1 | refine below_set ?_ GE465.out | refine below_set ?_ GE466.out) | exact HB.out))) : w.heap.size ≤ gb467)); have n6_ := Aside0.mk ((by rw [hg]; exact Nat.ne_of_lt (blk_lt (g := gb465) (o := .cells #[.int .i64 a0_0, .int .i64 a0_1, .int .i64 a0_2, .int .i64 a0_3, .int .i64 a0_4, .int .i64 a0_5, .slice A0_6 l0_6.length c0_6, .slice A0_7 l0_7.length c0_7, .slice A0_8 l0_8.length c0_8] 202 (0, 0)) (by (with_reducible repeat (first | refine blk_drewN ?_ _ | refine blk_drew ?_ | refine blk_alloc ?_ _)); exact BK465.out)) : gb465 ≠ gb467)); have n7_ := Aside0.mk ((by rw [hg]; exact Nat.ne_of_gt (blk_lt (g := gb465) (o := .cells #[.int .i64 a0_0, .int .i64 a0_1, .int .i64 a0_2, .int .i64 a0_3, .int .i64 a0_4, .int .i64 a0_5, .slice A0_6 l0_6.length c0_6, .slice A0_7 l0_7.length c0_7, .slice A0_8 l0_8.length c0_8] 202 (0, 0)) (by (with_reducible repeat (first | refine blk_drewN ?_ _ | refine blk_drew ?_ | refine blk_alloc ?_ _)); exact BK465.out)) : gb467 ≠ gb465)); have n8_ := Aside0.mk ((by rw [hg]; exact Nat.ne_of_lt (blk_lt (g := gb466) (o := .cells #[.int .i64 0, .int .i64 0, .int .i64 0, .int .i64 0, .int .i64 0, .int .i64 0, .slice none 0 0, .slice none 0 0, .slice none 0 0] 205 (0, 0)) (by (with_reducible repeat (first | refine blk_drewN ?_ _ | refine blk_drew ?_ | refine blk_alloc ?_ _)); exact BK466.out)) : gb466 ≠ gb467)); have n9_ := Aside0.mk ((by rw [hg]; exact Nat.ne_of_gt (blk_lt (g := gb466) (o := .cells #[.int .i64 0, .int .i64 0, .int .i64 0, .int .i64 0, .int .i64 0, .int .i64 0, .slice none 0 0, .slice none 0 0, .slice none 0 0] 205 (0, 0)) (by (with_reducible repeat (first | refine blk_drewN ?_ _ | refine blk_drew ?_ | refine blk_alloc ?_ _)); exact BK466.out)) : gb467 ≠ gb466)); clear BK465; clear BK466; clear HB; have BK465 := n0_; have BK466 := n1_; have HB := n2_; have BK467 := n3_; have GW467 := n4_; have GE467 := n5_; have NB465_467 := n6_; have NB467_465 := n7_; have NB466_467 := n8_; have NB467_466 := n9_; clear n0_ n1_ n2_ n3_ n4_ n5_ n6_ n7_ n8_ n9_; clear hb hbox hg; have hnb8 := NB465_466.out; have hnc8 := NB466_465.out; have hnb9 := NB465_467.out; have hnc9 := NB467_465.out; have hcz10_0 : w7.cell? ⟨gb465, 0, none⟩ = some (.int .i64 a0_0) := (blk_cell BK465.out 0).trans rfl; have hcz10_1 : w7.cell? ⟨gb465, 1, none⟩ = some (.int .i64 a0_1) := (blk_cell BK465.out 1).trans rfl; have hcz10_2 : w7.cell? ⟨gb465, 2, none⟩ = some (.int .i64 a0_2) := (blk_cell BK465.out 2).trans rfl; have hcz10_3 : w7.cell? ⟨gb465, 3, none⟩ = some (.int .i64 a0_3) := (blk_cell BK465.out 3).trans rfl; have hcz10_4 : w7.cell? ⟨gb465, 4, none⟩ = some (.int .i64 a0_4) := (blk_cell BK465.out 4).trans rfl; have hcz10_5 : w7.cell? ⟨gb465, 5, none⟩ = some (.int .i64 a0_5) := (blk_cell BK465.out 5).trans rfl; have hcz10_6 : w7.cell? ⟨gb465, 6, none⟩ = some (.slice A0_6 l0_6.length c0_6) := (blk_cell BK465.out 6).trans rfl; have hcz10_7 : w7.cell? ⟨gb465, 7, none⟩ = some (.slice A0_7 l0_7.length c0_7) := (blk_cell BK465.out 7).trans rfl; have hcz10_8 : w7.cell? ⟨gb465, 8, none⟩ = some (.slice A0_8 l0_8.length c0_8) := (blk_cell BK465.out 8).trans rfl; have hfz10_0 := blk_frozen BK465.out 0; have hfz10_1 := blk_frozen BK465.out 1; have hfz10_2 := blk_frozen BK465.out 2; have hfz10_3 := blk_frozen BK465.out 3; have hfz10_4 := blk_frozen BK465.out 4; have hfz10_5 := blk_frozen BK465.out 5; have hfz10_6 := blk_frozen BK465.out 6; have hfz10_7 := blk_frozen BK465.out 7; have hfz10_8 := blk_frozen BK465.out 8; have hnb11 := NB467_466.out; have hnc11 := NB466_467.out; have hcz12_0 : w7.cell? ⟨gb467, 0, none⟩ = some (.int .i64 0) := (blk_cell BK467.out 0).trans rfl; have hcz12_1 : w7.cell? ⟨gb467, 1, none⟩ = some (.int .i64 0) := (blk_cell BK467.out 1).trans rfl; have hcz12_2 : w7.cell? ⟨gb467, 2, none⟩ = some (.int .i64 0) := (blk_cell BK467.out 2).trans rfl; have hcz12_3 : w7.cell? ⟨gb467, 3, none⟩ = some (.int .i64 0) := (blk_cell BK467.out 3).trans rfl; have hcz12_4 : w7.cell? ⟨gb467, 4, none⟩ = some (.int .i64 0) := (blk_cell BK467.out 4).trans rfl; have hcz12_5 : w7.cell? ⟨gb467, 5, none⟩ = some (.int .i64 0) := (blk_cell BK467.out 5).trans rfl; have hcz12_6 : w7.cell? ⟨gb467, 6, none⟩ = some (.slice none 0 0) := (blk_cell BK467.out 6).trans rfl; have hcz12_7 : w7.cell? ⟨gb467, 7, none⟩ = some (.slice none 0 0) := (blk_cell BK467.out 7).trans rfl; have hcz12_8 : w7.cell? ⟨gb467, 8, none⟩ = some (.slice none 0 0) := (blk_cell BK467.out 8).trans rfl; have hfz12_0 := blk_frozen BK467.out 0; have hfz12_1 := blk_frozen BK467.out 1; have hfz12_2 := blk_frozen BK467.out 2; have hfz12_3 := blk_frozen BK467.out 3; have hfz12_4 := blk_frozen BK467.out 4; have hfz12_5 := blk_frozen BK467.out 5; have hfz12_6 := blk_frozen BK467.out 6; have hfz12_7 := blk_frozen BK467.out 7; have hfz12_8 := blk_frozen BK467.out 8) | ((with_reducible refine gate_callee (f := 141) rfl ?_); refine goesL_ (some 24) rfl rfl Tryd.func141 (by kernel_rfl) rfl #[.slice A0_6 l0_6.length c0_6] rfl (by (try simp only [List.map_toArray, List.map_cons, List.map_nil]); first | done | rfl | (simp only [List.length_drop, List.length_take]; rfl)) ?_; (with_reducible refine (laws_toOperandS.calls k _ _ l0_6 t468 _ ?side1 ?side2 A2.out).mono ?_); (case side1 => exact Kd.C_below HR0_6.out (by repeat (first | (with_reducible first | exact HB.out | apply below_alloc | apply pw_below_drewN | apply below_drew1 | refine below_set ?_ GE465.out | refine below_set ?_ GE466.out | refine below_set ?_ GE467.out) | exact HB.out))); (case side2 => exact HC0_6.out); rintro e w13 ⟨v469, rfl, ho0, hb⟩; refine ⟨_, rfl, ?_⟩; have n0_ := Aside0.mk (Kd.R_lower ho0 (below_size (by repeat (first | (with_reducible first | exact HB.out | apply below_alloc | apply pw_below_drewN | apply below_drew1 | refine below_set ?_ GE465.out | refine below_set ?_ GE466.out | refine below_set ?_ GE467.out) | exact HB.out)))); have n1_ := Aside0.mk (blk_below (g := gb465) (o := .cells #[.int .i64 a0_0, .int .i64 a0_1, .int .i64 a0_2, .int .i64 a0_3, .int .i64 a0_4, .int .i64 a0_5, .slice A0_6 l0_6.length c0_6, .slice A0_7 l0_7.length c0_7, .slice A0_8 l0_8.length c0_8] 202 (0, 0)) (by (with_reducible repeat (first | refine blk_drewN ?_ _ | refine blk_drew ?_ | refine blk_alloc ?_ _)); refine blk_far ?_ NB465_467.out _; (with_reducible repeat (first | refine blk_drewN ?_ _ | refine blk_drew ?_ | refine blk_alloc ?_ _)); refine blk_far ?_ NB465_467.out _; (with_reducible repeat (first | refine blk_drewN ?_ _ | refine blk_drew ?_ | refine blk_alloc ?_ _)); refine blk_far ?_ NB465_467.out _; (with_reducible repeat (first | refine blk_drewN ?_ _ | refine blk_drew ?_ | refine blk_alloc ?_ _)); refine blk_far ?_ NB465_467.out _; (with_reducible repeat (first | refine blk_drewN ?_ _ | refine blk_drew ?_ | refine blk_alloc ?_ _)); refine blk_far ?_ NB465_467.out _; (with_reducible repeat (first | refine blk_drewN ?_ _ | refine blk_drew ?_ | refine blk_alloc ?_ _)); refine blk_far ?_ NB465_467.out _; (with_reducible repeat (first | refine blk_drewN ?_ _ | refine blk_drew ?_ | refine blk_alloc ?_ _)); exact BK465.out) hb); have n2_ := Aside0.mk (blk_below (g := gb466) (o := .cells #[.int .i64 0, .int .i64 0, .int .i64 0, .int .i64 0, .int .i64 0, .int .i64 0, .slice none 0 0, .slice none 0 0, .slice none 0 0] 205 (0, 0)) (by (with_reducible repeat (first | refine blk_drewN ?_ _ | refine blk_drew ?_ | refine blk_alloc ?_ _)); refine blk_far ?_ NB466_467.out _; (with_reducible repeat (first | refine blk_drewN ?_ _ | refine blk_drew ?_ | refine blk_alloc ?_ _)); refine blk_far ?_ NB466_467.out _; (with_reducible repeat (first | refine blk_drewN ?_ _ | refine blk_drew ?_ | refine blk_alloc ?_ _)); refine blk_far ?_ NB466_467.out _; (with_reducible repeat (first | refine blk_drewN ?_ _ | refine blk_drew ?_ | refine blk_alloc ?_ _)); refine blk_far ?_ NB466_467.out _; (with_reducible repeat (first | refine blk_drewN ?_ _ | refine blk_drew ?_ | refine blk_alloc ?_ _)); refine blk_far ?_ NB466_467.out _; (with_reducible repeat (first | refine blk_drewN ?_ _ | refine blk_drew ?_ | refine blk_alloc ?_ _)); refine blk_far ?_ NB466_467.out _; (with_reducible repeat (first | refine blk_drewN ?_ _ | refine blk_drew ?_ | refine blk_alloc ?_ _)); exact BK466.out) hb); have n3_ := Aside0.mk (blk_below (g := gb467) (o := .cells #[.int .i64 a0_0, .int .i64 a0_1, .int .i64 a0_2, .int .i64 a0_3, .int .i64 a0_4, .int .i64 a0_5, .slice none 0 0, .slice none 0 0, .slice none 0 0] 205 (0, 0)) (by (with_reducible repeat (first | refine blk_drewN ?_ _ | refine blk_drew ?_ | refine blk_alloc ?_ _)); refine blk_put (cs := #[.int .i64 a0_0, .int .i64 a0_1, .int .i64 a0_2, .int .i64 a0_3, .int .i64 a0_4, .int .i64 0, .slice none 0 0, .slice none 0 0, .slice none 0 0]) ?_ 5 _ rfl; (with_reducible repeat (first | refine blk_drewN ?_ _ | refine blk_drew ?_ | refine blk_alloc ?_ _)); refine blk_put (cs := #[.int .i64 a0_0, .int .i64 a0_1, .int .i64 a0_2, .int .i64 a0_3, .int .i64 0, .int .i64 0, .slice none 0 0, .slice none 0 0, .slice none 0 0]) ?_ 4 _ rfl; (with_reducible repeat (first | refine blk_drewN ?_ _ | refine blk_drew ?_ | refine blk_alloc ?_ _)); refine blk_put (cs := #[.int .i64 a0_0, .int .i64 a0_1, .int .i64 a0_2, .int .i64 0, .int .i64 0, .int .i64 0, .slice none 0 0, .slice none 0 0, .slice none 0 0]) ?_ 3 _ rfl; (with_reducible repeat (first | refine blk_drewN ?_ _ | refine blk_drew ?_ | refine blk_alloc ?_ _)); refine blk_put (cs := #[.int .i64 a0_0, .int .i64 a0_1, .int .i64 0, .int .i64 0, .int .i64 0, .int .i64 0, .slice none 0 0, .slice none 0 0, .slice none 0 0]) ?_ 2 _ rfl; (with_reducible repeat (first | refine blk_drewN ?_ _ | refine blk_drew ?_ | refine blk_alloc ?_ _)); refine blk_put (cs := #[.int .i64 a0_0, .int .i64 0, .int .i64 0, .int .i64 0, .int .i64 0, .int .i64 0, .slice none 0 0, .slice none 0 0, .slice none 0 0]) ?_ 1 _ rfl; (with_reducible repeat (first | refine blk_drewN ?_ _ | refine blk_drew ?_ | refine blk_alloc ?_ _)); refine blk_put (cs := #[.int .i64 0, .int .i64 0, .int .i64 0, .int .i64 0, .int .i64 0, .int .i64 0, .slice none 0 0, .slice none 0 0, .slice none 0 0]) ?_ 0 _ rfl; (with_reducible repeat (first | refine blk_drewN ?_ _ | refine blk_drew ?_ | refine blk_alloc ?_ _)); exact BK467.out) hb); have n4_ := Aside0.mk (below_step (by repeat (first | (with_reducible first | exact HB.out | apply below_alloc | apply pw_below_drewN | apply below_drew1 | refine below_set ?_ GE465.out | refine below_set ?_ GE466.out | refine below_set ?_ GE467.out) | exact HB.out)) hb); clear BK465; clear BK466; clear BK467; clear HB; have HO470 := n0_; have BK465 := n1_; have BK466 := n2_; have BK467 := n3_; have HB := n4_; clear n0_ n1_ n2_ n3_ n4_; (try clear hb); (try clear hb2); (try clear hk); (try clear hi); (try clear ho0); obtain ⟨Ao14, co14, eo14⟩ := Kd.R_slice HO470.out; subst eo14; have hcz15_0 : w13.cell? ⟨gb467, 0, none⟩ = some (.int .i64 a0_0) := (blk_cell BK467.out 0).trans rfl; have hcz15_1 : w13.cell? ⟨gb467, 1, none⟩ = some (.int .i64 a0_1) := (blk_cell BK467.out 1).trans rfl; have hcz15_2 : w13.cell? ⟨gb467, 2, none⟩ = some (.int .i64 a0_2) := (blk_cell BK467.out 2).trans rfl; have hcz15_3 : w13.cell? ⟨gb467, 3, none⟩ = some (.int .i64 a0_3) := (blk_cell BK467.out 3).trans rfl; have hcz15_4 : w13.cell? ⟨gb467, 4, none⟩ = some (.int .i64 a0_4) := (blk_cell BK467.out 4).trans rfl; have hcz15_5 : w13.cell? ⟨gb467, 5, none⟩ = some (.int .i64 a0_5) := (blk_cell BK467.out 5).trans rfl; have hcz15_6 : w13.cell? ⟨gb467, 6, none⟩ = some (.slice none 0 0) := (blk_cell BK467.out 6).trans rfl; have hcz15_7 : w13.cell? ⟨gb467, 7, none⟩ = some (.slice none 0 0) := (blk_cell BK467.out 7).trans rfl; have hcz15_8 : w13.cell? ⟨gb467, 8, none⟩ = some (.slice none 0 0) := (blk_cell BK467.out 8).trans rfl; have hfz15_0 := blk_frozen BK467.out 0; have hfz15_1 := blk_frozen BK467.out 1; have hfz15_2 := blk_frozen BK467.out 2; have hfz15_3 := blk_frozen BK467.out 3; have hfz15_4 := blk_frozen BK467.out 4; have hfz15_5 := blk_frozen BK467.out 5; have hfz15_6 := blk_frozen BK467.out 6; have hfz15_7 := blk_frozen BK467.out 7; have hfz15_8 := blk_frozen BK467.out 8; have hcz16_0 : w13.cell? ⟨gb465, 0, none⟩ = some (.int .i64 a0_0) := (blk_cell BK465.out 0).trans rfl; have hcz16_1 : w13.cell? ⟨gb465, 1, none⟩ = some (.int .i64 a0_1) := (blk_cell BK465.out 1).trans rfl; have hcz16_2 : w13.cell? ⟨gb465, 2, none⟩ = some (.int .i64 a0_2) := (blk_cell BK465.out 2).trans rfl; have hcz16_3 : w13.cell? ⟨gb465, 3, none⟩ = some (.int .i64 a0_3) := (blk_cell BK465.out 3).trans rfl; have hcz16_4 : w13.cell? ⟨gb465, 4, none⟩ = some (.int .i64 a0_4) := (blk_cell BK465.out 4).trans rfl; have hcz16_5 : w13.cell? ⟨gb465, 5, none⟩ = some (.int .i64 a0_5) := (blk_cell BK465.out 5).trans rfl; have hcz16_6 : w13.cell? ⟨gb465, 6, none⟩ = some (.slice A0_6 l0_6.length c0_6) := (blk_cell BK465.out 6).trans rfl; have hcz16_7 : w13.cell? ⟨gb465, 7, none⟩ = some (.slice A0_7 l0_7.length c0_7) := (blk_cell BK465.out 7).trans rfl; have hcz16_8 : w13.cell? ⟨gb465, 8, none⟩ = some (.slice A0_8 l0_8.length c0_8) := (blk_cell BK465.out 8).trans rfl; have hfz16_0 := blk_frozen BK465.out 0; have hfz16_1 := blk_frozen BK465.out 1; have hfz16_2 := blk_frozen BK465.out 2; have hfz16_3 := blk_frozen BK465.out 3; have hfz16_4 := blk_frozen BK465.out 4; have hfz16_5 := blk_frozen BK465.out 5; have hfz16_6 := blk_frozen BK465.out 6; have hfz16_7 := blk_frozen BK465.out 7; have hfz16_8 := blk_frozen BK465.out 8) | ((with_reducible refine gate_callee (f := 62) rfl ?_); refine goesL_ (some 28) rfl rfl Tryd.func62 (by kernel_rfl) rfl #[.slice A0_7 l0_7.length c0_7] rfl (by (try simp only [List.map_toArray, List.map_cons, List.map_nil]); first | done | rfl | (simp only [List.length_drop, List.length_take]; rfl)) ?_; (with_reducible refine (laws_toInt64S.calls k _ _ l0_7 t471 _ ?side1 ?side2 A3.out).mono ?_); (case side1 => exact Kd.C_below HR0_7.out (by repeat (first | (with_reducible first | exact HB.out | apply below_alloc | apply pw_below_drewN | apply below_drew1 | refine below_set ?_ GE465.out | refine below_set ?_ GE466.out | refine below_set ?_ GE467.out) | exact HB.out))); (case side2 => exact HC0_7.out); rintro e w17 ⟨v472, rfl, ho0, hb⟩; refine ⟨_, rfl, ?_⟩; have n0_ := Aside0.mk (Kd.R_below (by (with_reducible repeat (first | apply Kd.R_alloc | apply Kd.R_drewN | apply Kd.R_drew)); exact (Kd.R_mono (Kd.R_far (p := ⟨gb467, 6, none⟩) (Kd.R_types HO470.out BK467.out (by decide)) (fun _ hk => hk.2) (.slice Ao14 t468.length co14)) (fun _ h_ => h_.1))) hb); have n1_ := Aside0.mk (Kd.R_lower ho0 (below_size (by repeat (first | (with_reducible first | exact HB.out | apply below_alloc | apply pw_below_drewN | apply below_drew1 | refine below_set ?_ GE465.out | refine below_set ?_ GE466.out | refine below_set ?_ GE467.out) | exact HB.out)))); have n2_ := Aside0.mk (blk_below (g := gb465) (o := .cells #[.int .i64 a0_0, .int .i64 a0_1, .int .i64 a0_2, .int .i64 a0_3, .int .i64 a0_4, .int .i64 a0_5, .slice A0_6 l0_6.length c0_6, .slice A0_7 l0_7.length c0_7, .slice A0_8 l0_8.length c0_8] 202 (0, 0)) (by (with_reducible repeat (first | refine blk_drewN ?_ _ | refine blk_drew ?_ | refine blk_alloc ?_ _)); refine blk_far ?_ NB465_467.out _; (with_reducible repeat (first | refine blk_drewN ?_ _ | refine blk_drew ?_ | refine blk_alloc ?_ _)); exact BK465.out) hb); have n3_ := Aside0.mk (blk_below (g := gb466) (o := .cells #[.int .i64 0, .int .i64 0, .int .i64 0, .int .i64 0, .int .i64 0, .int .i64 0, .slice none 0 0, .slice none 0 0, .slice none 0 0] 205 (0, 0)) (by (with_reducible repeat (first | refine blk_drewN ?_ _ | refine blk_drew ?_ | refine blk_alloc ?_ _)); refine blk_far ?_ NB466_467.out _; (with_reducible repeat (first | refine blk_drewN ?_ _ | refine blk_drew ?_ | refine blk_alloc ?_ _)); exact BK466.out) hb); have n4_ := Aside0.mk (blk_below (g := gb467) (o := .cells #[.int .i64 a0_0, .int .i64 a0_1, .int .i64 a0_2, .int .i64 a0_3, .int .i64 a0_4, .int .i64 a0_5, .slice Ao14 t468.length co14, .slice none 0 0, .slice none 0 0] 205 (0, 0)) (by (with_reducible repeat (first | refine blk_drewN ?_ _ | refine blk_drew ?_ | refine blk_alloc ?_ _)); refine blk_put (cs := #[.int .i64 a0_0, .int .i64 a0_1, .int .i64 a0_2, .int .i64 a0_3, .int .i64 a0_4, .int .i64 a0_5, .slice none 0 0, .slice none 0 0, .slice none 0 0]) ?_ 6 _ rfl; (with_reducible repeat (first | refine blk_drewN ?_ _ | refine blk_drew ?_ | refine blk_alloc ?_ _)); exact BK467.out) hb); have n5_ := Aside0.mk (below_step (by repeat (first | (with_reducible first | exact HB.out | apply below_alloc | apply pw_below_drewN | apply below_drew1 | refine below_set ?_ GE465.out | refine below_set ?_ GE466.out | refine below_set ?_ GE467.out) | exact HB.out)) hb); clear HO470; clear BK465; clear BK466; clear BK467; clear HB; have HO470 := n0_; have HO473 := n1_; have BK465 := n2_; have BK466 := n3_; have BK467 := n4_; have HB := n5_; clear n0_ n1_ n2_ n3_ n4_ n5_; (try clear hb); (try clear hb2); (try clear hk); (try clear hi); (try clear ho0); obtain ⟨Ao18, co18, eo18⟩ := Kd.R_slice HO473.out; subst eo18; have hcz19_0 : w17.cell? ⟨gb467, 0, none⟩ = some (.int .i64 a0_0) := (blk_cell BK467.out 0).trans rfl; have hcz19_1 : w17.cell? ⟨gb467, 1, none⟩ = some (.int .i64 a0_1) := (blk_cell BK467.out 1).trans rfl; have hcz19_2 : w17.cell? ⟨gb467, 2, none⟩ = some (.int .i64 a0_2) := (blk_cell BK467.out 2).trans rfl; have hcz19_3 : w17.cell? ⟨gb467, 3, none⟩ = some (.int .i64 a0_3) := (blk_cell BK467.out 3).trans rfl; have hcz19_4 : w17.cell? ⟨gb467, 4, none⟩ = some (.int .i64 a0_4) := (blk_cell BK467.out 4).trans rfl; have hcz19_5 : w17.cell? ⟨gb467, 5, none⟩ = some (.int .i64 a0_5) := (blk_cell BK467.out 5).trans rfl; have hcz19_6 : w17.cell? ⟨gb467, 6, none⟩ = some (.slice Ao14 t468.length co14) := (blk_cell BK467.out 6).trans rfl; have hcz19_7 : w17.cell? ⟨gb467, 7, none⟩ = some (.slice none 0 0) := (blk_cell BK467.out 7).trans rfl; have hcz19_8 : w17.cell? ⟨gb467, 8, none⟩ = some (.slice none 0 0) := (blk_cell BK467.out 8).trans rfl; have hfz19_0 := blk_frozen BK467.out 0; have hfz19_1 := blk_frozen BK467.out 1; have hfz19_2 := blk_frozen BK467.out 2; have hfz19_3 := blk_frozen BK467.out 3; have hfz19_4 := blk_frozen BK467.out 4; have hfz19_5 := blk_frozen BK467.out 5; have hfz19_6 := blk_frozen BK467.out 6; have hfz19_7 := blk_frozen BK467.out 7; have hfz19_8 := blk_frozen BK467.out 8; have hcz20_0 : w17.cell? ⟨gb465, 0, none⟩ = some (.int .i64 a0_0) := (blk_cell BK465.out 0).trans rfl; have hcz20_1 : w17.cell? ⟨gb465, 1, none⟩ = some (.int .i64 a0_1) := (blk_cell BK465.out 1).trans rfl; have hcz20_2 : w17.cell? ⟨gb465, 2, none⟩ = some (.int .i64 a0_2) := (blk_cell BK465.out 2).trans rfl; have hcz20_3 : w17.cell? ⟨gb465, 3, none⟩ = some (.int .i64 a0_3) := (blk_cell BK465.out 3).trans rfl; have hcz20_4 : w17.cell? ⟨gb465, 4, none⟩ = some (.int .i64 a0_4) := (blk_cell BK465.out 4).trans rfl; have hcz20_5 : w17.cell? ⟨gb465, 5, none⟩ = some (.int .i64 a0_5) := (blk_cell BK465.out 5).trans rfl; have hcz20_6 : w17.cell? ⟨gb465, 6, none⟩ = some (.slice A0_6 l0_6.length c0_6) := (blk_cell BK465.out 6).trans rfl; have hcz20_7 : w17.cell? ⟨gb465, 7, none⟩ = some (.slice A0_7 l0_7.length c0_7) := (blk_cell BK465.out 7).trans rfl; have hcz20_8 : w17.cell? ⟨gb465, 8, none⟩ = some (.slice A0_8 l0_8.length c0_8) := (blk_cell BK465.out 8).trans rfl; have hfz20_0 := blk_frozen BK465.out 0; have hfz20_1 := blk_frozen BK465.out 1; have hfz20_2 := blk_frozen BK465.out 2; have hfz20_3 := blk_frozen BK465.out 3; have hfz20_4 := blk_frozen BK465.out 4; have hfz20_5 := blk_frozen BK465.out 5; have hfz20_6 := blk_frozen BK465.out 6; have hfz20_7 := blk_frozen BK465.out 7; have hfz20_8 := blk_frozen BK465.out 8) | ((with_reducible refine gate_callee (f := 37) rfl ?_); refine goesL_ (some 32) rfl rfl Tryd.func37 (by kernel_rfl) rfl #[.slice A0_8 l0_8.length c0_8] rfl (by (try simp only [List.map_toArray, List.map_cons, List.map_nil]); first | done | rfl | (simp only [List.length_drop, List.length_take]; rfl)) ?_; (with_reducible refine (laws_toUint64S.calls k _ _ l0_8 t474 _ ?side1 ?side2 A4.out).mono ?_); (case side1 => exact Kd.C_below HR0_8.out (by repeat (first | (with_reducible first | exact HB.out | apply below_alloc | apply pw_below_drewN | apply below_drew1 | refine below_set ?_ GE465.out | refine below_set ?_ GE466.out | refine below_set ?_ GE467.out) | exact HB.out))); (case side2 => exact HC0_8.out); rintro e w21 ⟨v475, rfl, ho0, hb⟩; refine ⟨_, rfl, ?_⟩; have n0_ := Aside0.mk (Kd.R_below (by (with_reducible repeat (first | apply Kd.R_alloc | apply Kd.R_drewN | apply Kd.R_drew)); exact (Kd.R_mono (Kd.R_far (p := ⟨gb467, 7, none⟩) (Kd.R_types HO470.out BK467.out (by decide)) (fun _ hk => hk.2) (.slice Ao18 t471.length co18)) (fun _ h_ => h_.1))) hb); have n1_ := Aside0.mk (Kd.R_below (by (with_reducible repeat (first | apply Kd.R_alloc | apply Kd.R_drewN | apply Kd.R_drew)); exact (Kd.R_mono (Kd.R_far (p := ⟨gb467, 7, none⟩) (Kd.R_types HO473.out BK467.out (by decide)) (fun _ hk => hk.2) (.slice Ao18 t471.length co18)) (fun _ h_ => h_.1))) hb); have n2_ := Aside0.mk (Kd.R_lower ho0 (below_size (by repeat (first | (with_reducible first | exact HB.out | apply below_alloc | apply pw_below_drewN | apply below_drew1 | refine below_set ?_ GE465.out | refine below_set ?_ GE466.out | refine below_set ?_ GE467.out) | exact HB.out)))); have n3_ := Aside0.mk (blk_below (g := gb465) (o := .cells #[.int .i64 a0_0, .int .i64 a0_1, .int .i64 a0_2, .int .i64 a0_3, .int .i64 a0_4, .int .i64 a0_5, .slice A0_6 l0_6.length c0_6, .slice A0_7 l0_7.length c0_7, .slice A0_8 l0_8.length c0_8] 202 (0, 0)) (by (with_reducible repeat (first | refine blk_drewN ?_ _ | refine blk_drew ?_ | refine blk_alloc ?_ _)); refine blk_far ?_ NB465_467.out _; (with_reducible repeat (first | refine blk_drewN ?_ _ | refine blk_drew ?_ | refine blk_alloc ?_ _)); exact BK465.out) hb); have n4_ := Aside0.mk (blk_below (g := gb466) (o := .cells #[.int .i64 0, .int .i64 0, .int .i64 0, .int .i64 0, .int .i64 0, .int .i64 0, .slice none 0 0, .slice none 0 0, .slice none 0 0] 205 (0, 0)) (by (with_reducible repeat (first | refine blk_drewN ?_ _ | refine blk_drew ?_ | refine blk_alloc ?_ _)); refine blk_far ?_ NB466_467.out _; (with_reducible repeat (first | refine blk_drewN ?_ _ | refine blk_drew ?_ | refine blk_alloc ?_ _)); exact BK466.out) hb); have n5_ := Aside0.mk (blk_below (g := gb467) (o := .cells #[.int .i64 a0_0, .int .i64 a0_1, .int .i64 a0_2, .int .i64 a0_3, .int .i64 a0_4, .int .i64 a0_5, .slice Ao14 t468.length co14, .slice Ao18 t471.length co18, .slice none 0 0] 205 (0, 0)) (by (with_reducible repeat (first | refine blk_drewN ?_ _ | refine blk_drew ?_ | refine blk_alloc ?_ _)); refine blk_put (cs := #[.int .i64 a0_0, .int .i64 a0_1, .int .i64 a0_2, .int .i64 a0_3, .int .i64 a0_4, .int .i64 a0_5, .slice Ao14 t468.length co14, .slice none 0 0, .slice none 0 0]) ?_ 7 _ rfl; (with_reducible repeat (first | refine blk_drewN ?_ _ | refine blk_drew ?_ | refine blk_alloc ?_ _)); exact BK467.out) hb); have n6_ := Aside0.mk (below_step (by repeat (first | (with_reducible first | exact HB.out | apply below_alloc | apply pw_below_drewN | apply below_drew1 | refine below_set ?_ GE465.out | refine below_set ?_ GE466.out | refine below_set ?_ GE467.out) | exact HB.out)) hb); clear HO470; clear HO473; clear BK465; clear BK466; clear BK467; clear HB; have HO470 := n0_; have HO473 := n1_; have HO476 := n2_; have BK465 := n3_; have BK466 := n4_; have BK467 := n5_; have HB := n6_; clear n0_ n1_ n2_ n3_ n4_ n5_ n6_; (try clear hb); (try clear hb2); (try clear hk); (try clear hi); (try clear ho0); obtain ⟨Ao22, co22, eo22⟩ := Kd.R_slice HO476.out; subst eo22; have hcz23_0 : w21.cell? ⟨gb467, 0, none⟩ = some (.int .i64 a0_0) := (blk_cell BK467.out 0).trans rfl; have hcz23_1 : w21.cell? ⟨gb467, 1, none⟩ = some (.int .i64 a0_1) := (blk_cell BK467.out 1).trans rfl; have hcz23_2 : w21.cell? ⟨gb467, 2, none⟩ = some (.int .i64 a0_2) := (blk_cell BK467.out 2).trans rfl; have hcz23_3 : w21.cell? ⟨gb467, 3, none⟩ = some (.int .i64 a0_3) := (blk_cell BK467.out 3).trans rfl; have hcz23_4 : w21.cell? ⟨gb467, 4, none⟩ = some (.int .i64 a0_4) := (blk_cell BK467.out 4).trans rfl; have hcz23_5 : w21.cell? ⟨gb467, 5, none⟩ = some (.int .i64 a0_5) := (blk_cell BK467.out 5).trans rfl; have hcz23_6 : w21.cell? ⟨gb467, 6, none⟩ = some (.slice Ao14 t468.length co14) := (blk_cell BK467.out 6).trans rfl; have hcz23_7 : w21.cell? ⟨gb467, 7, none⟩ = some (.slice Ao18 t471.length co18) := (blk_cell BK467.out 7).trans rfl; have hcz23_8 : w21.cell? ⟨gb467, 8, none⟩ = some (.slice none 0 0) := (blk_cell BK467.out 8).trans rfl; have hfz23_0 := blk_frozen BK467.out 0; have hfz23_1 := blk_frozen BK467.out 1; have hfz23_2 := blk_frozen BK467.out 2; have hfz23_3 := blk_frozen BK467.out 3; have hfz23_4 := blk_frozen BK467.out 4; have hfz23_5 := blk_frozen BK467.out 5; have hfz23_6 := blk_frozen BK467.out 6; have hfz23_7 := blk_frozen BK467.out 7; have hfz23_8 := blk_frozen BK467.out 8; have hcz24_0 : w21.cell? ⟨gb466, 0, none⟩ = some (.int .i64 0) := (blk_cell BK466.out 0).trans rfl; have hcz24_1 : w21.cell? ⟨gb466, 1, none⟩ = some (.int .i64 0) := (blk_cell BK466.out 1).trans rfl; have hcz24_2 : w21.cell? ⟨gb466, 2, none⟩ = some (.int .i64 0) := (blk_cell BK466.out 2).trans rfl; have hcz24_3 : w21.cell? ⟨gb466, 3, none⟩ = some (.int .i64 0) := (blk_cell BK466.out 3).trans rfl; have hcz24_4 : w21.cell? ⟨gb466, 4, none⟩ = some (.int .i64 0) := (blk_cell BK466.out 4).trans rfl; have hcz24_5 : w21.cell? ⟨gb466, 5, none⟩ = some (.int .i64 0) := (blk_cell BK466.out 5).trans rfl; have hcz24_6 : w21.cell? ⟨gb466, 6, none⟩ = some (.slice none 0 0) := (blk_cell BK466.out 6).trans rfl; have hcz24_7 : w21.cell? ⟨gb466, 7, none⟩ = some (.slice none 0 0) := (blk_cell BK466.out 7).trans rfl; have hcz24_8 : w21.cell? ⟨gb466, 8, none⟩ = some (.slice none 0 0) := (blk_cell BK466.out 8).trans rfl; have hfz24_0 := blk_frozen BK466.out 0; have hfz24_1 := blk_frozen BK466.out 1; have hfz24_2 := blk_frozen BK466.out 2; have hfz24_3 := blk_frozen BK466.out 3; have hfz24_4 := blk_frozen BK466.out 4; have hfz24_5 := blk_frozen BK466.out 5; have hfz24_6 := blk_frozen BK466.out 6; have hfz24_7 := blk_frozen BK466.out 7; have hfz24_8 := blk_frozen BK466.out 8))
 refine bodyPost_ret (results_cell_row rfl _ _ gb466 205 #[.int .i64 a0_0, .int .i64 a0_1, .int .i64 a0_2, .int .i64 a0_3, .int .i64 a0_4, .int .i64 a0_5, .slice Ao14 t468.length co14, .slice Ao18 t471.length co18, .slice Ao22 t474.length co22] (0, 0) _ rfl (by (with_reducible repeat (first | refine blk_drewN ?_ _ | refine blk_drew ?_ | refine blk_alloc ?_ _)); refine blk_put (cs := #[.int .i64 a0_0, .int .i64 a0_1, .int .i64 a0_2, .int .i64 a0_3, .int .i64 a0_4, .int .i64 a0_5, .slice Ao14 t468.length co14, .slice Ao18 t471.length co18, .slice none 0 0]) ?_ 8 _ rfl; (with_reducible repeat (first | refine blk_drewN ?_ _ | refine blk_drew ?_ | refine blk_alloc ?_ _)); refine blk_put (cs := #[.int .i64 a0_0, .int .i64 a0_1, .int .i64 a0_2, .int .i64 a0_3, .int .i64 a0_4, .int .i64 a0_5, .slice Ao14 t468.length co14, .slice none 0 0, .slice none 0 0]) ?_ 7 _ rfl; (with_reducible repeat (first | refine blk_drewN ?_ _ | refine blk_drew ?_ | refine blk_alloc ?_ _)); refine blk_put (cs := #[.int .i64 a0_0, .int .i64 a0_1, .int .i64 a0_2, .int .i64 a0_3, .int .i64 a0_4, .int .i64 a0_5, .slice none 0 0, .slice none 0 0, .slice none 0 0]) ?_ 6 _ rfl; (with_reducible repeat (first | refine blk_drewN ?_ _ | refine blk_drew ?_ | refine blk_alloc ?_ _)); refine blk_put (cs := #[.int .i64 a0_0, .int .i64 a0_1, .int .i64 a0_2, .int .i64 a0_3, .int .i64 a0_4, .int .i64 0, .slice none 0 0, .slice none 0 0, .slice none 0 0]) ?_ 5 _ rfl; (with_reducible repeat (first | refine blk_drewN ?_ _ | refine blk_drew ?_ | refine blk_alloc ?_ _)); refine blk_put (cs := #[.int .i64 a0_0, .int .i64 a0_1, .int .i64 a0_2, .int .i64 a0_3, .int .i64 0, .int .i64 0, .slice none 0 0, .slice none 0 0, .slice none 0 0]) ?_ 4 _ rfl; (with_reducible repeat (first | refine blk_drewN ?_ _ | refine blk_drew ?_ | refine blk_alloc ?_ _)); refine blk_put (cs := #[.int .i64 a0_0, .int .i64 a0_1, .int .i64 a0_2, .int .i64 0, .int .i64 0, .int .i64 0, .slice none 0 0, .slice none 0 0, .slice none 0 0]) ?_ 3 _ rfl; (with_reducible repeat (first | refine blk_drewN ?_ _ | refine blk_drew ?_ | refine blk_alloc ?_ _)); refine blk_put (cs := #[.int .i64 a0_0, .int .i64 a0_1, .int .i64 0, .int .i64 0, .int .i64 0, .int .i64 0, .slice none 0 0, .slice none 0 0, .slice none 0 0]) ?_ 2 _ rfl; (with_reducible repeat (first | refine blk_drewN ?_ _ | refine blk_drew ?_ | refine blk_alloc ?_ _)); refine blk_put (cs := #[.int .i64 a0_0, .int .i64 0, .int .i64 0, .int .i64 0, .int .i64 0, .int .i64 0, .slice none 0 0, .slice none 0 0, .slice none 0 0]) ?_ 1 _ rfl; (with_reducible repeat (first | refine blk_drewN ?_ _ | refine blk_drew ?_ | refine blk_alloc ?_ _)); refine blk_put (cs := #[.int .i64 0, .int .i64 0, .int .i64 0, .int .i64 0, .int .i64 0, .int .i64 0, .slice none 0 0, .slice none 0 0, .slice none 0 0]) ?_ 0 _ rfl; (with_reducible repeat (first | refine blk_drewN ?_ _ | refine blk_drew ?_ | refine blk_alloc ?_ _)); refine blk_far ?_ NB466_467.out _; (with_reducible repeat (first | refine blk_drewN ?_ _ | refine blk_drew ?_ | refine blk_alloc ?_ _)); exact BK466.out) Tryd.underlying205 rfl (by kernel_rfl)) rfl ?_
 exact ⟨_, _, _, by first | rfl | (simp [errW_none, errW_some] <;> rfl) | (simp [*, errW_none, errW_some] <;> rfl), by (with_reducible repeat (first | apply Kd.R_alloc | apply Kd.R_drewN | apply Kd.R_drew)); exact Kd.R_mono (Kd.R_far (p := ⟨gb466, 8, none⟩) (Kd.R_far (p := ⟨gb466, 7, none⟩) (Kd.R_far (p := ⟨gb466, 6, none⟩) (Kd.R_far (p := ⟨gb466, 5, none⟩) (Kd.R_far (p := ⟨gb466, 4, none⟩) (Kd.R_far (p := ⟨gb466, 3, none⟩) (Kd.R_far (p := ⟨gb466, 2, none⟩) (Kd.R_far (p := ⟨gb466, 1, none⟩) (Kd.R_far (p := ⟨gb466, 0, none⟩) (Kd.R_far (p := ⟨gb467, 8, none⟩) (Kd.R_types (Kd.R_types HO470.out BK467.out (by decide)) BK466.out (by decide)) (fun _ hk => hk.1.2) (.slice Ao22 t474.length co22)) (fun _ hk => hk.2) (.int .i64 a0_0)) (fun _ hk => hk.2) (.int .i64 a0_1)) (fun _ hk => hk.2) (.int .i64 a0_2)) (fun _ hk => hk.2) (.int .i64 a0_3)) (fun _ hk => hk.2) (.int .i64 a0_4)) (fun _ hk => hk.2) (.int .i64 a0_5)) (fun _ hk => hk.2) (.slice Ao14 t468.length co14)) (fun _ hk => hk.2) (.slice Ao18 t471.length co18)) (fun _ hk => hk.2) (.slice Ao22 t474.length co22)) (fun _ hk => trivial), by (with_reducible repeat (first | apply Kd.R_alloc | apply Kd.R_drewN | apply Kd.R_drew)); exact Kd.R_mono (Kd.R_far (p := ⟨gb466, 8, none⟩) (Kd.R_far (p := ⟨gb466, 7, none⟩) (Kd.R_far (p := ⟨gb466, 6, none⟩) (Kd.R_far (p := ⟨gb466, 5, none⟩) (Kd.R_far (p := ⟨gb466, 4, none⟩) (Kd.R_far (p := ⟨gb466, 3, none⟩) (Kd.R_far (p := ⟨gb466, 2, none⟩) (Kd.R_far (p := ⟨gb466, 1, none⟩) (Kd.R_far (p := ⟨gb466, 0, none⟩) (Kd.R_far (p := ⟨gb467, 8, none⟩) (Kd.R_types (Kd.R_types HO473.out BK467.out (by decide)) BK466.out (by decide)) (fun _ hk => hk.1.2) (.slice Ao22 t474.length co22)) (fun _ hk => hk.2) (.int .i64 a0_0)) (fun _ hk => hk.2) (.int .i64 a0_1)) (fun _ hk => hk.2) (.int .i64 a0_2)) (fun _ hk => hk.2) (.int .i64 a0_3)) (fun _ hk => hk.2) (.int .i64 a0_4)) (fun _ hk => hk.2) (.int .i64 a0_5)) (fun _ hk => hk.2) (.slice Ao14 t468.length co14)) (fun _ hk => hk.2) (.slice Ao18 t471.length co18)) (fun _ hk => hk.2) (.slice Ao22 t474.length co22)) (fun _ hk => trivial), by (with_reducible repeat (first | apply Kd.R_alloc | apply Kd.R_drewN | apply Kd.R_drew)); exact Kd.R_mono (Kd.R_far (p := ⟨gb466, 8, none⟩) (Kd.R_far (p := ⟨gb466, 7, none⟩) (Kd.R_far (p := ⟨gb466, 6, none⟩) (Kd.R_far (p := ⟨gb466, 5, none⟩) (Kd.R_far (p := ⟨gb466, 4, none⟩) (Kd.R_far (p := ⟨gb466, 3, none⟩) (Kd.R_far (p := ⟨gb466, 2, none⟩) (Kd.R_far (p := ⟨gb466, 1, none⟩) (Kd.R_far (p := ⟨gb466, 0, none⟩) (Kd.R_far (p := ⟨gb467, 8, none⟩) (Kd.R_types (Kd.R_types HO476.out BK467.out (by decide)) BK466.out (by decide)) (fun _ hk => hk.1.2) (.slice Ao22 t474.length co22)) (fun _ hk => hk.2) (.int .i64 a0_0)) (fun _ hk => hk.2) (.int .i64 a0_1)) (fun _ hk => hk.2) (.int .i64 a0_2)) (fun _ hk => hk.2) (.int .i64 a0_3)) (fun _ hk => hk.2) (.int .i64 a0_4)) (fun _ hk => hk.2) (.int .i64 a0_5)) (fun _ hk => hk.2) (.slice Ao14 t468.length co14)) (fun _ hk => hk.2) (.slice Ao18 t471.length co18)) (fun _ hk => hk.2) (.slice Ao22 t474.length co22)) (fun _ hk => trivial), by repeat (first | (with_reducible first | exact HB.out | apply below_alloc | apply pw_below_drewN | apply below_drew1 | refine below_set ?_ GE465.out | refine below_set ?_ GE466.out | refine below_set ?_ GE467.out) | exact HB.out)⟩

end Go.Proofs.YtkohjiajbdkcbaaDoor.All


namespace Go.Proofs.YtkohjiajbdkcbaaDoor.All
open Go.RowKit Go.Proofs.YtkohjiajbdkcbaaDoorW.PrintWords Go.Proofs.YtkohjiajbdkcbaaDoorW.PrintLast Go.Proofs.YtkohjiajbdkcbaaDoorW.PrintMore
attribute [local go_sem] max2_int min2_int max_two min_two max_three min_three max_four min_four   -- for this text's walks alone
set_option linter.unusedVariables false
set_option linter.unusedSimpArgs false

/-! ### laws_toInstrS: function 135 -/
def laws_toInstrS.l0 : Nat → List (S202) → List (S205) → Int → Option ((List (S205)))
 | 0, _, _, _ => none
 | k + 1, x0, x3, x4 => if x4 < (x0.length : Int) then (if 0 ≤ x4 then ((laws_toInstr.f k ((rd_T202 x0 x4).f0) ((rd_T202 x0 x4).f1) ((rd_T202 x0 x4).f2) ((rd_T202 x0 x4).f3) ((rd_T202 x0 x4).f4) ((rd_T202 x0 x4).f5) ((rd_T202 x0 x4).f6) ((rd_T202 x0 x4).f7) ((rd_T202 x0 x4).f8)).bind fun bt481 => (if x4 < (x3.length : Int) then (laws_toInstrS.l0 k x0 (x3.set (x4 : Int).toNat (⟨bt481.1, bt481.2.1, bt481.2.2.1, bt481.2.2.2.1, bt481.2.2.2.2.1, bt481.2.2.2.2.2.1, bt481.2.2.2.2.2.2.1, bt481.2.2.2.2.2.2.2.1, bt481.2.2.2.2.2.2.2.2⟩ : S205)) (wrap64 (x4 + 1))) else (none))) else (none)) else (some x3)
def laws_toInstrS.f (k : Nat) (l0 : List (S202)) : Option ((List (S205))) := if 0 ≤ (l0.length : Int) then (if ((l0.length : Int) : Int).toNat ≤ 2345624805922 then (laws_toInstrS.l0 k l0 (List.replicate ((l0.length : Int) : Int).toNat z205) 0) else (none)) else (none)
set_option maxHeartbeats 8000000 in
set_option maxRecDepth 100000 in
theorem laws_toInstrS.calls (k : Nat) (A0 : Option Addr) (c0 : Nat) (l0 : List (S202)) (r : List (S205)) (w : World) (hr0 : Kd.C k202 w A0 l0.length l0) (hc0 : l0.length ≤ c0) (h : laws_toInstrS.f k l0 = some r) :
 Calls Tryd.prog 135 #[.slice A0 l0.length c0] w fun e w' => ∃ v0_ : Value, e = .returned (v0_) ∧ Kd.S k205 205 w' w.heap.size (fun _ => True) v0_ r ∧ Below w.heap.size w w' := by
 have hu202 := Tryd.underlying202
 have hu205 := Tryd.underlying205
 have HR0 := Aside0.mk hr0
 have HC0 := Aside0.mk hc0
 clear hr0 hc0
 have HB := Aside0.mk (Below.refl w.heap.size w)
 have H : (if 0 ≤ (l0.length : Int) then (if ((l0.length : Int) : Int).toNat ≤ 2345624805922 then (laws_toInstrS.l0 k l0 (List.replicate ((l0.length : Int) : Int).toNat z205) 0) else (none)) else (none)) = some r := h
 clear h
 by_cases c2 : 0 ≤ (l0.length : Int)
 · rw [if_pos c2] at H
   have c2b0 := eq_true c2
   have c2b1 : decide (0 ≤ (l0.length : Int)) = true := decide_eq_true c2
   clear c2
   by_cases c3 : ((l0.length : Int) : Int).toNat ≤ 2345624805922
   · rw [if_pos c3] at H
     have c3b0 := eq_true c3
     have c3b1 : decide (((l0.length : Int) : Int).toNat ≤ 2345624805922) = true := decide_eq_true c3
     clear c3
     obtain ⟨y477, hy477⟩ : ∃ y_ : List (S205), y_ = (List.replicate ((l0.length : Int) : Int).toNat z205) := ⟨_, rfl⟩
     replace H : (laws_toInstrS.l0 k l0 y477 0) = some r := by first | (rw [hy477]; with_reducible exact H) | (have H2_ := (Option.bind_some _ _).symm.trans H; rw [hy477]; with_reducible exact H2_) | (have H2_ := (Option.bind_some _ _).symm.trans H; with_reducible exact H2_) | with_reducible exact H | (rw [hy477]; exact H) | exact H
     have Ny477 := Aside0.mk hy477
     clear hy477
     have H' := Aside0.mk H
     clear H
     go_enter Tryd.func135, Tryd.ntmps135
     go_wp2_with (first | ((with_reducible refine gate_dst (N := 7) rfl ?_); refine Kd.S_make k205 _ 205 rfl (N := 7) rfl 185 _ _ rfl (l0.length : Int) rfl rfl Tryd.underlying185 (.agg #[(.int .i64 0), (.int .i64 0), (.int .i64 0), (.int .i64 0), (.int .i64 0), (.int .i64 0), (.slice none 0 0), (.slice none 0 0), (.slice none 0 0)]) 120 info205 rfl (by decide) (by omega) z205 (ok := fun _ => True) (okp := fun _ => True) (k205_mkM _ _ _ z205 (Kd.R_nil _ _ _ _ _) (Kd.R_nil _ _ _ _ _) (Kd.R_nil _ _ _ _ _)) (fun _ hk => hk) trivial (of_decide_eq_true (by first | (with_reducible assumption) | assumption)) (Nat.le_trans (Nat.mul_le_mul_right _ (of_decide_eq_true (by first | (with_reducible assumption) | assumption) : (l0.length : Int).toNat ≤ 2345624805922)) (by omega)) (Below.refl _ _) (Nat.le_refl _) ?_; intro v478 w4 ho5 hb hg_ hnew_; clear hg_ hnew_; (first | rw [← Ny477.out] at ho5 | (simp only [Int.reduceToNat] at ho5; rw [← Ny477.out] at ho5)); have n0_ := Aside0.mk (Kd.S_lower ho5 (below_size (by repeat (first | (with_reducible first | exact HB.out | apply below_alloc | apply pw_below_drewN | apply below_drew1) | exact HB.out)))); have n1_ := Aside0.mk (below_step (by repeat (first | (with_reducible first | exact HB.out | apply below_alloc | apply pw_below_drewN | apply below_drew1) | exact HB.out)) hb); clear HB; have HO479 := n0_; have HB := n1_; clear n0_ n1_; clear hb ho5))
     go_loopg [4] k (fun kq v4 w' => ∃ (x3_1 : List (S205)) (x4_1 : Int), v4 = .int .i64 x4_1 ∧ Aside0 (laws_toInstrS.l0 kq l0 x3_1 x4_1 = some r) ∧ Aside0 (kq ≤ k) ∧ Aside0 (Kd.S k205 205 w' w.heap.size (fun _ => True) v478 x3_1) ∧ Aside0 (Below w.heap.size w w'))
     case atStart => exact ⟨(y477), (0), (by first | rfl | (simp; done) | (simp [*]; done)), H', ⟨Nat.le_refl _⟩, ⟨by (with_reducible repeat (first | apply Kd.S_alloc | apply Kd.S_drewN | apply Kd.S_drew)); exact HO479.out⟩, ⟨by repeat (first | (with_reducible first | exact HB.out | apply below_alloc | apply pw_below_drewN | apply below_drew1) | exact HB.out)⟩⟩
     case round =>
      clear H'
      try clear c1
      try clear c2
      try clear c2b0
      try clear c2b1
      try clear p2
      try clear c3
      try clear c3b0
      try clear c3b1
      obtain ⟨x3_1, x4_1, rfl, HA, HK1, HO_3, HB⟩ := hrel
      cases gk with
      | zero => exact absurd HA.out (by simp [laws_toInstrS.l0])
      | succ k1 =>
       have H := HA.out
       clear HA
       simp only [laws_toInstrS.l0] at H
       by_cases c6 : x4_1 < (l0.length : Int)
       · rw [if_pos c6] at H
         have c6b0 : decide (x4_1 < (l0.length : Int)) = true := decide_eq_true c6
         clear c6
         by_cases c7 : 0 ≤ x4_1
         · rw [if_pos c7] at H
           have c7b0 : decide (0 ≤ x4_1) = true := decide_eq_true c7
           clear c7
           replace H := Option.bind_eq_some_iff.mp H
           obtain ⟨⟨t481, t482, t483, t484, t485, t486, t487, t490, t493⟩, A80, H⟩ := H
           replace H : (if x4_1 < (x3_1.length : Int) then (laws_toInstrS.l0 k1 l0 (x3_1.set (x4_1 : Int).toNat (⟨t481, t482, t483, t484, t485, t486, t487, t490, t493⟩ : S205)) (wrap64 (x4_1 + 1))) else (none)) = some r := H
           have A8 := Aside0.mk A80
           clear A80
           by_cases c9 : x4_1 < (x3_1.length : Int)
           · rw [if_pos c9] at H
             have c9b0 : decide (x4_1 < (x3_1.length : Int)) = true := decide_eq_true c9
             clear c9
             obtain ⟨y496, hy496⟩ : ∃ y_ : List (S205), y_ = (x3_1.set (x4_1 : Int).toNat (⟨t481, t482, t483, t484, t485, t486, t487, t490, t493⟩ : S205)) := ⟨_, rfl⟩
             replace H : (laws_toInstrS.l0 k1 l0 y496 (wrap64 (x4_1 + 1))) = some r := by first | (rw [hy496]; with_reducible exact H) | (have H2_ := (Option.bind_some _ _).symm.trans H; rw [hy496]; with_reducible exact H2_) | (have H2_ := (Option.bind_some _ _).symm.trans H; with_reducible exact H2_) | with_reducible exact H | (rw [hy496]; exact H) | exact H
             have Ny496 := Aside0.mk hy496
             clear hy496
             have H' := Aside0.mk H
             clear H
             have p480 : 0 ≤ (x4_1 : Int) := of_decide_eq_true (by first | (with_reducible assumption) | assumption)
             have q480 : x4_1 < (l0.length : Int) := of_decide_eq_true (by first | (with_reducible assumption) | assumption)
             obtain ⟨ad480, A480_6, c480_6, A480_7, c480_7, A480_8, c480_8, e480, hx480_0, hx480_1, hx480_2, hx480_3, hx480_4, hx480_5, hx480_6, hx480_7, hx480_8, hl480_6, hi480_6, hl480_7, hi480_7, hl480_8, hi480_8⟩ := at_T202 HR0.out x4_1 p480 q480
             cases e480
             replace hx480_0 := (HB.out.cell (World.block_lt_of_cell? w _ hx480_0)).trans hx480_0
             replace hx480_1 := (HB.out.cell (World.block_lt_of_cell? w _ hx480_1)).trans hx480_1
             replace hx480_2 := (HB.out.cell (World.block_lt_of_cell? w _ hx480_2)).trans hx480_2
             replace hx480_3 := (HB.out.cell (World.block_lt_of_cell? w _ hx480_3)).trans hx480_3
             replace hx480_4 := (HB.out.cell (World.block_lt_of_cell? w _ hx480_4)).trans hx480_4
             replace hx480_5 := (HB.out.cell (World.block_lt_of_cell? w _ hx480_5)).trans hx480_5
             replace hx480_6 := (HB.out.cell (World.block_lt_of_cell? w _ hx480_6)).trans hx480_6
             replace hx480_7 := (HB.out.cell (World.block_lt_of_cell? w _ hx480_7)).trans hx480_7
             replace hx480_8 := (HB.out.cell (World.block_lt_of_cell? w _ hx480_8)).trans hx480_8
             have HR480_6 := Aside0.mk hi480_6
             have HC480_6 := Aside0.mk hl480_6
             clear hi480_6 hl480_6
             have HR480_7 := Aside0.mk hi480_7
             have HC480_7 := Aside0.mk hl480_7
             clear hi480_7 hl480_7
             have HR480_8 := Aside0.mk hi480_8
             have HC480_8 := Aside0.mk hl480_8
             clear hi480_8 hl480_8
             replace p480 := eq_true p480
             replace q480 := eq_true q480
             go_wp2_with (first | ((with_reducible refine gate_callee (f := 138) rfl ?_); refine goesL_ (some 20) rfl rfl Tryd.func138 (by kernel_rfl) rfl #[.agg #[.int .i64 ((rd_T202 l0 x4_1).f0), .int .i64 ((rd_T202 l0 x4_1).f1), .int .i64 ((rd_T202 l0 x4_1).f2), .int .i64 ((rd_T202 l0 x4_1).f3), .int .i64 ((rd_T202 l0 x4_1).f4), .int .i64 ((rd_T202 l0 x4_1).f5), .slice A480_6 ((rd_T202 l0 x4_1).f6).length c480_6, .slice A480_7 ((rd_T202 l0 x4_1).f7).length c480_7, .slice A480_8 ((rd_T202 l0 x4_1).f8).length c480_8]] rfl (by (try simp only [List.map_toArray, List.map_cons, List.map_nil]); first | done | rfl | (simp only [List.length_drop, List.length_take]; rfl)) ?_; (with_reducible refine (laws_toInstr.calls k1 ((rd_T202 l0 x4_1).f0) ((rd_T202 l0 x4_1).f1) ((rd_T202 l0 x4_1).f2) ((rd_T202 l0 x4_1).f3) ((rd_T202 l0 x4_1).f4) ((rd_T202 l0 x4_1).f5) _ _ ((rd_T202 l0 x4_1).f6) _ _ ((rd_T202 l0 x4_1).f7) _ _ ((rd_T202 l0 x4_1).f8) t481 t482 t483 t484 t485 t486 t487 t490 t493 _ ?side1 ?side2 ?side3 ?side4 ?side5 ?side6 A8.out).mono ?_); (case side1 => repeat (first | exact (Kd.C_below HR480_6.out HB.out) | (with_reducible refine Kd.C_alloc ?_ _) | (with_reducible refine Kd.C_drewN ?_ _) | (with_reducible refine Kd.C_drew ?_))); (case side2 => exact HC480_6.out); (case side3 => repeat (first | exact (Kd.C_below HR480_7.out HB.out) | (with_reducible refine Kd.C_alloc ?_ _) | (with_reducible refine Kd.C_drewN ?_ _) | (with_reducible refine Kd.C_drew ?_))); (case side4 => exact HC480_7.out); (case side5 => repeat (first | exact (Kd.C_below HR480_8.out HB.out) | (with_reducible refine Kd.C_alloc ?_ _) | (with_reducible refine Kd.C_drewN ?_ _) | (with_reducible refine Kd.C_drew ?_))); (case side6 => exact HC480_8.out); rintro e w11 ⟨v488, v491, v494, rfl, ho0, ho1, ho2, hb⟩; refine ⟨_, rfl, ?_⟩; have n0_ := Aside0.mk (Kd.S_mono (Kd.S_told (Kd.S_told (Kd.S_told (Kd.S_old (by (with_reducible repeat (first | apply Kd.S_alloc | apply Kd.S_drewN | apply Kd.S_drew)); exact HO_3.out) hb) (Kd.R_base ho0)) (Kd.R_base ho1)) (Kd.R_base ho2)) (fun _ h_ => h_.1)); have n1_ := Aside0.mk (Kd.R_lower ho0 (below_size (by repeat (first | (with_reducible first | exact HB.out | apply below_alloc | apply pw_below_drewN | apply below_drew1) | exact HB.out)))); have n2_ := Aside0.mk (Kd.R_lower ho1 (below_size (by repeat (first | (with_reducible first | exact HB.out | apply below_alloc | apply pw_below_drewN | apply below_drew1) | exact HB.out)))); have n3_ := Aside0.mk (Kd.R_lower ho2 (below_size (by repeat (first | (with_reducible first | exact HB.out | apply below_alloc | apply pw_below_drewN | apply below_drew1) | exact HB.out)))); have n4_ := Aside0.mk (below_step (by repeat (first | (with_reducible first | exact HB.out | apply below_alloc | apply pw_below_drewN | apply below_drew1) | exact HB.out)) hb); clear HO_3; clear HB; have HO_3 := n0_; have HO489 := n1_; have HO492 := n2_; have HO495 := n3_; have HB := n4_; clear n0_ n1_ n2_ n3_ n4_; (try clear hb); (try clear hb2); (try clear hk); (try clear hi); (try clear ho0); (try clear ho1); (try clear ho2); have p10 : 0 ≤ (x4_1 : Int) := of_decide_eq_true (by first | (with_reducible assumption) | assumption); have q10 : (x4_1 : Int) < ((x3_1.length : Int) : Int) := of_decide_eq_true (by first | (with_reducible assumption) | assumption); obtain ⟨go10, co10, eo10, gb10, gl10, cl10, HG10⟩ := Kd.S_form HO_3.out (by omega); (first | cases eo10 | (injection eo10 with ea_ en_ ec_; (first | subst ea_ | (injection ea_ with ea_; subst ea_)); subst ec_; clear en_)); have GB10 := Aside0.mk gb10; have GG10 := Aside0.mk HG10; clear gb10 gl10 HG10; obtain ⟨_, ce10, hcl10, hM10, hcc10, hfr10, _, _⟩ := Kd.S_elem HO_3.out z205 (x4_1 : Int) p10 q10; obtain ⟨ve10_6, ve10_7, ve10_8, rfl, ge10_6, ge10_7, ge10_8⟩ := k205_openM hM10; have hx10_0 : w11.cell? ⟨go10, (x4_1 : Int).toNat * 9, none⟩ = some (.int .i64 ((rd_T205 x3_1 x4_1).f0)) := hcc10 0 _ rfl; have hx10_1 : w11.cell? ⟨go10, (x4_1 : Int).toNat * 9 + 1, none⟩ = some (.int .i64 ((rd_T205 x3_1 x4_1).f1)) := hcc10 1 _ rfl; have hx10_2 : w11.cell? ⟨go10, (x4_1 : Int).toNat * 9 + 2, none⟩ = some (.int .i64 ((rd_T205 x3_1 x4_1).f2)) := hcc10 2 _ rfl; have hx10_3 : w11.cell? ⟨go10, (x4_1 : Int).toNat * 9 + 3, none⟩ = some (.int .i64 ((rd_T205 x3_1 x4_1).f3)) := hcc10 3 _ rfl; have hx10_4 : w11.cell? ⟨go10, (x4_1 : Int).toNat * 9 + 4, none⟩ = some (.int .i64 ((rd_T205 x3_1 x4_1).f4)) := hcc10 4 _ rfl; have hx10_5 : w11.cell? ⟨go10, (x4_1 : Int).toNat * 9 + 5, none⟩ = some (.int .i64 ((rd_T205 x3_1 x4_1).f5)) := hcc10 5 _ rfl; have hx10_6 : w11.cell? ⟨go10, (x4_1 : Int).toNat * 9 + 6, none⟩ = some (ve10_6) := hcc10 6 _ rfl; have hx10_7 : w11.cell? ⟨go10, (x4_1 : Int).toNat * 9 + 7, none⟩ = some (ve10_7) := hcc10 7 _ rfl; have hx10_8 : w11.cell? ⟨go10, (x4_1 : Int).toNat * 9 + 8, none⟩ = some (ve10_8) := hcc10 8 _ rfl; have hf10_0 : w11.frozen? ⟨go10, (x4_1 : Int).toNat * 9, none⟩ = false := hfr10 0; have hf10_1 : w11.frozen? ⟨go10, (x4_1 : Int).toNat * 9 + 1, none⟩ = false := hfr10 1; have hf10_2 : w11.frozen? ⟨go10, (x4_1 : Int).toNat * 9 + 2, none⟩ = false := hfr10 2; have hf10_3 : w11.frozen? ⟨go10, (x4_1 : Int).toNat * 9 + 3, none⟩ = false := hfr10 3; have hf10_4 : w11.frozen? ⟨go10, (x4_1 : Int).toNat * 9 + 4, none⟩ = false := hfr10 4; have hf10_5 : w11.frozen? ⟨go10, (x4_1 : Int).toNat * 9 + 5, none⟩ = false := hfr10 5; have hf10_6 : w11.frozen? ⟨go10, (x4_1 : Int).toNat * 9 + 6, none⟩ = false := hfr10 6; have hf10_7 : w11.frozen? ⟨go10, (x4_1 : Int).toNat * 9 + 7, none⟩ = false := hfr10 7; have hf10_8 : w11.frozen? ⟨go10, (x4_1 : Int).toNat * 9 + 8, none⟩ = false := hfr10 8; clear hcl10 hcc10 hfr10 hM10; replace p10 := eq_true p10; replace q10 := eq_true q10; have n_ := Aside0.mk (Kd.S_mono (ok' := (fun k_ => some k_ ≠ (v488 : Value).ownBlock ∧ some k_ ≠ (v491 : Value).ownBlock ∧ some k_ ≠ (v494 : Value).ownBlock)) HO_3.out (fun k_ hk => ⟨hk.1.1.2, ⟨hk.1.2, hk.2⟩⟩)); clear HO_3; have HO_3 := n_; clear n_; have HX12 := Aside0.mk (show Kd.S k205 205 w11 w.heap.size (fun k_ => ((fun _ => True)) k_ ∧ ¬ ((fun k_ => some k_ = (v488 : Value).ownBlock ∨ some k_ = (v491 : Value).ownBlock ∨ some k_ = (v494 : Value).ownBlock)) k_) (.slice (some ⟨go10, 0, none⟩) x3_1.length co10) x3_1 from (by (with_reducible repeat (first | apply Kd.S_alloc | apply Kd.S_drewN | apply Kd.S_drew)); exact Kd.S_mono HO_3.out (fun k_ hk => ⟨trivial, fun e_ => e_.elim (fun h_ => hk.1 h_) (fun h_ => h_.elim (fun h_ => hk.2.1 h_) (fun h_ => hk.2.2 h_))⟩))); obtain ⟨oki12, ce12, hcl12, hM12, hcc12, hfr12, hoki12, hH12⟩ := Kd.S_elem HX12.out z205 (x4_1 : Int) (of_decide_eq_true (by first | (with_reducible assumption) | assumption)) (by have h_ : (x4_1 : Int) < ((x3_1.length : Int) : Int) := of_decide_eq_true (by first | (with_reducible assumption) | assumption); first | exact h_ | (have e_ := (Kd.S_reads' HO_3.out).1; omega) | simpa using h_); obtain ⟨ve12_6, ve12_7, ve12_8, rfl, ge12_6, ge12_7, ge12_8⟩ := k205_openM hM12; have HP12 := Kd.S_seg hH12 (of_decide_eq_true (by first | (with_reducible assumption) | assumption)) (by have h_ : (x4_1 : Int) < ((x3_1.length : Int) : Int) := of_decide_eq_true (by first | (with_reducible assumption) | assumption); first | exact h_ | (have e_ := (Kd.S_reads' HO_3.out).1; omega) | simpa using h_) (seg := [.int .i64 t481, .int .i64 t482, .int .i64 t483, .int .i64 t484, .int .i64 t485, .int .i64 t486, v488, v491, v494]) (j := 0) (show 9 ≤ 9 from by decide) (x' := (⟨t481, t482, t483, t484, t485, t486, t487, t490, t493⟩ : S205)) (k205_mkM _ _ _ (⟨t481, t482, t483, t484, t485, t486, t487, t490, t493⟩ : S205) (Kd.R_mono (Kd.R_tight rfl (Kd.R_mono (ok' := fun k_ => ((fun _ => True)) k_ ∧ k_ ≠ go10) (Kd.R_apart' (HO489.out) (Kd.S_typed HO_3.out) (by decide)) (fun k_ hk => ⟨trivial, fun e_ => (hk.2) (by rw [e_]; rfl)⟩))) (fun _ h_ => Or.inr (Or.inl h_))) (Kd.R_mono (Kd.R_tight rfl (Kd.R_mono (ok' := fun k_ => ((fun _ => True)) k_ ∧ k_ ≠ go10) (Kd.R_apart' (HO492.out) (Kd.S_typed HO_3.out) (by decide)) (fun k_ hk => ⟨trivial, fun e_ => (hk.2) (by rw [e_]; rfl)⟩))) (fun _ h_ => Or.inr (Or.inr (Or.inl h_)))) (Kd.R_mono (Kd.R_tight rfl (Kd.R_mono (ok' := fun k_ => ((fun _ => True)) k_ ∧ k_ ≠ go10) (Kd.R_apart' (HO495.out) (Kd.S_typed HO_3.out) (by decide)) (fun k_ hk => ⟨trivial, fun e_ => (hk.2) (by rw [e_]; rfl)⟩))) (fun _ h_ => Or.inr (Or.inr (Or.inr (h_)))))) (fun _ hk => hk) (fun k_ hk_ => hk_.elim (fun h_ => ((Kd.R_mono (ok' := fun k_ => ((fun _ => True)) k_ ∧ k_ ≠ go10) (Kd.R_apart' (HO489.out) (Kd.S_typed HO_3.out) (by decide)) (fun k_ hk => ⟨trivial, fun e_ => (hk.2) (by rw [e_]; rfl)⟩))).1 k_ h_.symm) (fun h_ => h_.elim (fun h_ => ((Kd.R_mono (ok' := fun k_ => ((fun _ => True)) k_ ∧ k_ ≠ go10) (Kd.R_apart' (HO492.out) (Kd.S_typed HO_3.out) (by decide)) (fun k_ hk => ⟨trivial, fun e_ => (hk.2) (by rw [e_]; rfl)⟩))).1 k_ h_.symm) (fun h_ => ((Kd.R_mono (ok' := fun k_ => ((fun _ => True)) k_ ∧ k_ ≠ go10) (Kd.R_apart' (HO495.out) (Kd.S_typed HO_3.out) (by decide)) (fun k_ hk => ⟨trivial, fun e_ => (hk.2) (by rw [e_]; rfl)⟩))).1 k_ h_.symm))); have hx12_0 := hcc12 0 _ rfl; (try simp only [show (k205).sz = 9 from rfl, Nat.mul_one, Nat.add_zero] at hx12_0); have hf12_0 := hfr12 0; (try simp only [show (k205).sz = 9 from rfl, Nat.mul_one, Nat.add_zero] at hf12_0); have hx12_1 := hcc12 1 _ rfl; (try simp only [show (k205).sz = 9 from rfl, Nat.mul_one, Nat.add_zero] at hx12_1); have hf12_1 := hfr12 1; (try simp only [show (k205).sz = 9 from rfl, Nat.mul_one, Nat.add_zero] at hf12_1); have hx12_2 := hcc12 2 _ rfl; (try simp only [show (k205).sz = 9 from rfl, Nat.mul_one, Nat.add_zero] at hx12_2); have hf12_2 := hfr12 2; (try simp only [show (k205).sz = 9 from rfl, Nat.mul_one, Nat.add_zero] at hf12_2); have hx12_3 := hcc12 3 _ rfl; (try simp only [show (k205).sz = 9 from rfl, Nat.mul_one, Nat.add_zero] at hx12_3); have hf12_3 := hfr12 3; (try simp only [show (k205).sz = 9 from rfl, Nat.mul_one, Nat.add_zero] at hf12_3); have hx12_4 := hcc12 4 _ rfl; (try simp only [show (k205).sz = 9 from rfl, Nat.mul_one, Nat.add_zero] at hx12_4); have hf12_4 := hfr12 4; (try simp only [show (k205).sz = 9 from rfl, Nat.mul_one, Nat.add_zero] at hf12_4); have hx12_5 := hcc12 5 _ rfl; (try simp only [show (k205).sz = 9 from rfl, Nat.mul_one, Nat.add_zero] at hx12_5); have hf12_5 := hfr12 5; (try simp only [show (k205).sz = 9 from rfl, Nat.mul_one, Nat.add_zero] at hf12_5); have hx12_6 := hcc12 6 _ rfl; (try simp only [show (k205).sz = 9 from rfl, Nat.mul_one, Nat.add_zero] at hx12_6); have hf12_6 := hfr12 6; (try simp only [show (k205).sz = 9 from rfl, Nat.mul_one, Nat.add_zero] at hf12_6); have hx12_7 := hcc12 7 _ rfl; (try simp only [show (k205).sz = 9 from rfl, Nat.mul_one, Nat.add_zero] at hx12_7); have hf12_7 := hfr12 7; (try simp only [show (k205).sz = 9 from rfl, Nat.mul_one, Nat.add_zero] at hf12_7); have hx12_8 := hcc12 8 _ rfl; (try simp only [show (k205).sz = 9 from rfl, Nat.mul_one, Nat.add_zero] at hx12_8); have hf12_8 := hfr12 8; (try simp only [show (k205).sz = 9 from rfl, Nat.mul_one, Nat.add_zero] at hf12_8); clear hcl12 hcc12 hfr12 hM12 hoki12 hH12) | ((with_reducible refine gate_store (t := 205) (p := 21) rfl ?_); (try have st12_6 := fun (a_ : Addr) (m_ : Mode) (W_ : World) => run_store Tryd.prog W_ a_ v488 m_ (Kd.R_val HO489.out).2); (try have st12_7 := fun (a_ : Addr) (m_ : Mode) (W_ : World) => run_store Tryd.prog W_ a_ v491 m_ (Kd.R_val HO492.out).2); (try have st12_8 := fun (a_ : Addr) (m_ : Mode) (W_ : World) => run_store Tryd.prog W_ a_ v494 m_ (Kd.R_val HO495.out).2); refine store_event (t := 205) (p := 21) (v := ?vo_w13) (w1 := (((((((((w11.setCell ⟨go10, (x4_1 : Int).toNat * 9, none⟩ (.int .i64 t481)).setCell ⟨go10, (x4_1 : Int).toNat * 9 + 1, none⟩ (.int .i64 t482)).setCell ⟨go10, (x4_1 : Int).toNat * 9 + 2, none⟩ (.int .i64 t483)).setCell ⟨go10, (x4_1 : Int).toNat * 9 + 3, none⟩ (.int .i64 t484)).setCell ⟨go10, (x4_1 : Int).toNat * 9 + 4, none⟩ (.int .i64 t485)).setCell ⟨go10, (x4_1 : Int).toNat * 9 + 5, none⟩ (.int .i64 t486)).setCell ⟨go10, (x4_1 : Int).toNat * 9 + 6, none⟩ (v488)).setCell ⟨go10, (x4_1 : Int).toNat * 9 + 7, none⟩ (v491)).setCell ⟨go10, (x4_1 : Int).toNat * 9 + 8, none⟩ (v494))) ?hg ?ho ?hn ?hr ?_; (case ho => rfl); (case hg => rfl); (case hn => rfl); (case hr => first | (go_simp; done) | (go_simp; rfl)); intro w13 hw; have hg : w11.grownBy w13 (some go10) := (by rw [hw]; exact HP12.2); have hp_ : Kd.S k205 205 w13 w.heap.size (fun _ => True) (.slice (some ⟨go10, 0, none⟩) x3_1.length co10) y496 := (by rw [hw, Ny496.out]; exact HP12.1); clear HP12; (try clear st12_6); (try clear st12_7); (try clear st12_8); have n0_ := Aside0.mk (hp_); have n1_ := Aside0.mk ((by rw [hw]; exact below_set (below_set (below_set (below_set (below_set (below_set (below_set (below_set (below_set (HB.out) GB10.out) GB10.out) GB10.out) GB10.out) GB10.out) GB10.out) GB10.out) GB10.out) GB10.out : Below w.heap.size w w13)); clear HO_3; clear HB; clear HO489; clear HO492; clear HO495; have HO_3 := n0_; have HB := n1_; clear n0_ n1_; clear hg hw hp_))
             go_roundg k1
             case measure => have := HK1.out; omega
             case rel => exact ⟨(y496), (wrap64 (x4_1 + 1)), (by first | rfl | (simp; done) | (simp [*]; done)), H', ⟨by have := HK1.out; omega⟩, ⟨by (with_reducible repeat (first | apply Kd.S_alloc | apply Kd.S_drewN | apply Kd.S_drew)); exact HO_3.out⟩, ⟨by repeat (first | (with_reducible first | exact HB.out | apply below_alloc | apply pw_below_drewN | apply below_drew1) | exact HB.out)⟩⟩
           · rw [if_neg c9] at H
             exact absurd H (by simp)
         · rw [if_neg c7] at H
           exact absurd H (by simp)
       · rw [if_neg c6] at H
         have c6b0 : decide (x4_1 < (l0.length : Int)) = false := decide_eq_false c6
         clear c6
         obtain rfl := Option.some.inj H
         go_wp2
         go_ret
         exact ⟨_, by first | rfl | (simp [errW_none, errW_some] <;> rfl) | (simp [*, errW_none, errW_some] <;> rfl), by (with_reducible repeat (first | apply Kd.S_alloc | apply Kd.S_drewN | apply Kd.S_drew)); exact HO_3.out, by repeat (first | (with_reducible first | exact HB.out | apply below_alloc | apply pw_below_drewN | apply below_drew1) | exact HB.out)⟩
   · rw [if_neg c3] at H
     exact absurd H (by simp)
 · rw [if_neg c2] at H
   exact absurd H (by simp)

end Go.Proofs.YtkohjiajbdkcbaaDoor.All


namespace Go.Proofs.YtkohjiajbdkcbaaDoor.All
open Go.RowKit Go.Proofs.YtkohjiajbdkcbaaDoorW.PrintWords Go.Proofs.YtkohjiajbdkcbaaDoorW.PrintLast Go.Proofs.YtkohjiajbdkcbaaDoorW.PrintMore
attribute [local go_sem] max2_int min2_int max_two min_two max_three min_three max_four min_four   -- for this text's walks alone
set_option linter.unusedVariables false
set_option linter.unusedSimpArgs false

/-! ### laws_toBlock: function 130 -/
def laws_toBlock.f (k : Nat) (l0_0 : List (S202)) : Option ((List (S205))) := (laws_toInstrS.f k l0_0).bind fun t500 => (some t500)
set_option maxHeartbeats 8000000 in
set_option maxRecDepth 100000 in
theorem laws_toBlock.calls (k : Nat) (A0_0 : Option Addr) (c0_0 : Nat) (l0_0 : List (S202)) (r : List (S205)) (w : World) (hr0_0 : Kd.C k202 w A0_0 l0_0.length l0_0) (hc0_0 : l0_0.length ≤ c0_0) (h : laws_toBlock.f k l0_0 = some r) :
 Calls Tryd.prog 130 #[.agg #[.slice A0_0 l0_0.length c0_0]] w fun e w' => ∃ v0_ : Value, e = .returned (.agg #[v0_]) ∧ Kd.S k205 205 w' w.heap.size (fun _ => True) v0_ r ∧ Below w.heap.size w w' := by
 have hu184 := Tryd.underlying184
 have hu187 := Tryd.underlying187
 have HR0_0 := Aside0.mk hr0_0
 have HC0_0 := Aside0.mk hc0_0
 clear hr0_0 hc0_0
 have HB := Aside0.mk (Below.refl w.heap.size w)
 have H : ((laws_toInstrS.f k l0_0).bind fun t500 => (some t500)) = some r := h
 clear h
 replace H := Option.bind_eq_some_iff.mp H
 obtain ⟨t500, A20, H⟩ := H
 replace H : (some t500) = some r := H
 have A2 := Aside0.mk A20
 clear A20
 obtain rfl := Option.some.inj H
 go_enter Tryd.func130, Tryd.ntmps130
 go_wp2_with (first | ((with_reducible refine gate_dst (N := 1) rfl ?_); refine box_event ?hg (N := 1) ?hd (cs := #[.slice A0_0 l0_0.length c0_0]) (t := 184) ?hr ?_; (case hd => rfl); (case hg => rfl); (case hr => first | (go_simp; done) | (go_simp; rfl)); intro gb497 hg w3 hbox hb; have n0_ := Aside0.mk (below_step (by repeat (first | (with_reducible first | exact HB.out | apply below_alloc | apply pw_below_drewN | apply below_drew1) | exact HB.out)) hb); have n1_ := Aside0.mk (hbox); have n2_ := Aside0.mk ((by rw [hg]; exact (below_size (by repeat (first | (with_reducible first | exact HB.out | apply below_alloc | apply pw_below_drewN | apply below_drew1) | exact HB.out))) : w.heap.size ≤ gb497)); have n3_ := Aside0.mk ((by rw [hg]; exact (below_size (by repeat (first | (with_reducible first | exact HB.out | apply below_alloc | apply pw_below_drewN | apply below_drew1) | exact HB.out))) : w.heap.size ≤ gb497)); clear HB; have HB := n0_; have BK497 := n1_; have GW497 := n2_; have GE497 := n3_; clear n0_ n1_ n2_ n3_; clear hb hbox hg) | ((with_reducible refine gate_dst (N := 2) rfl ?_); refine box_event ?hg (N := 2) ?hd (cs := #[.slice none 0 0]) (t := 187) ?hr ?_; (case hd => rfl); (case hg => rfl); (case hr => first | (go_simp; done) | (go_simp; rfl)); intro gb498 hg w4 hbox hb; have n0_ := Aside0.mk (blk_below (g := gb497) (o := .cells #[.slice A0_0 l0_0.length c0_0] 184 (0, 0)) (by (with_reducible repeat (first | refine blk_drewN ?_ _ | refine blk_drew ?_ | refine blk_alloc ?_ _)); exact BK497.out) hb); have n1_ := Aside0.mk (below_step (by repeat (first | (with_reducible first | exact HB.out | apply below_alloc | apply pw_below_drewN | apply below_drew1 | refine below_set ?_ GE497.out) | exact HB.out)) hb); have n2_ := Aside0.mk (hbox); have n3_ := Aside0.mk ((by rw [hg]; exact (below_size (by repeat (first | (with_reducible first | exact HB.out | apply below_alloc | apply pw_below_drewN | apply below_drew1 | refine below_set ?_ GE497.out) | exact HB.out))) : w.heap.size ≤ gb498)); have n4_ := Aside0.mk ((by rw [hg]; exact (below_size (by repeat (first | (with_reducible first | exact HB.out | apply below_alloc | apply pw_below_drewN | apply below_drew1 | refine below_set ?_ GE497.out) | exact HB.out))) : w.heap.size ≤ gb498)); have n5_ := Aside0.mk ((by rw [hg]; exact Nat.ne_of_lt (blk_lt (g := gb497) (o := .cells #[.slice A0_0 l0_0.length c0_0] 184 (0, 0)) (by (with_reducible repeat (first | refine blk_drewN ?_ _ | refine blk_drew ?_ | refine blk_alloc ?_ _)); exact BK497.out)) : gb497 ≠ gb498)); have n6_ := Aside0.mk ((by rw [hg]; exact Nat.ne_of_gt (blk_lt (g := gb497) (o := .cells #[.slice A0_0 l0_0.length c0_0] 184 (0, 0)) (by (with_reducible repeat (first | refine blk_drewN ?_ _ | refine blk_drew ?_ | refine blk_alloc ?_ _)); exact BK497.out)) : gb498 ≠ gb497)); clear BK497; clear HB; have BK497 := n0_; have HB := n1_; have BK498 := n2_; have GW498 := n3_; have GE498 := n4_; have NB497_498 := n5_; have NB498_497 := n6_; clear n0_ n1_ n2_ n3_ n4_ n5_ n6_; clear hb hbox hg) | ((with_reducible refine gate_dst (N := 3) rfl ?_); refine box_event ?hg (N := 3) ?hd (cs := #[.slice none 0 0]) (t := 187) ?hr ?_; (case hd => rfl); (case hg => rfl); (case hr => first | (go_simp; done) | (go_simp; rfl)); intro gb499 hg w5 hbox hb; have n0_ := Aside0.mk (blk_below (g := gb497) (o := .cells #[.slice A0_0 l0_0.length c0_0] 184 (0, 0)) (by (with_reducible repeat (first | refine blk_drewN ?_ _ | refine blk_drew ?_ | refine blk_alloc ?_ _)); exact BK497.out) hb); have n1_ := Aside0.mk (blk_below (g := gb498) (o := .cells #[.slice none 0 0] 187 (0, 0)) (by (with_reducible repeat (first | refine blk_drewN ?_ _ | refine blk_drew ?_ | refine blk_alloc ?_ _)); exact BK498.out) hb); have n2_ := Aside0.mk (below_step (by repeat (first | (with_reducible first | exact HB.out | apply below_alloc | apply pw_below_drewN | apply below_drew1 | refine below_set ?_ GE497.out | refine below_set ?_ GE498.out) | exact HB.out)) hb); have n3_ := Aside0.mk (hbox); have n4_ := Aside0.mk ((by rw [hg]; exact (below_size (by repeat (first | (with_reducible first | exact HB.out | apply below_alloc | apply pw_below_drewN | apply below_drew1 | refine below_set ?_ GE497.out | refine below_set ?_ GE498.out) | exact HB.out))) : w.heap.size ≤ gb499)); have n5_ := Aside0.mk ((by rw [hg]; exact (below_size (by repeat (first | (with_reducible first | exact HB.out | apply below_alloc | apply pw_below_drewN | apply below_drew1 | refine below_set ?_ GE497.out | refine below_set ?_ GE498.out) | exact HB.out))) : w.heap.size ≤ gb499)); have n6_ := Aside0.mk ((by rw [hg]; exact Nat.ne_of_lt (blk_lt (g := gb497) (o := .cells #[.slice A0_0 l0_0.length c0_0] 184 (0, 0)) (by (with_reducible repeat (first | refine blk_drewN ?_ _ | refine blk_drew ?_ | refine blk_alloc ?_ _)); exact BK497.out)) : gb497 ≠ gb499)); have n7_ := Aside0.mk ((by rw [hg]; exact Nat.ne_of_gt (blk_lt (g := gb497) (o := .cells #[.slice A0_0 l0_0.length c0_0] 184 (0, 0)) (by (with_reducible repeat (first | refine blk_drewN ?_ _ | refine blk_drew ?_ | refine blk_alloc ?_ _)); exact BK497.out)) : gb499 ≠ gb497)); have n8_ := Aside0.mk ((by rw [hg]; exact Nat.ne_of_lt (blk_lt (g := gb498) (o := .cells #[.slice none 0 0] 187 (0, 0)) (by (with_reducible repeat (first | refine blk_drewN ?_ _ | refine blk_drew ?_ | refine blk_alloc ?_ _)); exact BK498.out)) : gb498 ≠ gb499)); have n9_ := Aside0.mk ((by rw [hg]; exact Nat.ne_of_gt (blk_lt (g := gb498) (o := .cells #[.slice none 0 0] 187 (0, 0)) (by (with_reducible repeat (first | refine blk_drewN ?_ _ | refine blk_drew ?_ | refine blk_alloc ?_ _)); exact BK498.out)) : gb499 ≠ gb498)); clear BK497; clear BK498; clear HB; have BK497 := n0_; have BK498 := n1_; have HB := n2_; have BK499 := n3_; have GW499 := n4_; have GE499 := n5_; have NB497_499 := n6_; have NB499_497 := n7_; have NB498_499 := n8_; have NB499_498 := n9_; clear n0_ n1_ n2_ n3_ n4_ n5_ n6_ n7_ n8_ n9_; clear hb hbox hg; have hnb6 := NB497_498.out; have hnc6 := NB498_497.out; have hnb7 := NB497_499.out; have hnc7 := NB499_497.out; have hcz8_0 : w5.cell? ⟨gb497, 0, none⟩ = some (.slice A0_0 l0_0.length c0_0) := (blk_cell BK497.out 0).trans rfl; have hfz8_0 := blk_frozen BK497.out 0) | ((with_reducible refine gate_callee (f := 135) rfl ?_); refine goesL_ (some 6) rfl rfl Tryd.func135 (by kernel_rfl) rfl #[.slice A0_0 l0_0.length c0_0] rfl (by (try simp only [List.map_toArray, List.map_cons, List.map_nil]); first | done | rfl | (simp only [List.length_drop, List.length_take]; rfl)) ?_; (with_reducible refine (laws_toInstrS.calls k _ _ l0_0 t500 _ ?side1 ?side2 A2.out).mono ?_); (case side1 => repeat (first | exact (Kd.C_below HR0_0.out HB.out) | (with_reducible refine Kd.C_alloc ?_ _) | (with_reducible refine Kd.C_drewN ?_ _) | (with_reducible refine Kd.C_drew ?_))); (case side2 => exact HC0_0.out); rintro e w9 ⟨v501, rfl, ho0, hb⟩; refine ⟨_, rfl, ?_⟩; have n0_ := Aside0.mk (Kd.S_lower ho0 (below_size (by repeat (first | (with_reducible first | exact HB.out | apply below_alloc | apply pw_below_drewN | apply below_drew1 | refine below_set ?_ GE497.out | refine below_set ?_ GE498.out | refine below_set ?_ GE499.out) | exact HB.out)))); have n1_ := Aside0.mk (blk_below (g := gb497) (o := .cells #[.slice A0_0 l0_0.length c0_0] 184 (0, 0)) (by (with_reducible repeat (first | refine blk_drewN ?_ _ | refine blk_drew ?_ | refine blk_alloc ?_ _)); exact BK497.out) hb); have n2_ := Aside0.mk (blk_below (g := gb498) (o := .cells #[.slice none 0 0] 187 (0, 0)) (by (with_reducible repeat (first | refine blk_drewN ?_ _ | refine blk_drew ?_ | refine blk_alloc ?_ _)); exact BK498.out) hb); have n3_ := Aside0.mk (blk_below (g := gb499) (o := .cells #[.slice none 0 0] 187 (0, 0)) (by (with_reducible repeat (first | refine blk_drewN ?_ _ | refine blk_drew ?_ | refine blk_alloc ?_ _)); exact BK499.out) hb); have n4_ := Aside0.mk (below_step (by repeat (first | (with_reducible first | exact HB.out | apply below_alloc | apply pw_below_drewN | apply below_drew1 | refine below_set ?_ GE497.out | refine below_set ?_ GE498.out | refine below_set ?_ GE499.out) | exact HB.out)) hb); clear BK497; clear BK498; clear BK499; clear HB; have HO502 := n0_; have BK497 := n1_; have BK498 := n2_; have BK499 := n3_; have HB := n4_; clear n0_ n1_ n2_ n3_ n4_; (try clear hb); (try clear hb2); (try clear hk); (try clear hi); (try clear ho0); obtain ⟨Ao10, co10, eo10⟩ := Kd.S_slice HO502.out; subst eo10; have hnb11 := NB499_498.out; have hnc11 := NB498_499.out; have hcz12_0 : w9.cell? ⟨gb499, 0, none⟩ = some (.slice none 0 0) := (blk_cell BK499.out 0).trans rfl; have hfz12_0 := blk_frozen BK499.out 0; have hcz13_0 : w9.cell? ⟨gb498, 0, none⟩ = some (.slice none 0 0) := (blk_cell BK498.out 0).trans rfl; have hfz13_0 := blk_frozen BK498.out 0))
 refine bodyPost_ret (results_cell_row rfl _ _ gb498 187 #[.slice Ao10 t500.length co10] (0, 0) _ rfl (by (with_reducible repeat (first | refine blk_drewN ?_ _ | refine blk_drew ?_ | refine blk_alloc ?_ _)); refine blk_put (cs := #[.slice none 0 0]) ?_ 0 _ rfl; (with_reducible repeat (first | refine blk_drewN ?_ _ | refine blk_drew ?_ | refine blk_alloc ?_ _)); refine blk_far ?_ NB498_499.out _; (with_reducible repeat (first | refine blk_drewN ?_ _ | refine blk_drew ?_ | refine blk_alloc ?_ _)); exact BK498.out) Tryd.underlying187 rfl (by kernel_rfl)) rfl ?_
 exact ⟨_, by first | rfl | (simp [errW_none, errW_some] <;> rfl) | (simp [*, errW_none, errW_some] <;> rfl), by (with_reducible repeat (first | apply Kd.S_alloc | apply Kd.S_drewN | apply Kd.S_drew)); exact Kd.S_mono (Kd.S_far (p := ⟨gb498, 0, none⟩) (Kd.S_far (p := ⟨gb499, 0, none⟩) (Kd.S_types (Kd.S_types HO502.out BK499.out (by decide)) BK498.out (by decide)) (fun _ hk => hk.1.2) (.slice Ao10 t500.length co10)) (fun _ hk => hk.2) (.slice Ao10 t500.length co10)) (fun _ hk => trivial), by repeat (first | (with_reducible first | exact HB.out | apply below_alloc | apply pw_below_drewN | apply below_drew1 | refine below_set ?_ GE497.out | refine below_set ?_ GE498.out | refine below_set ?_ GE499.out) | exact HB.out)⟩

end Go.Proofs.YtkohjiajbdkcbaaDoor.All


namespace Go.Proofs.YtkohjiajbdkcbaaDoor.All
open Go.RowKit Go.Proofs.YtkohjiajbdkcbaaDoorW.PrintWords Go.Proofs.YtkohjiajbdkcbaaDoorW.PrintLast Go.Proofs.YtkohjiajbdkcbaaDoorW.PrintMore
attribute [local go_sem] max2_int min2_int max_two min_two max_three min_three max_four min_four   -- for this text's walks alone
set_option linter.unusedVariables false
set_option linter.unusedSimpArgs false

/-! ### laws_toBlockS: function 118 -/
def laws_toBlockS.l0 : Nat → List (S184) → List (S187) → Int → Option ((List (S187)))
 | 0, _, _, _ => none
 | k + 1, x0, x3, x4 => if x4 < (x0.length : Int) then (if 0 ≤ x4 then ((laws_toBlock.f k ((rd_T184 x0 x4).f0)).bind fun t507 => (if x4 < (x3.length : Int) then (laws_toBlockS.l0 k x0 (x3.set (x4 : Int).toNat (⟨t507⟩ : S187)) (wrap64 (x4 + 1))) else (none))) else (none)) else (some x3)
def laws_toBlockS.f (k : Nat) (l0 : List (S184)) : Option ((List (S187))) := if 0 ≤ (l0.length : Int) then (if ((l0.length : Int) : Int).toNat ≤ 11728124029610 then (laws_toBlockS.l0 k l0 (List.replicate ((l0.length : Int) : Int).toNat z187) 0) else (none)) else (none)
set_option maxHeartbeats 8000000 in
set_option maxRecDepth 100000 in
theorem laws_toBlockS.calls (k : Nat) (A0 : Option Addr) (c0 : Nat) (l0 : List (S184)) (r : List (S187)) (w : World) (hr0 : Kd.C k184 w A0 l0.length l0) (hc0 : l0.length ≤ c0) (h : laws_toBlockS.f k l0 = some r) :
 Calls Tryd.prog 118 #[.slice A0 l0.length c0] w fun e w' => ∃ v0_ : Value, e = .returned (v0_) ∧ Kd.R k187 187 w' w.heap.size (fun _ => True) v0_ r ∧ Below w.heap.size w w' := by
 have hu184 := Tryd.underlying184
 have hu187 := Tryd.underlying187
 have HR0 := Aside0.mk hr0
 have HC0 := Aside0.mk hc0
 clear hr0 hc0
 have HB := Aside0.mk (Below.refl w.heap.size w)
 have H : (if 0 ≤ (l0.length : Int) then (if ((l0.length : Int) : Int).toNat ≤ 11728124029610 then (laws_toBlockS.l0 k l0 (List.replicate ((l0.length : Int) : Int).toNat z187) 0) else (none)) else (none)) = some r := h
 clear h
 by_cases c2 : 0 ≤ (l0.length : Int)
 · rw [if_pos c2] at H
   have c2b0 := eq_true c2
   have c2b1 : decide (0 ≤ (l0.length : Int)) = true := decide_eq_true c2
   clear c2
   by_cases c3 : ((l0.length : Int) : Int).toNat ≤ 11728124029610
   · rw [if_pos c3] at H
     have c3b0 := eq_true c3
     have c3b1 : decide (((l0.length : Int) : Int).toNat ≤ 11728124029610) = true := decide_eq_true c3
     clear c3
     obtain ⟨y503, hy503⟩ : ∃ y_ : List (S187), y_ = (List.replicate ((l0.length : Int) : Int).toNat z187) := ⟨_, rfl⟩
     replace H : (laws_toBlockS.l0 k l0 y503 0) = some r := by first | (rw [hy503]; with_reducible exact H) | (have H2_ := (Option.bind_some _ _).symm.trans H; rw [hy503]; with_reducible exact H2_) | (have H2_ := (Option.bind_some _ _).symm.trans H; with_reducible exact H2_) | with_reducible exact H | (rw [hy503]; exact H) | exact H
     have Ny503 := Aside0.mk hy503
     clear hy503
     have H' := Aside0.mk H
     clear H
     go_enter Tryd.func118, Tryd.ntmps118
     go_wp2_with (first | ((with_reducible refine gate_dst (N := 7) rfl ?_); refine Kd.R_make k187 _ 187 rfl (N := 7) rfl 147 _ _ rfl (l0.length : Int) rfl rfl Tryd.underlying147 (.agg #[(.slice none 0 0)]) 24 info187 rfl (by decide) (by omega) z187 (ok := fun _ => True) (okp := fun _ => True) (k187_mkM _ _ _ z187 (Kd.R_nil _ _ _ _ _)) (fun _ hk => hk) trivial (of_decide_eq_true (by first | (with_reducible assumption) | assumption)) (Nat.le_trans (Nat.mul_le_mul_right _ (of_decide_eq_true (by first | (with_reducible assumption) | assumption) : (l0.length : Int).toNat ≤ 11728124029610)) (by omega)) (Below.refl _ _) (Nat.le_refl _) ?_; intro v504 w4 ho5 hb hg_ hnew_; clear hg_ hnew_; (first | rw [← Ny503.out] at ho5 | (simp only [Int.reduceToNat] at ho5; rw [← Ny503.out] at ho5)); have n0_ := Aside0.mk (Kd.R_lower ho5 (below_size (by repeat (first | (with_reducible first | exact HB.out | apply below_alloc | apply pw_below_drewN | apply below_drew1) | exact HB.out)))); have n1_ := Aside0.mk (below_step (by repeat (first | (with_reducible first | exact HB.out | apply below_alloc | apply pw_below_drewN | apply below_drew1) | exact HB.out)) hb); clear HB; have HO505 := n0_; have HB := n1_; clear n0_ n1_; clear hb ho5))
     go_loopg [4] k (fun kq v4 w' => ∃ (x3_1 : List (S187)) (x4_1 : Int), v4 = .int .i64 x4_1 ∧ Aside0 (laws_toBlockS.l0 kq l0 x3_1 x4_1 = some r) ∧ Aside0 (kq ≤ k) ∧ Aside0 (Kd.R k187 187 w' w.heap.size (fun _ => True) v504 x3_1) ∧ Aside0 (Below w.heap.size w w'))
     case atStart => exact ⟨(y503), (0), (by first | rfl | (simp; done) | (simp [*]; done)), H', ⟨Nat.le_refl _⟩, ⟨by (with_reducible repeat (first | apply Kd.R_alloc | apply Kd.R_drewN | apply Kd.R_drew)); exact HO505.out⟩, ⟨by repeat (first | (with_reducible first | exact HB.out | apply below_alloc | apply pw_below_drewN | apply below_drew1) | exact HB.out)⟩⟩
     case round =>
      clear H'
      try clear c1
      try clear c2
      try clear c2b0
      try clear c2b1
      try clear p2
      try clear c3
      try clear c3b0
      try clear c3b1
      obtain ⟨x3_1, x4_1, rfl, HA, HK1, HO_3, HB⟩ := hrel
      cases gk with
      | zero => exact absurd HA.out (by simp [laws_toBlockS.l0])
      | succ k1 =>
       have H := HA.out
       clear HA
       simp only [laws_toBlockS.l0] at H
       by_cases c6 : x4_1 < (l0.length : Int)
       · rw [if_pos c6] at H
         have c6b0 : decide (x4_1 < (l0.length : Int)) = true := decide_eq_true c6
         clear c6
         by_cases c7 : 0 ≤ x4_1
         · rw [if_pos c7] at H
           have c7b0 : decide (0 ≤ x4_1) = true := decide_eq_true c7
           clear c7
           replace H := Option.bind_eq_some_iff.mp H
           obtain ⟨t507, A80, H⟩ := H
           replace H : (if x4_1 < (x3_1.length : Int) then (laws_toBlockS.l0 k1 l0 (x3_1.set (x4_1 : Int).toNat (⟨t507⟩ : S187)) (wrap64 (x4_1 + 1))) else (none)) = some r := H
           have A8 := Aside0.mk A80
           clear A80
           by_cases c9 : x4_1 < (x3_1.length : Int)
           · rw [if_pos c9] at H
             have c9b0 : decide (x4_1 < (x3_1.length : Int)) = true := decide_eq_true c9
             clear c9
             obtain ⟨y510, hy510⟩ : ∃ y_ : List (S187), y_ = (x3_1.set (x4_1 : Int).toNat (⟨t507⟩ : S187)) := ⟨_, rfl⟩
             replace H : (laws_toBlockS.l0 k1 l0 y510 (wrap64 (x4_1 + 1))) = some r := by first | (rw [hy510]; with_reducible exact H) | (have H2_ := (Option.bind_some _ _).symm.trans H; rw [hy510]; with_reducible exact H2_) | (have H2_ := (Option.bind_some _ _).symm.trans H; with_reducible exact H2_) | with_reducible exact H | (rw [hy510]; exact H) | exact H
             have Ny510 := Aside0.mk hy510
             clear hy510
             have H' := Aside0.mk H
             clear H
             have p506 : 0 ≤ (x4_1 : Int) := of_decide_eq_true (by first | (with_reducible assumption) | assumption)
             have q506 : x4_1 < (l0.length : Int) := of_decide_eq_true (by first | (with_reducible assumption) | assumption)
             obtain ⟨ad506, A506_0, c506_0, e506, hx506_0, hl506_0, hi506_0⟩ := at_T184 HR0.out x4_1 p506 q506
             cases e506
             replace hx506_0 := (HB.out.cell (World.block_lt_of_cell? w _ hx506_0)).trans hx506_0
             have HR506_0 := Aside0.mk hi506_0
             have HC506_0 := Aside0.mk hl506_0
             clear hi506_0 hl506_0
             replace p506 := eq_true p506
             replace q506 := eq_true q506
             go_wp2_with (first | ((with_reducible refine gate_callee (f := 130) rfl ?_); refine goesL_ (some 20) rfl rfl Tryd.func130 (by kernel_rfl) rfl #[.agg #[.slice A506_0 ((rd_T184 l0 x4_1).f0).length c506_0]] rfl (by (try simp only [List.map_toArray, List.map_cons, List.map_nil]); first | done | rfl | (simp only [List.length_drop, List.length_take]; rfl)) ?_; (with_reducible refine (laws_toBlock.calls k1 _ _ ((rd_T184 l0 x4_1).f0) t507 _ ?side1 ?side2 A8.out).mono ?_); (case side1 => repeat (first | exact (Kd.C_below HR506_0.out HB.out) | (with_reducible refine Kd.C_alloc ?_ _) | (with_reducible refine Kd.C_drewN ?_ _) | (with_reducible refine Kd.C_drew ?_))); (case side2 => exact HC506_0.out); rintro e w11 ⟨v508, rfl, ho0, hb⟩; refine ⟨_, rfl, ?_⟩; have n0_ := Aside0.mk (Kd.R_elder' (by (with_reducible repeat (first | apply Kd.R_alloc | apply Kd.R_drewN | apply Kd.R_drew)); exact HO_3.out) (Kd.S_base ho0) hb); have n1_ := Aside0.mk (Kd.S_lower ho0 (below_size (by repeat (first | (with_reducible first | exact HB.out | apply below_alloc | apply pw_below_drewN | apply below_drew1) | exact HB.out)))); have n2_ := Aside0.mk (below_step (by repeat (first | (with_reducible first | exact HB.out | apply below_alloc | apply pw_below_drewN | apply below_drew1) | exact HB.out)) hb); clear HO_3; clear HB; have HO_3 := n0_; have HO509 := n1_; have HB := n2_; clear n0_ n1_ n2_; (try clear hb); (try clear hb2); (try clear hk); (try clear hi); (try clear ho0); have p10 : 0 ≤ (x4_1 : Int) := of_decide_eq_true (by first | (with_reducible assumption) | assumption); have q10 : (x4_1 : Int) < ((x3_1.length : Int) : Int) := of_decide_eq_true (by first | (with_reducible assumption) | assumption); obtain ⟨go10, co10, eo10, gb10, gl10, cl10, HG10⟩ := Kd.R_form HO_3.out (by omega); (first | cases eo10 | (injection eo10 with ea_ en_ ec_; (first | subst ea_ | (injection ea_ with ea_; subst ea_)); subst ec_; clear en_)); have GB10 := Aside0.mk gb10; have GG10 := Aside0.mk HG10; clear gb10 gl10 HG10; obtain ⟨ce10, hcl10, hM10, hcc10, hfr10⟩ := Kd.R_elem HO_3.out z187 (x4_1 : Int) p10 q10; obtain ⟨ve10_0, rfl, ge10_0⟩ := k187_openM hM10; have hx10_0 := hcc10 0 _ rfl; have hf10_0 := hfr10 0; (try simp only [show (k187).sz = 1 from rfl, Nat.mul_one, Nat.add_zero] at hx10_0); (try simp only [show (k187).sz = 1 from rfl, Nat.mul_one, Nat.add_zero] at hf10_0); clear hcl10 hcc10 hfr10 hM10; replace p10 := eq_true p10; replace q10 := eq_true q10; have n_ := Aside0.mk (Kd.R_mono (ok' := (fun k_ => some k_ ≠ (v508 : Value).ownBlock)) HO_3.out (fun k_ hk => hk.2)); clear HO_3; have HO_3 := n_; clear n_; have HX12 := Aside0.mk (show Kd.R k187 187 w11 w.heap.size (fun _ => True) (.slice (some ⟨go10, 0, none⟩) x3_1.length co10) x3_1 from (by (with_reducible repeat (first | apply Kd.R_alloc | apply Kd.R_drewN | apply Kd.R_drew)); exact Kd.R_mono HO_3.out (fun _ hk => trivial))); obtain ⟨ce12, hcl12, hM12, hcc12, hfr12⟩ := Kd.R_elem HX12.out z187 (x4_1 : Int) (of_decide_eq_true (by first | (with_reducible assumption) | assumption)) (by have h_ : (x4_1 : Int) < ((x3_1.length : Int) : Int) := of_decide_eq_true (by first | (with_reducible assumption) | assumption); first | exact h_ | (have e_ := (Kd.R_reads' HO_3.out).1; omega) | simpa using h_); obtain ⟨ve12_0, rfl, ge12_0⟩ := k187_openM hM12; have HP12 := Kd.R_seg HX12.out (x4_1 : Int) (of_decide_eq_true (by first | (with_reducible assumption) | assumption)) (by have h_ : (x4_1 : Int) < ((x3_1.length : Int) : Int) := of_decide_eq_true (by first | (with_reducible assumption) | assumption); first | exact h_ | (have e_ := (Kd.R_reads' HO_3.out).1; omega) | simpa using h_) (seg := [v508]) (j := 0) hcl12 hcc12 (show 1 ≤ 1 from by decide) (x' := (⟨t507⟩ : S187)) (k187_mkM _ _ _ (⟨t507⟩ : S187) (Kd.R_mono (Kd.R_apart' ((Kd.S_R HO509.out)) (Kd.R_typed HO_3.out) (by decide)) (fun k_ hk => ⟨trivial, fun e_ => (hk.2) (by rw [e_]; rfl)⟩))) (fun _ hk => hk); have hx12_0 := hcc12 0 _ rfl; (try simp only [show (k187).sz = 1 from rfl, Nat.mul_one, Nat.add_zero] at hx12_0); have hf12_0 := hfr12 0; (try simp only [show (k187).sz = 1 from rfl, Nat.mul_one, Nat.add_zero] at hf12_0); clear hcl12 hcc12 hfr12 hM12; (try simp only [show (k187).sz = 1 from rfl, Nat.mul_one, Nat.add_zero] at HP12)) | ((with_reducible refine gate_store (t := 187) (p := 21) rfl ?_); (try have st12_0 := fun (a_ : Addr) (m_ : Mode) (W_ : World) => run_store Tryd.prog W_ a_ v508 m_ (Kd.R_val (Kd.S_R HO509.out)).2); refine store_event (t := 187) (p := 21) (v := ?vo_w13) (w1 := (w11.setCell ⟨go10, (x4_1 : Int).toNat, none⟩ (v508))) ?hg ?ho ?hn ?hr ?_; (case ho => rfl); (case hg => rfl); (case hn => rfl); (case hr => first | (go_simp; done) | (go_simp; rfl)); intro w13 hw; have hg : w11.grownBy w13 (some go10) := (by rw [hw]; exact HP12.2); have hp_ : Kd.R k187 187 w13 w.heap.size (fun _ => True) (.slice (some ⟨go10, 0, none⟩) x3_1.length co10) y510 := (by rw [hw, Ny510.out]; exact HP12.1); clear HP12; (try clear st12_0); have n0_ := Aside0.mk (hp_); have n1_ := Aside0.mk ((by rw [hw]; exact below_set (HB.out) GB10.out : Below w.heap.size w w13)); clear HO_3; clear HB; clear HO509; have HO_3 := n0_; have HB := n1_; clear n0_ n1_; clear hg hw hp_))
             go_roundg k1
             case measure => have := HK1.out; omega
             case rel => exact ⟨(y510), (wrap64 (x4_1 + 1)), (by first | rfl | (simp; done) | (simp [*]; done)), H', ⟨by have := HK1.out; omega⟩, ⟨by (with_reducible repeat (first | apply Kd.R_alloc | apply Kd.R_drewN | apply Kd.R_drew)); exact HO_3.out⟩, ⟨by repeat (first | (with_reducible first | exact HB.out | apply below_alloc | apply pw_below_drewN | apply below_drew1) | exact HB.out)⟩⟩
           · rw [if_neg c9] at H
             exact absurd H (by simp)
         · rw [if_neg c7] at H
           exact absurd H (by simp)
       · rw [if_neg c6] at H
         have c6b0 : decide (x4_1 < (l0.length : Int)) = false := decide_eq_false c6
         clear c6
         obtain rfl := Option.some.inj H
         go_wp2
         go_ret
         exact ⟨_, by first | rfl | (simp [errW_none, errW_some] <;> rfl) | (simp [*, errW_none, errW_some] <;> rfl), by (with_reducible repeat (first | apply Kd.R_alloc | apply Kd.R_drewN | apply Kd.R_drew)); exact HO_3.out, by repeat (first | (with_reducible first | exact HB.out | apply below_alloc | apply pw_below_drewN | apply below_drew1) | exact HB.out)⟩
   · rw [if_neg c3] at H
     exact absurd H (by simp)
 · rw [if_neg c2] at H
   exact absurd H (by simp)

end Go.Proofs.YtkohjiajbdkcbaaDoor.All


namespace Go.Proofs.YtkohjiajbdkcbaaDoor.All
open Go.RowKit Go.Proofs.YtkohjiajbdkcbaaDoorW.PrintWords Go.Proofs.YtkohjiajbdkcbaaDoorW.PrintLast Go.Proofs.YtkohjiajbdkcbaaDoorW.PrintMore
attribute [local go_sem] max2_int min2_int max_two min_two max_three min_three max_four min_four   -- for this text's walks alone
set_option linter.unusedVariables false
set_option linter.unusedSimpArgs false

/-! ### laws_toFunc: function 94 -/
def laws_toFunc.f (k : Nat) (a0_0 : ByteArray) (a0_1 : Int) (l0_2 : List Int) (a0_3 : Int) (l0_4 : List (S184)) : Option (ByteArray × Int × List Int × Int × (List (S187))) := (laws_toInt64S.f k l0_2).bind fun t514 => ((laws_toBlockS.f k l0_4).bind fun t517 => (some (a0_0, a0_1, t514, a0_3, t517)))
set_option maxHeartbeats 8000000 in
set_option maxRecDepth 100000 in
theorem laws_toFunc.calls (k : Nat) (a0_0 : ByteArray) (a0_1 : Int) (A0_2 : Option Addr) (c0_2 : Nat) (l0_2 : List Int) (a0_3 : Int) (A0_4 : Option Addr) (c0_4 : Nat) (l0_4 : List (S184)) (r1 : ByteArray) (r2 : Int) (r3 : List Int) (r4 : Int) (r5 : List (S187)) (w : World) (hr0_2 : Kd.C (Kd.int .i64) w A0_2 l0_2.length l0_2) (hc0_2 : l0_2.length ≤ c0_2) (hr0_4 : Kd.C k184 w A0_4 l0_4.length l0_4) (hc0_4 : l0_4.length ≤ c0_4) (h : laws_toFunc.f k a0_0 a0_1 l0_2 a0_3 l0_4 = some (r1, r2, r3, r4, r5)) :
 Calls Tryd.prog 94 #[.agg #[.string a0_0, .int .i64 a0_1, .slice A0_2 l0_2.length c0_2, .int .i64 a0_3, .slice A0_4 l0_4.length c0_4]] w fun e w' => ∃ v2_ v4_ : Value, e = .returned (.agg #[.string r1, .int .i64 r2, v2_, .int .i64 r4, v4_]) ∧ Kd.R (Kd.int .i64) 2 w' w.heap.size (fun _ => True) v2_ r3 ∧ Kd.R k187 187 w' w.heap.size (fun k_ => some k_ ≠ (v2_ : Value).ownBlock) v4_ r5 ∧ Below w.heap.size w w' := by
 have hu145 := Tryd.underlying145
 have hu149 := Tryd.underlying149
 have HR0_2 := Aside0.mk hr0_2
 have HC0_2 := Aside0.mk hc0_2
 clear hr0_2 hc0_2
 have HR0_4 := Aside0.mk hr0_4
 have HC0_4 := Aside0.mk hc0_4
 clear hr0_4 hc0_4
 have HB := Aside0.mk (Below.refl w.heap.size w)
 have H : ((laws_toInt64S.f k l0_2).bind fun t514 => ((laws_toBlockS.f k l0_4).bind fun t517 => (some (a0_0, a0_1, t514, a0_3, t517)))) = some (r1, r2, r3, r4, r5) := h
 clear h
 replace H := Option.bind_eq_some_iff.mp H
 obtain ⟨t514, A20, H⟩ := H
 replace H : ((laws_toBlockS.f k l0_4).bind fun t517 => (some (a0_0, a0_1, t514, a0_3, t517))) = some (r1, r2, r3, r4, r5) := H
 have A2 := Aside0.mk A20
 clear A20
 replace H := Option.bind_eq_some_iff.mp H
 obtain ⟨t517, A30, H⟩ := H
 replace H : (some (a0_0, a0_1, t514, a0_3, t517)) = some (r1, r2, r3, r4, r5) := H
 have A3 := Aside0.mk A30
 clear A30
 simp only [Option.some.injEq, Prod.mk.injEq] at H
 obtain ⟨rfl, rfl, rfl, rfl, rfl⟩ := H
 go_enter Tryd.func94, Tryd.ntmps94
 go_wp2_with (first | ((with_reducible refine gate_dst (N := 1) rfl ?_); refine box_event ?hg (N := 1) ?hd (cs := #[.string a0_0, .int .i64 a0_1, .slice A0_2 l0_2.length c0_2, .int .i64 a0_3, .slice A0_4 l0_4.length c0_4]) (t := 145) ?hr ?_; (case hd => rfl); (case hg => rfl); (case hr => first | (go_simp; done) | (go_simp; rfl)); intro gb511 hg w4 hbox hb; have n0_ := Aside0.mk (below_step (by repeat (first | (with_reducible first | exact HB.out | apply below_alloc | apply pw_below_drewN | apply below_drew1) | exact HB.out)) hb); have n1_ := Aside0.mk (hbox); have n2_ := Aside0.mk ((by rw [hg]; exact (below_size (by repeat (first | (with_reducible first | exact HB.out | apply below_alloc | apply pw_below_drewN | apply below_drew1) | exact HB.out))) : w.heap.size ≤ gb511)); have n3_ := Aside0.mk ((by rw [hg]; exact (below_size (by repeat (first | (with_reducible first | exact HB.out | apply below_alloc | apply pw_below_drewN | apply below_drew1) | exact HB.out))) : w.heap.size ≤ gb511)); clear HB; have HB := n0_; have BK511 := n1_; have GW511 := n2_; have GE511 := n3_; clear n0_ n1_ n2_ n3_; clear hb hbox hg) | ((with_reducible refine gate_dst (N := 2) rfl ?_); refine box_event ?hg (N := 2) ?hd (cs := #[.string (⟨#[]⟩ : ByteArray), .int .i64 0, .slice none 0 0, .int .i64 0, .slice none 0 0]) (t := 149) ?hr ?_; (case hd => rfl); (case hg => rfl); (case hr => first | (go_simp; done) | (go_simp; rfl)); intro gb512 hg w5 hbox hb; have n0_ := Aside0.mk (blk_below (g := gb511) (o := .cells #[.string a0_0, .int .i64 a0_1, .slice A0_2 l0_2.length c0_2, .int .i64 a0_3, .slice A0_4 l0_4.length c0_4] 145 (0, 0)) (by (with_reducible repeat (first | refine blk_drewN ?_ _ | refine blk_drew ?_ | refine blk_alloc ?_ _)); exact BK511.out) hb); have n1_ := Aside0.mk (below_step (by repeat (first | (with_reducible first | exact HB.out | apply below_alloc | apply pw_below_drewN | apply below_drew1 | refine below_set ?_ GE511.out) | exact HB.out)) hb); have n2_ := Aside0.mk (hbox); have n3_ := Aside0.mk ((by rw [hg]; exact (below_size (by repeat (first | (with_reducible first | exact HB.out | apply below_alloc | apply pw_below_drewN | apply below_drew1 | refine below_set ?_ GE511.out) | exact HB.out))) : w.heap.size ≤ gb512)); have n4_ := Aside0.mk ((by rw [hg]; exact (below_size (by repeat (first | (with_reducible first | exact HB.out | apply below_alloc | apply pw_below_drewN | apply below_drew1 | refine below_set ?_ GE511.out) | exact HB.out))) : w.heap.size ≤ gb512)); have n5_ := Aside0.mk ((by rw [hg]; exact Nat.ne_of_lt (blk_lt (g := gb511) (o := .cells #[.string a0_0, .int .i64 a0_1, .slice A0_2 l0_2.length c0_2, .int .i64 a0_3, .slice A0_4 l0_4.length c0_4] 145 (0, 0)) (by (with_reducible repeat (first | refine blk_drewN ?_ _ | refine blk_drew ?_ | refine blk_alloc ?_ _)); exact BK511.out)) : gb511 ≠ gb512)); have n6_ := Aside0.mk ((by rw [hg]; exact Nat.ne_of_gt (blk_lt (g := gb511) (o := .cells #[.string a0_0, .int .i64 a0_1, .slice A0_2 l0_2.length c0_2, .int .i64 a0_3, .slice A0_4 l0_4.length c0_4] 145 (0, 0)) (by (with_reducible repeat (first | refine blk_drewN ?_ _ | refine blk_drew ?_ | refine blk_alloc ?_ _)); exact BK511.out)) : gb512 ≠ gb511)); clear BK511; clear HB; have BK511 := n0_; have HB := n1_; have BK512 := n2_; have GW512 := n3_; have GE512 := n4_; have NB511_512 := n5_; have NB512_511 := n6_; clear n0_ n1_ n2_ n3_ n4_ n5_ n6_; clear hb hbox hg) | ((with_reducible refine gate_dst (N := 3) rfl ?_); refine box_event ?hg (N := 3) ?hd (cs := #[.string (⟨#[]⟩ : ByteArray), .int .i64 0, .slice none 0 0, .int .i64 0, .slice none 0 0]) (t := 149) ?hr ?_; (case hd => rfl); (case hg => rfl); (case hr => first | (go_simp; done) | (go_simp; rfl)); intro gb513 hg w6 hbox hb; have n0_ := Aside0.mk (blk_below (g := gb511) (o := .cells #[.string a0_0, .int .i64 a0_1, .slice A0_2 l0_2.length c0_2, .int .i64 a0_3, .slice A0_4 l0_4.length c0_4] 145 (0, 0)) (by (with_reducible repeat (first | refine blk_drewN ?_ _ | refine blk_drew ?_ | refine blk_alloc ?_ _)); exact BK511.out) hb); have n1_ := Aside0.mk (blk_below (g := gb512) (o := .cells #[.string (⟨#[]⟩ : ByteArray), .int .i64 0, .slice none 0 0, .int .i64 0, .slice none 0 0] 149 (0, 0)) (by (with_reducible repeat (first | refine blk_drewN ?_ _ | refine blk_drew ?_ | refine blk_alloc ?_ _)); exact BK512.out) hb); have n2_ := Aside0.mk (below_step (by repeat (first | (with_reducible first | exact HB.out | apply below_alloc | apply pw_below_drewN | apply below_drew1 | refine below_set ?_ GE511.out | refine below_set ?_ GE512.out) | exact HB.out)) hb); have n3_ := Aside0.mk (hbox); have n4_ := Aside0.mk ((by rw [hg]; exact (below_size (by repeat (first | (with_reducible first | exact HB.out | apply below_alloc | apply pw_below_drewN | apply below_drew1 | refine below_set ?_ GE511.out | refine below_set ?_ GE512.out) | exact HB.out))) : w.heap.size ≤ gb513)); have n5_ := Aside0.mk ((by rw [hg]; exact (below_size (by repeat (first | (with_reducible first | exact HB.out | apply below_alloc | apply pw_below_drewN | apply below_drew1 | refine below_set ?_ GE511.out | refine below_set ?_ GE512.out) | exact HB.out))) : w.heap.size ≤ gb513)); have n6_ := Aside0.mk ((by rw [hg]; exact Nat.ne_of_lt (blk_lt (g := gb511) (o := .cells #[.string a0_0, .int .i64 a0_1, .slice A0_2 l0_2.length c0_2, .int .i64 a0_3, .slice A0_4 l0_4.length c0_4] 145 (0, 0)) (by (with_reducible repeat (first | refine blk_drewN ?_ _ | refine blk_drew ?_ | refine blk_alloc ?_ _)); exact BK511.out)) : gb511 ≠ gb513)); have n7_ := Aside0.mk ((by rw [hg]; exact Nat.ne_of_gt (blk_lt (g := gb511) (o := .cells #[.string a0_0, .int .i64 a0_1, .slice A0_2 l0_2.length c0_2, .int .i64 a0_3, .slice A0_4 l0_4.length c0_4] 145 (0, 0)) (by (with_reducible repeat (first | refine blk_drewN ?_ _ | refine blk_drew ?_ | refine blk_alloc ?_ _)); exact BK511.out)) : gb513 ≠ gb511)); have n8_ := Aside0.mk ((by rw [hg]; exact Nat.ne_of_lt (blk_lt (g := gb512) (o := .cells #[.string (⟨#[]⟩ : ByteArray), .int .i64 0, .slice none 0 0, .int .i64 0, .slice none 0 0] 149 (0, 0)) (by (with_reducible repeat (first | refine blk_drewN ?_ _ | refine blk_drew ?_ | refine blk_alloc ?_ _)); exact BK512.out)) : gb512 ≠ gb513)); have n9_ := Aside0.mk ((by rw [hg]; exact Nat.ne_of_gt (blk_lt (g := gb512) (o := .cells #[.string (⟨#[]⟩ : ByteArray), .int .i64 0, .slice none 0 0, .int .i64 0, .slice none 0 0] 149 (0, 0)) (by (with_reducible repeat (first | refine blk_drewN ?_ _ | refine blk_drew ?_ | refine blk_alloc ?_ _)); exact BK512.out)) : gb513 ≠ gb512)); clear BK511; clear BK512; clear HB; have BK511 := n0_; have BK512 := n1_; have HB := n2_; have BK513 := n3_; have GW513 := n4_; have GE513 := n5_; have NB511_513 := n6_; have NB513_511 := n7_; have NB512_513 := n8_; have NB513_512 := n9_; clear n0_ n1_ n2_ n3_ n4_ n5_ n6_ n7_ n8_ n9_; clear hb hbox hg; have hnb7 := NB511_512.out; have hnc7 := NB512_511.out; have hnb8 := NB511_513.out; have hnc8 := NB513_511.out; have hcz9_0 : w6.cell? ⟨gb511, 0, none⟩ = some (.string a0_0) := (blk_cell BK511.out 0).trans rfl; have hcz9_1 : w6.cell? ⟨gb511, 1, none⟩ = some (.int .i64 a0_1) := (blk_cell BK511.out 1).trans rfl; have hcz9_2 : w6.cell? ⟨gb511, 2, none⟩ = some (.slice A0_2 l0_2.length c0_2) := (blk_cell BK511.out 2).trans rfl; have hcz9_3 : w6.cell? ⟨gb511, 3, none⟩ = some (.int .i64 a0_3) := (blk_cell BK511.out 3).trans rfl; have hcz9_4 : w6.cell? ⟨gb511, 4, none⟩ = some (.slice A0_4 l0_4.length c0_4) := (blk_cell BK511.out 4).trans rfl; have hfz9_0 := blk_frozen BK511.out 0; have hfz9_1 := blk_frozen BK511.out 1; have hfz9_2 := blk_frozen BK511.out 2; have hfz9_3 := blk_frozen BK511.out 3; have hfz9_4 := blk_frozen BK511.out 4; have hnb10 := NB513_512.out; have hnc10 := NB512_513.out; have hcz11_0 : w6.cell? ⟨gb513, 0, none⟩ = some (.string (⟨#[]⟩ : ByteArray)) := (blk_cell BK513.out 0).trans rfl; have hcz11_1 : w6.cell? ⟨gb513, 1, none⟩ = some (.int .i64 0) := (blk_cell BK513.out 1).trans rfl; have hcz11_2 : w6.cell? ⟨gb513, 2, none⟩ = some (.slice none 0 0) := (blk_cell BK513.out 2).trans rfl; have hcz11_3 : w6.cell? ⟨gb513, 3, none⟩ = some (.int .i64 0) := (blk_cell BK513.out 3).trans rfl; have hcz11_4 : w6.cell? ⟨gb513, 4, none⟩ = some (.slice none 0 0) := (blk_cell BK513.out 4).trans rfl; have hfz11_0 := blk_frozen BK513.out 0; have hfz11_1 := blk_frozen BK513.out 1; have hfz11_2 := blk_frozen BK513.out 2; have hfz11_3 := blk_frozen BK513.out 3; have hfz11_4 := blk_frozen BK513.out 4) | ((with_reducible refine gate_callee (f := 62) rfl ?_); refine goesL_ (some 12) rfl rfl Tryd.func62 (by kernel_rfl) rfl #[.slice A0_2 l0_2.length c0_2] rfl (by (try simp only [List.map_toArray, List.map_cons, List.map_nil]); first | done | rfl | (simp only [List.length_drop, List.length_take]; rfl)) ?_; (with_reducible refine (laws_toInt64S.calls k _ _ l0_2 t514 _ ?side1 ?side2 A2.out).mono ?_); (case side1 => exact Kd.C_below HR0_2.out (by repeat (first | (with_reducible first | exact HB.out | apply below_alloc | apply pw_below_drewN | apply below_drew1 | refine below_set ?_ GE511.out | refine below_set ?_ GE512.out | refine below_set ?_ GE513.out) | exact HB.out))); (case side2 => exact HC0_2.out); rintro e w12 ⟨v515, rfl, ho0, hb⟩; refine ⟨_, rfl, ?_⟩; have n0_ := Aside0.mk (Kd.R_lower ho0 (below_size (by repeat (first | (with_reducible first | exact HB.out | apply below_alloc | apply pw_below_drewN | apply below_drew1 | refine below_set ?_ GE511.out | refine below_set ?_ GE512.out | refine below_set ?_ GE513.out) | exact HB.out)))); have n1_ := Aside0.mk (blk_below (g := gb511) (o := .cells #[.string a0_0, .int .i64 a0_1, .slice A0_2 l0_2.length c0_2, .int .i64 a0_3, .slice A0_4 l0_4.length c0_4] 145 (0, 0)) (by (with_reducible repeat (first | refine blk_drewN ?_ _ | refine blk_drew ?_ | refine blk_alloc ?_ _)); refine blk_far ?_ NB511_513.out _; (with_reducible repeat (first | refine blk_drewN ?_ _ | refine blk_drew ?_ | refine blk_alloc ?_ _)); refine blk_far ?_ NB511_513.out _; (with_reducible repeat (first | refine blk_drewN ?_ _ | refine blk_drew ?_ | refine blk_alloc ?_ _)); exact BK511.out) hb); have n2_ := Aside0.mk (blk_below (g := gb512) (o := .cells #[.string (⟨#[]⟩ : ByteArray), .int .i64 0, .slice none 0 0, .int .i64 0, .slice none 0 0] 149 (0, 0)) (by (with_reducible repeat (first | refine blk_drewN ?_ _ | refine blk_drew ?_ | refine blk_alloc ?_ _)); refine blk_far ?_ NB512_513.out _; (with_reducible repeat (first | refine blk_drewN ?_ _ | refine blk_drew ?_ | refine blk_alloc ?_ _)); refine blk_far ?_ NB512_513.out _; (with_reducible repeat (first | refine blk_drewN ?_ _ | refine blk_drew ?_ | refine blk_alloc ?_ _)); exact BK512.out) hb); have n3_ := Aside0.mk (blk_below (g := gb513) (o := .cells #[.string a0_0, .int .i64 a0_1, .slice none 0 0, .int .i64 0, .slice none 0 0] 149 (0, 0)) (by (with_reducible repeat (first | refine blk_drewN ?_ _ | refine blk_drew ?_ | refine blk_alloc ?_ _)); refine blk_put (cs := #[.string a0_0, .int .i64 0, .slice none 0 0, .int .i64 0, .slice none 0 0]) ?_ 1 _ rfl; (with_reducible repeat (first | refine blk_drewN ?_ _ | refine blk_drew ?_ | refine blk_alloc ?_ _)); refine blk_put (cs := #[.string (⟨#[]⟩ : ByteArray), .int .i64 0, .slice none 0 0, .int .i64 0, .slice none 0 0]) ?_ 0 _ rfl; (with_reducible repeat (first | refine blk_drewN ?_ _ | refine blk_drew ?_ | refine blk_alloc ?_ _)); exact BK513.out) hb); have n4_ := Aside0.mk (below_step (by repeat (first | (with_reducible first | exact HB.out | apply below_alloc | apply pw_below_drewN | apply below_drew1 | refine below_set ?_ GE511.out | refine below_set ?_ GE512.out | refine below_set ?_ GE513.out) | exact HB.out)) hb); clear BK511; clear BK512; clear BK513; clear HB; have HO516 := n0_; have BK511 := n1_; have BK512 := n2_; have BK513 := n3_; have HB := n4_; clear n0_ n1_ n2_ n3_ n4_; (try clear hb); (try clear hb2); (try clear hk); (try clear hi); (try clear ho0); obtain ⟨Ao13, co13, eo13⟩ := Kd.R_slice HO516.out; subst eo13; have hcz14_0 : w12.cell? ⟨gb513, 0, none⟩ = some (.string a0_0) := (blk_cell BK513.out 0).trans rfl; have hcz14_1 : w12.cell? ⟨gb513, 1, none⟩ = some (.int .i64 a0_1) := (blk_cell BK513.out 1).trans rfl; have hcz14_2 : w12.cell? ⟨gb513, 2, none⟩ = some (.slice none 0 0) := (blk_cell BK513.out 2).trans rfl; have hcz14_3 : w12.cell? ⟨gb513, 3, none⟩ = some (.int .i64 0) := (blk_cell BK513.out 3).trans rfl; have hcz14_4 : w12.cell? ⟨gb513, 4, none⟩ = some (.slice none 0 0) := (blk_cell BK513.out 4).trans rfl; have hfz14_0 := blk_frozen BK513.out 0; have hfz14_1 := blk_frozen BK513.out 1; have hfz14_2 := blk_frozen BK513.out 2; have hfz14_3 := blk_frozen BK513.out 3; have hfz14_4 := blk_frozen BK513.out 4; have hcz15_0 : w12.cell? ⟨gb511, 0, none⟩ = some (.string a0_0) := (blk_cell BK511.out 0).trans rfl; have hcz15_1 : w12.cell? ⟨gb511, 1, none⟩ = some (.int .i64 a0_1) := (blk_cell BK511.out 1).trans rfl; have hcz15_2 : w12.cell? ⟨gb511, 2, none⟩ = some (.slice A0_2 l0_2.length c0_2) := (blk_cell BK511.out 2).trans rfl; have hcz15_3 : w12.cell? ⟨gb511, 3, none⟩ = some (.int .i64 a0_3) := (blk_cell BK511.out 3).trans rfl; have hcz15_4 : w12.cell? ⟨gb511, 4, none⟩ = some (.slice A0_4 l0_4.length c0_4) := (blk_cell BK511.out 4).trans rfl; have hfz15_0 := blk_frozen BK511.out 0; have hfz15_1 := blk_frozen BK511.out 1; have hfz15_2 := blk_frozen BK511.out 2; have hfz15_3 := blk_frozen BK511.out 3; have hfz15_4 := blk_frozen BK511.out 4) | ((with_reducible refine gate_callee (f := 118) rfl ?_); refine goesL_ (some 19) rfl rfl Tryd.func118 (by kernel_rfl) rfl #[.slice A0_4 l0_4.length c0_4] rfl (by (try simp only [List.map_toArray, List.map_cons, List.map_nil]); first | done | rfl | (simp only [List.length_drop, List.length_take]; rfl)) ?_; (with_reducible refine (laws_toBlockS.calls k _ _ l0_4 t517 _ ?side1 ?side2 A3.out).mono ?_); (case side1 => exact Kd.C_below HR0_4.out (by repeat (first | (with_reducible first | exact HB.out | apply below_alloc | apply pw_below_drewN | apply below_drew1 | refine below_set ?_ GE511.out | refine below_set ?_ GE512.out | refine below_set ?_ GE513.out) | exact HB.out))); (case side2 => exact HC0_4.out); rintro e w16 ⟨v518, rfl, ho0, hb⟩; refine ⟨_, rfl, ?_⟩; have n0_ := Aside0.mk (Kd.R_below (by (with_reducible repeat (first | apply Kd.R_alloc | apply Kd.R_drewN | apply Kd.R_drew)); exact (Kd.R_mono (Kd.R_far (p := ⟨gb513, 3, none⟩) (Kd.R_far (p := ⟨gb513, 2, none⟩) (Kd.R_types HO516.out BK513.out (by decide)) (fun _ hk => hk.2) (.slice Ao13 t514.length co13)) (fun _ hk => hk.2) (.int .i64 a0_3)) (fun _ h_ => h_.1))) hb); have n1_ := Aside0.mk (Kd.R_lower (Kd.R_new' ho0 (Kd.R_lt (by (with_reducible repeat (first | apply Kd.R_alloc | apply Kd.R_drewN | apply Kd.R_drew)); exact (Kd.R_mono (Kd.R_far (p := ⟨gb513, 3, none⟩) (Kd.R_far (p := ⟨gb513, 2, none⟩) (Kd.R_types HO516.out BK513.out (by decide)) (fun _ hk => hk.2) (.slice Ao13 t514.length co13)) (fun _ hk => hk.2) (.int .i64 a0_3)) (fun _ h_ => h_.1))))) (below_size (by repeat (first | (with_reducible first | exact HB.out | apply below_alloc | apply pw_below_drewN | apply below_drew1 | refine below_set ?_ GE511.out | refine below_set ?_ GE512.out | refine below_set ?_ GE513.out) | exact HB.out)))); have n2_ := Aside0.mk (blk_below (g := gb511) (o := .cells #[.string a0_0, .int .i64 a0_1, .slice A0_2 l0_2.length c0_2, .int .i64 a0_3, .slice A0_4 l0_4.length c0_4] 145 (0, 0)) (by (with_reducible repeat (first | refine blk_drewN ?_ _ | refine blk_drew ?_ | refine blk_alloc ?_ _)); refine blk_far ?_ NB511_513.out _; (with_reducible repeat (first | refine blk_drewN ?_ _ | refine blk_drew ?_ | refine blk_alloc ?_ _)); refine blk_far ?_ NB511_513.out _; (with_reducible repeat (first | refine blk_drewN ?_ _ | refine blk_drew ?_ | refine blk_alloc ?_ _)); exact BK511.out) hb); have n3_ := Aside0.mk (blk_below (g := gb512) (o := .cells #[.string (⟨#[]⟩ : ByteArray), .int .i64 0, .slice none 0 0, .int .i64 0, .slice none 0 0] 149 (0, 0)) (by (with_reducible repeat (first | refine blk_drewN ?_ _ | refine blk_drew ?_ | refine blk_alloc ?_ _)); refine blk_far ?_ NB512_513.out _; (with_reducible repeat (first | refine blk_drewN ?_ _ | refine blk_drew ?_ | refine blk_alloc ?_ _)); refine blk_far ?_ NB512_513.out _; (with_reducible repeat (first | refine blk_drewN ?_ _ | refine blk_drew ?_ | refine blk_alloc ?_ _)); exact BK512.out) hb); have n4_ := Aside0.mk (blk_below (g := gb513) (o := .cells #[.string a0_0, .int .i64 a0_1, .slice Ao13 t514.length co13, .int .i64 a0_3, .slice none 0 0] 149 (0, 0)) (by (with_reducible repeat (first | refine blk_drewN ?_ _ | refine blk_drew ?_ | refine blk_alloc ?_ _)); refine blk_put (cs := #[.string a0_0, .int .i64 a0_1, .slice Ao13 t514.length co13, .int .i64 0, .slice none 0 0]) ?_ 3 _ rfl; (with_reducible repeat (first | refine blk_drewN ?_ _ | refine blk_drew ?_ | refine blk_alloc ?_ _)); refine blk_put (cs := #[.string a0_0, .int .i64 a0_1, .slice none 0 0, .int .i64 0, .slice none 0 0]) ?_ 2 _ rfl; (with_reducible repeat (first | refine blk_drewN ?_ _ | refine blk_drew ?_ | refine blk_alloc ?_ _)); exact BK513.out) hb); have n5_ := Aside0.mk (below_step (by repeat (first | (with_reducible first | exact HB.out | apply below_alloc | apply pw_below_drewN | apply below_drew1 | refine below_set ?_ GE511.out | refine below_set ?_ GE512.out | refine below_set ?_ GE513.out) | exact HB.out)) hb); clear HO516; clear BK511; clear BK512; clear BK513; clear HB; have HO516 := n0_; have HO519 := n1_; have BK511 := n2_; have BK512 := n3_; have BK513 := n4_; have HB := n5_; clear n0_ n1_ n2_ n3_ n4_ n5_; (try clear hb); (try clear hb2); (try clear hk); (try clear hi); (try clear ho0); obtain ⟨Ao17, co17, eo17⟩ := Kd.R_slice HO519.out; subst eo17; have hcz18_0 : w16.cell? ⟨gb513, 0, none⟩ = some (.string a0_0) := (blk_cell BK513.out 0).trans rfl; have hcz18_1 : w16.cell? ⟨gb513, 1, none⟩ = some (.int .i64 a0_1) := (blk_cell BK513.out 1).trans rfl; have hcz18_2 : w16.cell? ⟨gb513, 2, none⟩ = some (.slice Ao13 t514.length co13) := (blk_cell BK513.out 2).trans rfl; have hcz18_3 : w16.cell? ⟨gb513, 3, none⟩ = some (.int .i64 a0_3) := (blk_cell BK513.out 3).trans rfl; have hcz18_4 : w16.cell? ⟨gb513, 4, none⟩ = some (.slice none 0 0) := (blk_cell BK513.out 4).trans rfl; have hfz18_0 := blk_frozen BK513.out 0; have hfz18_1 := blk_frozen BK513.out 1; have hfz18_2 := blk_frozen BK513.out 2; have hfz18_3 := blk_frozen BK513.out 3; have hfz18_4 := blk_frozen BK513.out 4; have hcz19_0 : w16.cell? ⟨gb512, 0, none⟩ = some (.string (⟨#[]⟩ : ByteArray)) := (blk_cell BK512.out 0).trans rfl; have hcz19_1 : w16.cell? ⟨gb512, 1, none⟩ = some (.int .i64 0) := (blk_cell BK512.out 1).trans rfl; have hcz19_2 : w16.cell? ⟨gb512, 2, none⟩ = some (.slice none 0 0) := (blk_cell BK512.out 2).trans rfl; have hcz19_3 : w16.cell? ⟨gb512, 3, none⟩ = some (.int .i64 0) := (blk_cell BK512.out 3).trans rfl; have hcz19_4 : w16.cell? ⟨gb512, 4, none⟩ = some (.slice none 0 0) := (blk_cell BK512.out 4).trans rfl; have hfz19_0 := blk_frozen BK512.out 0; have hfz19_1 := blk_frozen BK512.out 1; have hfz19_2 := blk_frozen BK512.out 2; have hfz19_3 := blk_frozen BK512.out 3; have hfz19_4 := blk_frozen BK512.out 4))
 refine bodyPost_ret (results_cell_row rfl _ _ gb512 149 #[.string a0_0, .int .i64 a0_1, .slice Ao13 t514.length co13, .int .i64 a0_3, .slice Ao17 t517.length co17] (0, 0) _ rfl (by (with_reducible repeat (first | refine blk_drewN ?_ _ | refine blk_drew ?_ | refine blk_alloc ?_ _)); refine blk_put (cs := #[.string a0_0, .int .i64 a0_1, .slice Ao13 t514.length co13, .int .i64 a0_3, .slice none 0 0]) ?_ 4 _ rfl; (with_reducible repeat (first | refine blk_drewN ?_ _ | refine blk_drew ?_ | refine blk_alloc ?_ _)); refine blk_put (cs := #[.string a0_0, .int .i64 a0_1, .slice Ao13 t514.length co13, .int .i64 0, .slice none 0 0]) ?_ 3 _ rfl; (with_reducible repeat (first | refine blk_drewN ?_ _ | refine blk_drew ?_ | refine blk_alloc ?_ _)); refine blk_put (cs := #[.string a0_0, .int .i64 a0_1, .slice none 0 0, .int .i64 0, .slice none 0 0]) ?_ 2 _ rfl; (with_reducible repeat (first | refine blk_drewN ?_ _ | refine blk_drew ?_ | refine blk_alloc ?_ _)); refine blk_put (cs := #[.string a0_0, .int .i64 0, .slice none 0 0, .int .i64 0, .slice none 0 0]) ?_ 1 _ rfl; (with_reducible repeat (first | refine blk_drewN ?_ _ | refine blk_drew ?_ | refine blk_alloc ?_ _)); refine blk_put (cs := #[.string (⟨#[]⟩ : ByteArray), .int .i64 0, .slice none 0 0, .int .i64 0, .slice none 0 0]) ?_ 0 _ rfl; (with_reducible repeat (first | refine blk_drewN ?_ _ | refine blk_drew ?_ | refine blk_alloc ?_ _)); refine blk_far ?_ NB512_513.out _; (with_reducible repeat (first | refine blk_drewN ?_ _ | refine blk_drew ?_ | refine blk_alloc ?_ _)); exact BK512.out) Tryd.underlying149 rfl (by kernel_rfl)) rfl ?_
 exact ⟨_, _, by first | rfl | (simp [errW_none, errW_some] <;> rfl) | (simp [*, errW_none, errW_some] <;> rfl), by (with_reducible repeat (first | apply Kd.R_alloc | apply Kd.R_drewN | apply Kd.R_drew)); exact Kd.R_mono (Kd.R_far (p := ⟨gb512, 4, none⟩) (Kd.R_far (p := ⟨gb512, 3, none⟩) (Kd.R_far (p := ⟨gb512, 2, none⟩) (Kd.R_far (p := ⟨gb512, 1, none⟩) (Kd.R_far (p := ⟨gb512, 0, none⟩) (Kd.R_far (p := ⟨gb513, 4, none⟩) (Kd.R_types (Kd.R_types HO516.out BK513.out (by decide)) BK512.out (by decide)) (fun _ hk => hk.1.2) (.slice Ao17 t517.length co17)) (fun _ hk => hk.2) (.string a0_0)) (fun _ hk => hk.2) (.int .i64 a0_1)) (fun _ hk => hk.2) (.slice Ao13 t514.length co13)) (fun _ hk => hk.2) (.int .i64 a0_3)) (fun _ hk => hk.2) (.slice Ao17 t517.length co17)) (fun _ hk => trivial), by (with_reducible repeat (first | apply Kd.R_alloc | apply Kd.R_drewN | apply Kd.R_drew)); exact Kd.R_mono (Kd.R_far (p := ⟨gb512, 4, none⟩) (Kd.R_far (p := ⟨gb512, 3, none⟩) (Kd.R_far (p := ⟨gb512, 2, none⟩) (Kd.R_far (p := ⟨gb512, 1, none⟩) (Kd.R_far (p := ⟨gb512, 0, none⟩) (Kd.R_far (p := ⟨gb513, 4, none⟩) (Kd.R_types (Kd.R_types HO519.out BK513.out (by decide)) BK512.out (by decide)) (fun _ hk => hk.1.2) (.slice Ao17 t517.length co17)) (fun _ hk => hk.2) (.string a0_0)) (fun _ hk => hk.2) (.int .i64 a0_1)) (fun _ hk => hk.2) (.slice Ao13 t514.length co13)) (fun _ hk => hk.2) (.int .i64 a0_3)) (fun _ hk => hk.2) (.slice Ao17 t517.length co17)) (fun _ hk => hk.1.1.2), by repeat (first | (with_reducible first | exact HB.out | apply below_alloc | apply pw_below_drewN | apply below_drew1 | refine below_set ?_ GE511.out | refine below_set ?_ GE512.out | refine below_set ?_ GE513.out) | exact HB.out)⟩

end Go.Proofs.YtkohjiajbdkcbaaDoor.All


namespace Go.Proofs.YtkohjiajbdkcbaaDoor.All
open Go.RowKit Go.Proofs.YtkohjiajbdkcbaaDoorW.PrintWords Go.Proofs.YtkohjiajbdkcbaaDoorW.PrintLast Go.Proofs.YtkohjiajbdkcbaaDoorW.PrintMore
attribute [local go_sem] max2_int min2_int max_two min_two max_three min_three max_four min_four   -- for this text's walks alone
set_option linter.unusedVariables false
set_option linter.unusedSimpArgs false

/-! ### laws_toFuncS: function 73 -/
def laws_toFuncS.l0 : Nat → List (S145) → List (S149) → Int → Option ((List (S149)))
 | 0, _, _, _ => none
 | k + 1, x0, x3, x4 => if x4 < (x0.length : Int) then (if 0 ≤ x4 then ((laws_toFunc.f k ((rd_T145 x0 x4).f0) ((rd_T145 x0 x4).f1) ((rd_T145 x0 x4).f2) ((rd_T145 x0 x4).f3) ((rd_T145 x0 x4).f4)).bind fun bt524 => (if x4 < (x3.length : Int) then (laws_toFuncS.l0 k x0 (x3.set (x4 : Int).toNat (⟨bt524.1, bt524.2.1, bt524.2.2.1, bt524.2.2.2.1, bt524.2.2.2.2⟩ : S149)) (wrap64 (x4 + 1))) else (none))) else (none)) else (some x3)
def laws_toFuncS.f (k : Nat) (l0 : List (S145)) : Option ((List (S149))) := if 0 ≤ (l0.length : Int) then (if ((l0.length : Int) : Int).toNat ≤ 3518437208883 then (laws_toFuncS.l0 k l0 (List.replicate ((l0.length : Int) : Int).toNat z149) 0) else (none)) else (none)
set_option maxHeartbeats 8000000 in
set_option maxRecDepth 100000 in
theorem laws_toFuncS.calls (k : Nat) (A0 : Option Addr) (c0 : Nat) (l0 : List (S145)) (r : List (S149)) (w : World) (hr0 : Kd.C k145 w A0 l0.length l0) (hc0 : l0.length ≤ c0) (h : laws_toFuncS.f k l0 = some r) :
 Calls Tryd.prog 73 #[.slice A0 l0.length c0] w fun e w' => ∃ v0_ : Value, e = .returned (v0_) ∧ Kd.R k149 149 w' w.heap.size (fun _ => True) v0_ r ∧ Below w.heap.size w w' := by
 have hu145 := Tryd.underlying145
 have hu149 := Tryd.underlying149
 have HR0 := Aside0.mk hr0
 have HC0 := Aside0.mk hc0
 clear hr0 hc0
 have HB := Aside0.mk (Below.refl w.heap.size w)
 have H : (if 0 ≤ (l0.length : Int) then (if ((l0.length : Int) : Int).toNat ≤ 3518437208883 then (laws_toFuncS.l0 k l0 (List.replicate ((l0.length : Int) : Int).toNat z149) 0) else (none)) else (none)) = some r := h
 clear h
 by_cases c2 : 0 ≤ (l0.length : Int)
 · rw [if_pos c2] at H
   have c2b0 := eq_true c2
   have c2b1 : decide (0 ≤ (l0.length : Int)) = true := decide_eq_true c2
   clear c2
   by_cases c3 : ((l0.length : Int) : Int).toNat ≤ 3518437208883
   · rw [if_pos c3] at H
     have c3b0 := eq_true c3
     have c3b1 : decide (((l0.length : Int) : Int).toNat ≤ 3518437208883) = true := decide_eq_true c3
     clear c3
     obtain ⟨y520, hy520⟩ : ∃ y_ : List (S149), y_ = (List.replicate ((l0.length : Int) : Int).toNat z149) := ⟨_, rfl⟩
     replace H : (laws_toFuncS.l0 k l0 y520 0) = some r := by first | (rw [hy520]; with_reducible exact H) | (have H2_ := (Option.bind_some _ _).symm.trans H; rw [hy520]; with_reducible exact H2_) | (have H2_ := (Option.bind_some _ _).symm.trans H; with_reducible exact H2_) | with_reducible exact H | (rw [hy520]; exact H) | exact H
     have Ny520 := Aside0.mk hy520
     clear hy520
     have H' := Aside0.mk H
     clear H
     go_enter Tryd.func73, Tryd.ntmps73
     go_wp2_with (first | ((with_reducible refine gate_dst (N := 7) rfl ?_); refine Kd.R_make k149 _ 149 rfl (N := 7) rfl 73 _ _ rfl (l0.length : Int) rfl rfl Tryd.underlying73 (.agg #[(.string ⟨#[]⟩), (.int .i64 0), (.slice none 0 0), (.int .i64 0), (.slice none 0 0)]) 80 info149 rfl (by decide) (by omega) z149 (ok := fun _ => True) (okp := fun _ => True) (k149_mkM _ _ _ z149 (Kd.R_nil _ _ _ _ _) (Kd.R_nil _ _ _ _ _)) (fun _ hk => hk) trivial (of_decide_eq_true (by first | (with_reducible assumption) | assumption)) (Nat.le_trans (Nat.mul_le_mul_right _ (of_decide_eq_true (by first | (with_reducible assumption) | assumption) : (l0.length : Int).toNat ≤ 3518437208883)) (by omega)) (Below.refl _ _) (Nat.le_refl _) ?_; intro v521 w4 ho5 hb hg_ hnew_; clear hg_ hnew_; (first | rw [← Ny520.out] at ho5 | (simp only [Int.reduceToNat] at ho5; rw [← Ny520.out] at ho5)); have n0_ := Aside0.mk (Kd.R_lower ho5 (below_size (by repeat (first | (with_reducible first | exact HB.out | apply below_alloc | apply pw_below_drewN | apply below_drew1) | exact HB.out)))); have n1_ := Aside0.mk (below_step (by repeat (first | (with_reducible first | exact HB.out | apply below_alloc | apply pw_below_drewN | apply below_drew1) | exact HB.out)) hb); clear HB; have HO522 := n0_; have HB := n1_; clear n0_ n1_; clear hb ho5))
     go_loopg [4] k (fun kq v4 w' => ∃ (x3_1 : List (S149)) (x4_1 : Int), v4 = .int .i64 x4_1 ∧ Aside0 (laws_toFuncS.l0 kq l0 x3_1 x4_1 = some r) ∧ Aside0 (kq ≤ k) ∧ Aside0 (Kd.R k149 149 w' w.heap.size (fun _ => True) v521 x3_1) ∧ Aside0 (Below w.heap.size w w'))
     case atStart => exact ⟨(y520), (0), (by first | rfl | (simp; done) | (simp [*]; done)), H', ⟨Nat.le_refl _⟩, ⟨by (with_reducible repeat (first | apply Kd.R_alloc | apply Kd.R_drewN | apply Kd.R_drew)); exact HO522.out⟩, ⟨by repeat (first | (with_reducible first | exact HB.out | apply below_alloc | apply pw_below_drewN | apply below_drew1) | exact HB.out)⟩⟩
     case round =>
      clear H'
      try clear c2
      try clear c2b0
      try clear c2b1
      try clear p2
      try clear c3
      try clear c3b0
      try clear c3b1
      obtain ⟨x3_1, x4_1, rfl, HA, HK1, HO_3, HB⟩ := hrel
      cases gk with
      | zero => exact absurd HA.out (by simp [laws_toFuncS.l0])
      | succ k1 =>
       have H := HA.out
       clear HA
       simp only [laws_toFuncS.l0] at H
       by_cases c6 : x4_1 < (l0.length : Int)
       · rw [if_pos c6] at H
         have c6b0 : decide (x4_1 < (l0.length : Int)) = true := decide_eq_true c6
         clear c6
         by_cases c7 : 0 ≤ x4_1
         · rw [if_pos c7] at H
           have c7b0 : decide (0 ≤ x4_1) = true := decide_eq_true c7
           clear c7
           replace H := Option.bind_eq_some_iff.mp H
           obtain ⟨⟨t524, t525, t526, t529, t530⟩, A80, H⟩ := H
           replace H : (if x4_1 < (x3_1.length : Int) then (laws_toFuncS.l0 k1 l0 (x3_1.set (x4_1 : Int).toNat (⟨t524, t525, t526, t529, t530⟩ : S149)) (wrap64 (x4_1 + 1))) else (none)) = some r := H
           have A8 := Aside0.mk A80
           clear A80
           by_cases c9 : x4_1 < (x3_1.length : Int)
           · rw [if_pos c9] at H
             have c9b0 : decide (x4_1 < (x3_1.length : Int)) = true := decide_eq_true c9
             clear c9
             obtain ⟨y533, hy533⟩ : ∃ y_ : List (S149), y_ = (x3_1.set (x4_1 : Int).toNat (⟨t524, t525, t526, t529, t530⟩ : S149)) := ⟨_, rfl⟩
             replace H : (laws_toFuncS.l0 k1 l0 y533 (wrap64 (x4_1 + 1))) = some r := by first | (rw [hy533]; with_reducible exact H) | (have H2_ := (Option.bind_some _ _).symm.trans H; rw [hy533]; with_reducible exact H2_) | (have H2_ := (Option.bind_some _ _).symm.trans H; with_reducible exact H2_) | with_reducible exact H | (rw [hy533]; exact H) | exact H
             have Ny533 := Aside0.mk hy533
             clear hy533
             have H' := Aside0.mk H
             clear H
             have p523 : 0 ≤ (x4_1 : Int) := of_decide_eq_true (by first | (with_reducible assumption) | assumption)
             have q523 : x4_1 < (l0.length : Int) := of_decide_eq_true (by first | (with_reducible assumption) | assumption)
             obtain ⟨ad523, A523_2, c523_2, A523_4, c523_4, e523, hx523_0, hx523_1, hx523_2, hx523_3, hx523_4, hl523_2, hi523_2, hl523_4, hi523_4⟩ := at_T145 HR0.out x4_1 p523 q523
             cases e523
             replace hx523_0 := (HB.out.cell (World.block_lt_of_cell? w _ hx523_0)).trans hx523_0
             replace hx523_1 := (HB.out.cell (World.block_lt_of_cell? w _ hx523_1)).trans hx523_1
             replace hx523_2 := (HB.out.cell (World.block_lt_of_cell? w _ hx523_2)).trans hx523_2
             replace hx523_3 := (HB.out.cell (World.block_lt_of_cell? w _ hx523_3)).trans hx523_3
             replace hx523_4 := (HB.out.cell (World.block_lt_of_cell? w _ hx523_4)).trans hx523_4
             have HR523_2 := Aside0.mk hi523_2
             have HC523_2 := Aside0.mk hl523_2
             clear hi523_2 hl523_2
             have HR523_4 := Aside0.mk hi523_4
             have HC523_4 := Aside0.mk hl523_4
             clear hi523_4 hl523_4
             replace p523 := eq_true p523
             replace q523 := eq_true q523
             go_wp2_with (first | ((with_reducible refine gate_callee (f := 94) rfl ?_); refine goesL_ (some 20) rfl rfl Tryd.func94 (by kernel_rfl) rfl #[.agg #[.string ((rd_T145 l0 x4_1).f0), .int .i64 ((rd_T145 l0 x4_1).f1), .slice A523_2 ((rd_T145 l0 x4_1).f2).length c523_2, .int .i64 ((rd_T145 l0 x4_1).f3), .slice A523_4 ((rd_T145 l0 x4_1).f4).length c523_4]] rfl (by (try simp only [List.map_toArray, List.map_cons, List.map_nil]); first | done | rfl | (simp only [List.length_drop, List.length_take]; rfl)) ?_; (with_reducible refine (laws_toFunc.calls k1 ((rd_T145 l0 x4_1).f0) ((rd_T145 l0 x4_1).f1) _ _ ((rd_T145 l0 x4_1).f2) ((rd_T145 l0 x4_1).f3) _ _ ((rd_T145 l0 x4_1).f4) t524 t525 t526 t529 t530 _ ?side1 ?side2 ?side3 ?side4 A8.out).mono ?_); (case side1 => repeat (first | exact (Kd.C_below HR523_2.out HB.out) | (with_reducible refine Kd.C_alloc ?_ _) | (with_reducible refine Kd.C_drewN ?_ _) | (with_reducible refine Kd.C_drew ?_))); (case side2 => exact HC523_2.out); (case side3 => repeat (first | exact (Kd.C_below HR523_4.out HB.out) | (with_reducible refine Kd.C_alloc ?_ _) | (with_reducible refine Kd.C_drewN ?_ _) | (with_reducible refine Kd.C_drew ?_))); (case side4 => exact HC523_4.out); rintro e w11 ⟨v527, v531, rfl, ho0, ho1, hb⟩; refine ⟨_, rfl, ?_⟩; have n0_ := Aside0.mk (Kd.R_mono (Kd.R_told (Kd.R_told (Kd.R_old (by (with_reducible repeat (first | apply Kd.R_alloc | apply Kd.R_drewN | apply Kd.R_drew)); exact HO_3.out) hb) (Kd.R_base ho0)) (Kd.R_base ho1)) (fun _ h_ => h_.1)); have n1_ := Aside0.mk (Kd.R_lower ho0 (below_size (by repeat (first | (with_reducible first | exact HB.out | apply below_alloc | apply pw_below_drewN | apply below_drew1) | exact HB.out)))); have n2_ := Aside0.mk (Kd.R_lower ho1 (below_size (by repeat (first | (with_reducible first | exact HB.out | apply below_alloc | apply pw_below_drewN | apply below_drew1) | exact HB.out)))); have n3_ := Aside0.mk (below_step (by repeat (first | (with_reducible first | exact HB.out | apply below_alloc | apply pw_below_drewN | apply below_drew1) | exact HB.out)) hb); clear HO_3; clear HB; have HO_3 := n0_; have HO528 := n1_; have HO532 := n2_; have HB := n3_; clear n0_ n1_ n2_ n3_; (try clear hb); (try clear hb2); (try clear hk); (try clear hi); (try clear ho0); (try clear ho1); have p10 : 0 ≤ (x4_1 : Int) := of_decide_eq_true (by first | (with_reducible assumption) | assumption); have q10 : (x4_1 : Int) < ((x3_1.length : Int) : Int) := of_decide_eq_true (by first | (with_reducible assumption) | assumption); obtain ⟨go10, co10, eo10, gb10, gl10, cl10, HG10⟩ := Kd.R_form HO_3.out (by omega); (first | cases eo10 | (injection eo10 with ea_ en_ ec_; (first | subst ea_ | (injection ea_ with ea_; subst ea_)); subst ec_; clear en_)); have GB10 := Aside0.mk gb10; have GG10 := Aside0.mk HG10; clear gb10 gl10 HG10; obtain ⟨ce10, hcl10, hM10, hcc10, hfr10⟩ := Kd.R_elem HO_3.out z149 (x4_1 : Int) p10 q10; obtain ⟨ve10_2, ve10_4, rfl, ge10_2, ge10_4⟩ := k149_openM hM10; have hx10_0 : w11.cell? ⟨go10, (x4_1 : Int).toNat * 5, none⟩ = some (.string ((rd_T149 x3_1 x4_1).f0)) := hcc10 0 _ rfl; have hx10_1 : w11.cell? ⟨go10, (x4_1 : Int).toNat * 5 + 1, none⟩ = some (.int .i64 ((rd_T149 x3_1 x4_1).f1)) := hcc10 1 _ rfl; have hx10_2 : w11.cell? ⟨go10, (x4_1 : Int).toNat * 5 + 2, none⟩ = some (ve10_2) := hcc10 2 _ rfl; have hx10_3 : w11.cell? ⟨go10, (x4_1 : Int).toNat * 5 + 3, none⟩ = some (.int .i64 ((rd_T149 x3_1 x4_1).f3)) := hcc10 3 _ rfl; have hx10_4 : w11.cell? ⟨go10, (x4_1 : Int).toNat * 5 + 4, none⟩ = some (ve10_4) := hcc10 4 _ rfl; have hf10_0 : w11.frozen? ⟨go10, (x4_1 : Int).toNat * 5, none⟩ = false := hfr10 0; have hf10_1 : w11.frozen? ⟨go10, (x4_1 : Int).toNat * 5 + 1, none⟩ = false := hfr10 1; have hf10_2 : w11.frozen? ⟨go10, (x4_1 : Int).toNat * 5 + 2, none⟩ = false := hfr10 2; have hf10_3 : w11.frozen? ⟨go10, (x4_1 : Int).toNat * 5 + 3, none⟩ = false := hfr10 3; have hf10_4 : w11.frozen? ⟨go10, (x4_1 : Int).toNat * 5 + 4, none⟩ = false := hfr10 4; clear hcl10 hcc10 hfr10 hM10; replace p10 := eq_true p10; replace q10 := eq_true q10; have n_ := Aside0.mk (Kd.R_mono (ok' := (fun k_ => some k_ ≠ (v527 : Value).ownBlock ∧ some k_ ≠ (v531 : Value).ownBlock)) HO_3.out (fun k_ hk => ⟨hk.1.2, hk.2⟩)); clear HO_3; have HO_3 := n_; clear n_; have HX12 := Aside0.mk (show Kd.R k149 149 w11 w.heap.size (fun _ => True) (.slice (some ⟨go10, 0, none⟩) x3_1.length co10) x3_1 from (by (with_reducible repeat (first | apply Kd.R_alloc | apply Kd.R_drewN | apply Kd.R_drew)); exact Kd.R_mono HO_3.out (fun _ hk => trivial))); obtain ⟨ce12, hcl12, hM12, hcc12, hfr12⟩ := Kd.R_elem HX12.out z149 (x4_1 : Int) (of_decide_eq_true (by first | (with_reducible assumption) | assumption)) (by have h_ : (x4_1 : Int) < ((x3_1.length : Int) : Int) := of_decide_eq_true (by first | (with_reducible assumption) | assumption); first | exact h_ | (have e_ := (Kd.R_reads' HO_3.out).1; omega) | simpa using h_); obtain ⟨ve12_2, ve12_4, rfl, ge12_2, ge12_4⟩ := k149_openM hM12; have HP12 := Kd.R_seg HX12.out (x4_1 : Int) (of_decide_eq_true (by first | (with_reducible assumption) | assumption)) (by have h_ : (x4_1 : Int) < ((x3_1.length : Int) : Int) := of_decide_eq_true (by first | (with_reducible assumption) | assumption); first | exact h_ | (have e_ := (Kd.R_reads' HO_3.out).1; omega) | simpa using h_) (seg := [.string t524, .int .i64 t525, v527, .int .i64 t529, v531]) (j := 0) hcl12 hcc12 (show 5 ≤ 5 from by decide) (x' := (⟨t524, t525, t526, t529, t530⟩ : S149)) (k149_mkM _ _ _ (⟨t524, t525, t526, t529, t530⟩ : S149) (Kd.R_mono (Kd.R_apart' (HO528.out) (Kd.R_typed HO_3.out) (by decide)) (fun k_ hk => ⟨trivial, fun e_ => (hk.2) (by rw [e_]; rfl)⟩)) (Kd.R_mono (Kd.R_apart' (HO532.out) (Kd.R_typed HO_3.out) (by decide)) (fun k_ hk => ⟨trivial, fun e_ => (hk.2) (by rw [e_]; rfl)⟩))) (fun _ hk => hk); have hx12_0 := hcc12 0 _ rfl; (try simp only [show (k149).sz = 5 from rfl, Nat.mul_one, Nat.add_zero] at hx12_0); have hf12_0 := hfr12 0; (try simp only [show (k149).sz = 5 from rfl, Nat.mul_one, Nat.add_zero] at hf12_0); have hx12_1 := hcc12 1 _ rfl; (try simp only [show (k149).sz = 5 from rfl, Nat.mul_one, Nat.add_zero] at hx12_1); have hf12_1 := hfr12 1; (try simp only [show (k149).sz = 5 from rfl, Nat.mul_one, Nat.add_zero] at hf12_1); have hx12_2 := hcc12 2 _ rfl; (try simp only [show (k149).sz = 5 from rfl, Nat.mul_one, Nat.add_zero] at hx12_2); have hf12_2 := hfr12 2; (try simp only [show (k149).sz = 5 from rfl, Nat.mul_one, Nat.add_zero] at hf12_2); have hx12_3 := hcc12 3 _ rfl; (try simp only [show (k149).sz = 5 from rfl, Nat.mul_one, Nat.add_zero] at hx12_3); have hf12_3 := hfr12 3; (try simp only [show (k149).sz = 5 from rfl, Nat.mul_one, Nat.add_zero] at hf12_3); have hx12_4 := hcc12 4 _ rfl; (try simp only [show (k149).sz = 5 from rfl, Nat.mul_one, Nat.add_zero] at hx12_4); have hf12_4 := hfr12 4; (try simp only [show (k149).sz = 5 from rfl, Nat.mul_one, Nat.add_zero] at hf12_4); clear hcl12 hcc12 hfr12 hM12) | ((with_reducible refine gate_store (t := 149) (p := 21) rfl ?_); (try have st12_2 := fun (a_ : Addr) (m_ : Mode) (W_ : World) => run_store Tryd.prog W_ a_ v527 m_ (Kd.R_val HO528.out).2); (try have st12_4 := fun (a_ : Addr) (m_ : Mode) (W_ : World) => run_store Tryd.prog W_ a_ v531 m_ (Kd.R_val HO532.out).2); refine store_event (t := 149) (p := 21) (v := ?vo_w13) (w1 := (((((w11.setCell ⟨go10, (x4_1 : Int).toNat * 5, none⟩ (.string t524)).setCell ⟨go10, (x4_1 : Int).toNat * 5 + 1, none⟩ (.int .i64 t525)).setCell ⟨go10, (x4_1 : Int).toNat * 5 + 2, none⟩ (v527)).setCell ⟨go10, (x4_1 : Int).toNat * 5 + 3, none⟩ (.int .i64 t529)).setCell ⟨go10, (x4_1 : Int).toNat * 5 + 4, none⟩ (v531))) ?hg ?ho ?hn ?hr ?_; (case ho => rfl); (case hg => rfl); (case hn => rfl); (case hr => first | (go_simp; done) | (go_simp; rfl)); intro w13 hw; have hg : w11.grownBy w13 (some go10) := (by rw [hw]; exact HP12.2); have hp_ : Kd.R k149 149 w13 w.heap.size (fun _ => True) (.slice (some ⟨go10, 0, none⟩) x3_1.length co10) y533 := (by rw [hw, Ny533.out]; exact HP12.1); clear HP12; (try clear st12_2); (try clear st12_4); have n0_ := Aside0.mk (hp_); have n1_ := Aside0.mk ((by rw [hw]; exact below_set (below_set (below_set (below_set (below_set (HB.out) GB10.out) GB10.out) GB10.out) GB10.out) GB10.out : Below w.heap.size w w13)); clear HO_3; clear HB; clear HO528; clear HO532; have HO_3 := n0_; have HB := n1_; clear n0_ n1_; clear hg hw hp_))
             go_roundg k1
             case measure => have := HK1.out; omega
             case rel => exact ⟨(y533), (wrap64 (x4_1 + 1)), (by first | rfl | (simp; done) | (simp [*]; done)), H', ⟨by have := HK1.out; omega⟩, ⟨by (with_reducible repeat (first | apply Kd.R_alloc | apply Kd.R_drewN | apply Kd.R_drew)); exact HO_3.out⟩, ⟨by repeat (first | (with_reducible first | exact HB.out | apply below_alloc | apply pw_below_drewN | apply below_drew1) | exact HB.out)⟩⟩
           · rw [if_neg c9] at H
             exact absurd H (by simp)
         · rw [if_neg c7] at H
           exact absurd H (by simp)
       · rw [if_neg c6] at H
         have c6b0 : decide (x4_1 < (l0.length : Int)) = false := decide_eq_false c6
         clear c6
         obtain rfl := Option.some.inj H
         go_wp2
         go_ret
         exact ⟨_, by first | rfl | (simp [errW_none, errW_some] <;> rfl) | (simp [*, errW_none, errW_some] <;> rfl), by (with_reducible repeat (first | apply Kd.R_alloc | apply Kd.R_drewN | apply Kd.R_drew)); exact HO_3.out, by repeat (first | (with_reducible first | exact HB.out | apply below_alloc | apply pw_below_drewN | apply below_drew1) | exact HB.out)⟩
   · rw [if_neg c3] at H
     exact absurd H (by simp)
 · rw [if_neg c2] at H
   exact absurd H (by simp)

end Go.Proofs.YtkohjiajbdkcbaaDoor.All


namespace Go.Proofs.YtkohjiajbdkcbaaDoor.All
open Go.RowKit Go.Proofs.YtkohjiajbdkcbaaDoorW.PrintWords Go.Proofs.YtkohjiajbdkcbaaDoorW.PrintLast Go.Proofs.YtkohjiajbdkcbaaDoorW.PrintMore
attribute [local go_sem] max2_int min2_int max_two min_two max_three min_three max_four min_four   -- for this text's walks alone
set_option linter.unusedVariables false
set_option linter.unusedSimpArgs false

/-! ### laws_toModule: function 31 -/
def laws_toModule.f (k : Nat) (l0_0 : List (S141)) (l0_1 : List (S145)) : Option ((List (S127)) × (List (S149))) := (laws_toGlobalS.f k l0_0).bind fun t537 => ((laws_toFuncS.f k l0_1).bind fun t540 => (some (t537, t540)))
set_option maxHeartbeats 8000000 in
set_option maxRecDepth 100000 in
theorem laws_toModule.calls (k : Nat) (A0_0 : Option Addr) (c0_0 : Nat) (l0_0 : List (S141)) (A0_1 : Option Addr) (c0_1 : Nat) (l0_1 : List (S145)) (r1 : List (S127)) (r2 : List (S149)) (w : World) (hr0_0 : Kd.C k141 w A0_0 l0_0.length l0_0) (hc0_0 : l0_0.length ≤ c0_0) (hr0_1 : Kd.C k145 w A0_1 l0_1.length l0_1) (hc0_1 : l0_1.length ≤ c0_1) (h : laws_toModule.f k l0_0 l0_1 = some (r1, r2)) :
 Calls Tryd.prog 31 #[.agg #[.slice A0_0 l0_0.length c0_0, .slice A0_1 l0_1.length c0_1]] w fun e w' => ∃ v0_ v1_ : Value, e = .returned (.agg #[v0_, v1_]) ∧ Kd.S k127 127 w' w.heap.size (fun _ => True) v0_ r1 ∧ Kd.R k149 149 w' w.heap.size (fun _ => True) v1_ r2 ∧ Below w.heap.size w w' := by
 have hu67 := Tryd.underlying67
 have hu75 := Tryd.underlying75
 have HR0_0 := Aside0.mk hr0_0
 have HC0_0 := Aside0.mk hc0_0
 clear hr0_0 hc0_0
 have HR0_1 := Aside0.mk hr0_1
 have HC0_1 := Aside0.mk hc0_1
 clear hr0_1 hc0_1
 have HB := Aside0.mk (Below.refl w.heap.size w)
 have H : ((laws_toGlobalS.f k l0_0).bind fun t537 => ((laws_toFuncS.f k l0_1).bind fun t540 => (some (t537, t540)))) = some (r1, r2) := h
 clear h
 replace H := Option.bind_eq_some_iff.mp H
 obtain ⟨t537, A20, H⟩ := H
 replace H : ((laws_toFuncS.f k l0_1).bind fun t540 => (some (t537, t540))) = some (r1, r2) := H
 have A2 := Aside0.mk A20
 clear A20
 replace H := Option.bind_eq_some_iff.mp H
 obtain ⟨t540, A30, H⟩ := H
 replace H : (some (t537, t540)) = some (r1, r2) := H
 have A3 := Aside0.mk A30
 clear A30
 simp only [Option.some.injEq, Prod.mk.injEq] at H
 obtain ⟨rfl, rfl⟩ := H
 go_enter Tryd.func31, Tryd.ntmps31
 go_wp2_with (first | ((with_reducible refine gate_dst (N := 1) rfl ?_); refine box_event ?hg (N := 1) ?hd (cs := #[.slice A0_0 l0_0.length c0_0, .slice A0_1 l0_1.length c0_1]) (t := 67) ?hr ?_; (case hd => rfl); (case hg => rfl); (case hr => first | (go_simp; done) | (go_simp; rfl)); intro gb534 hg w4 hbox hb; have n0_ := Aside0.mk (below_step (by repeat (first | (with_reducible first | exact HB.out | apply below_alloc | apply pw_below_drewN | apply below_drew1) | exact HB.out)) hb); have n1_ := Aside0.mk (hbox); have n2_ := Aside0.mk ((by rw [hg]; exact (below_size (by repeat (first | (with_reducible first | exact HB.out | apply below_alloc | apply pw_below_drewN | apply below_drew1) | exact HB.out))) : w.heap.size ≤ gb534)); have n3_ := Aside0.mk ((by rw [hg]; exact (below_size (by repeat (first | (with_reducible first | exact HB.out | apply below_alloc | apply pw_below_drewN | apply below_drew1) | exact HB.out))) : w.heap.size ≤ gb534)); clear HB; have HB := n0_; have BK534 := n1_; have GW534 := n2_; have GE534 := n3_; clear n0_ n1_ n2_ n3_; clear hb hbox hg) | ((with_reducible refine gate_dst (N := 2) rfl ?_); refine box_event ?hg (N := 2) ?hd (cs := #[.slice none 0 0, .slice none 0 0]) (t := 75) ?hr ?_; (case hd => rfl); (case hg => rfl); (case hr => first | (go_simp; done) | (go_simp; rfl)); intro gb535 hg w5 hbox hb; have n0_ := Aside0.mk (blk_below (g := gb534) (o := .cells #[.slice A0_0 l0_0.length c0_0, .slice A0_1 l0_1.length c0_1] 67 (0, 0)) (by (with_reducible repeat (first | refine blk_drewN ?_ _ | refine blk_drew ?_ | refine blk_alloc ?_ _)); exact BK534.out) hb); have n1_ := Aside0.mk (below_step (by repeat (first | (with_reducible first | exact HB.out | apply below_alloc | apply pw_below_drewN | apply below_drew1 | refine below_set ?_ GE534.out) | exact HB.out)) hb); have n2_ := Aside0.mk (hbox); have n3_ := Aside0.mk ((by rw [hg]; exact (below_size (by repeat (first | (with_reducible first | exact HB.out | apply below_alloc | apply pw_below_drewN | apply below_drew1 | refine below_set ?_ GE534.out) | exact HB.out))) : w.heap.size ≤ gb535)); have n4_ := Aside0.mk ((by rw [hg]; exact (below_size (by repeat (first | (with_reducible first | exact HB.out | apply below_alloc | apply pw_below_drewN | apply below_drew1 | refine below_set ?_ GE534.out) | exact HB.out))) : w.heap.size ≤ gb535)); have n5_ := Aside0.mk ((by rw [hg]; exact Nat.ne_of_lt (blk_lt (g := gb534) (o := .cells #[.slice A0_0 l0_0.length c0_0, .slice A0_1 l0_1.length c0_1] 67 (0, 0)) (by (with_reducible repeat (first | refine blk_drewN ?_ _ | refine blk_drew ?_ | refine blk_alloc ?_ _)); exact BK534.out)) : gb534 ≠ gb535)); have n6_ := Aside0.mk ((by rw [hg]; exact Nat.ne_of_gt (blk_lt (g := gb534) (o := .cells #[.slice A0_0 l0_0.length c0_0, .slice A0_1 l0_1.length c0_1] 67 (0, 0)) (by (with_reducible repeat (first | refine blk_drewN ?_ _ | refine blk_drew ?_ | refine blk_alloc ?_ _)); exact BK534.out)) : gb535 ≠ gb534)); clear BK534; clear HB; have BK534 := n0_; have HB := n1_; have BK535 := n2_; have GW535 := n3_; have GE535 := n4_; have NB534_535 := n5_; have NB535_534 := n6_; clear n0_ n1_ n2_ n3_ n4_ n5_ n6_; clear hb hbox hg) | ((with_reducible refine gate_dst (N := 3) rfl ?_); refine box_event ?hg (N := 3) ?hd (cs := #[.slice none 0 0, .slice none 0 0]) (t := 75) ?hr ?_; (case hd => rfl); (case hg => rfl); (case hr => first | (go_simp; done) | (go_simp; rfl)); intro gb536 hg w6 hbox hb; have n0_ := Aside0.mk (blk_below (g := gb534) (o := .cells #[.slice A0_0 l0_0.length c0_0, .slice A0_1 l0_1.length c0_1] 67 (0, 0)) (by (with_reducible repeat (first | refine blk_drewN ?_ _ | refine blk_drew ?_ | refine blk_alloc ?_ _)); exact BK534.out) hb); have n1_ := Aside0.mk (blk_below (g := gb535) (o := .cells #[.slice none 0 0, .slice none 0 0] 75 (0, 0)) (by (with_reducible repeat (first | refine blk_drewN ?_ _ | refine blk_drew ?_ | refine blk_alloc ?_ _)); exact BK535.out) hb); have n2_ := Aside0.mk (below_step (by repeat (first | (with_reducible first | exact HB.out | apply below_alloc | apply pw_below_drewN | apply below_drew1 | refine below_set ?_ GE534.out | refine below_set ?_ GE535.out) | exact HB.out)) hb); have n3_ := Aside0.mk (hbox); have n4_ := Aside0.mk ((by rw [hg]; exact (below_size (by repeat (first | (with_reducible first | exact HB.out | apply below_alloc | apply pw_below_drewN | apply below_drew1 | refine below_set ?_ GE534.out | refine below_set ?_ GE535.out) | exact HB.out))) : w.heap.size ≤ gb536)); have n5_ := Aside0.mk ((by rw [hg]; exact (below_size (by repeat (first | (with_reducible first | exact HB.out | apply below_alloc | apply pw_below_drewN | apply below_drew1 | refine below_set ?_ GE534.out | refine below_set ?_ GE535.out) | exact HB.out))) : w.heap.size ≤ gb536)); have n6_ := Aside0.mk ((by rw [hg]; exact Nat.ne_of_lt (blk_lt (g := gb534) (o := .cells #[.slice A0_0 l0_0.length c0_0, .slice A0_1 l0_1.length c0_1] 67 (0, 0)) (by (with_reducible repeat (first | refine blk_drewN ?_ _ | refine blk_drew ?_ | refine blk_alloc ?_ _)); exact BK534.out)) : gb534 ≠ gb536)); have n7_ := Aside0.mk ((by rw [hg]; exact Nat.ne_of_gt (blk_lt (g := gb534) (o := .cells #[.slice A0_0 l0_0.length c0_0, .slice A0_1 l0_1.length c0_1] 67 (0, 0)) (by (with_reducible repeat (first | refine blk_drewN ?_ _ | refine blk_drew ?_ | refine blk_alloc ?_ _)); exact BK534.out)) : gb536 ≠ gb534)); have n8_ := Aside0.mk ((by rw [hg]; exact Nat.ne_of_lt (blk_lt (g := gb535) (o := .cells #[.slice none 0 0, .slice none 0 0] 75 (0, 0)) (by (with_reducible repeat (first | refine blk_drewN ?_ _ | refine blk_drew ?_ | refine blk_alloc ?_ _)); exact BK535.out)) : gb535 ≠ gb536)); have n9_ := Aside0.mk ((by rw [hg]; exact Nat.ne_of_gt (blk_lt (g := gb535) (o := .cells #[.slice none 0 0, .slice none 0 0] 75 (0, 0)) (by (with_reducible repeat (first | refine blk_drewN ?_ _ | refine blk_drew ?_ | refine blk_alloc ?_ _)); exact BK535.out)) : gb536 ≠ gb535)); clear BK534; clear BK535; clear HB; have BK534 := n0_; have BK535 := n1_; have HB := n2_; have BK536 := n3_; have GW536 := n4_; have GE536 := n5_; have NB534_536 := n6_; have NB536_534 := n7_; have NB535_536 := n8_; have NB536_535 := n9_; clear n0_ n1_ n2_ n3_ n4_ n5_ n6_ n7_ n8_ n9_; clear hb hbox hg; have hnb7 := NB534_535.out; have hnc7 := NB535_534.out; have hnb8 := NB534_536.out; have hnc8 := NB536_534.out; have hcz9_0 : w6.cell? ⟨gb534, 0, none⟩ = some (.slice A0_0 l0_0.length c0_0) := (blk_cell BK534.out 0).trans rfl; have hcz9_1 : w6.cell? ⟨gb534, 1, none⟩ = some (.slice A0_1 l0_1.length c0_1) := (blk_cell BK534.out 1).trans rfl; have hfz9_0 := blk_frozen BK534.out 0; have hfz9_1 := blk_frozen BK534.out 1) | ((with_reducible refine gate_callee (f := 72) rfl ?_); refine goesL_ (some 6) rfl rfl Tryd.func72 (by kernel_rfl) rfl #[.slice A0_0 l0_0.length c0_0] rfl (by (try simp only [List.map_toArray, List.map_cons, List.map_nil]); first | done | rfl | (simp only [List.length_drop, List.length_take]; rfl)) ?_; (with_reducible refine (laws_toGlobalS.calls k _ _ l0_0 t537 _ ?side1 ?side2 A2.out).mono ?_); (case side1 => repeat (first | exact (Kd.C_below HR0_0.out HB.out) | (with_reducible refine Kd.C_alloc ?_ _) | (with_reducible refine Kd.C_drewN ?_ _) | (with_reducible refine Kd.C_drew ?_))); (case side2 => exact HC0_0.out); rintro e w10 ⟨v538, rfl, ho0, hb⟩; refine ⟨_, rfl, ?_⟩; have n0_ := Aside0.mk (Kd.S_lower ho0 (below_size (by repeat (first | (with_reducible first | exact HB.out | apply below_alloc | apply pw_below_drewN | apply below_drew1 | refine below_set ?_ GE534.out | refine below_set ?_ GE535.out | refine below_set ?_ GE536.out) | exact HB.out)))); have n1_ := Aside0.mk (blk_below (g := gb534) (o := .cells #[.slice A0_0 l0_0.length c0_0, .slice A0_1 l0_1.length c0_1] 67 (0, 0)) (by (with_reducible repeat (first | refine blk_drewN ?_ _ | refine blk_drew ?_ | refine blk_alloc ?_ _)); exact BK534.out) hb); have n2_ := Aside0.mk (blk_below (g := gb535) (o := .cells #[.slice none 0 0, .slice none 0 0] 75 (0, 0)) (by (with_reducible repeat (first | refine blk_drewN ?_ _ | refine blk_drew ?_ | refine blk_alloc ?_ _)); exact BK535.out) hb); have n3_ := Aside0.mk (blk_below (g := gb536) (o := .cells #[.slice none 0 0, .slice none 0 0] 75 (0, 0)) (by (with_reducible repeat (first | refine blk_drewN ?_ _ | refine blk_drew ?_ | refine blk_alloc ?_ _)); exact BK536.out) hb); have n4_ := Aside0.mk (below_step (by repeat (first | (with_reducible first | exact HB.out | apply below_alloc | apply pw_below_drewN | apply below_drew1 | refine below_set ?_ GE534.out | refine below_set ?_ GE535.out | refine below_set ?_ GE536.out) | exact HB.out)) hb); clear BK534; clear BK535; clear BK536; clear HB; have HO539 := n0_; have BK534 := n1_; have BK535 := n2_; have BK536 := n3_; have HB := n4_; clear n0_ n1_ n2_ n3_ n4_; (try clear hb); (try clear hb2); (try clear hk); (try clear hi); (try clear ho0); obtain ⟨Ao11, co11, eo11⟩ := Kd.S_slice HO539.out; subst eo11; have hnb12 := NB536_535.out; have hnc12 := NB535_536.out; have hcz13_0 : w10.cell? ⟨gb536, 0, none⟩ = some (.slice none 0 0) := (blk_cell BK536.out 0).trans rfl; have hcz13_1 : w10.cell? ⟨gb536, 1, none⟩ = some (.slice none 0 0) := (blk_cell BK536.out 1).trans rfl; have hfz13_0 := blk_frozen BK536.out 0; have hfz13_1 := blk_frozen BK536.out 1; have hcz14_0 : w10.cell? ⟨gb534, 0, none⟩ = some (.slice A0_0 l0_0.length c0_0) := (blk_cell BK534.out 0).trans rfl; have hcz14_1 : w10.cell? ⟨gb534, 1, none⟩ = some (.slice A0_1 l0_1.length c0_1) := (blk_cell BK534.out 1).trans rfl; have hfz14_0 := blk_frozen BK534.out 0; have hfz14_1 := blk_frozen BK534.out 1) | ((with_reducible refine gate_callee (f := 73) rfl ?_); refine goesL_ (some 10) rfl rfl Tryd.func73 (by kernel_rfl) rfl #[.slice A0_1 l0_1.length c0_1] rfl (by (try simp only [List.map_toArray, List.map_cons, List.map_nil]); first | done | rfl | (simp only [List.length_drop, List.length_take]; rfl)) ?_; (with_reducible refine (laws_toFuncS.calls k _ _ l0_1 t540 _ ?side1 ?side2 A3.out).mono ?_); (case side1 => exact Kd.C_below HR0_1.out (by repeat (first | (with_reducible first | exact HB.out | apply below_alloc | apply pw_below_drewN | apply below_drew1 | refine below_set ?_ GE534.out | refine below_set ?_ GE535.out | refine below_set ?_ GE536.out) | exact HB.out))); (case side2 => exact HC0_1.out); rintro e w15 ⟨v541, rfl, ho0, hb⟩; refine ⟨_, rfl, ?_⟩; have n0_ := Aside0.mk (Kd.S_below (by (with_reducible repeat (first | apply Kd.S_alloc | apply Kd.S_drewN | apply Kd.S_drew)); exact (Kd.S_mono (Kd.S_far (p := ⟨gb536, 0, none⟩) (Kd.S_types HO539.out BK536.out (by decide)) (fun _ hk => hk.2) (.slice Ao11 t537.length co11)) (fun _ h_ => h_.1))) hb); have n1_ := Aside0.mk (Kd.R_lower ho0 (below_size (by repeat (first | (with_reducible first | exact HB.out | apply below_alloc | apply pw_below_drewN | apply below_drew1 | refine below_set ?_ GE534.out | refine below_set ?_ GE535.out | refine below_set ?_ GE536.out) | exact HB.out)))); have n2_ := Aside0.mk (blk_below (g := gb534) (o := .cells #[.slice A0_0 l0_0.length c0_0, .slice A0_1 l0_1.length c0_1] 67 (0, 0)) (by (with_reducible repeat (first | refine blk_drewN ?_ _ | refine blk_drew ?_ | refine blk_alloc ?_ _)); refine blk_far ?_ NB534_536.out _; (with_reducible repeat (first | refine blk_drewN ?_ _ | refine blk_drew ?_ | refine blk_alloc ?_ _)); exact BK534.out) hb); have n3_ := Aside0.mk (blk_below (g := gb535) (o := .cells #[.slice none 0 0, .slice none 0 0] 75 (0, 0)) (by (with_reducible repeat (first | refine blk_drewN ?_ _ | refine blk_drew ?_ | refine blk_alloc ?_ _)); refine blk_far ?_ NB535_536.out _; (with_reducible repeat (first | refine blk_drewN ?_ _ | refine blk_drew ?_ | refine blk_alloc ?_ _)); exact BK535.out) hb); have n4_ := Aside0.mk (blk_below (g := gb536) (o := .cells #[.slice Ao11 t537.length co11, .slice none 0 0] 75 (0, 0)) (by (with_reducible repeat (first | refine blk_drewN ?_ _ | refine blk_drew ?_ | refine blk_alloc ?_ _)); refine blk_put (cs := #[.slice none 0 0, .slice none 0 0]) ?_ 0 _ rfl; (with_reducible repeat (first | refine blk_drewN ?_ _ | refine blk_drew ?_ | refine blk_alloc ?_ _)); exact BK536.out) hb); have n5_ := Aside0.mk (below_step (by repeat (first | (with_reducible first | exact HB.out | apply below_alloc | apply pw_below_drewN | apply below_drew1 | refine below_set ?_ GE534.out | refine below_set ?_ GE535.out | refine below_set ?_ GE536.out) | exact HB.out)) hb); clear HO539; clear BK534; clear BK535; clear BK536; clear HB; have HO539 := n0_; have HO542 := n1_; have BK534 := n2_; have BK535 := n3_; have BK536 := n4_; have HB := n5_; clear n0_ n1_ n2_ n3_ n4_ n5_; (try clear hb); (try clear hb2); (try clear hk); (try clear hi); (try clear ho0); obtain ⟨Ao16, co16, eo16⟩ := Kd.R_slice HO542.out; subst eo16; have hcz17_0 : w15.cell? ⟨gb536, 0, none⟩ = some (.slice Ao11 t537.length co11) := (blk_cell BK536.out 0).trans rfl; have hcz17_1 : w15.cell? ⟨gb536, 1, none⟩ = some (.slice none 0 0) := (blk_cell BK536.out 1).trans rfl; have hfz17_0 := blk_frozen BK536.out 0; have hfz17_1 := blk_frozen BK536.out 1; have hcz18_0 : w15.cell? ⟨gb535, 0, none⟩ = some (.slice none 0 0) := (blk_cell BK535.out 0).trans rfl; have hcz18_1 : w15.cell? ⟨gb535, 1, none⟩ = some (.slice none 0 0) := (blk_cell BK535.out 1).trans rfl; have hfz18_0 := blk_frozen BK535.out 0; have hfz18_1 := blk_frozen BK535.out 1))
 refine bodyPost_ret (results_cell_row rfl _ _ gb535 75 #[.slice Ao11 t537.length co11, .slice Ao16 t540.length co16] (0, 0) _ rfl (by (with_reducible repeat (first | refine blk_drewN ?_ _ | refine blk_drew ?_ | refine blk_alloc ?_ _)); refine blk_put (cs := #[.slice Ao11 t537.length co11, .slice none 0 0]) ?_ 1 _ rfl; (with_reducible repeat (first | refine blk_drewN ?_ _ | refine blk_drew ?_ | refine blk_alloc ?_ _)); refine blk_put (cs := #[.slice none 0 0, .slice none 0 0]) ?_ 0 _ rfl; (with_reducible repeat (first | refine blk_drewN ?_ _ | refine blk_drew ?_ | refine blk_alloc ?_ _)); refine blk_far ?_ NB535_536.out _; (with_reducible repeat (first | refine blk_drewN ?_ _ | refine blk_drew ?_ | refine blk_alloc ?_ _)); exact BK535.out) Tryd.underlying75 rfl (by kernel_rfl)) rfl ?_
 exact ⟨_, _, by first | rfl | (simp [errW_none, errW_some] <;> rfl) | (simp [*, errW_none, errW_some] <;> rfl), by (with_reducible repeat (first | apply Kd.S_alloc | apply Kd.S_drewN | apply Kd.S_drew)); exact Kd.S_mono (Kd.S_far (p := ⟨gb535, 1, none⟩) (Kd.S_far (p := ⟨gb535, 0, none⟩) (Kd.S_far (p := ⟨gb536, 1, none⟩) (Kd.S_types (Kd.S_types HO539.out BK536.out (by decide)) BK535.out (by decide)) (fun _ hk => hk.1.2) (.slice Ao16 t540.length co16)) (fun _ hk => hk.2) (.slice Ao11 t537.length co11)) (fun _ hk => hk.2) (.slice Ao16 t540.length co16)) (fun _ hk => trivial), by (with_reducible repeat (first | apply Kd.R_alloc | apply Kd.R_drewN | apply Kd.R_drew)); exact Kd.R_mono (Kd.R_far (p := ⟨gb535, 1, none⟩) (Kd.R_far (p := ⟨gb535, 0, none⟩) (Kd.R_far (p := ⟨gb536, 1, none⟩) (Kd.R_types (Kd.R_types HO542.out BK536.out (by decide)) BK535.out (by decide)) (fun _ hk => hk.1.2) (.slice Ao16 t540.length co16)) (fun _ hk => hk.2) (.slice Ao11 t537.length co11)) (fun _ hk => hk.2) (.slice Ao16 t540.length co16)) (fun _ hk => trivial), by repeat (first | (with_reducible first | exact HB.out | apply below_alloc | apply pw_below_drewN | apply below_drew1 | refine below_set ?_ GE534.out | refine below_set ?_ GE535.out | refine below_set ?_ GE536.out) | exact HB.out)⟩

end Go.Proofs.YtkohjiajbdkcbaaDoor.All


/- Contracts of Go's library at this translation: laid by the shelf's lay-shelf.mjs and lay-plain.mjs, those that this session's claims use. -/
namespace Go.Proofs
open Go.Shelf
set_option linter.unusedVariables false
def Tryd.laysM173_ren : Go.Shelf.Ren := ⟨fun | 173 => 39 | 246 => 76 | 283 => 97 | 284 => 98 | 285 => 99 | 286 => 100 | 129 => 121 | 317 => 120 | 318 => 122 | 319 => 123 | 320 => 124 | 337 => 132 | 338 => 133 | n => n, fun | 2 => 2 | 3 => 3 | 9 => 9 | 4 => 4 | 171 => 153 | 0 => 0 | 53 => 22 | 37 => 41 | 5 => 5 | 173 => 156 | 212 => 171 | 51 => 138 | 20 => 20 | 213 => 172 | 46 => 100 | 232 => 197 | 233 => 198 | n => n, fun | 17 => 0 | 18 => 3 | 19 => 4 | n => n⟩
theorem Tryd.laysM173 : Go.Proofs.LaysM.n173 Tryd.prog Tryd.laysM173_ren := {
  mixed := by kernel_rfl
  f129 := Tryd.func121.trans (congrArg some (by kernel_rfl))
  f173 := Tryd.func39.trans (congrArg some (by kernel_rfl))
  f246 := Tryd.func76.trans (congrArg some (by kernel_rfl))
  f283 := Tryd.func97.trans (congrArg some (by kernel_rfl))
  f284 := Tryd.func98.trans (congrArg some (by kernel_rfl))
  f285 := Tryd.func99.trans (congrArg some (by kernel_rfl))
  f286 := Tryd.func100.trans (congrArg some (by kernel_rfl))
  f317 := Tryd.func120.trans (congrArg some (by kernel_rfl))
  f318 := Tryd.func122.trans (congrArg some (by kernel_rfl))
  f319 := Tryd.func123.trans (congrArg some (by kernel_rfl))
  f320 := Tryd.func124.trans (congrArg some (by kernel_rfl))
  f337 := Tryd.func132.trans (congrArg some (by kernel_rfl))
  f338 := Tryd.func133.trans (congrArg some (by kernel_rfl))
  t0 := Tryd.underlying0
  a0 := Tryd.isAgg0
  z0 := Tryd.sizeOf0
  v0 := Tryd.zeroValue0
  t2 := Tryd.underlying2
  a2 := Tryd.isAgg2
  z2 := Tryd.sizeOf2
  v2 := Tryd.zeroValue2
  t3 := Tryd.underlying3
  a3 := Tryd.isAgg3
  z3 := Tryd.sizeOf3
  v3 := Tryd.zeroValue3
  t4 := Tryd.underlying4
  a4 := Tryd.isAgg4
  z4 := Tryd.sizeOf4
  v4 := Tryd.zeroValue4
  t5 := Tryd.underlying5
  a5 := Tryd.isAgg5
  z5 := Tryd.sizeOf5
  v5 := Tryd.zeroValue5
  t9 := Tryd.underlying9
  a9 := Tryd.isAgg9
  z9 := Tryd.sizeOf9
  v9 := Tryd.zeroValue9
  t20 := Tryd.underlying20
  a20 := Tryd.isAgg20
  z20 := Tryd.sizeOf20
  v20 := Tryd.zeroValue20
  t37 := Tryd.underlying41
  a37 := Tryd.isAgg41
  z37 := Tryd.sizeOf41
  v37 := Tryd.zeroValue41
  t46 := Tryd.underlying100
  a46 := Tryd.isAgg100
  z46 := Tryd.sizeOf100
  v46 := Tryd.zeroValue100
  t51 := Tryd.underlying138
  a51 := Tryd.isAgg138
  z51 := Tryd.sizeOf138
  v51 := Tryd.zeroValue138
  t53 := Tryd.underlying22
  a53 := Tryd.isAgg22
  z53 := Tryd.sizeOf22
  v53 := Tryd.zeroValue22
  t171 := Tryd.underlying153
  a171 := Tryd.isAgg153
  z171 := Tryd.sizeOf153
  v171 := Tryd.zeroValue153
  t173 := Tryd.underlying156
  a173 := Tryd.isAgg156
  z173 := Tryd.sizeOf156
  v173 := Tryd.zeroValue156
  t212 := Tryd.underlying171
  a212 := Tryd.isAgg171
  z212 := Tryd.sizeOf171
  v212 := Tryd.zeroValue171
  t213 := Tryd.underlying172
  a213 := Tryd.isAgg172
  z213 := Tryd.sizeOf172
  t232 := Tryd.underlying197
  a232 := Tryd.isAgg197
  z232 := Tryd.sizeOf197
  v232 := Tryd.zeroValue197
  t233 := Tryd.underlying198
  a233 := Tryd.isAgg198
  z233 := Tryd.sizeOf198
  v233 := Tryd.zeroValue198
  g17 := by kernel_rfl
  g18 := by kernel_rfl
  g19 := by kernel_rfl
  i0 := by kernel_rfl
  i2 := by kernel_rfl
  i3 := by kernel_rfl
  i4 := by kernel_rfl
  i5 := by kernel_rfl
  i9 := by kernel_rfl
  i20 := by kernel_rfl
  i37 := by kernel_rfl
  i46 := by kernel_rfl
  i51 := by kernel_rfl
  i53 := by kernel_rfl
  i171 := by kernel_rfl
  i173 := by kernel_rfl
  i212 := by kernel_rfl
  i232 := by kernel_rfl
  i233 := by kernel_rfl
  m17 := by kernel_rfl
  m18 := by kernel_rfl
  m19 := by kernel_rfl }
open Go.RowKit Go.Sort Go.Lib in
theorem Tryd.strconv_FormatInt_10 (n : Int) (h0 : -9223372036854775808 ≤ n) (h1 : n ≤ 9223372036854775807) (w : World) (htab : Lib.TabIs Tryd.prog w "internal/strconv.uint64pow10" .u64 Lib.pow10Tab) :
    Calls Tryd.prog 39 #[.int .i64 n, .int .i64 10] w fun e w' => e = .returned (.string ⟨(Lib.itoa n).toArray⟩) ∧ ∃ k os, w' = grow (w.drewN k) os := Any.strconv_FormatInt_10 Tryd.laysM173 n h0 h1 w htab
end Go.Proofs


namespace Go.Proofs.YtkohjiajbdkcbaaDoor.All
open Go.RowKit Go.Proofs.YtkohjiajbdkcbaaDoorW.PrintWords Go.Proofs.YtkohjiajbdkcbaaDoorW.PrintLast Go.Proofs.YtkohjiajbdkcbaaDoorW.PrintMore
attribute [local go_sem] max2_int min2_int max_two min_two max_three min_three max_four min_four   -- for this text's walks alone
set_option linter.unusedVariables false
set_option linter.unusedSimpArgs false

/-! ### strconv_FormatInt_39: function 39 -/
def strconv_FormatInt_39.f (a0 : Int) (a1 : Int) : Option (ByteArray) := if -9223372036854775808 ≤ a0 then (if a0 ≤ 9223372036854775807 then (if a1 = 10 then some (⟨(Lib.itoa a0).toArray⟩ : ByteArray) else none) else none) else none
theorem strconv_FormatInt_39.calls (a0 : Int) (a1 : Int) (r : ByteArray) (w : World) (ht : LtTab w) (h : strconv_FormatInt_39.f a0 a1 = some r) :
 Calls Tryd.prog 39 #[.int .i64 a0, .int .i64 a1] w fun e w' => e = .returned (.string r) ∧ Below w.heap.size w w' := by
 unfold strconv_FormatInt_39.f at h
 by_cases h0 : -9223372036854775808 ≤ a0
 · by_cases h1 : a0 ≤ 9223372036854775807
   · by_cases h2 : a1 = 10
     · subst h2
       rw [if_pos h0, if_pos h1, if_pos rfl] at h
       obtain rfl := Option.some.inj h
       refine (Tryd.strconv_FormatInt_10 a0 h0 h1 w ht.here).mono ?_
       rintro e w' ⟨he, q, os, rfl⟩
       exact ⟨he, below_grow w q os⟩
     · rw [if_pos h0, if_pos h1, if_neg h2] at h
       cases h
   · rw [if_pos h0, if_neg h1] at h
     cases h
 · rw [if_neg h0] at h
   cases h

end Go.Proofs.YtkohjiajbdkcbaaDoor.All


namespace Go.Proofs.YtkohjiajbdkcbaaDoor.All
open Go.RowKit Go.Proofs.YtkohjiajbdkcbaaDoorW.PrintWords Go.Proofs.YtkohjiajbdkcbaaDoorW.PrintLast Go.Proofs.YtkohjiajbdkcbaaDoorW.PrintMore
attribute [local go_sem] max2_int min2_int max_two min_two max_three min_three max_four min_four   -- for this text's walks alone
set_option linter.unusedVariables false
set_option linter.unusedSimpArgs false

/-! ### impl_ValidWidth: function 46 -/
def impl_ValidWidth.f (a0 : Int) : Option (Bool) := if a0 = 1 then (some true) else (if a0 = 8 then (some true) else (if a0 = 16 then (some true) else (if a0 = 32 then (some true) else (some (a0 == 64)))))
set_option maxHeartbeats 8000000 in
set_option maxRecDepth 100000 in
theorem impl_ValidWidth.calls (a0 : Int) (r : Bool) (w : World) (h : impl_ValidWidth.f a0 = some r) :
 Calls Tryd.prog 46 #[.int .i64 a0] w fun e w' => e = .returned (.bool r) ∧ Drawn0 w w' := by
 have H : (if a0 = 1 then (some true) else (if a0 = 8 then (some true) else (if a0 = 16 then (some true) else (if a0 = 32 then (some true) else (some (a0 == 64)))))) = some r := h
 clear h
 by_cases c2 : a0 = 1
 · rw [if_pos c2] at H
   have c2b0 : (a0 == 1) = true := beq_iff_eq.mpr c2
   have c2b1 : (a0 != 1) = false := bne_eq_false_iff_eq.mpr c2
   clear c2
   obtain rfl := Option.some.inj H
   go_enter Tryd.func46, Tryd.ntmps46
   go_wp2
   go_ret
   exact ⟨by first | rfl | (simp; done) | (simp [*]; done), by repeat (first | exact Drawn0.refl _ | apply Drawn0.step)⟩
 · rw [if_neg c2] at H
   have c2b0 : (a0 == 1) = false := beq_eq_false_iff_ne.mpr c2
   have c2b1 : (a0 != 1) = true := bne_iff_ne.mpr c2
   by_cases c3 : a0 = 8
   · rw [if_pos c3] at H
     have c3b0 : (a0 == 8) = true := beq_iff_eq.mpr c3
     have c3b1 : (a0 != 8) = false := bne_eq_false_iff_eq.mpr c3
     clear c3
     obtain rfl := Option.some.inj H
     go_enter Tryd.func46, Tryd.ntmps46
     go_wp2
     go_ret
     exact ⟨by first | rfl | (simp; done) | (simp [*]; done), by repeat (first | exact Drawn0.refl _ | apply Drawn0.step)⟩
   · rw [if_neg c3] at H
     have c3b0 : (a0 == 8) = false := beq_eq_false_iff_ne.mpr c3
     have c3b1 : (a0 != 8) = true := bne_iff_ne.mpr c3
     by_cases c4 : a0 = 16
     · rw [if_pos c4] at H
       have c4b0 : (a0 == 16) = true := beq_iff_eq.mpr c4
       have c4b1 : (a0 != 16) = false := bne_eq_false_iff_eq.mpr c4
       clear c4
       obtain rfl := Option.some.inj H
       go_enter Tryd.func46, Tryd.ntmps46
       go_wp2
       go_ret
       exact ⟨by first | rfl | (simp; done) | (simp [*]; done), by repeat (first | exact Drawn0.refl _ | apply Drawn0.step)⟩
     · rw [if_neg c4] at H
       have c4b0 : (a0 == 16) = false := beq_eq_false_iff_ne.mpr c4
       have c4b1 : (a0 != 16) = true := bne_iff_ne.mpr c4
       by_cases c5 : a0 = 32
       · rw [if_pos c5] at H
         have c5b0 : (a0 == 32) = true := beq_iff_eq.mpr c5
         have c5b1 : (a0 != 32) = false := bne_eq_false_iff_eq.mpr c5
         clear c5
         obtain rfl := Option.some.inj H
         go_enter Tryd.func46, Tryd.ntmps46
         go_wp2
         go_ret
         exact ⟨by first | rfl | (simp; done) | (simp [*]; done), by repeat (first | exact Drawn0.refl _ | apply Drawn0.step)⟩
       · rw [if_neg c5] at H
         have c5b0 : (a0 == 32) = false := beq_eq_false_iff_ne.mpr c5
         have c5b1 : (a0 != 32) = true := bne_iff_ne.mpr c5
         obtain rfl := Option.some.inj H
         go_enter Tryd.func46, Tryd.ntmps46
         go_wp2
         go_ret
         exact ⟨by first | rfl | (simp; done) | (simp [*]; done), by repeat (first | exact Drawn0.refl _ | apply Drawn0.step)⟩

end Go.Proofs.YtkohjiajbdkcbaaDoor.All


namespace Go.Proofs.YtkohjiajbdkcbaaDoor.All
open Go.RowKit Go.Proofs.YtkohjiajbdkcbaaDoorW.PrintWords Go.Proofs.YtkohjiajbdkcbaaDoorW.PrintLast Go.Proofs.YtkohjiajbdkcbaaDoorW.PrintMore
attribute [local go_sem] max2_int min2_int max_two min_two max_three min_three max_four min_four   -- for this text's walks alone
set_option linter.unusedVariables false
set_option linter.unusedSimpArgs false

/-! ### impl_mask: function 49 -/
def impl_mask.f (a0 : Int) : Option (Int) := if 0 ≤ (wrap64 (64 - a0)) then (some (shr .u64 18446744073709551615 (wrap64 (64 - a0)))) else (none)
set_option maxHeartbeats 8000000 in
set_option maxRecDepth 100000 in
theorem impl_mask.calls (a0 : Int) (r : Int) (w : World) (h : impl_mask.f a0 = some r) :
 Calls Tryd.prog 49 #[.int .i64 a0] w fun e w' => e = .returned (.int .u64 r) ∧ Drawn0 w w' := by
 have H : (if 0 ≤ (wrap64 (64 - a0)) then (some (shr .u64 18446744073709551615 (wrap64 (64 - a0)))) else (none)) = some r := h
 clear h
 obtain ⟨ji2, hji2⟩ : ∃ j_ : Int, (wrap64 (64 - a0)) = j_ := ⟨_, rfl⟩
 replace H : (if 0 ≤ (ji2) then (some (shr .u64 18446744073709551615 (ji2))) else (none)) = some r := by first | (rw [hji2] at H; exact H) | (simp only [hji2] at H ⊢; exact H)
 have hji2w : (IntKind.i64.wrap (64 - a0)) = ji2 := (i64_w _).trans hji2
 by_cases c3 : 0 ≤ (ji2)
 · rw [if_pos c3] at H
   have c3b0 := eq_true c3
   have c3b1 : decide (0 ≤ (ji2)) = true := decide_eq_true c3
   clear c3
   obtain ⟨ji4, hji4⟩ : ∃ j_ : Int, (shr .u64 18446744073709551615 (ji2)) = j_ := ⟨_, rfl⟩
   replace H : (some ji4) = some r := by first | (rw [hji4] at H; exact H) | (simp only [hji4] at H ⊢; exact H)
   have hji4_ : (18446744073709551615 / 2 ^ min (ji2).toNat 64) = ji4 := hji4
   have hji4z : (ji2) ≤ 64 → (18446744073709551615 / 2 ^ (ji2).toNat) = ji4 := shr_small hji4
   obtain rfl := Option.some.inj H
   go_enter Tryd.func49, Tryd.ntmps49
   go_wp2
   go_ret
   exact ⟨by first | rfl | (simp; done) | (simp only [← hji2, ← hji4] <;> (first | rfl | simp)) | (simp [*]; done), by repeat (first | exact Drawn0.refl _ | apply Drawn0.step)⟩
 · rw [if_neg c3] at H
   exact absurd H (by simp)

end Go.Proofs.YtkohjiajbdkcbaaDoor.All


namespace Go.Proofs.YtkohjiajbdkcbaaDoor.All
open Go.RowKit Go.Proofs.YtkohjiajbdkcbaaDoorW.PrintWords Go.Proofs.YtkohjiajbdkcbaaDoorW.PrintLast Go.Proofs.YtkohjiajbdkcbaaDoorW.PrintMore
attribute [local go_sem] max2_int min2_int max_two min_two max_three min_three max_four min_four   -- for this text's walks alone
set_option linter.unusedVariables false
set_option linter.unusedSimpArgs false

/-! ### impl_isWord: function 48 -/
def impl_isWord.f (a0 : Int) (a1 : Int) : Option (Bool) := (impl_ValidWidth.f a0).bind fun t126 => (if t126 = true then ((impl_mask.f a0).bind fun t127 => (some ((Go.bits .andNot .u64 a1 t127) == 0))) else (some false))
set_option maxHeartbeats 8000000 in
set_option maxRecDepth 100000 in
theorem impl_isWord.calls (a0 : Int) (a1 : Int) (r : Bool) (w : World) (h : impl_isWord.f a0 a1 = some r) :
 Calls Tryd.prog 48 #[.int .i64 a0, .int .u64 a1] w fun e w' => e = .returned (.bool r) ∧ Drawn0 w w' := by
 have H : ((impl_ValidWidth.f a0).bind fun t126 => (if t126 = true then ((impl_mask.f a0).bind fun t127 => (some ((Go.bits .andNot .u64 a1 t127) == 0))) else (some false))) = some r := h
 clear h
 replace H := Option.bind_eq_some_iff.mp H
 obtain ⟨t126, A30, H⟩ := H
 replace H : (if t126 = true then ((impl_mask.f a0).bind fun t127 => (some ((Go.bits .andNot .u64 a1 t127) == 0))) else (some false)) = some r := H
 have A3 := Aside0.mk A30
 clear A30
 by_cases c4 : t126 = true
 · subst c4
   have H1 : ((impl_mask.f a0).bind fun t127 => (some ((Go.bits .andNot .u64 a1 t127) == 0))) = some r := by rw [if_pos rfl] at H; exact H
   clear H
   have H := H1
   clear H1
   replace H := Option.bind_eq_some_iff.mp H
   obtain ⟨t127, A50, H⟩ := H
   replace H : (some ((Go.bits .andNot .u64 a1 t127) == 0)) = some r := H
   have A5 := Aside0.mk A50
   clear A50
   obtain rfl := Option.some.inj H
   go_enter Tryd.func48, Tryd.ntmps48
   go_wp2_with (first | ((with_reducible refine gate_callee (f := 46) rfl ?_); refine goesL_ (some 6) rfl rfl Tryd.func46 (by kernel_rfl) rfl #[.int .i64 a0] rfl (by (try simp only [List.map_toArray, List.map_cons, List.map_nil]); first | done | rfl | (simp only [List.length_drop, List.length_take]; rfl)) ?_; (with_reducible refine (impl_ValidWidth.calls a0 true _ A3.out).mono ?_); rintro e w' ⟨rfl, ⟨nd, rfl⟩⟩; refine ⟨_, rfl, ?_⟩) | (go_at_call 49; (with_reducible refine (impl_mask.calls a0 t127 _ A5.out).mono ?_); rintro e w' ⟨rfl, ⟨nd, rfl⟩⟩))
   go_ret
   exact ⟨by first | rfl | (simp; done) | (simp [*]; done), by repeat (first | exact Drawn0.refl _ | apply Drawn0.step)⟩
 · replace c4 := Bool.eq_false_iff.mpr c4
   subst c4
   have H1 : (some false) = some r := by rw [if_neg (show ¬ (false = true) by decide)] at H; exact H
   clear H
   have H := H1
   clear H1
   obtain rfl := Option.some.inj H
   go_enter Tryd.func48, Tryd.ntmps48
   go_wp2_with (first | ((with_reducible refine gate_callee (f := 46) rfl ?_); refine goesL_ (some 6) rfl rfl Tryd.func46 (by kernel_rfl) rfl #[.int .i64 a0] rfl (by (try simp only [List.map_toArray, List.map_cons, List.map_nil]); first | done | rfl | (simp only [List.length_drop, List.length_take]; rfl)) ?_; (with_reducible refine (impl_ValidWidth.calls a0 false _ A3.out).mono ?_); rintro e w' ⟨rfl, ⟨nd, rfl⟩⟩; refine ⟨_, rfl, ?_⟩))
   go_ret
   exact ⟨by first | rfl | (simp; done) | (simp [*]; done), by repeat (first | exact Drawn0.refl _ | apply Drawn0.step)⟩

end Go.Proofs.YtkohjiajbdkcbaaDoor.All


namespace Go.Proofs.YtkohjiajbdkcbaaDoor.All
open Go.RowKit Go.Proofs.YtkohjiajbdkcbaaDoorW.PrintWords Go.Proofs.YtkohjiajbdkcbaaDoorW.PrintLast Go.Proofs.YtkohjiajbdkcbaaDoorW.PrintMore
attribute [local go_sem] max2_int min2_int max_two min_two max_three min_three max_four min_four   -- for this text's walks alone
set_option linter.unusedVariables false
set_option linter.unusedSimpArgs false

/-! ### impl_Signed: function 20 -/
def impl_Signed.f (a0 : Int) (a1 : Int) : Option (Int) := (impl_isWord.f a0 a1).bind fun t128 => (if t128 = true then (if 0 ≤ (wrap64 (64 - a0)) then (some (shr .i64 (wrap64 (shl .u64 a1 (wrap64 (64 - a0)))) (wrap64 (64 - a0)))) else (none)) else (some 0))
set_option maxHeartbeats 8000000 in
set_option maxRecDepth 100000 in
theorem impl_Signed.calls (a0 : Int) (a1 : Int) (r : Int) (w : World) (h : impl_Signed.f a0 a1 = some r) :
 Calls Tryd.prog 20 #[.int .i64 a0, .int .u64 a1] w fun e w' => e = .returned (.int .i64 r) ∧ Drawn0 w w' := by
 have H : ((impl_isWord.f a0 a1).bind fun t128 => (if t128 = true then (if 0 ≤ (wrap64 (64 - a0)) then (some (shr .i64 (wrap64 (shl .u64 a1 (wrap64 (64 - a0)))) (wrap64 (64 - a0)))) else (none)) else (some 0))) = some r := h
 clear h
 replace H := Option.bind_eq_some_iff.mp H
 obtain ⟨t128, A30, H⟩ := H
 replace H : (if t128 = true then (if 0 ≤ (wrap64 (64 - a0)) then (some (shr .i64 (wrap64 (shl .u64 a1 (wrap64 (64 - a0)))) (wrap64 (64 - a0)))) else (none)) else (some 0)) = some r := H
 have A3 := Aside0.mk A30
 clear A30
 by_cases c4 : t128 = true
 · subst c4
   have H1 : (if 0 ≤ (wrap64 (64 - a0)) then (some (shr .i64 (wrap64 (shl .u64 a1 (wrap64 (64 - a0)))) (wrap64 (64 - a0)))) else (none)) = some r := by rw [if_pos rfl] at H; exact H
   clear H
   have H := H1
   clear H1
   obtain ⟨ji5, hji5⟩ : ∃ j_ : Int, (wrap64 (64 - a0)) = j_ := ⟨_, rfl⟩
   replace H : (if 0 ≤ (ji5) then (some (shr .i64 (wrap64 (shl .u64 a1 (ji5))) (ji5))) else (none)) = some r := by first | (rw [hji5] at H; exact H) | (simp only [hji5] at H ⊢; exact H)
   (try rw [hji5] at A3)
   have hji5w : (IntKind.i64.wrap (64 - a0)) = ji5 := (i64_w _).trans hji5
   by_cases c6 : 0 ≤ (ji5)
   · rw [if_pos c6] at H
     have c6b0 := eq_true c6
     have c6b1 : decide (0 ≤ (ji5)) = true := decide_eq_true c6
     clear c6
     obtain ⟨ji7, hji7⟩ : ∃ j_ : Int, (shl .u64 a1 (ji5)) = j_ := ⟨_, rfl⟩
     replace H : (some (shr .i64 (wrap64 (ji7)) (ji5))) = some r := by first | (rw [hji7] at H; exact H) | (simp only [hji7] at H ⊢; exact H)
     (try rw [hji7] at A3)
     have hji7_ : (IntKind.u64.wrap (a1 * 2 ^ min (ji5).toNat 64)) = ji7 := hji7
     have hji7z : (ji5) ≤ 64 → (IntKind.u64.wrap (a1 * 2 ^ (ji5).toNat)) = ji7 := shl_small hji7
     have c8b0 := eq_true (of_decide_eq_true (by first | (with_reducible assumption) | assumption) : 0 ≤ (ji5))
     obtain ⟨ji9, hji9⟩ : ∃ j_ : Int, (shr .i64 (wrap64 (ji7)) (ji5)) = j_ := ⟨_, rfl⟩
     replace H : (some ji9) = some r := by first | (rw [hji9] at H; exact H) | (simp only [hji9] at H ⊢; exact H)
     (try rw [hji9] at A3)
     have hji9_ : ((wrap64 (ji7)) / 2 ^ min (ji5).toNat 64) = ji9 := hji9
     have hji9z : (ji5) ≤ 64 → ((wrap64 (ji7)) / 2 ^ (ji5).toNat) = ji9 := shr_small hji9
     obtain rfl := Option.some.inj H
     go_enter Tryd.func20, Tryd.ntmps20
     go_wp2_with (first | ((with_reducible refine gate_callee (f := 48) rfl ?_); refine goesL_ (some 7) rfl rfl Tryd.func48 (by kernel_rfl) rfl #[.int .i64 a0, .int .u64 a1] rfl (by (try simp only [List.map_toArray, List.map_cons, List.map_nil]); first | done | rfl | (simp only [List.length_drop, List.length_take]; rfl)) ?_; (with_reducible refine (impl_isWord.calls a0 a1 true _ A3.out).mono ?_); rintro e w' ⟨rfl, ⟨nd, rfl⟩⟩; refine ⟨_, rfl, ?_⟩))
     go_ret
     exact ⟨by first | rfl | (simp; done) | (simp only [← hji5, ← hji7, ← hji9] <;> (first | rfl | simp)) | (simp [*]; done), by repeat (first | exact Drawn0.refl _ | apply Drawn0.step)⟩
   · rw [if_neg c6] at H
     exact absurd H (by simp)
 · replace c4 := Bool.eq_false_iff.mpr c4
   subst c4
   have H1 : (some 0) = some r := by rw [if_neg (show ¬ (false = true) by decide)] at H; exact H
   clear H
   have H := H1
   clear H1
   obtain rfl := Option.some.inj H
   go_enter Tryd.func20, Tryd.ntmps20
   go_wp2_with (first | ((with_reducible refine gate_callee (f := 48) rfl ?_); refine goesL_ (some 7) rfl rfl Tryd.func48 (by kernel_rfl) rfl #[.int .i64 a0, .int .u64 a1] rfl (by (try simp only [List.map_toArray, List.map_cons, List.map_nil]); first | done | rfl | (simp only [List.length_drop, List.length_take]; rfl)) ?_; (with_reducible refine (impl_isWord.calls a0 a1 false _ A3.out).mono ?_); rintro e w' ⟨rfl, ⟨nd, rfl⟩⟩; refine ⟨_, rfl, ?_⟩))
   go_ret
   exact ⟨by first | rfl | (simp; done) | (simp [*]; done), by repeat (first | exact Drawn0.refl _ | apply Drawn0.step)⟩

end Go.Proofs.YtkohjiajbdkcbaaDoor.All


/- Contracts of Go's library at this translation: laid by the shelf's lay-shelf.mjs and lay-plain.mjs, those that this session's claims use. -/
namespace Go.Proofs
open Go.Shelf
set_option linter.unusedVariables false
def Tryd.lays283_ren : Go.Shelf.Ren := ⟨fun | 283 => 97 | n => n, fun | 3 => 3 | 9 => 9 | 4 => 4 | n => n, fun | n => n⟩
theorem Tryd.lays283 : Go.Proofs.Lays.n283 Tryd.prog Tryd.lays283_ren := {
  mixed := by kernel_rfl
  f283 := Tryd.func97.trans (congrArg some (by kernel_rfl))
  t3 := Tryd.underlying3
  a3 := Tryd.isAgg3
  z3 := Tryd.sizeOf3
  v3 := Tryd.zeroValue3
  t4 := Tryd.underlying4
  a4 := Tryd.isAgg4
  z4 := Tryd.sizeOf4
  v4 := Tryd.zeroValue4
  t9 := Tryd.underlying9
  a9 := Tryd.isAgg9
  z9 := Tryd.sizeOf9
  v9 := Tryd.zeroValue9 }
open Go.Lib in
theorem Tryd.internal_strconv_small (i : Nat) (h : i < 100) (w : World) :
    Calls Tryd.prog 97 #[.int .i64 i] w fun e w' => e = .returned (.string ⟨(Lib.decDigits i).toArray⟩) ∧ w' = w := Any.internal_strconv_small Tryd.lays283 i h w
end Go.Proofs


namespace Go.Proofs.YtkohjiajbdkcbaaDoor.All
open Go.RowKit Go.Proofs.YtkohjiajbdkcbaaDoorW.PrintWords Go.Proofs.YtkohjiajbdkcbaaDoorW.PrintLast Go.Proofs.YtkohjiajbdkcbaaDoorW.PrintMore
attribute [local go_sem] max2_int min2_int max_two min_two max_three min_three max_four min_four   -- for this text's walks alone
set_option linter.unusedVariables false
set_option linter.unusedSimpArgs false

/-! ### strconv_FormatUint_50: function 50 -/
def strconv_FormatUint_50.f (a0 : Int) (a1 : Int) : Option (ByteArray) := if 0 ≤ a0 then (if a0 < 100 then (if a1 = 10 then some (⟨(Lib.decDigits a0.toNat).toArray⟩ : ByteArray) else none) else none) else none
set_option maxRecDepth 100000 in
theorem strconv_FormatUint_50.inner (i : Nat) (hi : i < 100) (w : World) :
 Calls Tryd.prog 81 #[.int .u64 (i : Int), .int .i64 10] w fun e w' => e = .returned (.string (⟨(Lib.decDigits i).toArray⟩ : ByteArray)) ∧ w' = w := by
 have c1 : decide ((i : Int) < 100) = true := decide_eq_true (by omega)
 have hw : IntKind.i64.wrap (i : Int) = (i : Int) := IntWalk.i64_in _ (by omega)
 go_enter Tryd.func81, Tryd.ntmps81
 go_wp2_with (go_at_call 97; refine (Tryd.internal_strconv_small i hi _).mono ?_; rintro e w' ⟨rfl, rfl⟩)
 go_ret
 exact ⟨rfl, rfl⟩
set_option maxRecDepth 100000 in
theorem strconv_FormatUint_50.calls (a0 : Int) (a1 : Int) (r : ByteArray) (w : World) (h : strconv_FormatUint_50.f a0 a1 = some r) :
 Calls Tryd.prog 50 #[.int .u64 a0, .int .i64 a1] w fun e w' => e = .returned (.string r) ∧ Drawn0 w w' := by
 unfold strconv_FormatUint_50.f at h
 by_cases h0 : 0 ≤ a0
 · by_cases h1 : a0 < 100
   · by_cases h2 : a1 = 10
     · subst h2
       rw [if_pos h0, if_pos h1, if_pos rfl] at h
       obtain rfl := Option.some.inj h
       obtain ⟨i, rfl⟩ : ∃ i : Nat, a0 = (i : Int) := ⟨a0.toNat, by omega⟩
       have hi : i < 100 := by omega
       clear h h0 h1
       go_enter Tryd.func50, Tryd.ntmps50
       go_wp2_with (go_at_call 81; refine (strconv_FormatUint_50.inner i hi _).mono ?_; rintro e w' ⟨rfl, rfl⟩)
       go_ret
       exact ⟨rfl, Drawn0.refl _⟩
     · rw [if_pos h0, if_pos h1, if_neg h2] at h
       cases h
   · rw [if_pos h0, if_neg h1] at h
     cases h
 · rw [if_neg h0] at h
   cases h

end Go.Proofs.YtkohjiajbdkcbaaDoor.All


namespace Go.Proofs.YtkohjiajbdkcbaaDoor.All
open Go.RowKit Go.Proofs.YtkohjiajbdkcbaaDoorW.PrintWords Go.Proofs.YtkohjiajbdkcbaaDoorW.PrintLast Go.Proofs.YtkohjiajbdkcbaaDoorW.PrintMore
attribute [local go_sem] max2_int min2_int max_two min_two max_three min_three max_four min_four   -- for this text's walks alone
set_option linter.unusedVariables false
set_option linter.unusedSimpArgs false

/-! ### impl_FormatWord: function 22 -/
def impl_FormatWord.f (a0 : Int) (a1 : Int) : Option (ByteArray) := (impl_isWord.f a0 a1).bind fun t149 => (if t149 = true then (if a0 = 1 then ((strconv_FormatUint_50.f a1 10).bind fun t150 => (some t150)) else ((impl_Signed.f a0 a1).bind fun t151 => ((strconv_FormatInt_39.f t151 10).bind fun t152 => (some t152)))) else (some (⟨#[]⟩ : ByteArray)))
set_option maxHeartbeats 8000000 in
set_option maxRecDepth 100000 in
theorem impl_FormatWord.calls (a0 : Int) (a1 : Int) (r : ByteArray) (w : World) (hLtTab : LtTab w) (h : impl_FormatWord.f a0 a1 = some r) :
 Calls Tryd.prog 22 #[.int .i64 a0, .int .u64 a1] w fun e w' => e = .returned (.string r) ∧ Below w.heap.size w w' := by
 have HLtTab := Aside0.mk hLtTab
 clear hLtTab
 have HB := Aside0.mk (Below.refl w.heap.size w)
 have H : ((impl_isWord.f a0 a1).bind fun t149 => (if t149 = true then (if a0 = 1 then ((strconv_FormatUint_50.f a1 10).bind fun t150 => (some t150)) else ((impl_Signed.f a0 a1).bind fun t151 => ((strconv_FormatInt_39.f t151 10).bind fun t152 => (some t152)))) else (some (⟨#[]⟩ : ByteArray)))) = some r := h
 clear h
 replace H := Option.bind_eq_some_iff.mp H
 obtain ⟨t149, A30, H⟩ := H
 replace H : (if t149 = true then (if a0 = 1 then ((strconv_FormatUint_50.f a1 10).bind fun t150 => (some t150)) else ((impl_Signed.f a0 a1).bind fun t151 => ((strconv_FormatInt_39.f t151 10).bind fun t152 => (some t152)))) else (some (⟨#[]⟩ : ByteArray))) = some r := H
 have A3 := Aside0.mk A30
 clear A30
 by_cases c4 : t149 = true
 · subst c4
   have H1 : (if a0 = 1 then ((strconv_FormatUint_50.f a1 10).bind fun t150 => (some t150)) else ((impl_Signed.f a0 a1).bind fun t151 => ((strconv_FormatInt_39.f t151 10).bind fun t152 => (some t152)))) = some r := by rw [if_pos rfl] at H; exact H
   clear H
   have H := H1
   clear H1
   by_cases c5 : a0 = 1
   · rw [if_pos c5] at H
     have c5b0 : (a0 == 1) = true := beq_iff_eq.mpr c5
     have c5b1 : (a0 != 1) = false := bne_eq_false_iff_eq.mpr c5
     clear c5
     replace H := Option.bind_eq_some_iff.mp H
     obtain ⟨t150, A60, H⟩ := H
     replace H : (some t150) = some r := H
     have A6 := Aside0.mk A60
     clear A60
     obtain rfl := Option.some.inj H
     go_enter Tryd.func22, Tryd.ntmps22
     go_wp2_with (first | ((with_reducible refine gate_callee (f := 48) rfl ?_); refine goesL_ (some 7) rfl rfl Tryd.func48 (by kernel_rfl) rfl #[.int .i64 a0, .int .u64 a1] rfl (by (try simp only [List.map_toArray, List.map_cons, List.map_nil]); first | done | rfl | (simp only [List.length_drop, List.length_take]; rfl)) ?_; (with_reducible refine (impl_isWord.calls a0 a1 true _ A3.out).mono ?_); rintro e w' ⟨rfl, ⟨nd, rfl⟩⟩; refine ⟨_, rfl, ?_⟩) | ((with_reducible refine gate_callee (f := 50) rfl ?_); refine goesL_ (some 12) rfl rfl Tryd.func50 (by kernel_rfl) rfl #[.int .u64 a1, .int .i64 10] rfl (by (try simp only [List.map_toArray, List.map_cons, List.map_nil]); first | done | rfl | (simp only [List.length_drop, List.length_take]; rfl)) ?_; (with_reducible refine (strconv_FormatUint_50.calls a1 10 t150 _ A6.out).mono ?_); rintro e w' ⟨rfl, ⟨nd, rfl⟩⟩; refine ⟨_, rfl, ?_⟩))
     go_ret
     exact ⟨by first | rfl | (simp [errW_none, errW_some] <;> rfl) | (simp [*, errW_none, errW_some] <;> rfl), by repeat (first | (with_reducible first | exact HB.out | apply below_alloc | apply pw_below_drewN | apply below_drew1) | exact HB.out)⟩
   · rw [if_neg c5] at H
     have c5b0 : (a0 == 1) = false := beq_eq_false_iff_ne.mpr c5
     have c5b1 : (a0 != 1) = true := bne_iff_ne.mpr c5
     replace H := Option.bind_eq_some_iff.mp H
     obtain ⟨t151, A70, H⟩ := H
     replace H : ((strconv_FormatInt_39.f t151 10).bind fun t152 => (some t152)) = some r := H
     have A7 := Aside0.mk A70
     clear A70
     replace H := Option.bind_eq_some_iff.mp H
     obtain ⟨t152, A80, H⟩ := H
     replace H : (some t152) = some r := H
     have A8 := Aside0.mk A80
     clear A80
     obtain rfl := Option.some.inj H
     go_enter Tryd.func22, Tryd.ntmps22
     go_wp2_with (first | ((with_reducible refine gate_callee (f := 48) rfl ?_); refine goesL_ (some 7) rfl rfl Tryd.func48 (by kernel_rfl) rfl #[.int .i64 a0, .int .u64 a1] rfl (by (try simp only [List.map_toArray, List.map_cons, List.map_nil]); first | done | rfl | (simp only [List.length_drop, List.length_take]; rfl)) ?_; (with_reducible refine (impl_isWord.calls a0 a1 true _ A3.out).mono ?_); rintro e w' ⟨rfl, ⟨nd, rfl⟩⟩; refine ⟨_, rfl, ?_⟩) | ((with_reducible refine gate_callee (f := 20) rfl ?_); refine goesL_ (some 15) rfl rfl Tryd.func20 (by kernel_rfl) rfl #[.int .i64 a0, .int .u64 a1] rfl (by (try simp only [List.map_toArray, List.map_cons, List.map_nil]); first | done | rfl | (simp only [List.length_drop, List.length_take]; rfl)) ?_; (with_reducible refine (impl_Signed.calls a0 a1 t151 _ A7.out).mono ?_); rintro e w' ⟨rfl, ⟨nd, rfl⟩⟩; refine ⟨_, rfl, ?_⟩) | ((with_reducible refine gate_callee (f := 39) rfl ?_); refine goesL_ (some 16) rfl rfl Tryd.func39 (by kernel_rfl) rfl #[.int .i64 t151, .int .i64 10] rfl (by (try simp only [List.map_toArray, List.map_cons, List.map_nil]); first | done | rfl | (simp only [List.length_drop, List.length_take]; rfl)) ?_; (with_reducible refine (strconv_FormatInt_39.calls t151 10 t152 _ ?tLtTab A8.out).mono ?_); (case tLtTab => exact HLtTab.out.on (by repeat (first | (with_reducible first | exact HB.out | apply below_alloc | apply pw_below_drewN | apply below_drew1) | exact HB.out))); rintro e w9 ⟨rfl, hb⟩; refine ⟨_, rfl, ?_⟩; have n0_ := Aside0.mk (below_step (by repeat (first | (with_reducible first | exact HB.out | apply below_alloc | apply pw_below_drewN | apply below_drew1) | exact HB.out)) hb); clear HB; have HB := n0_; clear n0_; (try clear hb); (try clear hb2); (try clear hk); (try clear hi)))
     go_ret
     exact ⟨by first | rfl | (simp [errW_none, errW_some] <;> rfl) | (simp [*, errW_none, errW_some] <;> rfl), by repeat (first | (with_reducible first | exact HB.out | apply below_alloc | apply pw_below_drewN | apply below_drew1) | exact HB.out)⟩
 · replace c4 := Bool.eq_false_iff.mpr c4
   subst c4
   have H1 : (some (⟨#[]⟩ : ByteArray)) = some r := by rw [if_neg (show ¬ (false = true) by decide)] at H; exact H
   clear H
   have H := H1
   clear H1
   obtain rfl := Option.some.inj H
   go_enter Tryd.func22, Tryd.ntmps22
   go_wp2_with (first | ((with_reducible refine gate_callee (f := 48) rfl ?_); refine goesL_ (some 7) rfl rfl Tryd.func48 (by kernel_rfl) rfl #[.int .i64 a0, .int .u64 a1] rfl (by (try simp only [List.map_toArray, List.map_cons, List.map_nil]); first | done | rfl | (simp only [List.length_drop, List.length_take]; rfl)) ?_; (with_reducible refine (impl_isWord.calls a0 a1 false _ A3.out).mono ?_); rintro e w' ⟨rfl, ⟨nd, rfl⟩⟩; refine ⟨_, rfl, ?_⟩))
   go_ret
   exact ⟨by first | rfl | (simp [errW_none, errW_some] <;> rfl) | (simp [*, errW_none, errW_some] <;> rfl), by repeat (first | (with_reducible first | exact HB.out | apply below_alloc | apply pw_below_drewN | apply below_drew1) | exact HB.out)⟩

end Go.Proofs.YtkohjiajbdkcbaaDoor.All

