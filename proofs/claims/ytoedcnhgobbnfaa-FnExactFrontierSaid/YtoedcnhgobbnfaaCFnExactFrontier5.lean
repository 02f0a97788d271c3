/- Part 5 of the proof of FnExactFrontier: functions of the translation with what they return, and plain laws of these. Written by programs of this session over the kit's print, and by hand. -/
import Derived.Test.YtoedcnhgobbnfaaProg
import Derived.Test.YtoedcnhgobbnfaaCFnExactFrontierWApart
import Derived.Test.YtoedcnhgobbnfaaCFnExactFrontierWArr
import Derived.Test.YtoedcnhgobbnfaaCFnExactFrontierWFoot
import Derived.Test.YtoedcnhgobbnfaaCFnExactFrontierWGuard
import Derived.Test.YtoedcnhgobbnfaaCFnExactFrontierWKept
import Derived.Test.YtoedcnhgobbnfaaCFnExactFrontierWLast
import Derived.Test.YtoedcnhgobbnfaaCFnExactFrontierWMore
import Derived.Test.YtoedcnhgobbnfaaCFnExactFrontierWN
import Derived.Test.YtoedcnhgobbnfaaCFnExactFrontierWNEv
import Derived.Test.YtoedcnhgobbnfaaCFnExactFrontierWQPut
import Derived.Test.YtoedcnhgobbnfaaCFnExactFrontierWRepsOne
import Derived.Test.YtoedcnhgobbnfaaCFnExactFrontierWShare
import Derived.Test.YtoedcnhgobbnfaaCFnExactFrontierWTab
import Derived.Test.YtoedcnhgobbnfaaCFnExactFrontierWWords
import Derived.Test.YtoedcnhgobbnfaaCFnExactFrontierWZeros
import Derived.Below
import Derived.Deep.Draws
import Derived.Deep.AppendLies
import Derived.Maps.AppendAt
import Derived.OwnWalk
import Derived.Laws.BytesArg
import Derived.Laws.MakeOwn
import Derived.Laws.OwnMore
import Derived.Deep.OwnRows
import Derived.Tactics
import Derived.Lib.ConvBytes
import Derived.Laws.Slices
import Derived.WalkKit
import Derived.KernelRfl
import Derived.RowKit3
import Derived.Deep.LoopGhost
import Derived.Deep.QuietTactic
import Derived.BigQuiet
import Derived.WideLaws
import Derived.Deep.DeepCutAuto
import Derived.Deep.CutBlock
import Derived.Deep.RegionHeld3
import Derived.Laws.Rows
import Derived.Lib.AppendStr
import Derived.ArgAppend
import Derived.Laws.IdiomCopy
import Derived.OrdersHeld
import Derived.Laws.BitsLemmas
import Derived.RowKit
import Derived.Maps.OwnSet
import Derived.Maps.OwnOps
import Derived.Deep.Slices
import Derived.ChangeArms
import Derived.ProofKit
import Derived.OpenShut
import Derived.ShutString
import Derived.ChangeOld
import Derived.SizedLaws
import Derived.Test.YtoedcnhgobbnfaaCFnExactFrontier1
import Derived.Test.YtoedcnhgobbnfaaCFnExactFrontier2
import Derived.Test.YtoedcnhgobbnfaaCFnExactFrontier3
import Derived.Test.YtoedcnhgobbnfaaCFnExactFrontier4
namespace Go.Proofs.Ytoedcnhgobbnfaa.All
open Go.RowKit Go.Proofs.YtoedcnhgobbnfaaW.PrintWords Go.Proofs.YtoedcnhgobbnfaaW.PrintLast Go.Proofs.YtoedcnhgobbnfaaW.PrintMore
attribute [local go_sem] max2_int min2_int max_two min_two max_three min_three max_four min_four   -- for this text's walks alone
set_option linter.unusedVariables false
set_option linter.unusedSimpArgs false

/-! ### laws_FnExactFrontier: function 9 -/
def laws_FnExactFrontier.j0 : Nat → Int → List Int → List Int → Bool → ByteArray → Int → List Int → Int → List (S96) → Option (Bool)
 | 0, _, _, _, _, _, _, _, _, _ => none
 | k + 1, x1, x6, x8, x46, x521000, x521001, x521002, x521003, x521004 => if x46 = true then (some false) else ((laws_markInt64S.f k x8 1).bind fun bt560 => ((laws_heldInt64S.f k bt560.2 1).bind fun t562 => (if t562 < 0 then (some false) else (if t562 = bt560.1 then ((laws_toFunc.f k x521000 x521001 x521002 x521003 x521004).bind fun bt563 => ((impl_Frontier.f k bt563.1 bt563.2.1 bt563.2.2.1 bt563.2.2.2.1 bt563.2.2.2.2 x1).bind fun t572 => ((laws_eqInt64S.f k t572 x6).bind fun t575 => (if t575 = true then ((laws_heldInt64S.f k bt560.2 1).bind fun t576 => (if t576 < 0 then (some false) else (if t576 = bt560.1 then (some true) else (some false)))) else (some false))))) else (some false)))))
def laws_FnExactFrontier.f (k : Nat) (a0_0 : ByteArray) (a0_1 : Int) (l0_2 : List Int) (a0_3 : Int) (l0_4 : List (S96)) (a1 : Int) : Option (Bool) := (laws_szFunc.f k a0_0 a0_1 l0_2 a0_3 l0_4 1048576).bind fun t521 => (if t521 < 0 then (some true) else ((laws_toFunc.f k a0_0 a0_1 l0_2 a0_3 l0_4).bind fun bt522 => ((spec_Frontier.f k bt522.1 bt522.2.1 bt522.2.2.1 bt522.2.2.2.1 bt522.2.2.2.2 a1).bind fun t531 => ((laws_toFunc.f k a0_0 a0_1 l0_2 a0_3 l0_4).bind fun bt534 => ((impl_Frontier.f k bt534.1 bt534.2.1 bt534.2.2.1 bt534.2.2.2.1 bt534.2.2.2.2 a1).bind fun t544 => ((laws_eqInt64S.f k t544 t531).bind fun t547 => (if t547 = true then ((laws_toFunc.f k a0_0 a0_1 l0_2 a0_3 l0_4).bind fun bt548 => ((laws_eqFunc.f k bt534.1 bt534.2.1 bt534.2.2.1 bt534.2.2.2.1 bt534.2.2.2.2 bt548.1 bt548.2.1 bt548.2.2.1 bt548.2.2.2.1 bt548.2.2.2.2).bind fun t557 => (if t557 = true then ((laws_markFunc.f bt534.1 bt534.2.1 bt534.2.2.1 bt534.2.2.2.1 bt534.2.2.2.2 1).bind fun t558 => (if t558 < 0 then (laws_FnExactFrontier.j0 k a1 t531 t544 true a0_0 a0_1 l0_2 a0_3 l0_4) else ((laws_eqInt64S.f k t544 t531).bind fun t559 => (laws_FnExactFrontier.j0 k a1 t531 t544 (!t559) a0_0 a0_1 l0_2 a0_3 l0_4)))) else (some false)))) else (some false))))))))
set_option maxHeartbeats 8000000 in
set_option maxRecDepth 100000 in
theorem laws_FnExactFrontier.calls (k : Nat) (a0_0 : ByteArray) (a0_1 : Int) (A0_2 : Option Addr) (c0_2 : Nat) (l0_2 : List Int) (a0_3 : Int) (A0_4 : Option Addr) (c0_4 : Nat) (l0_4 : List (S96)) (a1 : Int) (r : Bool) (w : World) (hr0_2 : Kd.C (Kd.int .i64) w A0_2 l0_2.length l0_2) (hc0_2 : l0_2.length ≤ c0_2) (hr0_4 : Kd.C k96 w A0_4 l0_4.length l0_4) (hc0_4 : l0_4.length ≤ c0_4) (h : laws_FnExactFrontier.f k a0_0 a0_1 l0_2 a0_3 l0_4 a1 = some r) (hr_ : Aside0 (r = true)) :
 Calls Try.prog 9 #[.agg #[.string a0_0, .int .i64 a0_1, .slice A0_2 l0_2.length c0_2, .int .i64 a0_3, .slice A0_4 l0_4.length c0_4], .int .i64 a1] w fun e w' => e = .returned (.bool r) ∧ Below w.heap.size w w' := by
 have hu25 := Try.underlying25
 have hu30 := Try.underlying30
 have HR0_2 := Aside0.mk hr0_2
 have HC0_2 := Aside0.mk hc0_2
 clear hr0_2 hc0_2
 have HR0_4 := Aside0.mk hr0_4
 have HC0_4 := Aside0.mk hc0_4
 clear hr0_4 hc0_4
 have HB := Aside0.mk (Below.refl w.heap.size w)
 have H : ((laws_szFunc.f k a0_0 a0_1 l0_2 a0_3 l0_4 1048576).bind fun t521 => (if t521 < 0 then (some true) else ((laws_toFunc.f k a0_0 a0_1 l0_2 a0_3 l0_4).bind fun bt522 => ((spec_Frontier.f k bt522.1 bt522.2.1 bt522.2.2.1 bt522.2.2.2.1 bt522.2.2.2.2 a1).bind fun t531 => ((laws_toFunc.f k a0_0 a0_1 l0_2 a0_3 l0_4).bind fun bt534 => ((impl_Frontier.f k bt534.1 bt534.2.1 bt534.2.2.1 bt534.2.2.2.1 bt534.2.2.2.2 a1).bind fun t544 => ((laws_eqInt64S.f k t544 t531).bind fun t547 => (if t547 = true then ((laws_toFunc.f k a0_0 a0_1 l0_2 a0_3 l0_4).bind fun bt548 => ((laws_eqFunc.f k bt534.1 bt534.2.1 bt534.2.2.1 bt534.2.2.2.1 bt534.2.2.2.2 bt548.1 bt548.2.1 bt548.2.2.1 bt548.2.2.2.1 bt548.2.2.2.2).bind fun t557 => (if t557 = true then ((laws_markFunc.f bt534.1 bt534.2.1 bt534.2.2.1 bt534.2.2.2.1 bt534.2.2.2.2 1).bind fun t558 => (if t558 < 0 then (laws_FnExactFrontier.j0 k a1 t531 t544 true a0_0 a0_1 l0_2 a0_3 l0_4) else ((laws_eqInt64S.f k t544 t531).bind fun t559 => (laws_FnExactFrontier.j0 k a1 t531 t544 (!t559) a0_0 a0_1 l0_2 a0_3 l0_4)))) else (some false)))) else (some false))))))))) = some r := h
 clear h
 replace H := Option.bind_eq_some_iff.mp H
 obtain ⟨t521, A30, H⟩ := H
 replace H : (if t521 < 0 then (some true) else ((laws_toFunc.f k a0_0 a0_1 l0_2 a0_3 l0_4).bind fun bt522 => ((spec_Frontier.f k bt522.1 bt522.2.1 bt522.2.2.1 bt522.2.2.2.1 bt522.2.2.2.2 a1).bind fun t531 => ((laws_toFunc.f k a0_0 a0_1 l0_2 a0_3 l0_4).bind fun bt534 => ((impl_Frontier.f k bt534.1 bt534.2.1 bt534.2.2.1 bt534.2.2.2.1 bt534.2.2.2.2 a1).bind fun t544 => ((laws_eqInt64S.f k t544 t531).bind fun t547 => (if t547 = true then ((laws_toFunc.f k a0_0 a0_1 l0_2 a0_3 l0_4).bind fun bt548 => ((laws_eqFunc.f k bt534.1 bt534.2.1 bt534.2.2.1 bt534.2.2.2.1 bt534.2.2.2.2 bt548.1 bt548.2.1 bt548.2.2.1 bt548.2.2.2.1 bt548.2.2.2.2).bind fun t557 => (if t557 = true then ((laws_markFunc.f bt534.1 bt534.2.1 bt534.2.2.1 bt534.2.2.2.1 bt534.2.2.2.2 1).bind fun t558 => (if t558 < 0 then (laws_FnExactFrontier.j0 k a1 t531 t544 true a0_0 a0_1 l0_2 a0_3 l0_4) else ((laws_eqInt64S.f k t544 t531).bind fun t559 => (laws_FnExactFrontier.j0 k a1 t531 t544 (!t559) a0_0 a0_1 l0_2 a0_3 l0_4)))) else (some false)))) else (some false)))))))) = some r := H
 have A3 := Aside0.mk A30
 clear A30
 by_cases c4 : t521 < 0
 · rw [if_pos c4] at H
   have c4b0 : decide (t521 < 0) = true := decide_eq_true c4
   clear c4
   obtain rfl := Option.some.inj H
   go_enter Try.func9, Try.ntmps9
   go_wp2_with (first | ((with_reducible refine gate_dst (N := 2) rfl ?_); refine box_event ?hg (N := 2) ?hd (cs := #[.string a0_0, .int .i64 a0_1, .slice A0_2 l0_2.length c0_2, .int .i64 a0_3, .slice A0_4 l0_4.length c0_4]) (t := 25) ?hr ?_; (case hd => rfl); (case hg => rfl); (case hr => first | (go_simp; done) | (go_simp; rfl)); intro gb520 hg w5 hbox hb; have n0_ := Aside0.mk (below_step (by repeat (first | (with_reducible first | exact HB.out | apply below_alloc | apply pw_below_drewN | apply below_drew1) | exact HB.out)) hb); have n1_ := Aside0.mk (hbox); have n2_ := Aside0.mk ((by rw [hg]; exact (below_size (by repeat (first | (with_reducible first | exact HB.out | apply below_alloc | apply pw_below_drewN | apply below_drew1) | exact HB.out))) : w.heap.size ≤ gb520)); have n3_ := Aside0.mk ((by rw [hg]; exact (below_size (by repeat (first | (with_reducible first | exact HB.out | apply below_alloc | apply pw_below_drewN | apply below_drew1) | exact HB.out))) : w.heap.size ≤ gb520)); clear HB; have HB := n0_; have BK520 := n1_; have GW520 := n2_; have GE520 := n3_; clear n0_ n1_ n2_ n3_; clear hb hbox hg; have hcz6_0 : w5.cell? ⟨gb520, 0, none⟩ = some (.string a0_0) := (blk_cell BK520.out 0).trans rfl; have hcz6_1 : w5.cell? ⟨gb520, 1, none⟩ = some (.int .i64 a0_1) := (blk_cell BK520.out 1).trans rfl; have hcz6_2 : w5.cell? ⟨gb520, 2, none⟩ = some (.slice A0_2 l0_2.length c0_2) := (blk_cell BK520.out 2).trans rfl; have hcz6_3 : w5.cell? ⟨gb520, 3, none⟩ = some (.int .i64 a0_3) := (blk_cell BK520.out 3).trans rfl; have hcz6_4 : w5.cell? ⟨gb520, 4, none⟩ = some (.slice A0_4 l0_4.length c0_4) := (blk_cell BK520.out 4).trans rfl; have hfz6_0 := blk_frozen BK520.out 0; have hfz6_1 := blk_frozen BK520.out 1; have hfz6_2 := blk_frozen BK520.out 2; have hfz6_3 := blk_frozen BK520.out 3; have hfz6_4 := blk_frozen BK520.out 4) | ((with_reducible refine gate_callee (f := 12) rfl ?_); refine goesL_ (some 15) rfl rfl Try.func12 (by kernel_rfl) rfl #[.agg #[.string a0_0, .int .i64 a0_1, .slice A0_2 l0_2.length c0_2, .int .i64 a0_3, .slice A0_4 l0_4.length c0_4], .int .i64 1048576] rfl (by (try simp only [List.map_toArray, List.map_cons, List.map_nil]); first | done | rfl | (simp only [List.length_drop, List.length_take]; rfl)) ?_; (with_reducible refine (laws_szFunc.calls k a0_0 a0_1 _ _ l0_2 a0_3 _ _ l0_4 1048576 t521 _ ?side1 ?side2 ?side3 ?side4 A3.out).mono ?_); (case side1 => repeat (first | exact (Kd.C_below HR0_2.out HB.out) | (with_reducible refine Kd.C_alloc ?_ _) | (with_reducible refine Kd.C_drewN ?_ _) | (with_reducible refine Kd.C_drew ?_))); (case side2 => exact HC0_2.out); (case side3 => repeat (first | exact (Kd.C_below HR0_4.out HB.out) | (with_reducible refine Kd.C_alloc ?_ _) | (with_reducible refine Kd.C_drewN ?_ _) | (with_reducible refine Kd.C_drew ?_))); (case side4 => exact HC0_4.out); rintro e w7 ⟨rfl, hb⟩; refine ⟨_, rfl, ?_⟩; have n0_ := Aside0.mk (blk_below (g := gb520) (o := .cells #[.string a0_0, .int .i64 a0_1, .slice A0_2 l0_2.length c0_2, .int .i64 a0_3, .slice A0_4 l0_4.length c0_4] 25 (0, 0)) (by (with_reducible repeat (first | refine blk_drewN ?_ _ | refine blk_drew ?_ | refine blk_alloc ?_ _)); exact BK520.out) hb); have n1_ := Aside0.mk (below_step (by repeat (first | (with_reducible first | exact HB.out | apply below_alloc | apply pw_below_drewN | apply below_drew1 | refine below_set ?_ GE520.out) | exact HB.out)) hb); clear BK520; clear HB; have BK520 := n0_; have HB := n1_; clear n0_ n1_; (try clear hb); (try clear hb2); (try clear hk); (try clear hi)))
   go_ret
   exact ⟨by first | rfl | (simp [errW_none, errW_some] <;> rfl) | (simp [*, errW_none, errW_some] <;> rfl), by repeat (first | (with_reducible first | exact HB.out | apply below_alloc | apply pw_below_drewN | apply below_drew1 | refine below_set ?_ GE520.out) | exact HB.out)⟩
 · rw [if_neg c4] at H
   have c4b0 : decide (t521 < 0) = false := decide_eq_false c4
   clear c4
   replace H := Option.bind_eq_some_iff.mp H
   obtain ⟨⟨t522, t523, t524, t527, t528⟩, A80, H⟩ := H
   replace H : ((spec_Frontier.f k t522 t523 t524 t527 t528 a1).bind fun t531 => ((laws_toFunc.f k a0_0 a0_1 l0_2 a0_3 l0_4).bind fun bt534 => ((impl_Frontier.f k bt534.1 bt534.2.1 bt534.2.2.1 bt534.2.2.2.1 bt534.2.2.2.2 a1).bind fun t544 => ((laws_eqInt64S.f k t544 t531).bind fun t547 => (if t547 = true then ((laws_toFunc.f k a0_0 a0_1 l0_2 a0_3 l0_4).bind fun bt548 => ((laws_eqFunc.f k bt534.1 bt534.2.1 bt534.2.2.1 bt534.2.2.2.1 bt534.2.2.2.2 bt548.1 bt548.2.1 bt548.2.2.1 bt548.2.2.2.1 bt548.2.2.2.2).bind fun t557 => (if t557 = true then ((laws_markFunc.f bt534.1 bt534.2.1 bt534.2.2.1 bt534.2.2.2.1 bt534.2.2.2.2 1).bind fun t558 => (if t558 < 0 then (laws_FnExactFrontier.j0 k a1 t531 t544 true a0_0 a0_1 l0_2 a0_3 l0_4) else ((laws_eqInt64S.f k t544 t531).bind fun t559 => (laws_FnExactFrontier.j0 k a1 t531 t544 (!t559) a0_0 a0_1 l0_2 a0_3 l0_4)))) else (some false)))) else (some false)))))) = some r := H
   have A8 := Aside0.mk A80
   clear A80
   replace H := Option.bind_eq_some_iff.mp H
   obtain ⟨t531, A90, H⟩ := H
   replace H : ((laws_toFunc.f k a0_0 a0_1 l0_2 a0_3 l0_4).bind fun bt534 => ((impl_Frontier.f k bt534.1 bt534.2.1 bt534.2.2.1 bt534.2.2.2.1 bt534.2.2.2.2 a1).bind fun t544 => ((laws_eqInt64S.f k t544 t531).bind fun t547 => (if t547 = true then ((laws_toFunc.f k a0_0 a0_1 l0_2 a0_3 l0_4).bind fun bt548 => ((laws_eqFunc.f k bt534.1 bt534.2.1 bt534.2.2.1 bt534.2.2.2.1 bt534.2.2.2.2 bt548.1 bt548.2.1 bt548.2.2.1 bt548.2.2.2.1 bt548.2.2.2.2).bind fun t557 => (if t557 = true then ((laws_markFunc.f bt534.1 bt534.2.1 bt534.2.2.1 bt534.2.2.2.1 bt534.2.2.2.2 1).bind fun t558 => (if t558 < 0 then (laws_FnExactFrontier.j0 k a1 t531 t544 true a0_0 a0_1 l0_2 a0_3 l0_4) else ((laws_eqInt64S.f k t544 t531).bind fun t559 => (laws_FnExactFrontier.j0 k a1 t531 t544 (!t559) a0_0 a0_1 l0_2 a0_3 l0_4)))) else (some false)))) else (some false))))) = some r := H
   have A9 := Aside0.mk A90
   clear A90
   replace H := Option.bind_eq_some_iff.mp H
   obtain ⟨⟨t534, t535, t536, t539, t540⟩, A100, H⟩ := H
   replace H : ((impl_Frontier.f k t534 t535 t536 t539 t540 a1).bind fun t544 => ((laws_eqInt64S.f k t544 t531).bind fun t547 => (if t547 = true then ((laws_toFunc.f k a0_0 a0_1 l0_2 a0_3 l0_4).bind fun bt548 => ((laws_eqFunc.f k t534 t535 t536 t539 t540 bt548.1 bt548.2.1 bt548.2.2.1 bt548.2.2.2.1 bt548.2.2.2.2).bind fun t557 => (if t557 = true then ((laws_markFunc.f t534 t535 t536 t539 t540 1).bind fun t558 => (if t558 < 0 then (laws_FnExactFrontier.j0 k a1 t531 t544 true a0_0 a0_1 l0_2 a0_3 l0_4) else ((laws_eqInt64S.f k t544 t531).bind fun t559 => (laws_FnExactFrontier.j0 k a1 t531 t544 (!t559) a0_0 a0_1 l0_2 a0_3 l0_4)))) else (some false)))) else (some false)))) = some r := H
   have A10 := Aside0.mk A100
   clear A100
   replace H := Option.bind_eq_some_iff.mp H
   obtain ⟨t544, A110, H⟩ := H
   replace H : ((laws_eqInt64S.f k t544 t531).bind fun t547 => (if t547 = true then ((laws_toFunc.f k a0_0 a0_1 l0_2 a0_3 l0_4).bind fun bt548 => ((laws_eqFunc.f k t534 t535 t536 t539 t540 bt548.1 bt548.2.1 bt548.2.2.1 bt548.2.2.2.1 bt548.2.2.2.2).bind fun t557 => (if t557 = true then ((laws_markFunc.f t534 t535 t536 t539 t540 1).bind fun t558 => (if t558 < 0 then (laws_FnExactFrontier.j0 k a1 t531 t544 true a0_0 a0_1 l0_2 a0_3 l0_4) else ((laws_eqInt64S.f k t544 t531).bind fun t559 => (laws_FnExactFrontier.j0 k a1 t531 t544 (!t559) a0_0 a0_1 l0_2 a0_3 l0_4)))) else (some false)))) else (some false))) = some r := H
   have A11 := Aside0.mk A110
   clear A110
   replace H := Option.bind_eq_some_iff.mp H
   obtain ⟨t547, A120, H⟩ := H
   replace H : (if t547 = true then ((laws_toFunc.f k a0_0 a0_1 l0_2 a0_3 l0_4).bind fun bt548 => ((laws_eqFunc.f k t534 t535 t536 t539 t540 bt548.1 bt548.2.1 bt548.2.2.1 bt548.2.2.2.1 bt548.2.2.2.2).bind fun t557 => (if t557 = true then ((laws_markFunc.f t534 t535 t536 t539 t540 1).bind fun t558 => (if t558 < 0 then (laws_FnExactFrontier.j0 k a1 t531 t544 true a0_0 a0_1 l0_2 a0_3 l0_4) else ((laws_eqInt64S.f k t544 t531).bind fun t559 => (laws_FnExactFrontier.j0 k a1 t531 t544 (!t559) a0_0 a0_1 l0_2 a0_3 l0_4)))) else (some false)))) else (some false)) = some r := H
   have A12 := Aside0.mk A120
   clear A120
   by_cases c13 : t547 = true
   · subst c13
     have H1 : ((laws_toFunc.f k a0_0 a0_1 l0_2 a0_3 l0_4).bind fun bt548 => ((laws_eqFunc.f k t534 t535 t536 t539 t540 bt548.1 bt548.2.1 bt548.2.2.1 bt548.2.2.2.1 bt548.2.2.2.2).bind fun t557 => (if t557 = true then ((laws_markFunc.f t534 t535 t536 t539 t540 1).bind fun t558 => (if t558 < 0 then (laws_FnExactFrontier.j0 k a1 t531 t544 true a0_0 a0_1 l0_2 a0_3 l0_4) else ((laws_eqInt64S.f k t544 t531).bind fun t559 => (laws_FnExactFrontier.j0 k a1 t531 t544 (!t559) a0_0 a0_1 l0_2 a0_3 l0_4)))) else (some false)))) = some r := by rw [if_pos rfl] at H; exact H
     clear H
     have H := H1
     clear H1
     replace H := Option.bind_eq_some_iff.mp H
     obtain ⟨⟨t548, t549, t550, t553, t554⟩, A140, H⟩ := H
     replace H : ((laws_eqFunc.f k t534 t535 t536 t539 t540 t548 t549 t550 t553 t554).bind fun t557 => (if t557 = true then ((laws_markFunc.f t534 t535 t536 t539 t540 1).bind fun t558 => (if t558 < 0 then (laws_FnExactFrontier.j0 k a1 t531 t544 true a0_0 a0_1 l0_2 a0_3 l0_4) else ((laws_eqInt64S.f k t544 t531).bind fun t559 => (laws_FnExactFrontier.j0 k a1 t531 t544 (!t559) a0_0 a0_1 l0_2 a0_3 l0_4)))) else (some false))) = some r := H
     have A14 := Aside0.mk A140
     clear A140
     replace H := Option.bind_eq_some_iff.mp H
     obtain ⟨t557, A150, H⟩ := H
     replace H : (if t557 = true then ((laws_markFunc.f t534 t535 t536 t539 t540 1).bind fun t558 => (if t558 < 0 then (laws_FnExactFrontier.j0 k a1 t531 t544 true a0_0 a0_1 l0_2 a0_3 l0_4) else ((laws_eqInt64S.f k t544 t531).bind fun t559 => (laws_FnExactFrontier.j0 k a1 t531 t544 (!t559) a0_0 a0_1 l0_2 a0_3 l0_4)))) else (some false)) = some r := H
     have A15 := Aside0.mk A150
     clear A150
     by_cases c16 : t557 = true
     · subst c16
       have H1 : ((laws_markFunc.f t534 t535 t536 t539 t540 1).bind fun t558 => (if t558 < 0 then (laws_FnExactFrontier.j0 k a1 t531 t544 true a0_0 a0_1 l0_2 a0_3 l0_4) else ((laws_eqInt64S.f k t544 t531).bind fun t559 => (laws_FnExactFrontier.j0 k a1 t531 t544 (!t559) a0_0 a0_1 l0_2 a0_3 l0_4)))) = some r := by rw [if_pos rfl] at H; exact H
       clear H
       have H := H1
       clear H1
       replace H := Option.bind_eq_some_iff.mp H
       obtain ⟨t558, A170, H⟩ := H
       replace H : (if t558 < 0 then (laws_FnExactFrontier.j0 k a1 t531 t544 true a0_0 a0_1 l0_2 a0_3 l0_4) else ((laws_eqInt64S.f k t544 t531).bind fun t559 => (laws_FnExactFrontier.j0 k a1 t531 t544 (!t559) a0_0 a0_1 l0_2 a0_3 l0_4))) = some r := H
       have A17 := Aside0.mk A170
       clear A170
       have HC18 := Aside0.mk H
       clear H
       go_enter Try.func9, Try.ntmps9
       try go_wp2_with (first | ((with_reducible refine gate_dst (N := 2) rfl ?_); refine box_event ?hg (N := 2) ?hd (cs := #[.string a0_0, .int .i64 a0_1, .slice A0_2 l0_2.length c0_2, .int .i64 a0_3, .slice A0_4 l0_4.length c0_4]) (t := 25) ?hr ?_; (case hd => rfl); (case hg => rfl); (case hr => first | (go_simp; done) | (go_simp; rfl)); intro gb520 hg w19 hbox hb; have n0_ := Aside0.mk (below_step (by repeat (first | (with_reducible first | exact HB.out | apply below_alloc | apply pw_below_drewN | apply below_drew1) | exact HB.out)) hb); have n1_ := Aside0.mk (hbox); have n2_ := Aside0.mk ((by rw [hg]; exact (below_size (by repeat (first | (with_reducible first | exact HB.out | apply below_alloc | apply pw_below_drewN | apply below_drew1) | exact HB.out))) : w.heap.size ≤ gb520)); have n3_ := Aside0.mk ((by rw [hg]; exact (below_size (by repeat (first | (with_reducible first | exact HB.out | apply below_alloc | apply pw_below_drewN | apply below_drew1) | exact HB.out))) : w.heap.size ≤ gb520)); clear HB; have HB := n0_; have BK520 := n1_; have GW520 := n2_; have GE520 := n3_; clear n0_ n1_ n2_ n3_; clear hb hbox hg; have hcz20_0 : w19.cell? ⟨gb520, 0, none⟩ = some (.string a0_0) := (blk_cell BK520.out 0).trans rfl; have hcz20_1 : w19.cell? ⟨gb520, 1, none⟩ = some (.int .i64 a0_1) := (blk_cell BK520.out 1).trans rfl; have hcz20_2 : w19.cell? ⟨gb520, 2, none⟩ = some (.slice A0_2 l0_2.length c0_2) := (blk_cell BK520.out 2).trans rfl; have hcz20_3 : w19.cell? ⟨gb520, 3, none⟩ = some (.int .i64 a0_3) := (blk_cell BK520.out 3).trans rfl; have hcz20_4 : w19.cell? ⟨gb520, 4, none⟩ = some (.slice A0_4 l0_4.length c0_4) := (blk_cell BK520.out 4).trans rfl; have hfz20_0 := blk_frozen BK520.out 0; have hfz20_1 := blk_frozen BK520.out 1; have hfz20_2 := blk_frozen BK520.out 2; have hfz20_3 := blk_frozen BK520.out 3; have hfz20_4 := blk_frozen BK520.out 4) | ((with_reducible refine gate_callee (f := 12) rfl ?_); refine goesL_ (some 15) rfl rfl Try.func12 (by kernel_rfl) rfl #[.agg #[.string a0_0, .int .i64 a0_1, .slice A0_2 l0_2.length c0_2, .int .i64 a0_3, .slice A0_4 l0_4.length c0_4], .int .i64 1048576] rfl (by (try simp only [List.map_toArray, List.map_cons, List.map_nil]); first | done | rfl | (simp only [List.length_drop, List.length_take]; rfl)) ?_; (with_reducible refine (laws_szFunc.calls k a0_0 a0_1 _ _ l0_2 a0_3 _ _ l0_4 1048576 t521 _ ?side1 ?side2 ?side3 ?side4 A3.out).mono ?_); (case side1 => repeat (first | exact (Kd.C_below HR0_2.out HB.out) | (with_reducible refine Kd.C_alloc ?_ _) | (with_reducible refine Kd.C_drewN ?_ _) | (with_reducible refine Kd.C_drew ?_))); (case side2 => exact HC0_2.out); (case side3 => repeat (first | exact (Kd.C_below HR0_4.out HB.out) | (with_reducible refine Kd.C_alloc ?_ _) | (with_reducible refine Kd.C_drewN ?_ _) | (with_reducible refine Kd.C_drew ?_))); (case side4 => exact HC0_4.out); rintro e w21 ⟨rfl, hb⟩; refine ⟨_, rfl, ?_⟩; have n0_ := Aside0.mk (blk_below (g := gb520) (o := .cells #[.string a0_0, .int .i64 a0_1, .slice A0_2 l0_2.length c0_2, .int .i64 a0_3, .slice A0_4 l0_4.length c0_4] 25 (0, 0)) (by (with_reducible repeat (first | refine blk_drewN ?_ _ | refine blk_drew ?_ | refine blk_alloc ?_ _)); exact BK520.out) hb); have n1_ := Aside0.mk (below_step (by repeat (first | (with_reducible first | exact HB.out | apply below_alloc | apply pw_below_drewN | apply below_drew1 | refine below_set ?_ GE520.out) | exact HB.out)) hb); clear BK520; clear HB; have BK520 := n0_; have HB := n1_; clear n0_ n1_; (try clear hb); (try clear hb2); (try clear hk); (try clear hi); have hcz22_0 : w21.cell? ⟨gb520, 0, none⟩ = some (.string a0_0) := (blk_cell BK520.out 0).trans rfl; have hcz22_1 : w21.cell? ⟨gb520, 1, none⟩ = some (.int .i64 a0_1) := (blk_cell BK520.out 1).trans rfl; have hcz22_2 : w21.cell? ⟨gb520, 2, none⟩ = some (.slice A0_2 l0_2.length c0_2) := (blk_cell BK520.out 2).trans rfl; have hcz22_3 : w21.cell? ⟨gb520, 3, none⟩ = some (.int .i64 a0_3) := (blk_cell BK520.out 3).trans rfl; have hcz22_4 : w21.cell? ⟨gb520, 4, none⟩ = some (.slice A0_4 l0_4.length c0_4) := (blk_cell BK520.out 4).trans rfl; have hfz22_0 := blk_frozen BK520.out 0; have hfz22_1 := blk_frozen BK520.out 1; have hfz22_2 := blk_frozen BK520.out 2; have hfz22_3 := blk_frozen BK520.out 3; have hfz22_4 := blk_frozen BK520.out 4) | ((with_reducible refine gate_callee (f := 14) rfl ?_); refine goesL_ (some 19) rfl rfl Try.func14 (by kernel_rfl) rfl #[.agg #[.string a0_0, .int .i64 a0_1, .slice A0_2 l0_2.length c0_2, .int .i64 a0_3, .slice A0_4 l0_4.length c0_4]] rfl (by (try simp only [List.map_toArray, List.map_cons, List.map_nil]); first | done | rfl | (simp only [List.length_drop, List.length_take]; rfl)) ?_; (with_reducible refine (laws_toFunc.calls k a0_0 a0_1 _ _ l0_2 a0_3 _ _ l0_4 t522 t523 t524 t527 t528 _ ?side1 ?side2 ?side3 ?side4 A8.out).mono ?_); (case side1 => repeat (first | exact (Kd.C_below HR0_2.out HB.out) | (with_reducible refine Kd.C_alloc ?_ _) | (with_reducible refine Kd.C_drewN ?_ _) | (with_reducible refine Kd.C_drew ?_))); (case side2 => exact HC0_2.out); (case side3 => repeat (first | exact (Kd.C_below HR0_4.out HB.out) | (with_reducible refine Kd.C_alloc ?_ _) | (with_reducible refine Kd.C_drewN ?_ _) | (with_reducible refine Kd.C_drew ?_))); (case side4 => exact HC0_4.out); rintro e w23 ⟨v525, v529, rfl, ho0, ho1, hb⟩; refine ⟨_, rfl, ?_⟩; have n0_ := Aside0.mk (Kd.R_lower ho0 (below_size (by repeat (first | (with_reducible first | exact HB.out | apply below_alloc | apply pw_below_drewN | apply below_drew1 | refine below_set ?_ GE520.out) | exact HB.out)))); have n1_ := Aside0.mk (Kd.R_lower ho1 (below_size (by repeat (first | (with_reducible first | exact HB.out | apply below_alloc | apply pw_below_drewN | apply below_drew1 | refine below_set ?_ GE520.out) | exact HB.out)))); have n2_ := Aside0.mk (blk_below (g := gb520) (o := .cells #[.string a0_0, .int .i64 a0_1, .slice A0_2 l0_2.length c0_2, .int .i64 a0_3, .slice A0_4 l0_4.length c0_4] 25 (0, 0)) (by (with_reducible repeat (first | refine blk_drewN ?_ _ | refine blk_drew ?_ | refine blk_alloc ?_ _)); exact BK520.out) hb); have n3_ := Aside0.mk (below_step (by repeat (first | (with_reducible first | exact HB.out | apply below_alloc | apply pw_below_drewN | apply below_drew1 | refine below_set ?_ GE520.out) | exact HB.out)) hb); clear BK520; clear HB; have HO526 := n0_; have HO530 := n1_; have BK520 := n2_; have HB := n3_; clear n0_ n1_ n2_ n3_; (try clear hb); (try clear hb2); (try clear hk); (try clear hi); (try clear ho0); (try clear ho1); obtain ⟨Ao24, co24, eo24⟩ := Kd.R_slice HO526.out; subst eo24; obtain ⟨Ao25, co25, eo25⟩ := Kd.R_slice HO530.out; subst eo25) | ((with_reducible refine gate_callee (f := 34) rfl ?_); refine goesL_ (some 21) rfl rfl Try.func34 (by kernel_rfl) rfl #[.agg #[.string t522, .int .i64 t523, .slice Ao24 t524.length co24, .int .i64 t527, .slice Ao25 t528.length co25], .int .i64 a1] rfl (by (try simp only [List.map_toArray, List.map_cons, List.map_nil]); first | done | rfl | (simp only [List.length_drop, List.length_take]; rfl)) ?_; (with_reducible refine (spec_Frontier.calls k t522 t523 _ _ t524 t527 _ _ t528 a1 t531 _ ?side1 ?side2 ?side3 ?side4 A9.out).mono ?_); (case side1 => repeat (first | exact (Kd.R_reads' HO526.out).2.2 | (with_reducible refine Kd.C_alloc ?_ _) | (with_reducible refine Kd.C_drewN ?_ _) | (with_reducible refine Kd.C_drew ?_))); (case side2 => exact (Kd.R_reads' HO526.out).2.1); (case side3 => repeat (first | exact (Kd.R_reads' HO530.out).2.2 | (with_reducible refine Kd.C_alloc ?_ _) | (with_reducible refine Kd.C_drewN ?_ _) | (with_reducible refine Kd.C_drew ?_))); (case side4 => exact (Kd.R_reads' HO530.out).2.1); rintro e w26 ⟨v532, rfl, ho0, hb⟩; refine ⟨_, rfl, ?_⟩; have n0_ := Aside0.mk (Kd.R_elder' (by (with_reducible repeat (first | apply Kd.R_alloc | apply Kd.R_drewN | apply Kd.R_drew)); exact HO526.out) (Kd.R_base ho0) hb); have n1_ := Aside0.mk (Kd.R_elder' (by (with_reducible repeat (first | apply Kd.R_alloc | apply Kd.R_drewN | apply Kd.R_drew)); exact HO530.out) (Kd.R_base ho0) hb); have n2_ := Aside0.mk (Kd.R_lower (Kd.R_new' ho0 (Kd.R_lt (by (with_reducible repeat (first | apply Kd.R_alloc | apply Kd.R_drewN | apply Kd.R_drew)); exact HO526.out))) (below_size (by repeat (first | (with_reducible first | exact HB.out | apply below_alloc | apply pw_below_drewN | apply below_drew1 | refine below_set ?_ GE520.out) | exact HB.out)))); have n3_ := Aside0.mk (blk_below (g := gb520) (o := .cells #[.string a0_0, .int .i64 a0_1, .slice A0_2 l0_2.length c0_2, .int .i64 a0_3, .slice A0_4 l0_4.length c0_4] 25 (0, 0)) (by (with_reducible repeat (first | refine blk_drewN ?_ _ | refine blk_drew ?_ | refine blk_alloc ?_ _)); exact BK520.out) hb); have n4_ := Aside0.mk (below_step (by repeat (first | (with_reducible first | exact HB.out | apply below_alloc | apply pw_below_drewN | apply below_drew1 | refine below_set ?_ GE520.out) | exact HB.out)) hb); clear HO526; clear HO530; clear BK520; clear HB; have HO526 := n0_; have HO530 := n1_; have HO533 := n2_; have BK520 := n3_; have HB := n4_; clear n0_ n1_ n2_ n3_ n4_; (try clear hb); (try clear hb2); (try clear hk); (try clear hi); (try clear ho0); have hcz27_0 : w26.cell? ⟨gb520, 0, none⟩ = some (.string a0_0) := (blk_cell BK520.out 0).trans rfl; have hcz27_1 : w26.cell? ⟨gb520, 1, none⟩ = some (.int .i64 a0_1) := (blk_cell BK520.out 1).trans rfl; have hcz27_2 : w26.cell? ⟨gb520, 2, none⟩ = some (.slice A0_2 l0_2.length c0_2) := (blk_cell BK520.out 2).trans rfl; have hcz27_3 : w26.cell? ⟨gb520, 3, none⟩ = some (.int .i64 a0_3) := (blk_cell BK520.out 3).trans rfl; have hcz27_4 : w26.cell? ⟨gb520, 4, none⟩ = some (.slice A0_4 l0_4.length c0_4) := (blk_cell BK520.out 4).trans rfl; have hfz27_0 := blk_frozen BK520.out 0; have hfz27_1 := blk_frozen BK520.out 1; have hfz27_2 := blk_frozen BK520.out 2; have hfz27_3 := blk_frozen BK520.out 3; have hfz27_4 := blk_frozen BK520.out 4) | ((with_reducible refine gate_callee (f := 14) rfl ?_); refine goesL_ (some 23) rfl rfl Try.func14 (by kernel_rfl) rfl #[.agg #[.string a0_0, .int .i64 a0_1, .slice A0_2 l0_2.length c0_2, .int .i64 a0_3, .slice A0_4 l0_4.length c0_4]] rfl (by (try simp only [List.map_toArray, List.map_cons, List.map_nil]); first | done | rfl | (simp only [List.length_drop, List.length_take]; rfl)) ?_; (with_reducible refine (laws_toFunc.calls k a0_0 a0_1 _ _ l0_2 a0_3 _ _ l0_4 t534 t535 t536 t539 t540 _ ?side1 ?side2 ?side3 ?side4 A10.out).mono ?_); (case side1 => repeat (first | exact (Kd.C_below HR0_2.out HB.out) | (with_reducible refine Kd.C_alloc ?_ _) | (with_reducible refine Kd.C_drewN ?_ _) | (with_reducible refine Kd.C_drew ?_))); (case side2 => exact HC0_2.out); (case side3 => repeat (first | exact (Kd.C_below HR0_4.out HB.out) | (with_reducible refine Kd.C_alloc ?_ _) | (with_reducible refine Kd.C_drewN ?_ _) | (with_reducible refine Kd.C_drew ?_))); (case side4 => exact HC0_4.out); rintro e w28 ⟨v537, v541, rfl, ho0, ho1, hb⟩; refine ⟨_, rfl, ?_⟩; have n0_ := Aside0.mk (Kd.R_elder' (by (with_reducible repeat (first | apply Kd.R_alloc | apply Kd.R_drewN | apply Kd.R_drew)); exact HO526.out) (Kd.R_base ho0) hb); have n1_ := Aside0.mk (Kd.R_mono (Kd.R_told (Kd.R_told (Kd.R_old (by (with_reducible repeat (first | apply Kd.R_alloc | apply Kd.R_drewN | apply Kd.R_drew)); exact HO530.out) hb) (Kd.R_base ho0)) (Kd.R_base ho1)) (fun _ h_ => h_.1)); have n2_ := Aside0.mk (Kd.R_elder' (by (with_reducible repeat (first | apply Kd.R_alloc | apply Kd.R_drewN | apply Kd.R_drew)); exact HO533.out) (Kd.R_base ho0) hb); have n3_ := Aside0.mk (Kd.R_lower (Kd.R_new' (Kd.R_new' ho0 (Kd.R_lt (by (with_reducible repeat (first | apply Kd.R_alloc | apply Kd.R_drewN | apply Kd.R_drew)); exact HO526.out))) (Kd.R_lt (by (with_reducible repeat (first | apply Kd.R_alloc | apply Kd.R_drewN | apply Kd.R_drew)); exact HO533.out))) (below_size (by repeat (first | (with_reducible first | exact HB.out | apply below_alloc | apply pw_below_drewN | apply below_drew1 | refine below_set ?_ GE520.out) | exact HB.out)))); have n4_ := Aside0.mk (Kd.R_lower (Kd.R_new' (Kd.R_new' (Kd.R_new' ho1 (Kd.R_lt (by (with_reducible repeat (first | apply Kd.R_alloc | apply Kd.R_drewN | apply Kd.R_drew)); exact HO526.out))) (Kd.R_lt (by (with_reducible repeat (first | apply Kd.R_alloc | apply Kd.R_drewN | apply Kd.R_drew)); exact HO530.out))) (Kd.R_lt (by (with_reducible repeat (first | apply Kd.R_alloc | apply Kd.R_drewN | apply Kd.R_drew)); exact HO533.out))) (below_size (by repeat (first | (with_reducible first | exact HB.out | apply below_alloc | apply pw_below_drewN | apply below_drew1 | refine below_set ?_ GE520.out) | exact HB.out)))); have n5_ := Aside0.mk (blk_below (g := gb520) (o := .cells #[.string a0_0, .int .i64 a0_1, .slice A0_2 l0_2.length c0_2, .int .i64 a0_3, .slice A0_4 l0_4.length c0_4] 25 (0, 0)) (by (with_reducible repeat (first | refine blk_drewN ?_ _ | refine blk_drew ?_ | refine blk_alloc ?_ _)); exact BK520.out) hb); have n6_ := Aside0.mk (below_step (by repeat (first | (with_reducible first | exact HB.out | apply below_alloc | apply pw_below_drewN | apply below_drew1 | refine below_set ?_ GE520.out) | exact HB.out)) hb); clear HO526; clear HO530; clear HO533; clear BK520; clear HB; have HO526 := n0_; have HO530 := n1_; have HO533 := n2_; have HO538 := n3_; have HO542 := n4_; have BK520 := n5_; have HB := n6_; clear n0_ n1_ n2_ n3_ n4_ n5_ n6_; (try clear hb); (try clear hb2); (try clear hk); (try clear hi); (try clear ho0); (try clear ho1)) | ((with_reducible refine gate_dst (N := 7) rfl ?_); refine box_event ?hg (N := 7) ?hd (cs := #[.string (⟨#[]⟩ : ByteArray), .int .i64 0, .slice none 0 0, .int .i64 0, .slice none 0 0]) (t := 30) ?hr ?_; (case hd => rfl); (case hg => rfl); (case hr => first | (go_simp; done) | (go_simp; rfl)); intro gb543 hg w29 hbox hb; have n0_ := Aside0.mk (Kd.R_below (by (with_reducible repeat (first | apply Kd.R_alloc | apply Kd.R_drewN | apply Kd.R_drew)); exact HO526.out) hb); have n1_ := Aside0.mk (Kd.R_below (by (with_reducible repeat (first | apply Kd.R_alloc | apply Kd.R_drewN | apply Kd.R_drew)); exact HO530.out) hb); have n2_ := Aside0.mk (Kd.R_below (by (with_reducible repeat (first | apply Kd.R_alloc | apply Kd.R_drewN | apply Kd.R_drew)); exact HO533.out) hb); have n3_ := Aside0.mk (Kd.R_below (by (with_reducible repeat (first | apply Kd.R_alloc | apply Kd.R_drewN | apply Kd.R_drew)); exact HO538.out) hb); have n4_ := Aside0.mk (Kd.R_below (by (with_reducible repeat (first | apply Kd.R_alloc | apply Kd.R_drewN | apply Kd.R_drew)); exact HO542.out) hb); have n5_ := Aside0.mk (blk_below (g := gb520) (o := .cells #[.string a0_0, .int .i64 a0_1, .slice A0_2 l0_2.length c0_2, .int .i64 a0_3, .slice A0_4 l0_4.length c0_4] 25 (0, 0)) (by (with_reducible repeat (first | refine blk_drewN ?_ _ | refine blk_drew ?_ | refine blk_alloc ?_ _)); exact BK520.out) hb); have n6_ := Aside0.mk (below_step (by repeat (first | (with_reducible first | exact HB.out | apply below_alloc | apply pw_below_drewN | apply below_drew1 | refine below_set ?_ GE520.out) | exact HB.out)) hb); have n7_ := Aside0.mk (hbox); have n8_ := Aside0.mk ((by rw [hg]; exact (below_size (by repeat (first | (with_reducible first | exact HB.out | apply below_alloc | apply pw_below_drewN | apply below_drew1 | refine below_set ?_ GE520.out) | exact HB.out))) : w.heap.size ≤ gb543)); have n9_ := Aside0.mk ((by rw [hg]; exact (below_size (by repeat (first | (with_reducible first | exact HB.out | apply below_alloc | apply pw_below_drewN | apply below_drew1 | refine below_set ?_ GE520.out) | exact HB.out))) : w.heap.size ≤ gb543)); have n10_ := Aside0.mk ((by rw [hg]; exact Nat.ne_of_lt (blk_lt (g := gb520) (o := .cells #[.string a0_0, .int .i64 a0_1, .slice A0_2 l0_2.length c0_2, .int .i64 a0_3, .slice A0_4 l0_4.length c0_4] 25 (0, 0)) (by (with_reducible repeat (first | refine blk_drewN ?_ _ | refine blk_drew ?_ | refine blk_alloc ?_ _)); exact BK520.out)) : gb520 ≠ gb543)); have n11_ := Aside0.mk ((by rw [hg]; exact Nat.ne_of_gt (blk_lt (g := gb520) (o := .cells #[.string a0_0, .int .i64 a0_1, .slice A0_2 l0_2.length c0_2, .int .i64 a0_3, .slice A0_4 l0_4.length c0_4] 25 (0, 0)) (by (with_reducible repeat (first | refine blk_drewN ?_ _ | refine blk_drew ?_ | refine blk_alloc ?_ _)); exact BK520.out)) : gb543 ≠ gb520)); clear HO526; clear HO530; clear HO533; clear HO538; clear HO542; clear BK520; clear HB; have HO526 := n0_; have HO530 := n1_; have HO533 := n2_; have HO538 := n3_; have HO542 := n4_; have BK520 := n5_; have HB := n6_; have BK543 := n7_; have GW543 := n8_; have GE543 := n9_; have NB520_543 := n10_; have NB543_520 := n11_; clear n0_ n1_ n2_ n3_ n4_ n5_ n6_ n7_ n8_ n9_ n10_ n11_; clear hb hbox hg; have hnb30 := NB543_520.out; have hnc30 := NB520_543.out; have hcz31_0 : w29.cell? ⟨gb543, 0, none⟩ = some (.string (⟨#[]⟩ : ByteArray)) := (blk_cell BK543.out 0).trans rfl; have hcz31_1 : w29.cell? ⟨gb543, 1, none⟩ = some (.int .i64 0) := (blk_cell BK543.out 1).trans rfl; have hcz31_2 : w29.cell? ⟨gb543, 2, none⟩ = some (.slice none 0 0) := (blk_cell BK543.out 2).trans rfl; have hcz31_3 : w29.cell? ⟨gb543, 3, none⟩ = some (.int .i64 0) := (blk_cell BK543.out 3).trans rfl; have hcz31_4 : w29.cell? ⟨gb543, 4, none⟩ = some (.slice none 0 0) := (blk_cell BK543.out 4).trans rfl; have hfz31_0 := blk_frozen BK543.out 0; have hfz31_1 := blk_frozen BK543.out 1; have hfz31_2 := blk_frozen BK543.out 2; have hfz31_3 := blk_frozen BK543.out 3; have hfz31_4 := blk_frozen BK543.out 4; obtain ⟨Ao32, co32, eo32⟩ := Kd.R_slice HO538.out; subst eo32; obtain ⟨Ao33, co33, eo33⟩ := Kd.R_slice HO542.out; subst eo33) | ((with_reducible refine gate_callee (f := 35) rfl ?_); refine goesL_ (some 26) rfl rfl Try.func35 (by kernel_rfl) rfl #[.agg #[.string t534, .int .i64 t535, .slice Ao32 t536.length co32, .int .i64 t539, .slice Ao33 t540.length co33], .int .i64 a1] rfl (by (try simp only [List.map_toArray, List.map_cons, List.map_nil]); first | done | rfl | (simp only [List.length_drop, List.length_take]; rfl)) ?_; (with_reducible refine (impl_Frontier.calls k t534 t535 _ _ t536 t539 _ _ t540 a1 t544 _ ?side1 ?side2 ?side3 ?side4 A11.out).mono ?_); (case side1 => refine (Kd.R_reads' (e := 2) (base := w.heap.size) (ok := fun k_ => ((True ∧ some k_ ≠ (.slice Ao24 t524.length co24 : Value).ownBlock) ∧ some k_ ≠ (v532 : Value).ownBlock)) (n := t536.length) (c := co32) ?_).2.2; exact (by (with_reducible repeat (first | apply Kd.R_alloc | apply Kd.R_drewN | apply Kd.R_drew)); exact (Kd.R_mono (Kd.R_far (p := ⟨gb543, 4, none⟩) (Kd.R_far (p := ⟨gb543, 3, none⟩) (Kd.R_far (p := ⟨gb543, 2, none⟩) (Kd.R_far (p := ⟨gb543, 1, none⟩) (Kd.R_far (p := ⟨gb543, 0, none⟩) (Kd.R_types HO538.out BK543.out (by decide)) (fun _ hk => hk.2) (.string t534)) (fun _ hk => hk.2) (.int .i64 t535)) (fun _ hk => hk.2) (.slice Ao32 t536.length co32)) (fun _ hk => hk.2) (.int .i64 t539)) (fun _ hk => hk.2) (.slice Ao33 t540.length co33)) (fun _ h_ => h_.1)))); (case side2 => exact (Kd.R_reads' HO538.out).2.1); (case side3 => refine (Kd.R_reads' (e := 62) (base := w.heap.size) (ok := fun k_ => (((some k_ ≠ (.slice Ao32 t536.length co32 : Value).ownBlock ∧ some k_ ≠ (.slice Ao24 t524.length co24 : Value).ownBlock) ∧ some k_ ≠ (.slice Ao25 t528.length co25 : Value).ownBlock) ∧ some k_ ≠ (v532 : Value).ownBlock)) (n := t540.length) (c := co33) ?_).2.2; exact (by (with_reducible repeat (first | apply Kd.R_alloc | apply Kd.R_drewN | apply Kd.R_drew)); exact (Kd.R_mono (Kd.R_far (p := ⟨gb543, 4, none⟩) (Kd.R_far (p := ⟨gb543, 3, none⟩) (Kd.R_far (p := ⟨gb543, 2, none⟩) (Kd.R_far (p := ⟨gb543, 1, none⟩) (Kd.R_far (p := ⟨gb543, 0, none⟩) (Kd.R_types HO542.out BK543.out (by decide)) (fun _ hk => hk.2) (.string t534)) (fun _ hk => hk.2) (.int .i64 t535)) (fun _ hk => hk.2) (.slice Ao32 t536.length co32)) (fun _ hk => hk.2) (.int .i64 t539)) (fun _ hk => hk.2) (.slice Ao33 t540.length co33)) (fun _ h_ => h_.1)))); (case side4 => exact (Kd.R_reads' HO542.out).2.1); rintro e w34 ⟨v545, rfl, ho0, hb⟩; refine ⟨_, rfl, ?_⟩; have n0_ := Aside0.mk (Kd.R_elder' (by (with_reducible repeat (first | apply Kd.R_alloc | apply Kd.R_drewN | apply Kd.R_drew)); exact (Kd.R_mono (Kd.R_far (p := ⟨gb543, 4, none⟩) (Kd.R_far (p := ⟨gb543, 3, none⟩) (Kd.R_far (p := ⟨gb543, 2, none⟩) (Kd.R_far (p := ⟨gb543, 1, none⟩) (Kd.R_far (p := ⟨gb543, 0, none⟩) (Kd.R_types HO526.out BK543.out (by decide)) (fun _ hk => hk.2) (.string t534)) (fun _ hk => hk.2) (.int .i64 t535)) (fun _ hk => hk.2) (.slice Ao32 t536.length co32)) (fun _ hk => hk.2) (.int .i64 t539)) (fun _ hk => hk.2) (.slice Ao33 t540.length co33)) (fun _ h_ => h_.1))) (Kd.R_base ho0) hb); have n1_ := Aside0.mk (Kd.R_elder' (by (with_reducible repeat (first | apply Kd.R_alloc | apply Kd.R_drewN | apply Kd.R_drew)); exact (Kd.R_mono (Kd.R_far (p := ⟨gb543, 4, none⟩) (Kd.R_far (p := ⟨gb543, 3, none⟩) (Kd.R_far (p := ⟨gb543, 2, none⟩) (Kd.R_far (p := ⟨gb543, 1, none⟩) (Kd.R_far (p := ⟨gb543, 0, none⟩) (Kd.R_types HO530.out BK543.out (by decide)) (fun _ hk => hk.2) (.string t534)) (fun _ hk => hk.2) (.int .i64 t535)) (fun _ hk => hk.2) (.slice Ao32 t536.length co32)) (fun _ hk => hk.2) (.int .i64 t539)) (fun _ hk => hk.2) (.slice Ao33 t540.length co33)) (fun _ h_ => h_.1))) (Kd.R_base ho0) hb); have n2_ := Aside0.mk (Kd.R_elder' (by (with_reducible repeat (first | apply Kd.R_alloc | apply Kd.R_drewN | apply Kd.R_drew)); exact (Kd.R_mono (Kd.R_far (p := ⟨gb543, 4, none⟩) (Kd.R_far (p := ⟨gb543, 3, none⟩) (Kd.R_far (p := ⟨gb543, 2, none⟩) (Kd.R_far (p := ⟨gb543, 1, none⟩) (Kd.R_far (p := ⟨gb543, 0, none⟩) (Kd.R_types HO533.out BK543.out (by decide)) (fun _ hk => hk.2) (.string t534)) (fun _ hk => hk.2) (.int .i64 t535)) (fun _ hk => hk.2) (.slice Ao32 t536.length co32)) (fun _ hk => hk.2) (.int .i64 t539)) (fun _ hk => hk.2) (.slice Ao33 t540.length co33)) (fun _ h_ => h_.1))) (Kd.R_base ho0) hb); have n3_ := Aside0.mk (Kd.R_elder' (by (with_reducible repeat (first | apply Kd.R_alloc | apply Kd.R_drewN | apply Kd.R_drew)); exact (Kd.R_mono (Kd.R_far (p := ⟨gb543, 4, none⟩) (Kd.R_far (p := ⟨gb543, 3, none⟩) (Kd.R_far (p := ⟨gb543, 2, none⟩) (Kd.R_far (p := ⟨gb543, 1, none⟩) (Kd.R_far (p := ⟨gb543, 0, none⟩) (Kd.R_types HO538.out BK543.out (by decide)) (fun _ hk => hk.2) (.string t534)) (fun _ hk => hk.2) (.int .i64 t535)) (fun _ hk => hk.2) (.slice Ao32 t536.length co32)) (fun _ hk => hk.2) (.int .i64 t539)) (fun _ hk => hk.2) (.slice Ao33 t540.length co33)) (fun _ h_ => h_.1))) (Kd.R_base ho0) hb); have n4_ := Aside0.mk (Kd.R_elder' (by (with_reducible repeat (first | apply Kd.R_alloc | apply Kd.R_drewN | apply Kd.R_drew)); exact (Kd.R_mono (Kd.R_far (p := ⟨gb543, 4, none⟩) (Kd.R_far (p := ⟨gb543, 3, none⟩) (Kd.R_far (p := ⟨gb543, 2, none⟩) (Kd.R_far (p := ⟨gb543, 1, none⟩) (Kd.R_far (p := ⟨gb543, 0, none⟩) (Kd.R_types HO542.out BK543.out (by decide)) (fun _ hk => hk.2) (.string t534)) (fun _ hk => hk.2) (.int .i64 t535)) (fun _ hk => hk.2) (.slice Ao32 t536.length co32)) (fun _ hk => hk.2) (.int .i64 t539)) (fun _ hk => hk.2) (.slice Ao33 t540.length co33)) (fun _ h_ => h_.1))) (Kd.R_base ho0) hb); have n5_ := Aside0.mk (Kd.R_lower (Kd.R_new' (Kd.R_new' (Kd.R_new' ho0 (Kd.R_lt (by (with_reducible repeat (first | apply Kd.R_alloc | apply Kd.R_drewN | apply Kd.R_drew)); exact (Kd.R_mono (Kd.R_far (p := ⟨gb543, 4, none⟩) (Kd.R_far (p := ⟨gb543, 3, none⟩) (Kd.R_far (p := ⟨gb543, 2, none⟩) (Kd.R_far (p := ⟨gb543, 1, none⟩) (Kd.R_far (p := ⟨gb543, 0, none⟩) (Kd.R_types HO526.out BK543.out (by decide)) (fun _ hk => hk.2) (.string t534)) (fun _ hk => hk.2) (.int .i64 t535)) (fun _ hk => hk.2) (.slice Ao32 t536.length co32)) (fun _ hk => hk.2) (.int .i64 t539)) (fun _ hk => hk.2) (.slice Ao33 t540.length co33)) (fun _ h_ => h_.1))))) (Kd.R_lt (by (with_reducible repeat (first | apply Kd.R_alloc | apply Kd.R_drewN | apply Kd.R_drew)); exact (Kd.R_mono (Kd.R_far (p := ⟨gb543, 4, none⟩) (Kd.R_far (p := ⟨gb543, 3, none⟩) (Kd.R_far (p := ⟨gb543, 2, none⟩) (Kd.R_far (p := ⟨gb543, 1, none⟩) (Kd.R_far (p := ⟨gb543, 0, none⟩) (Kd.R_types HO533.out BK543.out (by decide)) (fun _ hk => hk.2) (.string t534)) (fun _ hk => hk.2) (.int .i64 t535)) (fun _ hk => hk.2) (.slice Ao32 t536.length co32)) (fun _ hk => hk.2) (.int .i64 t539)) (fun _ hk => hk.2) (.slice Ao33 t540.length co33)) (fun _ h_ => h_.1))))) (Kd.R_lt (by (with_reducible repeat (first | apply Kd.R_alloc | apply Kd.R_drewN | apply Kd.R_drew)); exact (Kd.R_mono (Kd.R_far (p := ⟨gb543, 4, none⟩) (Kd.R_far (p := ⟨gb543, 3, none⟩) (Kd.R_far (p := ⟨gb543, 2, none⟩) (Kd.R_far (p := ⟨gb543, 1, none⟩) (Kd.R_far (p := ⟨gb543, 0, none⟩) (Kd.R_types HO538.out BK543.out (by decide)) (fun _ hk => hk.2) (.string t534)) (fun _ hk => hk.2) (.int .i64 t535)) (fun _ hk => hk.2) (.slice Ao32 t536.length co32)) (fun _ hk => hk.2) (.int .i64 t539)) (fun _ hk => hk.2) (.slice Ao33 t540.length co33)) (fun _ h_ => h_.1))))) (below_size (by repeat (first | (with_reducible first | exact HB.out | apply below_alloc | apply pw_below_drewN | apply below_drew1 | refine below_set ?_ GE520.out | refine below_set ?_ GE543.out) | exact HB.out)))); have n6_ := Aside0.mk (blk_below (g := gb520) (o := .cells #[.string a0_0, .int .i64 a0_1, .slice A0_2 l0_2.length c0_2, .int .i64 a0_3, .slice A0_4 l0_4.length c0_4] 25 (0, 0)) (by (with_reducible repeat (first | refine blk_drewN ?_ _ | refine blk_drew ?_ | refine blk_alloc ?_ _)); refine blk_far ?_ NB520_543.out _; (with_reducible repeat (first | refine blk_drewN ?_ _ | refine blk_drew ?_ | refine blk_alloc ?_ _)); refine blk_far ?_ NB520_543.out _; (with_reducible repeat (first | refine blk_drewN ?_ _ | refine blk_drew ?_ | refine blk_alloc ?_ _)); refine blk_far ?_ NB520_543.out _; (with_reducible repeat (first | refine blk_drewN ?_ _ | refine blk_drew ?_ | refine blk_alloc ?_ _)); refine blk_far ?_ NB520_543.out _; (with_reducible repeat (first | refine blk_drewN ?_ _ | refine blk_drew ?_ | refine blk_alloc ?_ _)); refine blk_far ?_ NB520_543.out _; (with_reducible repeat (first | refine blk_drewN ?_ _ | refine blk_drew ?_ | refine blk_alloc ?_ _)); exact BK520.out) hb); have n7_ := Aside0.mk (blk_below (g := gb543) (o := .cells #[.string t534, .int .i64 t535, .slice Ao32 t536.length co32, .int .i64 t539, .slice Ao33 t540.length co33] 30 (0, 0)) (by (with_reducible repeat (first | refine blk_drewN ?_ _ | refine blk_drew ?_ | refine blk_alloc ?_ _)); refine blk_put (cs := #[.string t534, .int .i64 t535, .slice Ao32 t536.length co32, .int .i64 t539, .slice none 0 0]) ?_ 4 _ rfl; (with_reducible repeat (first | refine blk_drewN ?_ _ | refine blk_drew ?_ | refine blk_alloc ?_ _)); refine blk_put (cs := #[.string t534, .int .i64 t535, .slice Ao32 t536.length co32, .int .i64 0, .slice none 0 0]) ?_ 3 _ rfl; (with_reducible repeat (first | refine blk_drewN ?_ _ | refine blk_drew ?_ | refine blk_alloc ?_ _)); refine blk_put (cs := #[.string t534, .int .i64 t535, .slice none 0 0, .int .i64 0, .slice none 0 0]) ?_ 2 _ rfl; (with_reducible repeat (first | refine blk_drewN ?_ _ | refine blk_drew ?_ | refine blk_alloc ?_ _)); refine blk_put (cs := #[.string t534, .int .i64 0, .slice none 0 0, .int .i64 0, .slice none 0 0]) ?_ 1 _ rfl; (with_reducible repeat (first | refine blk_drewN ?_ _ | refine blk_drew ?_ | refine blk_alloc ?_ _)); refine blk_put (cs := #[.string (⟨#[]⟩ : ByteArray), .int .i64 0, .slice none 0 0, .int .i64 0, .slice none 0 0]) ?_ 0 _ rfl; (with_reducible repeat (first | refine blk_drewN ?_ _ | refine blk_drew ?_ | refine blk_alloc ?_ _)); exact BK543.out) hb); have n8_ := Aside0.mk (below_step (by repeat (first | (with_reducible first | exact HB.out | apply below_alloc | apply pw_below_drewN | apply below_drew1 | refine below_set ?_ GE520.out | refine below_set ?_ GE543.out) | exact HB.out)) hb); clear HO526; clear HO530; clear HO533; clear HO538; clear HO542; clear BK520; clear BK543; clear HB; have HO526 := n0_; have HO530 := n1_; have HO533 := n2_; have HO538 := n3_; have HO542 := n4_; have HO546 := n5_; have BK520 := n6_; have BK543 := n7_; have HB := n8_; clear n0_ n1_ n2_ n3_ n4_ n5_ n6_ n7_ n8_; (try clear hb); (try clear hb2); (try clear hk); (try clear hi); (try clear ho0); obtain ⟨Ao35, co35, eo35⟩ := Kd.R_slice HO546.out; subst eo35; obtain ⟨Ao36, co36, eo36⟩ := Kd.R_slice HO533.out; subst eo36) | ((with_reducible refine gate_callee (f := 19) rfl ?_); refine goesL_ (some 29) rfl rfl Try.func19 (by kernel_rfl) rfl #[.slice Ao35 t544.length co35, .slice Ao36 t531.length co36] rfl (by (try simp only [List.map_toArray, List.map_cons, List.map_nil]); first | done | rfl | (simp only [List.length_drop, List.length_take]; rfl)) ?_; (with_reducible refine (laws_eqInt64S.calls k _ _ t544 _ _ t531 true _ ?side1 ?side2 ?side3 ?side4 A12.out).mono ?_); (case side1 => repeat (first | exact (Kd.R_reads' HO546.out).2.2 | (with_reducible refine Kd.C_alloc ?_ _) | (with_reducible refine Kd.C_drewN ?_ _) | (with_reducible refine Kd.C_drew ?_))); (case side2 => exact (Kd.R_reads' HO546.out).2.1); (case side3 => repeat (first | exact (Kd.R_reads' HO533.out).2.2 | (with_reducible refine Kd.C_alloc ?_ _) | (with_reducible refine Kd.C_drewN ?_ _) | (with_reducible refine Kd.C_drew ?_))); (case side4 => exact (Kd.R_reads' HO533.out).2.1); rintro e w' ⟨rfl, ⟨nd, rfl⟩⟩; refine ⟨_, rfl, ?_⟩))
       (try (rw [drewN_self w34]; generalize hq_ : World.drewN w34 _ = w34; have n0_ : Aside0 (Kd.R (Kd.int .i64) 2 w34 w.heap.size (fun k_ => (((True ∧ some k_ ≠ (.slice Ao36 t531.length co36 : Value).ownBlock) ∧ some k_ ≠ (.slice Ao32 t536.length co32 : Value).ownBlock) ∧ some k_ ≠ (.slice Ao35 t544.length co35 : Value).ownBlock)) (.slice Ao24 t524.length co24) t524) := ⟨by rw [← hq_]; exact (by (with_reducible repeat (first | apply Kd.R_alloc | apply Kd.R_drewN | apply Kd.R_drew)); exact HO526.out)⟩; have n1_ : Aside0 (Kd.R k62 62 w34 w.heap.size (fun k_ => ((((some k_ ≠ (.slice Ao24 t524.length co24 : Value).ownBlock ∧ some k_ ≠ (.slice Ao36 t531.length co36 : Value).ownBlock) ∧ some k_ ≠ (.slice Ao32 t536.length co32 : Value).ownBlock) ∧ some k_ ≠ (.slice Ao33 t540.length co33 : Value).ownBlock) ∧ some k_ ≠ (.slice Ao35 t544.length co35 : Value).ownBlock)) (.slice Ao25 t528.length co25) t528) := ⟨by rw [← hq_]; exact (by (with_reducible repeat (first | apply Kd.R_alloc | apply Kd.R_drewN | apply Kd.R_drew)); exact HO530.out)⟩; have n2_ : Aside0 (Kd.R (Kd.int .i64) 2 w34 w.heap.size (fun k_ => (((True ∧ some k_ ≠ (.slice Ao24 t524.length co24 : Value).ownBlock) ∧ some k_ ≠ (.slice Ao32 t536.length co32 : Value).ownBlock) ∧ some k_ ≠ (.slice Ao35 t544.length co35 : Value).ownBlock)) (.slice Ao36 t531.length co36) t531) := ⟨by rw [← hq_]; exact (by (with_reducible repeat (first | apply Kd.R_alloc | apply Kd.R_drewN | apply Kd.R_drew)); exact HO533.out)⟩; have n3_ : Aside0 (Kd.R (Kd.int .i64) 2 w34 w.heap.size (fun k_ => (((True ∧ some k_ ≠ (.slice Ao24 t524.length co24 : Value).ownBlock) ∧ some k_ ≠ (.slice Ao36 t531.length co36 : Value).ownBlock) ∧ some k_ ≠ (.slice Ao35 t544.length co35 : Value).ownBlock)) (.slice Ao32 t536.length co32) t536) := ⟨by rw [← hq_]; exact (by (with_reducible repeat (first | apply Kd.R_alloc | apply Kd.R_drewN | apply Kd.R_drew)); exact HO538.out)⟩; have n4_ : Aside0 (Kd.R k62 62 w34 w.heap.size (fun k_ => ((((some k_ ≠ (.slice Ao32 t536.length co32 : Value).ownBlock ∧ some k_ ≠ (.slice Ao24 t524.length co24 : Value).ownBlock) ∧ some k_ ≠ (.slice Ao25 t528.length co25 : Value).ownBlock) ∧ some k_ ≠ (.slice Ao36 t531.length co36 : Value).ownBlock) ∧ some k_ ≠ (.slice Ao35 t544.length co35 : Value).ownBlock)) (.slice Ao33 t540.length co33) t540) := ⟨by rw [← hq_]; exact (by (with_reducible repeat (first | apply Kd.R_alloc | apply Kd.R_drewN | apply Kd.R_drew)); exact HO542.out)⟩; have n5_ : Aside0 (Kd.R (Kd.int .i64) 2 w34 w.heap.size (fun k_ => (((True ∧ some k_ ≠ (.slice Ao24 t524.length co24 : Value).ownBlock) ∧ some k_ ≠ (.slice Ao36 t531.length co36 : Value).ownBlock) ∧ some k_ ≠ (.slice Ao32 t536.length co32 : Value).ownBlock)) (.slice Ao35 t544.length co35) t544) := ⟨by rw [← hq_]; exact (by (with_reducible repeat (first | apply Kd.R_alloc | apply Kd.R_drewN | apply Kd.R_drew)); exact HO546.out)⟩; have n6_ : Aside0 (w34.heap[gb520]? = some (.cells #[.string a0_0, .int .i64 a0_1, .slice A0_2 l0_2.length c0_2, .int .i64 a0_3, .slice A0_4 l0_4.length c0_4] 25 (0, 0))) := ⟨by rw [← hq_]; exact (by (with_reducible repeat (first | refine blk_drewN ?_ _ | refine blk_drew ?_ | refine blk_alloc ?_ _)); exact BK520.out)⟩; have n7_ : Aside0 (w34.heap[gb543]? = some (.cells #[.string t534, .int .i64 t535, .slice Ao32 t536.length co32, .int .i64 t539, .slice Ao33 t540.length co33] 30 (0, 0))) := ⟨by rw [← hq_]; exact (by (with_reducible repeat (first | refine blk_drewN ?_ _ | refine blk_drew ?_ | refine blk_alloc ?_ _)); exact BK543.out)⟩; have n8_ : Aside0 (Below w.heap.size w w34) := ⟨by rw [← hq_]; exact (by repeat (first | (with_reducible first | exact HB.out | apply below_alloc | apply pw_below_drewN | apply below_drew1 | refine below_set ?_ GE520.out | refine below_set ?_ GE543.out) | exact HB.out))⟩; clear HO526 HO530 HO533 HO538 HO542 HO546 BK520 BK543 HB hq_; have HO526 := n0_; have HO530 := n1_; have HO533 := n2_; have HO538 := n3_; have HO542 := n4_; have HO546 := n5_; have BK520 := n6_; have BK543 := n7_; have HB := n8_; clear n0_ n1_ n2_ n3_ n4_ n5_ n6_ n7_ n8_))
       have n0_ := Aside0.mk (Kd.R_drew HO526.out)
       have n1_ := Aside0.mk (Kd.R_drew HO530.out)
       have n2_ := Aside0.mk (Kd.R_drew HO533.out)
       have n3_ := Aside0.mk (Kd.R_drew HO538.out)
       have n4_ := Aside0.mk (Kd.R_drew HO542.out)
       have n5_ := Aside0.mk (Kd.R_drew HO546.out)
       have n6_ := Aside0.mk (blk_drew BK520.out)
       have n7_ := Aside0.mk (blk_drew BK543.out)
       have n8_ := Aside0.mk (below_drew1 HB.out)
       clear HO526
       clear HO530
       clear HO533
       clear HO538
       clear HO542
       clear HO546
       clear BK520
       clear BK543
       clear HB
       have HO526 := n0_
       have HO530 := n1_
       have HO533 := n2_
       have HO538 := n3_
       have HO542 := n4_
       have HO546 := n5_
       have BK520 := n6_
       have BK543 := n7_
       have HB := n8_
       clear n0_ n1_ n2_ n3_ n4_ n5_ n6_ n7_ n8_
       refine start_ (n := 5) (S := fun w' => w'.cell? ⟨gb543, 0, none⟩ = some (.string t534) ∧ w'.cell? ⟨gb543, 1, none⟩ = some (.int .i64 t535) ∧ w'.cell? ⟨gb543, 2, none⟩ = some (.slice Ao32 t536.length co32) ∧ w'.cell? ⟨gb543, 3, none⟩ = some (.int .i64 t539) ∧ w'.cell? ⟨gb543, 4, none⟩ = some (.slice Ao33 t540.length co33) ∧ w'.cell? ⟨gb520, 0, none⟩ = some (.string a0_0) ∧ w'.cell? ⟨gb520, 1, none⟩ = some (.int .i64 a0_1) ∧ w'.cell? ⟨gb520, 2, none⟩ = some (.slice A0_2 l0_2.length c0_2) ∧ w'.cell? ⟨gb520, 3, none⟩ = some (.int .i64 a0_3) ∧ w'.cell? ⟨gb520, 4, none⟩ = some (.slice A0_4 l0_4.length c0_4)) (ds := []) #[false, false, false, false, false] (by kernel_rfl) rfl rfl ⟨(blk_cell BK543.out 0).trans rfl, (blk_cell BK543.out 1).trans rfl, (blk_cell BK543.out 2).trans rfl, (blk_cell BK543.out 3).trans rfl, (blk_cell BK543.out 4).trans rfl, (blk_cell BK520.out 0).trans rfl, (blk_cell BK520.out 1).trans rfl, (blk_cell BK520.out 2).trans rfl, (blk_cell BK520.out 3).trans rfl, (blk_cell BK520.out 4).trans rfl⟩ (fun hHeld => ?_)
       generalize w34.drew = w37 at HO526 HO530 HO533 HO538 HO542 HO546 BK520 BK543 HB hHeld ⊢
       refine take_ (i := 0) (N := some 31) (v := ?_) (a' := ?_) #[true, false, false, false, false] rfl rfl (by kernel_rfl) (fun _ _ _ h => h) (Or.inl ⟨by rfl, ?_⟩) hHeld ?_ ?_
       rotate_left
       · rintro w' ⟨s0, s1, s2, s3, s4, s5, s6, s7, s8, s9⟩
         go_simp
         with_reducible rfl
       rotate_left
       · simp only [Act.put, List.setIfInBounds_toArray, List.set_cons_zero, List.set_cons_succ, i64_w, i32_w]
         rfl
       refine take_ (i := 1) (N := some 32) (v := ?_) (a' := ?_) #[true, true, false, false, false] rfl rfl (by kernel_rfl) (fun _ _ _ h => h) (Or.inl ⟨by rfl, ?_⟩) hHeld ?_ ?_
       rotate_left
       · rintro w' ⟨s0, s1, s2, s3, s4, s5, s6, s7, s8, s9⟩
         go_simp
         with_reducible rfl
       rotate_left
       · simp only [Act.put, List.setIfInBounds_toArray, List.set_cons_zero, List.set_cons_succ, i64_w, i32_w]
         rfl
       refine one_ (i := 2) (N := some 33) #[true, true, true, false, false] rfl rfl (by kernel_rfl) (by decide) (fun K hK => ?_)
       refine goes_ Try.func14 (by kernel_rfl) rfl #[.agg #[.string a0_0, .int .i64 a0_1, .slice A0_2 l0_2.length c0_2, .int .i64 a0_3, .slice A0_4 l0_4.length c0_4]] (by rfl) rfl rfl (by (try simp only [List.map_toArray, List.map_cons, List.map_nil]); first | done | rfl | (simp only [List.length_drop, List.length_take]; rfl)) ?_
       with_reducible refine (laws_toFunc.calls k a0_0 a0_1 _ _ l0_2 a0_3 _ _ l0_4 t548 t549 t550 t553 t554 _ ?side1 ?side2 ?side3 ?side4 A14.out).mono ?_
       (case side1 => repeat (first | exact (Kd.C_below HR0_2.out HB.out) | (with_reducible refine Kd.C_alloc ?_ _) | (with_reducible refine Kd.C_drewN ?_ _) | (with_reducible refine Kd.C_drew ?_)))
       (case side2 => exact HC0_2.out)
       (case side3 => repeat (first | exact (Kd.C_below HR0_4.out HB.out) | (with_reducible refine Kd.C_alloc ?_ _) | (with_reducible refine Kd.C_drewN ?_ _) | (with_reducible refine Kd.C_drew ?_)))
       (case side4 => exact HC0_4.out)
       rintro e w38 ⟨v551, v555, rfl, ho0, ho1, hb⟩
       refine ⟨_, rfl, ?_⟩
       have n0_ := Aside0.mk (Kd.R_elder' (by (with_reducible repeat (first | apply Kd.R_alloc | apply Kd.R_drewN | apply Kd.R_drew)); exact HO526.out) (Kd.R_base ho0) hb)
       have n1_ := Aside0.mk (Kd.R_mono (Kd.R_told (Kd.R_told (Kd.R_old (by (with_reducible repeat (first | apply Kd.R_alloc | apply Kd.R_drewN | apply Kd.R_drew)); exact HO530.out) hb) (Kd.R_base ho0)) (Kd.R_base ho1)) (fun _ h_ => h_.1))
       have n2_ := Aside0.mk (Kd.R_elder' (by (with_reducible repeat (first | apply Kd.R_alloc | apply Kd.R_drewN | apply Kd.R_drew)); exact HO533.out) (Kd.R_base ho0) hb)
       have n3_ := Aside0.mk (Kd.R_elder' (by (with_reducible repeat (first | apply Kd.R_alloc | apply Kd.R_drewN | apply Kd.R_drew)); exact HO538.out) (Kd.R_base ho0) hb)
       have n4_ := Aside0.mk (Kd.R_mono (Kd.R_told (Kd.R_told (Kd.R_old (by (with_reducible repeat (first | apply Kd.R_alloc | apply Kd.R_drewN | apply Kd.R_drew)); exact HO542.out) hb) (Kd.R_base ho0)) (Kd.R_base ho1)) (fun _ h_ => h_.1))
       have n5_ := Aside0.mk (Kd.R_elder' (by (with_reducible repeat (first | apply Kd.R_alloc | apply Kd.R_drewN | apply Kd.R_drew)); exact HO546.out) (Kd.R_base ho0) hb)
       have n6_ := Aside0.mk (Kd.R_lower (Kd.R_new' (Kd.R_new' (Kd.R_new' (Kd.R_new' ho0 (Kd.R_lt (by (with_reducible repeat (first | apply Kd.R_alloc | apply Kd.R_drewN | apply Kd.R_drew)); exact HO526.out))) (Kd.R_lt (by (with_reducible repeat (first | apply Kd.R_alloc | apply Kd.R_drewN | apply Kd.R_drew)); exact HO533.out))) (Kd.R_lt (by (with_reducible repeat (first | apply Kd.R_alloc | apply Kd.R_drewN | apply Kd.R_drew)); exact HO538.out))) (Kd.R_lt (by (with_reducible repeat (first | apply Kd.R_alloc | apply Kd.R_drewN | apply Kd.R_drew)); exact HO546.out))) (below_size (by repeat (first | (with_reducible first | exact HB.out | apply below_alloc | apply pw_below_drewN | apply below_drew1 | refine below_set ?_ GE520.out | refine below_set ?_ GE543.out) | exact HB.out))))
       have n7_ := Aside0.mk (Kd.R_lower (Kd.R_new' (Kd.R_new' (Kd.R_new' (Kd.R_new' (Kd.R_new' (Kd.R_new' ho1 (Kd.R_lt (by (with_reducible repeat (first | apply Kd.R_alloc | apply Kd.R_drewN | apply Kd.R_drew)); exact HO526.out))) (Kd.R_lt (by (with_reducible repeat (first | apply Kd.R_alloc | apply Kd.R_drewN | apply Kd.R_drew)); exact HO530.out))) (Kd.R_lt (by (with_reducible repeat (first | apply Kd.R_alloc | apply Kd.R_drewN | apply Kd.R_drew)); exact HO533.out))) (Kd.R_lt (by (with_reducible repeat (first | apply Kd.R_alloc | apply Kd.R_drewN | apply Kd.R_drew)); exact HO538.out))) (Kd.R_lt (by (with_reducible repeat (first | apply Kd.R_alloc | apply Kd.R_drewN | apply Kd.R_drew)); exact HO542.out))) (Kd.R_lt (by (with_reducible repeat (first | apply Kd.R_alloc | apply Kd.R_drewN | apply Kd.R_drew)); exact HO546.out))) (below_size (by repeat (first | (with_reducible first | exact HB.out | apply below_alloc | apply pw_below_drewN | apply below_drew1 | refine below_set ?_ GE520.out | refine below_set ?_ GE543.out) | exact HB.out))))
       have n8_ := Aside0.mk (blk_below (g := gb520) (o := .cells #[.string a0_0, .int .i64 a0_1, .slice A0_2 l0_2.length c0_2, .int .i64 a0_3, .slice A0_4 l0_4.length c0_4] 25 (0, 0)) (by (with_reducible repeat (first | refine blk_drewN ?_ _ | refine blk_drew ?_ | refine blk_alloc ?_ _)); exact BK520.out) hb)
       have n9_ := Aside0.mk (blk_below (g := gb543) (o := .cells #[.string t534, .int .i64 t535, .slice Ao32 t536.length co32, .int .i64 t539, .slice Ao33 t540.length co33] 30 (0, 0)) (by (with_reducible repeat (first | refine blk_drewN ?_ _ | refine blk_drew ?_ | refine blk_alloc ?_ _)); exact BK543.out) hb)
       have n10_ := Aside0.mk (below_step (by repeat (first | (with_reducible first | exact HB.out | apply below_alloc | apply pw_below_drewN | apply below_drew1 | refine below_set ?_ GE520.out | refine below_set ?_ GE543.out) | exact HB.out)) hb)
       clear HO526
       clear HO530
       clear HO533
       clear HO538
       clear HO542
       clear HO546
       clear BK520
       clear BK543
       clear HB
       have HO526 := n0_
       have HO530 := n1_
       have HO533 := n2_
       have HO538 := n3_
       have HO542 := n4_
       have HO546 := n5_
       have HO552 := n6_
       have HO556 := n7_
       have BK520 := n8_
       have BK543 := n9_
       have HB := n10_
       clear n0_ n1_ n2_ n3_ n4_ n5_ n6_ n7_ n8_ n9_ n10_
       (try clear hb)
       (try clear hb2)
       (try clear hk)
       (try clear hi)
       (try clear ho0)
       (try clear ho1)
       obtain ⟨Ao39, co39, eo39⟩ := Kd.R_slice HO552.out
       (first | subst eo39 | (injection eo39 with f1_ f2_ f3_; have f4_ := f1_.symm; have f5_ := f3_.symm; clear f1_ f2_ f3_; subst f4_; subst f5_))
       obtain ⟨Ao40, co40, eo40⟩ := Kd.R_slice HO556.out
       (first | subst eo40 | (injection eo40 with f1_ f2_ f3_; have f4_ := f1_.symm; have f5_ := f3_.symm; clear f1_ f2_ f3_; subst f4_; subst f5_))
       refine hK.out _ _ ⟨(blk_cell BK543.out 0).trans rfl, (blk_cell BK543.out 1).trans rfl, (blk_cell BK543.out 2).trans rfl, (blk_cell BK543.out 3).trans rfl, (blk_cell BK543.out 4).trans rfl, (blk_cell BK520.out 0).trans rfl, (blk_cell BK520.out 1).trans rfl, (blk_cell BK520.out 2).trans rfl, (blk_cell BK520.out 3).trans rfl, (blk_cell BK520.out 4).trans rfl⟩ (fun hHeld => ?_)
       clear hK K
       refine norm_ (a' := ?_) ?_ ?_
       rotate_left
       · show Act.put _ (some 33) _ = _
         simp only [Act.put, List.setIfInBounds_toArray, List.set_cons_zero, List.set_cons_succ, i64_w, i32_w]
         rfl
       refine one_ (i := 3) (N := some 34) #[true, true, true, true, false] rfl rfl (by kernel_rfl) (by decide) (fun K hK => ?_)
       refine goes_ Try.func16 (by kernel_rfl) rfl #[.agg #[.string t534, .int .i64 t535, .slice Ao32 t536.length co32, .int .i64 t539, .slice Ao33 t540.length co33], .agg #[.string t548, .int .i64 t549, .slice Ao39 t550.length co39, .int .i64 t553, .slice Ao40 t554.length co40]] (by rfl) rfl rfl (by (try simp only [List.map_toArray, List.map_cons, List.map_nil]); first | done | rfl | (simp only [List.length_drop, List.length_take]; rfl)) ?_
       with_reducible refine (laws_eqFunc.calls k t534 t535 _ _ t536 t539 _ _ t540 t548 t549 _ _ t550 t553 _ _ t554 true _ ?side1 ?side2 ?side3 ?side4 ?side5 ?side6 ?side7 ?side8 A15.out).mono ?_
       (case side1 => repeat (first | exact (Kd.R_reads' HO538.out).2.2 | (with_reducible refine Kd.C_alloc ?_ _) | (with_reducible refine Kd.C_drewN ?_ _) | (with_reducible refine Kd.C_drew ?_)))
       (case side2 => exact (Kd.R_reads' HO538.out).2.1)
       (case side3 => repeat (first | exact (Kd.R_reads' HO542.out).2.2 | (with_reducible refine Kd.C_alloc ?_ _) | (with_reducible refine Kd.C_drewN ?_ _) | (with_reducible refine Kd.C_drew ?_)))
       (case side4 => exact (Kd.R_reads' HO542.out).2.1)
       (case side5 => repeat (first | exact (Kd.R_reads' HO552.out).2.2 | (with_reducible refine Kd.C_alloc ?_ _) | (with_reducible refine Kd.C_drewN ?_ _) | (with_reducible refine Kd.C_drew ?_)))
       (case side6 => exact (Kd.R_reads' HO552.out).2.1)
       (case side7 => repeat (first | exact (Kd.R_reads' HO556.out).2.2 | (with_reducible refine Kd.C_alloc ?_ _) | (with_reducible refine Kd.C_drewN ?_ _) | (with_reducible refine Kd.C_drew ?_)))
       (case side8 => exact (Kd.R_reads' HO556.out).2.1)
       rintro e w41 ⟨rfl, hb⟩
       refine ⟨_, rfl, ?_⟩
       have n0_ := Aside0.mk (Kd.R_below (by (with_reducible repeat (first | apply Kd.R_alloc | apply Kd.R_drewN | apply Kd.R_drew)); exact HO526.out) hb)
       have n1_ := Aside0.mk (Kd.R_below (by (with_reducible repeat (first | apply Kd.R_alloc | apply Kd.R_drewN | apply Kd.R_drew)); exact HO530.out) hb)
       have n2_ := Aside0.mk (Kd.R_below (by (with_reducible repeat (first | apply Kd.R_alloc | apply Kd.R_drewN | apply Kd.R_drew)); exact HO533.out) hb)
       have n3_ := Aside0.mk (Kd.R_below (by (with_reducible repeat (first | apply Kd.R_alloc | apply Kd.R_drewN | apply Kd.R_drew)); exact HO538.out) hb)
       have n4_ := Aside0.mk (Kd.R_below (by (with_reducible repeat (first | apply Kd.R_alloc | apply Kd.R_drewN | apply Kd.R_drew)); exact HO542.out) hb)
       have n5_ := Aside0.mk (Kd.R_below (by (with_reducible repeat (first | apply Kd.R_alloc | apply Kd.R_drewN | apply Kd.R_drew)); exact HO546.out) hb)
       have n6_ := Aside0.mk (Kd.R_below (by (with_reducible repeat (first | apply Kd.R_alloc | apply Kd.R_drewN | apply Kd.R_drew)); exact HO552.out) hb)
       have n7_ := Aside0.mk (Kd.R_below (by (with_reducible repeat (first | apply Kd.R_alloc | apply Kd.R_drewN | apply Kd.R_drew)); exact HO556.out) hb)
       have n8_ := Aside0.mk (blk_below (g := gb520) (o := .cells #[.string a0_0, .int .i64 a0_1, .slice A0_2 l0_2.length c0_2, .int .i64 a0_3, .slice A0_4 l0_4.length c0_4] 25 (0, 0)) (by (with_reducible repeat (first | refine blk_drewN ?_ _ | refine blk_drew ?_ | refine blk_alloc ?_ _)); exact BK520.out) hb)
       have n9_ := Aside0.mk (blk_below (g := gb543) (o := .cells #[.string t534, .int .i64 t535, .slice Ao32 t536.length co32, .int .i64 t539, .slice Ao33 t540.length co33] 30 (0, 0)) (by (with_reducible repeat (first | refine blk_drewN ?_ _ | refine blk_drew ?_ | refine blk_alloc ?_ _)); exact BK543.out) hb)
       have n10_ := Aside0.mk (below_step (by repeat (first | (with_reducible first | exact HB.out | apply below_alloc | apply pw_below_drewN | apply below_drew1 | refine below_set ?_ GE520.out | refine below_set ?_ GE543.out) | exact HB.out)) hb)
       clear HO526
       clear HO530
       clear HO533
       clear HO538
       clear HO542
       clear HO546
       clear HO552
       clear HO556
       clear BK520
       clear BK543
       clear HB
       have HO526 := n0_
       have HO530 := n1_
       have HO533 := n2_
       have HO538 := n3_
       have HO542 := n4_
       have HO546 := n5_
       have HO552 := n6_
       have HO556 := n7_
       have BK520 := n8_
       have BK543 := n9_
       have HB := n10_
       clear n0_ n1_ n2_ n3_ n4_ n5_ n6_ n7_ n8_ n9_ n10_
       (try clear hb)
       (try clear hb2)
       (try clear hk)
       (try clear hi)
       refine hK.out _ _ ⟨(blk_cell BK543.out 0).trans rfl, (blk_cell BK543.out 1).trans rfl, (blk_cell BK543.out 2).trans rfl, (blk_cell BK543.out 3).trans rfl, (blk_cell BK543.out 4).trans rfl, (blk_cell BK520.out 0).trans rfl, (blk_cell BK520.out 1).trans rfl, (blk_cell BK520.out 2).trans rfl, (blk_cell BK520.out 3).trans rfl, (blk_cell BK520.out 4).trans rfl⟩ (fun hHeld => ?_)
       clear hK K
       refine norm_ (a' := ?_) ?_ ?_
       rotate_left
       · show Act.put _ (some 34) _ = _
         simp only [Act.put, List.setIfInBounds_toArray, List.set_cons_zero, List.set_cons_succ, i64_w, i32_w]
         rfl
       refine pure_ (i := 4) (N := some 35) (v := ?_) (a' := ?_) #[true, true, true, true, true] rfl rfl (by kernel_rfl) (fun _ _ _ h => h) (Or.inl ⟨by rfl, ?_⟩) ?_ ?_
       rotate_left
       · intro w'
         go_simp
         with_reducible rfl
       rotate_left
       · simp only [Act.put, List.setIfInBounds_toArray, List.set_cons_zero, List.set_cons_succ, i64_w, i32_w]
         rfl
       refine done_ (by kernel_rfl) ?_
       have hcz42_0 : w41.cell? ⟨gb543, 0, none⟩ = some (.string t534) := (blk_cell BK543.out 0).trans rfl
       have hcz42_1 : w41.cell? ⟨gb543, 1, none⟩ = some (.int .i64 t535) := (blk_cell BK543.out 1).trans rfl
       have hcz42_2 : w41.cell? ⟨gb543, 2, none⟩ = some (.slice Ao32 t536.length co32) := (blk_cell BK543.out 2).trans rfl
       have hcz42_3 : w41.cell? ⟨gb543, 3, none⟩ = some (.int .i64 t539) := (blk_cell BK543.out 3).trans rfl
       have hcz42_4 : w41.cell? ⟨gb543, 4, none⟩ = some (.slice Ao33 t540.length co33) := (blk_cell BK543.out 4).trans rfl
       have hfz42_0 := blk_frozen BK543.out 0
       have hfz42_1 := blk_frozen BK543.out 1
       have hfz42_2 := blk_frozen BK543.out 2
       have hfz42_3 := blk_frozen BK543.out 3
       have hfz42_4 := blk_frozen BK543.out 4
       go_upto_region 14 with (first | ((with_reducible refine gate_callee (f := 20) rfl ?_); refine goesL_ (some 38) rfl rfl Try.func20 (by kernel_rfl) rfl #[.agg #[.string t534, .int .i64 t535, .slice Ao32 t536.length co32, .int .i64 t539, .slice Ao33 t540.length co33], .int .i64 1] rfl (by (try simp only [List.map_toArray, List.map_cons, List.map_nil]); first | done | rfl | (simp only [List.length_drop, List.length_take]; rfl)) ?_; (with_reducible refine (laws_markFunc.calls t534 t535 (fun k_ => some k_ = (.slice Ao32 t536.length co32 : Value).ownBlock) (.slice Ao32 t536.length co32) t536 t539 (fun k_ => ((((((((some k_ ≠ (.slice Ao32 t536.length co32 : Value).ownBlock ∧ some k_ ≠ (.slice Ao24 t524.length co24 : Value).ownBlock) ∧ some k_ ≠ (.slice Ao25 t528.length co25 : Value).ownBlock) ∧ some k_ ≠ (.slice Ao36 t531.length co36 : Value).ownBlock) ∧ some k_ ≠ (.slice Ao35 t544.length co35 : Value).ownBlock) ∧ some k_ ≠ (.slice Ao39 t550.length co39 : Value).ownBlock) ∧ some k_ ≠ (.slice Ao40 t554.length co40 : Value).ownBlock) ∧ k_ ≠ gb520) ∧ k_ ≠ gb543) ∧ w.heap.size ≤ k_) (.slice Ao33 t540.length co33) t540 1 t558 w _ ?side1 ?side2 ?side3 A17.out).mono ?_); (case side1 => repeat (first | (with_reducible first | exact HB.out | apply below_alloc | apply pw_below_drewN | apply below_drew1 | refine below_set ?_ GE520.out | refine below_set ?_ GE543.out) | exact HB.out)); (case side2 => exact Kd.R_tight rfl HO538.out); (case side3 => exact Kd.R_mono (Kd.R_bound (Kd.R_types (Kd.R_types (HO542.out) BK520.out (by decide)) BK543.out (by decide))) (fun _ h_ => ⟨h_.1, h_.2.1⟩)); rintro e w43 ⟨rfl, hb, hkp⟩; refine ⟨_, rfl, ?_⟩; have n0_ := Aside0.mk (blk_kept (by (with_reducible repeat (first | refine blk_drewN ?_ _ | refine blk_drew ?_ | refine blk_alloc ?_ _)); exact BK520.out) hkp (fun hs_ => Or.elim hs_ (fun e_ => (fun e_ => (Kd.R_ne HO538.out BK520.out (by decide)) e_) e_) (fun e_ => (fun p_ => (p_.1.1.2) rfl) e_))); have n1_ := Aside0.mk (Kd.R_mono (ok' := fun k_ => some k_ ≠ (.slice Ao36 t531.length co36 : Value).ownBlock ∧ some k_ ≠ (.slice Ao35 t544.length co35 : Value).ownBlock ∧ some k_ ≠ (.slice Ao39 t550.length co39 : Value).ownBlock) (Kd.R_keptB ((Kd.R_mono (Kd.R_tight2 rfl HO526.out) (fun k_ hk => (⟨hk.2, fun p_ => (p_.1.1.1.1.1.1.1.1.2) hk.1⟩ : _ ∧ ¬ ((fun k_ => ((((((((some k_ ≠ (.slice Ao32 t536.length co32 : Value).ownBlock ∧ some k_ ≠ (.slice Ao24 t524.length co24 : Value).ownBlock) ∧ some k_ ≠ (.slice Ao25 t528.length co25 : Value).ownBlock) ∧ some k_ ≠ (.slice Ao36 t531.length co36 : Value).ownBlock) ∧ some k_ ≠ (.slice Ao35 t544.length co35 : Value).ownBlock) ∧ some k_ ≠ (.slice Ao39 t550.length co39 : Value).ownBlock) ∧ some k_ ≠ (.slice Ao40 t554.length co40 : Value).ownBlock) ∧ k_ ≠ gb520) ∧ k_ ≠ gb543) ∧ w.heap.size ≤ k_)) k_)))) hkp (fun k_ hk_ hs_ => Or.elim hs_ (fun e_ => (hk_.1.1.1.2) e_) (fun e_ => (hk_.2) e_))) (fun k_ hk_ => ⟨hk_.1.1.1.1.1.2, hk_.1.1.1.2, hk_.1.1.2⟩)); have n2_ := Aside0.mk (Kd.R_mono (ok' := fun k_ => some k_ ≠ (.slice Ao24 t524.length co24 : Value).ownBlock ∧ some k_ ≠ (.slice Ao35 t544.length co35 : Value).ownBlock ∧ some k_ ≠ (.slice Ao39 t550.length co39 : Value).ownBlock) (Kd.R_keptB ((Kd.R_mono (Kd.R_tight2 rfl HO533.out) (fun k_ hk => (⟨hk.2, fun p_ => (p_.1.1.1.1.1.1.2) hk.1⟩ : _ ∧ ¬ ((fun k_ => ((((((((some k_ ≠ (.slice Ao32 t536.length co32 : Value).ownBlock ∧ some k_ ≠ (.slice Ao24 t524.length co24 : Value).ownBlock) ∧ some k_ ≠ (.slice Ao25 t528.length co25 : Value).ownBlock) ∧ some k_ ≠ (.slice Ao36 t531.length co36 : Value).ownBlock) ∧ some k_ ≠ (.slice Ao35 t544.length co35 : Value).ownBlock) ∧ some k_ ≠ (.slice Ao39 t550.length co39 : Value).ownBlock) ∧ some k_ ≠ (.slice Ao40 t554.length co40 : Value).ownBlock) ∧ k_ ≠ gb520) ∧ k_ ≠ gb543) ∧ w.heap.size ≤ k_)) k_)))) hkp (fun k_ hk_ hs_ => Or.elim hs_ (fun e_ => (hk_.1.1.1.2) e_) (fun e_ => (hk_.2) e_))) (fun k_ hk_ => ⟨hk_.1.1.1.1.1.2, hk_.1.1.1.2, hk_.1.1.2⟩)); have n3_ := Aside0.mk (blk_kept (by (with_reducible repeat (first | refine blk_drewN ?_ _ | refine blk_drew ?_ | refine blk_alloc ?_ _)); exact BK543.out) hkp (fun hs_ => Or.elim hs_ (fun e_ => (fun e_ => (Kd.R_ne HO538.out BK543.out (by decide)) e_) e_) (fun e_ => (fun p_ => (p_.1.2) rfl) e_))); have n4_ := Aside0.mk (Kd.R_mono (ok' := fun k_ => some k_ ≠ (.slice Ao24 t524.length co24 : Value).ownBlock ∧ some k_ ≠ (.slice Ao36 t531.length co36 : Value).ownBlock ∧ some k_ ≠ (.slice Ao39 t550.length co39 : Value).ownBlock) (Kd.R_keptB ((Kd.R_mono (Kd.R_tight2 rfl HO546.out) (fun k_ hk => (⟨hk.2, fun p_ => (p_.1.1.1.1.1.2) hk.1⟩ : _ ∧ ¬ ((fun k_ => ((((((((some k_ ≠ (.slice Ao32 t536.length co32 : Value).ownBlock ∧ some k_ ≠ (.slice Ao24 t524.length co24 : Value).ownBlock) ∧ some k_ ≠ (.slice Ao25 t528.length co25 : Value).ownBlock) ∧ some k_ ≠ (.slice Ao36 t531.length co36 : Value).ownBlock) ∧ some k_ ≠ (.slice Ao35 t544.length co35 : Value).ownBlock) ∧ some k_ ≠ (.slice Ao39 t550.length co39 : Value).ownBlock) ∧ some k_ ≠ (.slice Ao40 t554.length co40 : Value).ownBlock) ∧ k_ ≠ gb520) ∧ k_ ≠ gb543) ∧ w.heap.size ≤ k_)) k_)))) hkp (fun k_ hk_ hs_ => Or.elim hs_ (fun e_ => (hk_.1.1.2) e_) (fun e_ => (hk_.2) e_))) (fun k_ hk_ => ⟨hk_.1.1.1.1.1.2, hk_.1.1.1.1.2, hk_.1.1.2⟩)); have n5_ := Aside0.mk (Kd.R_mono (ok' := fun k_ => some k_ ≠ (.slice Ao24 t524.length co24 : Value).ownBlock ∧ some k_ ≠ (.slice Ao36 t531.length co36 : Value).ownBlock ∧ some k_ ≠ (.slice Ao35 t544.length co35 : Value).ownBlock) (Kd.R_keptB ((Kd.R_mono (Kd.R_tight2 rfl HO552.out) (fun k_ hk => (⟨hk.2, fun p_ => (p_.1.1.1.1.2) hk.1⟩ : _ ∧ ¬ ((fun k_ => ((((((((some k_ ≠ (.slice Ao32 t536.length co32 : Value).ownBlock ∧ some k_ ≠ (.slice Ao24 t524.length co24 : Value).ownBlock) ∧ some k_ ≠ (.slice Ao25 t528.length co25 : Value).ownBlock) ∧ some k_ ≠ (.slice Ao36 t531.length co36 : Value).ownBlock) ∧ some k_ ≠ (.slice Ao35 t544.length co35 : Value).ownBlock) ∧ some k_ ≠ (.slice Ao39 t550.length co39 : Value).ownBlock) ∧ some k_ ≠ (.slice Ao40 t554.length co40 : Value).ownBlock) ∧ k_ ≠ gb520) ∧ k_ ≠ gb543) ∧ w.heap.size ≤ k_)) k_)))) hkp (fun k_ hk_ hs_ => Or.elim hs_ (fun e_ => (hk_.1.1.2) e_) (fun e_ => (hk_.2) e_))) (fun k_ hk_ => ⟨hk_.1.1.1.1.1.2, hk_.1.1.1.1.2, hk_.1.1.2⟩)); have n6_ := Aside0.mk (hb); clear BK520; clear HO526; clear HO533; clear BK543; clear HO546; clear HO552; clear HB; clear HO538; clear HO542; clear HO530; clear HO556; have BK520 := n0_; have HO526 := n1_; have HO533 := n2_; have BK543 := n3_; have HO546 := n4_; have HO552 := n5_; have HB := n6_; clear n0_ n1_ n2_ n3_ n4_ n5_ n6_; (try clear hb); (try clear hkp)))
       (try simp only [Act.put, List.setIfInBounds_toArray, List.set_cons_zero, List.set_cons_succ])
       go_cut [46] (fun v46 wc => ∃ (kq : Nat) (x46_17 : Bool), v46 = .bool x46_17 ∧ Aside0 (laws_FnExactFrontier.j0 kq a1 t531 t544 x46_17 a0_0 a0_1 l0_2 a0_3 l0_4 = some r) ∧ Aside0 (kq ≤ k) ∧ Aside0 (Kd.R (Kd.int .i64) 2 wc w.heap.size (fun k_ => some k_ ≠ ((.slice Ao35 t544.length co35) : Value).ownBlock) (.slice Ao36 t531.length co36) t531) ∧ Aside0 (Kd.R (Kd.int .i64) 2 wc w.heap.size (fun k_ => some k_ ≠ ((.slice Ao36 t531.length co36) : Value).ownBlock) (.slice Ao35 t544.length co35) t544) ∧ Aside0 (wc.heap[gb520]? = some (.cells #[.string a0_0, .int .i64 a0_1, (.slice A0_2 l0_2.length c0_2), .int .i64 a0_3, (.slice A0_4 l0_4.length c0_4)] 25 (0, 0))) ∧ Aside0 (Below w.heap.size w wc))
       case first =>
        have H := HC18.out
        clear HC18
        by_cases c44 : t558 < 0
        · rw [if_pos c44] at H
          have c44b0 : decide (t558 < 0) = true := decide_eq_true c44
          clear c44
          (first | rw [c44b0] | (simp only [i64_w, i32_w]; rw [c44b0]) | skip)
          have H' := Aside0.mk H
          clear H
          go_wp2
          go_meet
          case rel => exact ⟨_, (true), (by first | rfl | (simp; done) | (simp [*]; done)), H', ⟨by first | omega | exact Nat.le_refl _⟩, ⟨by (with_reducible repeat (first | apply Kd.R_alloc | apply Kd.R_drewN | apply Kd.R_drew)); exact Kd.R_mono HO533.out (fun _ hk => hk.2.1)⟩, ⟨by (with_reducible repeat (first | apply Kd.R_alloc | apply Kd.R_drewN | apply Kd.R_drew)); exact Kd.R_mono HO546.out (fun _ hk => hk.2.1)⟩, ⟨by (with_reducible repeat (first | refine blk_drewN ?_ _ | refine blk_drew ?_ | refine blk_alloc ?_ _)); exact BK520.out⟩, ⟨by repeat (first | (with_reducible first | exact HB.out | apply below_alloc | apply pw_below_drewN | apply below_drew1 | refine below_set ?_ GE520.out | refine below_set ?_ GE543.out) | exact HB.out)⟩⟩
        · rw [if_neg c44] at H
          have c44b0 : decide (t558 < 0) = false := decide_eq_false c44
          clear c44
          (first | rw [c44b0] | (simp only [i64_w, i32_w]; rw [c44b0]) | skip)
          replace H := Option.bind_eq_some_iff.mp H
          obtain ⟨t559, A450, H⟩ := H
          replace H : (laws_FnExactFrontier.j0 k a1 t531 t544 (!t559) a0_0 a0_1 l0_2 a0_3 l0_4) = some r := H
          have A45 := Aside0.mk A450
          clear A450
          have H' := Aside0.mk H
          clear H
          go_wp2_with (first | (go_at_call 19; (with_reducible refine (laws_eqInt64S.calls k _ _ t544 _ _ t531 t559 _ ?side1 ?side2 ?side3 ?side4 A45.out).mono ?_); (case side1 => repeat (first | exact (Kd.R_reads' HO546.out).2.2 | (with_reducible refine Kd.C_alloc ?_ _) | (with_reducible refine Kd.C_drewN ?_ _) | (with_reducible refine Kd.C_drew ?_))); (case side2 => exact (Kd.R_reads' HO546.out).2.1); (case side3 => repeat (first | exact (Kd.R_reads' HO533.out).2.2 | (with_reducible refine Kd.C_alloc ?_ _) | (with_reducible refine Kd.C_drewN ?_ _) | (with_reducible refine Kd.C_drew ?_))); (case side4 => exact (Kd.R_reads' HO533.out).2.1); rintro e w' ⟨rfl, ⟨nd, rfl⟩⟩))
          go_meet
          case rel => exact ⟨_, (!t559), (by first | rfl | (simp; done) | (simp [*]; done)), H', ⟨by first | omega | exact Nat.le_refl _⟩, ⟨by (with_reducible repeat (first | apply Kd.R_alloc | apply Kd.R_drewN | apply Kd.R_drew)); exact Kd.R_mono HO533.out (fun _ hk => hk.2.1)⟩, ⟨by (with_reducible repeat (first | apply Kd.R_alloc | apply Kd.R_drewN | apply Kd.R_drew)); exact Kd.R_mono HO546.out (fun _ hk => hk.2.1)⟩, ⟨by (with_reducible repeat (first | refine blk_drewN ?_ _ | refine blk_drew ?_ | refine blk_alloc ?_ _)); exact BK520.out⟩, ⟨by repeat (first | (with_reducible first | exact HB.out | apply below_alloc | apply pw_below_drewN | apply below_drew1 | refine below_set ?_ GE520.out | refine below_set ?_ GE543.out) | exact HB.out)⟩⟩
       case rest =>
        clear HC18
        try clear c1
        try clear c2
        try clear p2
        try clear c3
        try clear c4
        try clear c4b0
        try clear c9
        try clear c12
        try clear c13
        try clear c14
        try clear c16
        try clear c19
        try clear c20
        try clear c30
        try clear c34
        try clear c35
        try clear c44
        try clear c44b0
        try clear hcz20_0
        try clear hcz20_1
        try clear hcz20_2
        try clear hcz20_3
        try clear hcz20_4
        try clear hcz22_0
        try clear hcz22_1
        try clear hcz22_2
        try clear hcz22_3
        try clear hcz22_4
        try clear hcz27_0
        try clear hcz27_1
        try clear hcz27_2
        try clear hcz27_3
        try clear hcz27_4
        try clear hcz31_0
        try clear hcz31_1
        try clear hcz31_2
        try clear hcz31_3
        try clear hcz31_4
        try clear hcz42_0
        try clear hcz42_1
        try clear hcz42_2
        try clear hcz42_3
        try clear hcz42_4
        try clear hcz6_0
        try clear hcz6_1
        try clear hcz6_2
        try clear hcz6_3
        try clear hcz6_4
        try clear hfz20_0
        try clear hfz20_1
        try clear hfz20_2
        try clear hfz20_3
        try clear hfz20_4
        try clear hfz22_0
        try clear hfz22_1
        try clear hfz22_2
        try clear hfz22_3
        try clear hfz22_4
        try clear hfz27_0
        try clear hfz27_1
        try clear hfz27_2
        try clear hfz27_3
        try clear hfz27_4
        try clear hfz31_0
        try clear hfz31_1
        try clear hfz31_2
        try clear hfz31_3
        try clear hfz31_4
        try clear hfz42_0
        try clear hfz42_1
        try clear hfz42_2
        try clear hfz42_3
        try clear hfz42_4
        try clear hfz6_0
        try clear hfz6_1
        try clear hfz6_2
        try clear hfz6_3
        try clear hfz6_4
        obtain ⟨kq, x46_17, rfl, HA, HJ17, HO_6, HO_8, BK520, HB⟩ := hcut
        cases kq with
        | zero => exact absurd HA.out (by simp [laws_FnExactFrontier.j0])
        | succ kj17 =>
         have H := HA.out
         clear HA
         simp only [laws_FnExactFrontier.j0] at H
         by_cases c46 : x46_17 = true
         · subst c46
           have H1 : (some false) = some r := by rw [if_pos rfl] at H; exact H
           clear H
           have H := H1
           clear H1
           exact Bool.noConfusion ((Option.some.inj H).trans hr_.out)
         · replace c46 := Bool.eq_false_iff.mpr c46
           subst c46
           have H1 : ((laws_markInt64S.f kj17 t544 1).bind fun bt560 => ((laws_heldInt64S.f kj17 bt560.2 1).bind fun t562 => (if t562 < 0 then (some false) else (if t562 = bt560.1 then ((laws_toFunc.f kj17 a0_0 a0_1 l0_2 a0_3 l0_4).bind fun bt563 => ((impl_Frontier.f kj17 bt563.1 bt563.2.1 bt563.2.2.1 bt563.2.2.2.1 bt563.2.2.2.2 a1).bind fun t572 => ((laws_eqInt64S.f kj17 t572 t531).bind fun t575 => (if t575 = true then ((laws_heldInt64S.f kj17 bt560.2 1).bind fun t576 => (if t576 < 0 then (some false) else (if t576 = bt560.1 then (some true) else (some false)))) else (some false))))) else (some false))))) = some r := by rw [if_neg (show ¬ (false = true) by decide)] at H; exact H
           clear H
           have H := H1
           clear H1
           replace H := Option.bind_eq_some_iff.mp H
           obtain ⟨⟨t560, t561⟩, A470, H⟩ := H
           replace H : ((laws_heldInt64S.f kj17 t561 1).bind fun t562 => (if t562 < 0 then (some false) else (if t562 = t560 then ((laws_toFunc.f kj17 a0_0 a0_1 l0_2 a0_3 l0_4).bind fun bt563 => ((impl_Frontier.f kj17 bt563.1 bt563.2.1 bt563.2.2.1 bt563.2.2.2.1 bt563.2.2.2.2 a1).bind fun t572 => ((laws_eqInt64S.f kj17 t572 t531).bind fun t575 => (if t575 = true then ((laws_heldInt64S.f kj17 t561 1).bind fun t576 => (if t576 < 0 then (some false) else (if t576 = t560 then (some true) else (some false)))) else (some false))))) else (some false)))) = some r := H
           have A47 := Aside0.mk A470
           clear A470
           replace H := Option.bind_eq_some_iff.mp H
           obtain ⟨t562, A480, H⟩ := H
           replace H : (if t562 < 0 then (some false) else (if t562 = t560 then ((laws_toFunc.f kj17 a0_0 a0_1 l0_2 a0_3 l0_4).bind fun bt563 => ((impl_Frontier.f kj17 bt563.1 bt563.2.1 bt563.2.2.1 bt563.2.2.2.1 bt563.2.2.2.2 a1).bind fun t572 => ((laws_eqInt64S.f kj17 t572 t531).bind fun t575 => (if t575 = true then ((laws_heldInt64S.f kj17 t561 1).bind fun t576 => (if t576 < 0 then (some false) else (if t576 = t560 then (some true) else (some false)))) else (some false))))) else (some false))) = some r := H
           have A48 := Aside0.mk A480
           clear A480
           by_cases c49 : t562 < 0
           · rw [if_pos c49] at H
             have c49b0 : decide (t562 < 0) = true := decide_eq_true c49
             clear c49
             exact Bool.noConfusion ((Option.some.inj H).trans hr_.out)
           · rw [if_neg c49] at H
             have c49b0 : decide (t562 < 0) = false := decide_eq_false c49
             clear c49
             by_cases c51 : t562 = t560
             · rw [if_pos c51] at H
               have c51b0 : (t562 == t560) = true := beq_iff_eq.mpr c51
               have c51b1 : (t562 != t560) = false := bne_eq_false_iff_eq.mpr c51
               clear c51
               replace H := Option.bind_eq_some_iff.mp H
               obtain ⟨⟨t563, t564, t565, t568, t569⟩, A520, H⟩ := H
               replace H : ((impl_Frontier.f kj17 t563 t564 t565 t568 t569 a1).bind fun t572 => ((laws_eqInt64S.f kj17 t572 t531).bind fun t575 => (if t575 = true then ((laws_heldInt64S.f kj17 t561 1).bind fun t576 => (if t576 < 0 then (some false) else (if t576 = t560 then (some true) else (some false)))) else (some false)))) = some r := H
               have A52 := Aside0.mk A520
               clear A520
               replace H := Option.bind_eq_some_iff.mp H
               obtain ⟨t572, A530, H⟩ := H
               replace H : ((laws_eqInt64S.f kj17 t572 t531).bind fun t575 => (if t575 = true then ((laws_heldInt64S.f kj17 t561 1).bind fun t576 => (if t576 < 0 then (some false) else (if t576 = t560 then (some true) else (some false)))) else (some false))) = some r := H
               have A53 := Aside0.mk A530
               clear A530
               replace H := Option.bind_eq_some_iff.mp H
               obtain ⟨t575, A540, H⟩ := H
               replace H : (if t575 = true then ((laws_heldInt64S.f kj17 t561 1).bind fun t576 => (if t576 < 0 then (some false) else (if t576 = t560 then (some true) else (some false)))) else (some false)) = some r := H
               have A54 := Aside0.mk A540
               clear A540
               by_cases c55 : t575 = true
               · subst c55
                 have H1 : ((laws_heldInt64S.f kj17 t561 1).bind fun t576 => (if t576 < 0 then (some false) else (if t576 = t560 then (some true) else (some false)))) = some r := by rw [if_pos rfl] at H; exact H
                 clear H
                 have H := H1
                 clear H1
                 replace H := Option.bind_eq_some_iff.mp H
                 obtain ⟨t576, A560, H⟩ := H
                 replace H : (if t576 < 0 then (some false) else (if t576 = t560 then (some true) else (some false))) = some r := H
                 have A56 := Aside0.mk A560
                 clear A560
                 by_cases c57 : t576 < 0
                 · rw [if_pos c57] at H
                   have c57b0 : decide (t576 < 0) = true := decide_eq_true c57
                   clear c57
                   exact Bool.noConfusion ((Option.some.inj H).trans hr_.out)
                 · rw [if_neg c57] at H
                   have c57b0 : decide (t576 < 0) = false := decide_eq_false c57
                   clear c57
                   by_cases c65 : t576 = t560
                   · rw [if_pos c65] at H
                     have c65b0 : (t576 == t560) = true := beq_iff_eq.mpr c65
                     have c65b1 : (t576 != t560) = false := bne_eq_false_iff_eq.mpr c65
                     clear c65
                     obtain rfl := Option.some.inj H
                     go_wp2_with (first | ((with_reducible refine gate_callee (f := 21) rfl ?_); refine goesL_ (some 49) rfl rfl Try.func21 (by kernel_rfl) rfl #[.slice Ao35 t544.length co35, .int .i64 1] rfl (by (try simp only [List.map_toArray, List.map_cons, List.map_nil]); first | done | rfl | (simp only [List.length_drop, List.length_take]; rfl)) ?_; (with_reducible refine (laws_markInt64S.calls kj17 (fun k_ => some k_ = (.slice Ao35 t544.length co35 : Value).ownBlock) (.slice Ao35 t544.length co35) t544 1 t560 t561 w _ ?side1 ?side2 A47.out).mono ?_); (case side1 => repeat (first | (with_reducible first | exact HB.out | apply below_alloc | apply pw_below_drewN | apply below_drew1 | refine below_set ?_ GE520.out) | exact HB.out)); (case side2 => exact Kd.R_tight rfl HO_8.out); rintro e w66 ⟨rfl, hy0, hb, hkp⟩; refine ⟨_, rfl, ?_⟩; have n0_ := Aside0.mk (Kd.R_mono (ok' := fun k_ => some k_ ≠ (.slice Ao35 t544.length co35 : Value).ownBlock) (Kd.R_keptB (HO_6.out) hkp (fun k_ hk_ hs_ => (hk_) hs_)) (fun k_ hk_ => hk_.1)); have n1_ := Aside0.mk (Kd.R_reok rfl hy0 (fun k_ e_ => HO_8.out.1 k_ e_)); have n2_ := Aside0.mk (blk_kept (by (with_reducible repeat (first | refine blk_drewN ?_ _ | refine blk_drew ?_ | refine blk_alloc ?_ _)); exact BK520.out) hkp (fun hs_ => (fun e_ => (Kd.R_ne HO_8.out BK520.out (by decide)) e_) hs_)); have n3_ := Aside0.mk (hb); clear HO_6; clear HO_8; clear BK520; clear HB; have HO_6 := n0_; have HO_8 := n1_; have BK520 := n2_; have HB := n3_; clear n0_ n1_ n2_ n3_; (try clear hb); (try clear hkp); (try clear hy0)) | ((with_reducible refine gate_callee (f := 22) rfl ?_); refine goesL_ (some 52) rfl rfl Try.func22 (by kernel_rfl) rfl #[.slice Ao35 t561.length co35, .int .i64 1] rfl (by (try simp only [List.map_toArray, List.map_cons, List.map_nil]); first | done | (rw [show t561.length = t544.length from (Kd.R_reads' HO_8.out).1.symm] <;> rfl) | rfl | (simp only [List.length_drop, List.length_take]; rfl)) ?_; (with_reducible refine (laws_heldInt64S.calls kj17 _ _ t561 1 t562 _ ?side1 ?side2 A48.out).mono ?_); (case side1 => repeat (first | exact (Kd.R_reads' HO_8.out).2.2 | (with_reducible refine Kd.C_alloc ?_ _) | (with_reducible refine Kd.C_drewN ?_ _) | (with_reducible refine Kd.C_drew ?_))); (case side2 => rw [show t561.length = t544.length from (Kd.R_reads' HO_8.out).1.symm]; exact (Kd.R_reads' HO_8.out).2.1); rintro e w' ⟨rfl, ⟨nd, rfl⟩⟩; refine ⟨_, rfl, ?_⟩; have hcz67_0 : w66.cell? ⟨gb520, 0, none⟩ = some (.string a0_0) := (blk_cell BK520.out 0).trans rfl; have hcz67_1 : w66.cell? ⟨gb520, 1, none⟩ = some (.int .i64 a0_1) := (blk_cell BK520.out 1).trans rfl; have hcz67_2 : w66.cell? ⟨gb520, 2, none⟩ = some (.slice A0_2 l0_2.length c0_2) := (blk_cell BK520.out 2).trans rfl; have hcz67_3 : w66.cell? ⟨gb520, 3, none⟩ = some (.int .i64 a0_3) := (blk_cell BK520.out 3).trans rfl; have hcz67_4 : w66.cell? ⟨gb520, 4, none⟩ = some (.slice A0_4 l0_4.length c0_4) := (blk_cell BK520.out 4).trans rfl; have hfz67_0 := blk_frozen BK520.out 0; have hfz67_1 := blk_frozen BK520.out 1; have hfz67_2 := blk_frozen BK520.out 2; have hfz67_3 := blk_frozen BK520.out 3; have hfz67_4 := blk_frozen BK520.out 4) | ((with_reducible refine gate_callee (f := 14) rfl ?_); refine goesL_ (some 59) rfl rfl Try.func14 (by kernel_rfl) rfl #[.agg #[.string a0_0, .int .i64 a0_1, .slice A0_2 l0_2.length c0_2, .int .i64 a0_3, .slice A0_4 l0_4.length c0_4]] rfl (by (try simp only [List.map_toArray, List.map_cons, List.map_nil]); first | done | rfl | (simp only [List.length_drop, List.length_take]; rfl)) ?_; (with_reducible refine (laws_toFunc.calls kj17 a0_0 a0_1 _ _ l0_2 a0_3 _ _ l0_4 t563 t564 t565 t568 t569 _ ?side1 ?side2 ?side3 ?side4 A52.out).mono ?_); (case side1 => repeat (first | exact (Kd.C_below HR0_2.out (by repeat (first | (with_reducible first | exact HB.out | apply below_alloc | apply pw_below_drewN | apply below_drew1 | refine below_set ?_ GE520.out) | exact HB.out))) | (with_reducible refine Kd.C_alloc ?_ _) | (with_reducible refine Kd.C_drewN ?_ _) | (with_reducible refine Kd.C_drew ?_))); (case side2 => exact HC0_2.out); (case side3 => repeat (first | exact (Kd.C_below HR0_4.out (by repeat (first | (with_reducible first | exact HB.out | apply below_alloc | apply pw_below_drewN | apply below_drew1 | refine below_set ?_ GE520.out) | exact HB.out))) | (with_reducible refine Kd.C_alloc ?_ _) | (with_reducible refine Kd.C_drewN ?_ _) | (with_reducible refine Kd.C_drew ?_))); (case side4 => exact HC0_4.out); rintro e w68 ⟨v566, v570, rfl, ho0, ho1, hb⟩; refine ⟨_, rfl, ?_⟩; have n0_ := Aside0.mk (Kd.R_elder' (by (with_reducible repeat (first | apply Kd.R_alloc | apply Kd.R_drewN | apply Kd.R_drew)); exact HO_6.out) (Kd.R_base ho0) hb); have n1_ := Aside0.mk (Kd.R_elder' (by (with_reducible repeat (first | apply Kd.R_alloc | apply Kd.R_drewN | apply Kd.R_drew)); exact HO_8.out) (Kd.R_base ho0) hb); have n2_ := Aside0.mk (Kd.R_lower (Kd.R_new' (Kd.R_new' ho0 (Kd.R_lt (by (with_reducible repeat (first | apply Kd.R_alloc | apply Kd.R_drewN | apply Kd.R_drew)); exact HO_6.out))) (Kd.R_lt (by (with_reducible repeat (first | apply Kd.R_alloc | apply Kd.R_drewN | apply Kd.R_drew)); exact HO_8.out))) (below_size (by repeat (first | (with_reducible first | exact HB.out | apply below_alloc | apply pw_below_drewN | apply below_drew1 | refine below_set ?_ GE520.out) | exact HB.out)))); have n3_ := Aside0.mk (Kd.R_lower (Kd.R_new' (Kd.R_new' ho1 (Kd.R_lt (by (with_reducible repeat (first | apply Kd.R_alloc | apply Kd.R_drewN | apply Kd.R_drew)); exact HO_6.out))) (Kd.R_lt (by (with_reducible repeat (first | apply Kd.R_alloc | apply Kd.R_drewN | apply Kd.R_drew)); exact HO_8.out))) (below_size (by repeat (first | (with_reducible first | exact HB.out | apply below_alloc | apply pw_below_drewN | apply below_drew1 | refine below_set ?_ GE520.out) | exact HB.out)))); have n4_ := Aside0.mk (blk_below (g := gb520) (o := .cells #[.string a0_0, .int .i64 a0_1, .slice A0_2 l0_2.length c0_2, .int .i64 a0_3, .slice A0_4 l0_4.length c0_4] 25 (0, 0)) (by (with_reducible repeat (first | refine blk_drewN ?_ _ | refine blk_drew ?_ | refine blk_alloc ?_ _)); exact BK520.out) hb); have n5_ := Aside0.mk (below_step (by repeat (first | (with_reducible first | exact HB.out | apply below_alloc | apply pw_below_drewN | apply below_drew1 | refine below_set ?_ GE520.out) | exact HB.out)) hb); clear HO_6; clear HO_8; clear BK520; clear HB; have HO_6 := n0_; have HO_8 := n1_; have HO567 := n2_; have HO571 := n3_; have BK520 := n4_; have HB := n5_; clear n0_ n1_ n2_ n3_ n4_ n5_; (try clear hb); (try clear hb2); (try clear hk); (try clear hi); (try clear ho0); (try clear ho1); obtain ⟨Ao69, co69, eo69⟩ := Kd.R_slice HO567.out; subst eo69; obtain ⟨Ao70, co70, eo70⟩ := Kd.R_slice HO571.out; subst eo70) | ((with_reducible refine gate_callee (f := 35) rfl ?_); refine goesL_ (some 61) rfl rfl Try.func35 (by kernel_rfl) rfl #[.agg #[.string t563, .int .i64 t564, .slice Ao69 t565.length co69, .int .i64 t568, .slice Ao70 t569.length co70], .int .i64 a1] rfl (by (try simp only [List.map_toArray, List.map_cons, List.map_nil]); first | done | rfl | (simp only [List.length_drop, List.length_take]; rfl)) ?_; (with_reducible refine (impl_Frontier.calls kj17 t563 t564 _ _ t565 t568 _ _ t569 a1 t572 _ ?side1 ?side2 ?side3 ?side4 A53.out).mono ?_); (case side1 => repeat (first | exact (Kd.R_reads' HO567.out).2.2 | (with_reducible refine Kd.C_alloc ?_ _) | (with_reducible refine Kd.C_drewN ?_ _) | (with_reducible refine Kd.C_drew ?_))); (case side2 => exact (Kd.R_reads' HO567.out).2.1); (case side3 => repeat (first | exact (Kd.R_reads' HO571.out).2.2 | (with_reducible refine Kd.C_alloc ?_ _) | (with_reducible refine Kd.C_drewN ?_ _) | (with_reducible refine Kd.C_drew ?_))); (case side4 => exact (Kd.R_reads' HO571.out).2.1); rintro e w71 ⟨v573, rfl, ho0, hb⟩; refine ⟨_, rfl, ?_⟩; have n0_ := Aside0.mk (Kd.R_elder' (by (with_reducible repeat (first | apply Kd.R_alloc | apply Kd.R_drewN | apply Kd.R_drew)); exact HO_6.out) (Kd.R_base ho0) hb); have n1_ := Aside0.mk (Kd.R_elder' (by (with_reducible repeat (first | apply Kd.R_alloc | apply Kd.R_drewN | apply Kd.R_drew)); exact HO_8.out) (Kd.R_base ho0) hb); have n2_ := Aside0.mk (Kd.R_elder' (by (with_reducible repeat (first | apply Kd.R_alloc | apply Kd.R_drewN | apply Kd.R_drew)); exact HO567.out) (Kd.R_base ho0) hb); have n3_ := Aside0.mk (Kd.R_elder' (by (with_reducible repeat (first | apply Kd.R_alloc | apply Kd.R_drewN | apply Kd.R_drew)); exact HO571.out) (Kd.R_base ho0) hb); have n4_ := Aside0.mk (Kd.R_lower (Kd.R_new' (Kd.R_new' (Kd.R_new' ho0 (Kd.R_lt (by (with_reducible repeat (first | apply Kd.R_alloc | apply Kd.R_drewN | apply Kd.R_drew)); exact HO_6.out))) (Kd.R_lt (by (with_reducible repeat (first | apply Kd.R_alloc | apply Kd.R_drewN | apply Kd.R_drew)); exact HO_8.out))) (Kd.R_lt (by (with_reducible repeat (first | apply Kd.R_alloc | apply Kd.R_drewN | apply Kd.R_drew)); exact HO567.out))) (below_size (by repeat (first | (with_reducible first | exact HB.out | apply below_alloc | apply pw_below_drewN | apply below_drew1 | refine below_set ?_ GE520.out) | exact HB.out)))); have n5_ := Aside0.mk (blk_below (g := gb520) (o := .cells #[.string a0_0, .int .i64 a0_1, .slice A0_2 l0_2.length c0_2, .int .i64 a0_3, .slice A0_4 l0_4.length c0_4] 25 (0, 0)) (by (with_reducible repeat (first | refine blk_drewN ?_ _ | refine blk_drew ?_ | refine blk_alloc ?_ _)); exact BK520.out) hb); have n6_ := Aside0.mk (below_step (by repeat (first | (with_reducible first | exact HB.out | apply below_alloc | apply pw_below_drewN | apply below_drew1 | refine below_set ?_ GE520.out) | exact HB.out)) hb); clear HO_6; clear HO_8; clear HO567; clear HO571; clear BK520; clear HB; have HO_6 := n0_; have HO_8 := n1_; have HO567 := n2_; have HO571 := n3_; have HO574 := n4_; have BK520 := n5_; have HB := n6_; clear n0_ n1_ n2_ n3_ n4_ n5_ n6_; (try clear hb); (try clear hb2); (try clear hk); (try clear hi); (try clear ho0); obtain ⟨Ao72, co72, eo72⟩ := Kd.R_slice HO574.out; subst eo72) | ((with_reducible refine gate_callee (f := 19) rfl ?_); refine goesL_ (some 64) rfl rfl Try.func19 (by kernel_rfl) rfl #[.slice Ao72 t572.length co72, .slice Ao36 t531.length co36] rfl (by (try simp only [List.map_toArray, List.map_cons, List.map_nil]); first | done | rfl | (simp only [List.length_drop, List.length_take]; rfl)) ?_; (with_reducible refine (laws_eqInt64S.calls kj17 _ _ t572 _ _ t531 true _ ?side1 ?side2 ?side3 ?side4 A54.out).mono ?_); (case side1 => repeat (first | exact (Kd.R_reads' HO574.out).2.2 | (with_reducible refine Kd.C_alloc ?_ _) | (with_reducible refine Kd.C_drewN ?_ _) | (with_reducible refine Kd.C_drew ?_))); (case side2 => exact (Kd.R_reads' HO574.out).2.1); (case side3 => repeat (first | exact (Kd.R_reads' HO_6.out).2.2 | (with_reducible refine Kd.C_alloc ?_ _) | (with_reducible refine Kd.C_drewN ?_ _) | (with_reducible refine Kd.C_drew ?_))); (case side4 => exact (Kd.R_reads' HO_6.out).2.1); rintro e w' ⟨rfl, ⟨nd, rfl⟩⟩; refine ⟨_, rfl, ?_⟩) | ((with_reducible refine gate_callee (f := 22) rfl ?_); refine goesL_ (some 68) rfl rfl Try.func22 (by kernel_rfl) rfl #[.slice Ao35 t561.length co35, .int .i64 1] rfl (by (try simp only [List.map_toArray, List.map_cons, List.map_nil]); first | done | (rw [show t561.length = t544.length from (Kd.R_reads' HO_8.out).1.symm] <;> rfl) | rfl | (simp only [List.length_drop, List.length_take]; rfl)) ?_; (with_reducible refine (laws_heldInt64S.calls kj17 _ _ t561 1 t576 _ ?side1 ?side2 A56.out).mono ?_); (case side1 => repeat (first | exact (Kd.R_reads' HO_8.out).2.2 | (with_reducible refine Kd.C_alloc ?_ _) | (with_reducible refine Kd.C_drewN ?_ _) | (with_reducible refine Kd.C_drew ?_))); (case side2 => rw [show t561.length = t544.length from (Kd.R_reads' HO_8.out).1.symm]; exact (Kd.R_reads' HO_8.out).2.1); rintro e w' ⟨rfl, ⟨nd, rfl⟩⟩; refine ⟨_, rfl, ?_⟩))
                     go_ret
                     exact ⟨by first | rfl | (simp [errW_none, errW_some] <;> rfl) | (simp [*, errW_none, errW_some] <;> rfl), by repeat (first | (with_reducible first | exact HB.out | apply below_alloc | apply pw_below_drewN | apply below_drew1 | refine below_set ?_ GE520.out) | exact HB.out)⟩
                   · rw [if_neg c65] at H
                     have c65b0 : (t576 == t560) = false := beq_eq_false_iff_ne.mpr c65
                     have c65b1 : (t576 != t560) = true := bne_iff_ne.mpr c65
                     exact Bool.noConfusion ((Option.some.inj H).trans hr_.out)
               · replace c55 := Bool.eq_false_iff.mpr c55
                 subst c55
                 have H1 : (some false) = some r := by rw [if_neg (show ¬ (false = true) by decide)] at H; exact H
                 clear H
                 have H := H1
                 clear H1
                 exact Bool.noConfusion ((Option.some.inj H).trans hr_.out)
             · rw [if_neg c51] at H
               have c51b0 : (t562 == t560) = false := beq_eq_false_iff_ne.mpr c51
               have c51b1 : (t562 != t560) = true := bne_iff_ne.mpr c51
               exact Bool.noConfusion ((Option.some.inj H).trans hr_.out)
     · replace c16 := Bool.eq_false_iff.mpr c16
       subst c16
       have H1 : (some false) = some r := by rw [if_neg (show ¬ (false = true) by decide)] at H; exact H
       clear H
       have H := H1
       clear H1
       exact Bool.noConfusion ((Option.some.inj H).trans hr_.out)
   · replace c13 := Bool.eq_false_iff.mpr c13
     subst c13
     have H1 : (some false) = some r := by rw [if_neg (show ¬ (false = true) by decide)] at H; exact H
     clear H
     have H := H1
     clear H1
     exact Bool.noConfusion ((Option.some.inj H).trans hr_.out)

end Go.Proofs.Ytoedcnhgobbnfaa.All


/- What reads as data of a type can be read as a value of its kind. -/
namespace Go.Proofs.Ytoedcnhgobbnfaa.All
open Go.RowKit Go.Proofs.YtoedcnhgobbnfaaW.PrintWords Go.Proofs.YtoedcnhgobbnfaaW.PrintLast Go.Proofs.YtoedcnhgobbnfaaW.PrintMore
set_option linter.unusedVariables false
set_option linter.unusedSimpArgs false
structure Rdb {α : Type} (d : Kd α) (P : Program) (t : TypeId) (ok : α → Prop) : Prop where
  sz : P.cellsOf t = d.sz
  rd : ∀ {H : Type} {enc : TypeId × Value → H} {w : World} {base : Nat} {sp : Nat → Bool} {held : Bool} {fuel : Nat} {cs : List Value} {x : DataW H × List MemPlace}, DataW.trod enc P w base sp held fuel t cs = some x → ∃ a, d.K w a cs ∧ ok a
theorem Rdb.int {P : Program} {t : TypeId} {k : IntKind} (ht : P.underlying t = some (.int k)) (hs : P.cellsOf t = 1) : Rdb (Kd.int k) P t (fun a => (Lit.int k a).wf = true) :=
  ⟨hs, fun h => by obtain ⟨n, rfl, _, hw⟩ := DataW.trod_int ht h; exact ⟨n, rfl, hw⟩⟩
theorem Rdb.bool {P : Program} {t : TypeId} (ht : P.underlying t = some .bool) (hs : P.cellsOf t = 1) : Rdb Kd.bool P t (fun _ => True) :=
  ⟨hs, fun h => by obtain ⟨b, rfl, _⟩ := DataW.trod_bool ht h; exact ⟨b, rfl, trivial⟩⟩
theorem Rdb.string {P : Program} {t : TypeId} (ht : P.underlying t = some .string) (hs : P.cellsOf t = 1) : Rdb Kd.string P t (fun s => s.size ≤ 9223372036854775807) :=
  ⟨hs, fun h => by obtain ⟨s, rfl, _, hm⟩ := DataW.trod_string ht h; exact ⟨s, rfl, hm⟩⟩
theorem rdb_list {α : Type} {P : Nat → α → Prop} : ∀ n : Nat, (∀ j, j < n → ∃ x, P j x) → ∃ l : List α, l.length = n ∧ ∀ (j : Nat) (x : α), l[j]? = some x → P j x
  | 0, _ => ⟨[], rfl, fun j x h => by simp at h⟩
  | n + 1, h => by
    obtain ⟨l, hl, hp⟩ := rdb_list n (fun j hj => h j (by omega))
    obtain ⟨x, hx⟩ := h n (by omega)
    refine ⟨l ++ [x], by simp [hl], fun j y hy => ?_⟩
    by_cases hj : j < n
    · rw [List.getElem?_append_left (by omega)] at hy
      exact hp j y hy
    · have hlt := (List.getElem?_eq_some_iff.1 hy).1
      simp [hl] at hlt
      have : j = n := by omega
      subst this
      rw [List.getElem?_append_right (by omega)] at hy
      simp [hl] at hy
      subst hy
      exact hx
theorem Rdb.slice {α : Type} {d : Kd α} {P : Program} {t e : TypeId} {ok : α → Prop} (ht : P.underlying t = some (.slice e)) (hs : P.cellsOf t = 1) (h : Rdb d P e ok) : Rdb (Kd.slice e d) P t (fun xs => xs.length ≤ 9223372036854775807 ∧ ∀ x ∈ xs, ok x) := by
  refine ⟨hs, fun {H enc w base sp held fuel cs x} hx => ?_⟩
  rcases Deep.open_slice ht hx with ⟨rfl, _⟩ | ⟨a, len, cap, m, n, D, Pl, rfl, hb, hl, hm, hmm, _, hel⟩
  · exact ⟨[], ⟨none, 0, rfl, Nat.le_refl _, rfl, by simp, fun h0 => by simp at h0⟩, by simp, fun x hx => by simp at hx⟩
  · have hmax : len ≤ 9223372036854775807 := Nat.le_trans hl hm
    have hlm : len ≤ m := by rw [hmm]; split <;> omega
    obtain ⟨xs, hlen, hxs⟩ := rdb_list (P := fun j (x : α) => ok x ∧ ∃ c, c.length = d.sz ∧ d.K w x c ∧ ∀ (i : Nat) (u : Value), c[i]? = some u → w.cell? (a.add (j * d.sz + i)) = some u) len (fun j hj => by
      obtain ⟨cs', hc, htr⟩ := hel j (by omega)
      obtain ⟨x, hK, hok⟩ := h.rd htr
      obtain ⟨_, hcl, hcc⟩ := World.cells?_some hc
      rw [h.sz] at hcl hcc
      refine ⟨x, hok, cs', hcl, hK, fun i u hu => ?_⟩
      have hi := (List.getElem?_eq_some_iff.1 hu).1
      have := hcc i (by omega)
      rw [Addr.add_add] at this
      exact this.trans hu)
    refine ⟨xs, ⟨some a, cap, by rw [hlen], by omega, rfl, by omega, fun _ => ⟨a, rfl, fun j p hj => (hxs j p hj).2⟩⟩, by omega, fun x hx => ?_⟩
    obtain ⟨j, hj⟩ := List.getElem?_of_mem hx
    exact (hxs j x hj).1
/-- The fields of a struct (types and places) from cell 'off' on. -/
structure RdbFs {α : Type} (d : Kd α) (P : Program) (fs : List (TypeId × Nat)) (off : Nat) (ok : α → Prop) : Prop where
  rd : ∀ {H : Type} {enc : TypeId × Value → H} {w : World} {base : Nat} {sp : Nat → Bool} {held : Bool} {n : Nat} {cs : List Value}, cs.length = off + d.sz →
    (∀ f ∈ fs, ∃ x, DataW.trod enc P w base sp held n f.1 ((cs.drop f.2).take (P.cellsOf f.1)) = some x) → ∃ a, d.K w a (cs.drop off) ∧ ok a
theorem RdbFs.one {α : Type} {d : Kd α} {P : Program} {t : TypeId} {off : Nat} {ok : α → Prop} (h : Rdb d P t ok) : RdbFs d P [(t, off)] off ok := by
  refine ⟨fun {H enc w base sp held n cs} hl hf => ?_⟩
  obtain ⟨x, hx⟩ := hf (t, off) (by simp)
  simp only at hx
  rw [h.sz, List.take_of_length_le (by rw [List.length_drop]; omega)] at hx
  exact h.rd hx
theorem RdbFs.cons {α β : Type} {a : Kd α} {b : Kd β} {P : Program} {t : TypeId} {fs : List (TypeId × Nat)} {off off' : Nat} {ok : α → Prop} {ok' : β → Prop} (ho : off + a.sz = off') (h : Rdb a P t ok) (hs : RdbFs b P fs off' ok') : RdbFs (Kd.pair a b) P ((t, off) :: fs) off (fun x => ok x.1 ∧ ok' x.2) := by
  subst ho
  refine ⟨fun {H enc w base sp held n cs} hl hf => ?_⟩
  have hl' : cs.length = off + a.sz + b.sz := by rw [hl]; show off + (a.sz + b.sz) = _; omega
  obtain ⟨x, hx⟩ := hf (t, off) (by simp)
  simp only at hx
  rw [h.sz] at hx
  obtain ⟨y, hy, oky⟩ := h.rd hx
  obtain ⟨z, hz, okz⟩ := hs.rd hl' (fun g hg => hf g (by simp [hg]))
  refine ⟨(y, z), ⟨(cs.drop off).take a.sz, cs.drop (off + a.sz), ?_, hy, hz⟩, oky, okz⟩
  rw [← List.drop_drop, List.take_append_drop]
theorem Rdb.struct {α : Type} {d : Kd α} {P : Program} {t : TypeId} {fs : Array Field} {ok : α → Prop} (ht : P.underlying t = some (.struct fs)) (hs : P.cellsOf t = d.sz) (tos : List (TypeId × Nat)) (htos : fs.toList.map (fun f => (f.type, f.offset)) = tos) (h : RdbFs d P tos 0 ok) : Rdb d P t ok := by
  subst htos
  refine ⟨hs, fun hx => ?_⟩
  obtain ⟨xs, n, rfl, rfl, hl, hxl, hf⟩ := DataW.trod_struct ht hx
  have := h.rd (n := n) (by rw [hl, hs, Nat.zero_add]) (fun f hfm => by
    obtain ⟨f', hf', rfl⟩ := List.mem_map.1 hfm
    obtain ⟨i, hi⟩ := List.getElem?_of_mem hf'
    rw [Array.getElem?_toList] at hi
    have h1 := hf i f' hi
    have hlt : i < xs.length := by rw [hxl]; exact (Array.getElem?_eq_some_iff.1 hi).1
    exact ⟨xs[i], by rw [h1, List.getElem?_eq_getElem hlt]⟩)
  simpa using this
theorem Rdb.iso {α β : Type} {d : Kd α} {P : Program} {t : TypeId} {ok : α → Prop} {f : β → α} (h : Rdb d P t ok) (g : α → β) (hg : ∀ y, f (g y) = y) : Rdb (Kd.iso d f) P t (fun x => ok (f x)) :=
  ⟨h.sz, fun hx => by
    obtain ⟨a, hK, hok⟩ := h.rd hx
    refine ⟨g a, ?_, by rw [hg]; exact hok⟩
    show d.K _ (f (g a)) _
    rw [hg]
    exact hK⟩
end Go.Proofs.Ytoedcnhgobbnfaa.All


/- How the laws' arguments read. Printed by gen_row.py. -/
namespace Go.Proofs.Ytoedcnhgobbnfaa.All
open Go.RowKit Go.Proofs.YtoedcnhgobbnfaaW.PrintWords
set_option linter.unusedVariables false
def ok158 (x : S158) : Prop := (Lit.int .i64 x.f0).wf = true ∧ (Lit.int .i64 x.f1).wf = true ∧ (Lit.int .i64 x.f2).wf = true ∧ (Lit.int .u64 x.f3).wf = true
set_option maxRecDepth 100000 in
theorem rdb158 : Rdb k158 Try.prog 158 ok158 := Rdb.iso (f := fun x : S158 => (x.f0, x.f1, x.f2, x.f3)) (Rdb.struct Try.underlying158 (by kernel_rfl) [(2, 0), (2, 1), (2, 2), (73, 3)] rfl (RdbFs.cons rfl (Rdb.int Try.underlying2 (by kernel_rfl)) (RdbFs.cons rfl (Rdb.int Try.underlying2 (by kernel_rfl)) (RdbFs.cons rfl (Rdb.int Try.underlying2 (by kernel_rfl)) (RdbFs.one (Rdb.int Try.underlying73 (by kernel_rfl))))))) (fun y => (⟨y.1, y.2.1, y.2.2.1, y.2.2.2⟩ : S158)) (fun _ => rfl)
def ok140 (x : S140) : Prop := (Lit.int .i64 x.f0).wf = true ∧ (Lit.int .i64 x.f1).wf = true ∧ (Lit.int .i64 x.f2).wf = true ∧ (Lit.int .i64 x.f3).wf = true ∧ (Lit.int .i64 x.f4).wf = true ∧ (Lit.int .i64 x.f5).wf = true ∧ (x.f6.length ≤ 9223372036854775807 ∧ ∀ y ∈ x.f6, ok158 y) ∧ (x.f7.length ≤ 9223372036854775807 ∧ ∀ y ∈ x.f7, (Lit.int .i64 y).wf = true) ∧ (x.f8.length ≤ 9223372036854775807 ∧ ∀ y ∈ x.f8, (Lit.int .u64 y).wf = true)
set_option maxRecDepth 100000 in
theorem rdb140 : Rdb k140 Try.prog 140 ok140 := Rdb.iso (f := fun x : S140 => (x.f0, x.f1, x.f2, x.f3, x.f4, x.f5, x.f6, x.f7, x.f8)) (Rdb.struct Try.underlying140 (by kernel_rfl) [(2, 0), (2, 1), (2, 2), (2, 3), (2, 4), (2, 5), (138, 6), (22, 7), (64, 8)] rfl (RdbFs.cons rfl (Rdb.int Try.underlying2 (by kernel_rfl)) (RdbFs.cons rfl (Rdb.int Try.underlying2 (by kernel_rfl)) (RdbFs.cons rfl (Rdb.int Try.underlying2 (by kernel_rfl)) (RdbFs.cons rfl (Rdb.int Try.underlying2 (by kernel_rfl)) (RdbFs.cons rfl (Rdb.int Try.underlying2 (by kernel_rfl)) (RdbFs.cons rfl (Rdb.int Try.underlying2 (by kernel_rfl)) (RdbFs.cons rfl (Rdb.slice Try.underlying138 (by kernel_rfl) rdb158) (RdbFs.cons rfl (Rdb.slice Try.underlying22 (by kernel_rfl) (Rdb.int Try.underlying2 (by kernel_rfl))) (RdbFs.one (Rdb.slice Try.underlying64 (by kernel_rfl) (Rdb.int Try.underlying73 (by kernel_rfl))))))))))))) (fun y => (⟨y.1, y.2.1, y.2.2.1, y.2.2.2.1, y.2.2.2.2.1, y.2.2.2.2.2.1, y.2.2.2.2.2.2.1, y.2.2.2.2.2.2.2.1, y.2.2.2.2.2.2.2.2⟩ : S140)) (fun _ => rfl)
def ok96 (x : S96) : Prop := (x.f0.length ≤ 9223372036854775807 ∧ ∀ y ∈ x.f0, ok140 y)
set_option maxRecDepth 100000 in
theorem rdb96 : Rdb k96 Try.prog 96 ok96 := Rdb.iso (f := fun x : S96 => x.f0) (Rdb.struct Try.underlying96 (by kernel_rfl) [(94, 0)] rfl (RdbFs.one (Rdb.slice Try.underlying94 (by kernel_rfl) rdb140))) (fun y => (⟨y⟩ : S96)) (fun _ => rfl)
set_option maxRecDepth 100000 in
theorem rdbTop25 : Rdb (Kd.pair Kd.string (Kd.pair (Kd.int .i64) (Kd.pair (Kd.slice 2 (Kd.int .i64)) (Kd.pair (Kd.int .i64) (Kd.slice 96 k96))))) Try.prog 25 (fun x => x.1.size ≤ 9223372036854775807 ∧ (Lit.int .i64 x.2.1).wf = true ∧ (x.2.2.1.length ≤ 9223372036854775807 ∧ ∀ y ∈ x.2.2.1, (Lit.int .i64 y).wf = true) ∧ (Lit.int .i64 x.2.2.2.1).wf = true ∧ (x.2.2.2.2.length ≤ 9223372036854775807 ∧ ∀ y ∈ x.2.2.2.2, ok96 y)) := Rdb.struct Try.underlying25 (by kernel_rfl) [(9, 0), (2, 1), (22, 2), (2, 3), (23, 4)] rfl (RdbFs.cons rfl (Rdb.string Try.underlying9 (by kernel_rfl)) (RdbFs.cons rfl (Rdb.int Try.underlying2 (by kernel_rfl)) (RdbFs.cons rfl (Rdb.slice Try.underlying22 (by kernel_rfl) (Rdb.int Try.underlying2 (by kernel_rfl))) (RdbFs.cons rfl (Rdb.int Try.underlying2 (by kernel_rfl)) (RdbFs.one (Rdb.slice Try.underlying23 (by kernel_rfl) rdb96))))))
end Go.Proofs.Ytoedcnhgobbnfaa.All


/- Plain laws of the printed functions: eventually (Ev), step by step; loops over a list. -/
namespace Go.Proofs.Ytoedcnhgobbnfaa.All
open Go.RowKit Go.Proofs.YtoedcnhgobbnfaaW.PrintWords Go.Proofs.YtoedcnhgobbnfaaW.PrintLast Go.Proofs.YtoedcnhgobbnfaaW.PrintMore
set_option linter.unusedVariables false
set_option linter.unusedSimpArgs false
theorem Ev.succ {α : Type} {g : Nat → Option α} {r : α} (h : Ev (fun k => g (k + 1)) r) : Ev g r := by
  obtain ⟨K, hK⟩ := h
  refine ⟨K + 1, fun k hk => ?_⟩
  obtain ⟨m, rfl⟩ : ∃ m, k = m + 1 := ⟨k - 1, by omega⟩
  exact hK m (by omega)
theorem Ev.pos {α : Type} {c : Prop} [Decidable c] {g h : Nat → Option α} {r : α} (hc : c) (k : Ev g r) : Ev (fun n => if c then g n else h n) r := Ev.congr (fun n => if_pos hc) k
theorem Ev.neg {α : Type} {c : Prop} [Decidable c] {g h : Nat → Option α} {r : α} (hc : ¬ c) (k : Ev h r) : Ev (fun n => if c then g n else h n) r := Ev.congr (fun n => if_neg hc) k
theorem Ev.some_bind {α β : Type} {a : α} {f : Nat → α → Option β} {r : β} (k : Ev (fun n => f n a) r) : Ev (fun n => (some a).bind (f n)) r := k
theorem Ev.eq_bind {α β : Type} {o : Option α} {a : α} {f : Nat → α → Option β} {r : β} (h : o = some a) (k : Ev (fun n => f n a) r) : Ev (fun n => o.bind (f n)) r := by subst h; exact k
theorem Ev.some {α : Type} {a r : α} (h : a = r) : Ev (fun _ => some a) r := h ▸ Ev.now a
theorem wrap64_id {x : Int} (h1 : -9223372036854775808 ≤ x) (h2 : x ≤ 9223372036854775807) : wrap64 x = x := by unfold wrap64; omega
theorem wrap64_nat {i : Nat} (h : i < 9223372036854775807) : wrap64 ((i : Int) + 1) = ((i + 1 : Nat) : Int) := by rw [wrap64_id (by omega) (by omega)]; rfl
theorem getD_eq {α : Type} {xs : List α} {i : Nat} (h : i < xs.length) (z : α) : xs.getD i z = xs[i] := by rw [List.getD_eq_getElem?_getD, List.getElem?_eq_getElem h]; rfl
/-- A loop that fills a list of the same length. -/
theorem to_gen {α β : Type} (f : α → β) (z : β) (za : α) (xs : List α) (g : Nat → List β → Int → Option (List β))
    (hstep : ∀ (i : Nat) (out : List β) (r : List β), i < xs.length → out.length = xs.length → Ev (fun k => g k (out.set i (f (xs.getD i za))) ((i + 1 : Nat) : Int)) r → Ev (fun k => g k out (i : Int)) r)
    (hend : ∀ out : List β, out.length = xs.length → Ev (fun k => g k out (xs.length : Int)) out) : Ev (fun k => g k (List.replicate xs.length z) 0) (xs.map f) := by
  have key : ∀ d i : Nat, i + d = xs.length → Ev (fun k => g k ((xs.map f).take i ++ List.replicate (xs.length - i) z) (i : Int)) (xs.map f) := by
    intro d
    induction d with
    | zero =>
      intro i hi
      obtain rfl : i = xs.length := by omega
      rw [Nat.sub_self, List.replicate_zero, List.append_nil, List.take_of_length_le (by simp)]
      exact hend _ (by simp)
    | succ d ih =>
      intro i hi
      have h1 := ih (i + 1) (by omega)
      refine hstep i _ _ (by omega) (by simp; omega) ?_
      have e : ((xs.map f).take i ++ List.replicate (xs.length - i) z).set i (f (xs.getD i za)) = (xs.map f).take (i + 1) ++ List.replicate (xs.length - (i + 1)) z := by
        have hl : ((xs.map f).take i).length = i := by simp; omega
        rw [List.set_append_right _ _ (by omega), hl, Nat.sub_self]
        obtain ⟨m, hm⟩ : ∃ m, xs.length - i = m + 1 := ⟨xs.length - i - 1, by omega⟩
        rw [hm, List.replicate_succ, List.set_cons_zero, List.take_succ_eq_append_getElem (by simp; omega), show xs.length - (i + 1) = m by omega, List.append_assoc]
        congr 1
        simp [List.getElem?_eq_getElem (show i < xs.length by omega)]
      rw [e]
      exact h1
  have h0 := key xs.length 0 (by omega)
  simpa using h0
/-- A loop whose end is r, whatever happens on the way. -/
theorem for_gen {ρ : Type} (r : ρ) (n : Nat) (g : Nat → Int → Option ρ) (hstep : ∀ i : Nat, i < n → Ev (fun k => g k ((i + 1 : Nat) : Int)) r → Ev (fun k => g k (i : Int)) r) (hend : Ev (fun k => g k (n : Int)) r) : Ev (fun k => g k 0) r := by
  have key : ∀ d i : Nat, i + d = n → Ev (fun k => g k (i : Int)) r := by
    intro d
    induction d with
    | zero => intro i hi; obtain rfl : i = n := by omega
              exact hend
    | succ d ih => intro i hi; exact hstep i (by omega) (ih (i + 1) (by omega))
  exact key n 0 (by omega)
/-- A loop that says yes at each step. -/
theorem all_gen (n : Nat) (g : Nat → Int → Option Bool) (hstep : ∀ i : Nat, i < n → Ev (fun k => g k ((i + 1 : Nat) : Int)) true → Ev (fun k => g k (i : Int)) true) (hend : Ev (fun k => g k (n : Int)) true) : Ev (fun k => g k 0) true := for_gen true n g hstep hend
/-- A loop that writes each element anew, by its number. -/
theorem mk_gen {β ρ : Type} (f : Nat → β) (xs : List β) (fin : List β → ρ) (g : Nat → List β → Int → Option ρ)
    (hstep : ∀ (i : Nat) (out : List β) (r : ρ), i < xs.length → out.length = xs.length → Ev (fun k => g k (out.set i (f i)) ((i + 1 : Nat) : Int)) r → Ev (fun k => g k out (i : Int)) r)
    (hend : ∀ out : List β, out.length = xs.length → Ev (fun k => g k out (xs.length : Int)) (fin out)) : Ev (fun k => g k xs 0) (fin ((List.range xs.length).map f)) := by
  have key : ∀ d i : Nat, i + d = xs.length → Ev (fun k => g k ((List.range i).map f ++ xs.drop i) (i : Int)) (fin ((List.range xs.length).map f)) := by
    intro d
    induction d with
    | zero =>
      intro i hi
      obtain rfl : i = xs.length := by omega
      rw [List.drop_length, List.append_nil]
      exact hend _ (by simp)
    | succ d ih =>
      intro i hi
      have h1 := ih (i + 1) (by omega)
      refine hstep i _ _ (by omega) (by simp; omega) ?_
      have e : ((List.range i).map f ++ xs.drop i).set i (f i) = (List.range (i + 1)).map f ++ xs.drop (i + 1) := by
        have hl : ((List.range i).map f).length = i := by simp
        rw [List.set_append_right _ _ (by omega), hl, Nat.sub_self, List.drop_eq_getElem_cons (show i < xs.length by omega), List.set_cons_zero, List.range_succ, List.map_append, List.append_assoc]
        rfl
      rw [e]
      exact h1
  have h0 := key xs.length 0 (by omega)
  simpa using h0
/-- A loop that takes sizes off; below 0 it ends with -1. -/
theorem sz_gen {α : Type} (s : α → Nat) (za : α) (xs : List α) (g : Nat → Int → Int → Option Int)
    (hstep : ∀ (i : Nat) (a r : Int), i < xs.length → 0 ≤ a → a ≤ 1048576 → (if (s (xs.getD i za) : Int) ≤ a then Ev (fun k => g k (a - s (xs.getD i za)) ((i + 1 : Nat) : Int)) r else r = -1) → Ev (fun k => g k a (i : Int)) r)
    (hend : ∀ a : Int, Ev (fun k => g k a (xs.length : Int)) a) (a : Int) (h0 : 0 ≤ a) (h1 : a ≤ 1048576) : Ev (fun k => g k a 0) (if ((xs.map s).sum : Int) ≤ a then a - (xs.map s).sum else -1) := by
  have key : ∀ d i : Nat, i + d = xs.length → ∀ a : Int, 0 ≤ a → a ≤ 1048576 → Ev (fun k => g k a (i : Int)) (if ((((xs.drop i).map s).sum : Nat) : Int) ≤ a then a - (((xs.drop i).map s).sum : Nat) else -1) := by
    intro d
    induction d with
    | zero =>
      intro i hi a h0 h1
      obtain rfl : i = xs.length := by omega
      rw [List.drop_length]
      simp [h0]
      exact hend a
    | succ d ih =>
      intro i hi a h0 h1
      have hlt : i < xs.length := by omega
      refine hstep i a _ hlt h0 h1 ?_
      rw [List.drop_eq_getElem_cons hlt, List.map_cons, List.sum_cons, getD_eq hlt]
      split
      · rename_i hc
        have h2 := ih (i + 1) (by omega) (a - (s xs[i] : Nat)) (by omega) (by omega)
        have e : (if ((((xs.drop (i + 1)).map s).sum : Nat) : Int) ≤ a - (s xs[i] : Nat) then a - (s xs[i] : Nat) - (((xs.drop (i + 1)).map s).sum : Nat) else -1) = (if ((s xs[i] + ((xs.drop (i + 1)).map s).sum : Nat) : Int) ≤ a then a - (s xs[i] + ((xs.drop (i + 1)).map s).sum : Nat) else -1) := by
          split <;> split <;> omega
        rw [← e]
        exact h2
      · rename_i hc
        rw [if_neg (by omega)]
  have h2 := key xs.length 0 (by omega) a h0 h1
  simpa using h2
theorem sum_getD_le {α : Type} (s : α → Nat) (z : α) : ∀ (xs : List α) (i : Nat), i < xs.length → s (xs.getD i z) ≤ (xs.map s).sum
  | x :: xs, 0, _ => by simp
  | x :: xs, i + 1, h => by
    have := sum_getD_le s z xs i (by simpa using h)
    simp only [List.getD_cons_succ, List.map_cons, List.sum_cons] at this ⊢
    omega
end Go.Proofs.Ytoedcnhgobbnfaa.All


/- Plain laws of szFunc, toFunc, eqFunc over the laws' functions. -/
namespace Go.Proofs.Ytoedcnhgobbnfaa.All
open Go.RowKit Go.Proofs.YtoedcnhgobbnfaaW.PrintWords Go.Proofs.YtoedcnhgobbnfaaW.PrintLast Go.Proofs.YtoedcnhgobbnfaaW.PrintMore
set_option linter.unusedVariables false
set_option linter.unusedSimpArgs false
def iOperand (x : S158) : S75 := ⟨x.f0, x.f1, x.f2, x.f3⟩
def iInstr (x : S140) : S66 := ⟨x.f0, x.f1, x.f2, x.f3, x.f4, x.f5, x.f6.map iOperand, x.f7, x.f8⟩
def iBlock (x : S96) : S62 := ⟨x.f0.map iInstr⟩
def sInstr (x : S140) : Nat := x.f6.length + x.f7.length + x.f8.length
def sInstrS (xs : List S140) : Nat := xs.length + (xs.map sInstr).sum
def sBlock (x : S96) : Nat := sInstrS x.f0
def sBlockS (xs : List S96) : Nat := xs.length + (xs.map sBlock).sum
/-- What is known of lengths: each list's own is a machine number. -/
def lInstr (x : S140) : Prop := x.f6.length ≤ 9223372036854775807 ∧ x.f7.length ≤ 9223372036854775807 ∧ x.f8.length ≤ 9223372036854775807
def lInstrS (xs : List S140) : Prop := xs.length ≤ 9223372036854775807 ∧ ∀ x ∈ xs, lInstr x
def lBlockS (xs : List S96) : Prop := xs.length ≤ 9223372036854775807 ∧ ∀ x ∈ xs, lInstrS x.f0
theorem szInt64S_f (l : List Int) (a : Int) (h0 : 0 ≤ a) (h1 : a ≤ 1048576) (hl : l.length ≤ 9223372036854775807) : laws_szInt64S.f l a = some (if (l.length : Int) ≤ a then a - l.length else -1) := by
  unfold laws_szInt64S.f; rw [wrap64_id (by omega) (by omega)]
  by_cases h : (l.length : Int) ≤ a
  · rw [if_neg (by omega), if_pos h]
  · rw [if_pos (by omega), if_neg h]
theorem szUint64S_f (l : List Int) (a : Int) (h0 : 0 ≤ a) (h1 : a ≤ 1048576) (hl : l.length ≤ 9223372036854775807) : laws_szUint64S.f l a = some (if (l.length : Int) ≤ a then a - l.length else -1) := by
  unfold laws_szUint64S.f; rw [wrap64_id (by omega) (by omega)]
  by_cases h : (l.length : Int) ≤ a
  · rw [if_neg (by omega), if_pos h]
  · rw [if_pos (by omega), if_neg h]
theorem szOperandS_f (l : List S158) (a : Int) (h0 : 0 ≤ a) (h1 : a ≤ 1048576) (hl : l.length ≤ 9223372036854775807) : laws_szOperandS.f l a = some (if (l.length : Int) ≤ a then a - l.length else -1) := by
  unfold laws_szOperandS.f; rw [wrap64_id (by omega) (by omega)]
  by_cases h : (l.length : Int) ≤ a
  · rw [if_neg (by omega), if_pos h]
  · rw [if_pos (by omega), if_neg h]
theorem szInstr_f (x : S140) (a : Int) (h0 : 0 ≤ a) (h1 : a ≤ 1048576) (hx : lInstr x) : laws_szInstr.f x.f0 x.f1 x.f2 x.f3 x.f4 x.f5 x.f6 x.f7 x.f8 a = some (if (sInstr x : Int) ≤ a then a - sInstr x else -1) := by
  obtain ⟨l6, l7, l8⟩ := hx
  unfold laws_szInstr.f sInstr
  rw [szOperandS_f _ _ h0 h1 l6]; simp only [Option.bind_some]
  by_cases c6 : (x.f6.length : Int) ≤ a
  · rw [if_pos c6, if_neg (by omega), szInt64S_f _ _ (by omega) (by omega) l7]; simp only [Option.bind_some]
    by_cases c7 : (x.f7.length : Int) ≤ a - x.f6.length
    · rw [if_pos c7, if_neg (by omega), szUint64S_f _ _ (by omega) (by omega) l8]; simp only [Option.bind_some]
      by_cases c8 : (x.f8.length : Int) ≤ a - x.f6.length - x.f7.length
      · rw [if_pos c8, if_neg (by omega), if_pos (by omega)]; congr 1; omega
      · rw [if_neg c8, if_pos (by omega), if_neg (by omega)]
    · rw [if_neg c7, if_pos (by omega), if_neg (by omega)]
  · rw [if_neg c6, if_pos (by omega), if_neg (by omega)]
theorem szInstrS_f (xs : List S140) (a : Int) (h0 : 0 ≤ a) (h1 : a ≤ 1048576) (hx : lInstrS xs) : Ev (fun k => laws_szInstrS.f k xs a) (if (sInstrS xs : Int) ≤ a then a - sInstrS xs else -1) := by
  obtain ⟨hl, hx⟩ := hx
  unfold laws_szInstrS.f
  rw [wrap64_id (by omega) (by omega)]
  by_cases c : (xs.length : Int) ≤ a
  · refine Ev.neg (by omega) ?_
    have h := sz_gen sInstr z140 xs (fun k a i => laws_szInstrS.l0 k xs a i) (fun i a r hi h0 h1 h => by
      refine Ev.succ ?_
      simp only [laws_szInstrS.l0]
      refine Ev.pos (by omega) (Ev.pos (by omega) ?_)
      have hm : lInstr (rd_T140 xs i) := hx _ (by simp only [rd_T140, Int.toNat_natCast]; rw [getD_eq hi]; exact List.getElem_mem hi)
      refine Ev.eq_bind (szInstr_f _ a h0 h1 hm) ?_
      have e : rd_T140 xs i = xs.getD i z140 := by simp [rd_T140]
      rw [e]
      split at h
      · rename_i hc
        rw [if_pos hc, wrap64_nat (by omega)]
        exact Ev.neg (by omega) h
      · rename_i hc
        rw [if_neg hc]
        exact Ev.pos (by omega) (Ev.some h.symm)) (fun a => by
      refine Ev.succ ?_
      simp only [laws_szInstrS.l0]
      exact Ev.neg (by omega) (Ev.now _)) (a - xs.length) (by omega) (by omega)
    have e : (if ((xs.map sInstr).sum : Int) ≤ a - xs.length then a - xs.length - (xs.map sInstr).sum else -1) = (if (sInstrS xs : Int) ≤ a then a - sInstrS xs else -1) := by unfold sInstrS; split <;> split <;> omega
    rw [← e]
    exact h
  · rw [if_neg (by unfold sInstrS; omega)]
    exact Ev.pos (by omega) (Ev.now _)
theorem szBlockS_f (xs : List S96) (a : Int) (h0 : 0 ≤ a) (h1 : a ≤ 1048576) (hx : lBlockS xs) : Ev (fun k => laws_szBlockS.f k xs a) (if (sBlockS xs : Int) ≤ a then a - sBlockS xs else -1) := by
  obtain ⟨hl, hx⟩ := hx
  unfold laws_szBlockS.f
  rw [wrap64_id (by omega) (by omega)]
  by_cases c : (xs.length : Int) ≤ a
  · refine Ev.neg (by omega) ?_
    have h := sz_gen sBlock z96 xs (fun k a i => laws_szBlockS.l0 k xs a i) (fun i a r hi h0 h1 h => by
      refine Ev.succ ?_
      simp only [laws_szBlockS.l0]
      refine Ev.pos (by omega) (Ev.pos (by omega) ?_)
      have hm : lInstrS (rd_T96 xs i).f0 := hx _ (by simp only [rd_T96, Int.toNat_natCast]; rw [getD_eq hi]; exact List.getElem_mem hi)
      have e : rd_T96 xs i = xs.getD i z96 := by simp [rd_T96]
      rw [e] at hm ⊢
      have h2 := szInstrS_f _ a h0 h1 hm
      unfold laws_szBlock.f
      split at h
      · rename_i hc
        rw [if_pos (show (sInstrS (xs.getD i z96).f0 : Int) ≤ a from hc)] at h2
        refine Ev.bind (Ev.bind h2 (Ev.neg (by unfold sBlock at hc; omega) (Ev.now _))) ?_
        rw [wrap64_nat (by omega)]
        exact Ev.neg (by unfold sBlock at hc; omega) h
      · rename_i hc
        rw [if_neg (show ¬ (sInstrS (xs.getD i z96).f0 : Int) ≤ a from hc)] at h2
        refine Ev.bind (Ev.bind h2 (Ev.pos (by omega) (Ev.now _))) ?_
        exact Ev.pos (by omega) (Ev.some h.symm)) (fun a => by
      refine Ev.succ ?_
      simp only [laws_szBlockS.l0]
      exact Ev.neg (by omega) (Ev.now _)) (a - xs.length) (by omega) (by omega)
    have e : (if ((xs.map sBlock).sum : Int) ≤ a - xs.length then a - xs.length - (xs.map sBlock).sum else -1) = (if (sBlockS xs : Int) ≤ a then a - sBlockS xs else -1) := by unfold sBlockS; split <;> split <;> omega
    rw [← e]
    exact h
  · rw [if_neg (by unfold sBlockS; omega)]
    exact Ev.pos (by omega) (Ev.now _)
theorem szFunc_f (n : ByteArray) (b : Int) (ps : List Int) (c : Int) (bs : List S96) (hn : n.size ≤ 9223372036854775807) (hp : ps.length ≤ 9223372036854775807) (hb : lBlockS bs) :
    ∃ r, Ev (fun k => laws_szFunc.f k n b ps c bs 1048576) r ∧ (r < 0 ∨ n.size + ps.length + sBlockS bs ≤ 1048576) := by
  unfold laws_szFunc.f
  rw [wrap64_id (by omega) (by omega)]
  by_cases c1 : (n.size : Int) ≤ 1048576
  · by_cases c2 : (ps.length : Int) ≤ 1048576 - n.size
    · by_cases c3 : (sBlockS bs : Int) ≤ 1048576 - n.size - ps.length
      · refine ⟨1048576 - n.size - ps.length - sBlockS bs, Ev.neg (by omega) ?_, .inr (by omega)⟩
        refine Ev.eq_bind (szInt64S_f _ _ (by omega) (by omega) hp) ?_
        rw [if_pos c2]
        refine Ev.neg (by omega) ?_
        have h := szBlockS_f bs (1048576 - n.size - ps.length) (by omega) (by omega) hb
        rw [if_pos c3] at h
        exact Ev.bind h (Ev.neg (by omega) (Ev.now _))
      · refine ⟨-1, Ev.neg (by omega) ?_, .inl (by omega)⟩
        refine Ev.eq_bind (szInt64S_f _ _ (by omega) (by omega) hp) ?_
        rw [if_pos c2]
        refine Ev.neg (by omega) ?_
        have h := szBlockS_f bs (1048576 - n.size - ps.length) (by omega) (by omega) hb
        rw [if_neg c3] at h
        exact Ev.bind h (Ev.pos (by omega) (Ev.now _))
    · refine ⟨-1, Ev.neg (by omega) ?_, .inl (by omega)⟩
      refine Ev.eq_bind (szInt64S_f _ _ (by omega) (by omega) hp) ?_
      rw [if_neg c2]
      exact Ev.pos (by omega) (Ev.now _)
  · exact ⟨-1, Ev.pos (by omega) (Ev.now _), .inl (by omega)⟩

/-! ### to -/
theorem toInt64S_f (l : List Int) (hl : l.length ≤ 1048576) : Ev (fun k => laws_toInt64S.f k l) l := by
  unfold laws_toInt64S.f
  refine Ev.pos (by omega) (Ev.pos (by omega) ?_)
  have h := to_gen (fun x : Int => x) 0 0 l (fun k out i => laws_toInt64S.l0 k l out i) (fun i out r hi ho h => by
    refine Ev.succ ?_
    simp only [laws_toInt64S.l0]
    refine Ev.pos (by omega) (Ev.pos (by omega) (Ev.pos (by omega) ?_))
    rw [wrap64_nat (by omega)]
    simpa [rd] using h) (fun out _ => by
    refine Ev.succ ?_
    simp only [laws_toInt64S.l0]
    exact Ev.neg (by omega) (Ev.now _))
  simpa using h
theorem toUint64S_f (l : List Int) (hl : l.length ≤ 1048576) : Ev (fun k => laws_toUint64S.f k l) l := by
  unfold laws_toUint64S.f
  refine Ev.pos (by omega) (Ev.pos (by omega) ?_)
  have h := to_gen (fun x : Int => x) 0 0 l (fun k out i => laws_toUint64S.l0 k l out i) (fun i out r hi ho h => by
    refine Ev.succ ?_
    simp only [laws_toUint64S.l0]
    refine Ev.pos (by omega) (Ev.pos (by omega) (Ev.pos (by omega) ?_))
    rw [wrap64_nat (by omega)]
    simpa [rd] using h) (fun out _ => by
    refine Ev.succ ?_
    simp only [laws_toUint64S.l0]
    exact Ev.neg (by omega) (Ev.now _))
  simpa using h
theorem toOperandS_f (l : List S158) (hl : l.length ≤ 1048576) : Ev (fun k => laws_toOperandS.f k l) (l.map iOperand) := by
  unfold laws_toOperandS.f
  refine Ev.pos (by omega) (Ev.pos (by omega) ?_)
  have h := to_gen iOperand z75 z158 l (fun k out i => laws_toOperandS.l0 k l out i) (fun i out r hi ho h => by
    refine Ev.succ ?_
    simp only [laws_toOperandS.l0]
    refine Ev.pos (by omega) (Ev.pos (by omega) (Ev.eq_bind (by unfold laws_toOperand.f; rfl) (Ev.pos (by omega) ?_)))
    rw [wrap64_nat (by omega)]
    simpa [rd_T158, iOperand] using h) (fun out _ => by
    refine Ev.succ ?_
    simp only [laws_toOperandS.l0]
    exact Ev.neg (by omega) (Ev.now _))
  simpa using h
theorem toInstrS_f (l : List S140) (hl : sInstrS l ≤ 1048576) : Ev (fun k => laws_toInstrS.f k l) (l.map iInstr) := by
  unfold laws_toInstrS.f
  have hl1 : l.length ≤ 1048576 := by unfold sInstrS at hl; omega
  refine Ev.pos (by omega) (Ev.pos (by omega) ?_)
  have h := to_gen iInstr z66 z140 l (fun k out i => laws_toInstrS.l0 k l out i) (fun i out r hi ho h => by
    refine Ev.succ ?_
    simp only [laws_toInstrS.l0]
    have hs := sum_getD_le sInstr z140 l i hi
    have e : rd_T140 l i = l.getD i z140 := by simp [rd_T140]
    rw [e]
    have hz : sInstr (l.getD i z140) = (l.getD i z140).f6.length + (l.getD i z140).f7.length + (l.getD i z140).f8.length := rfl
    unfold sInstrS at hl
    refine Ev.pos (by omega) (Ev.pos (by omega) (Ev.bind (a := ((l.getD i z140).f0, (l.getD i z140).f1, (l.getD i z140).f2, (l.getD i z140).f3, (l.getD i z140).f4, (l.getD i z140).f5, (l.getD i z140).f6.map iOperand, (l.getD i z140).f7, (l.getD i z140).f8)) ?_ (Ev.pos (by omega) ?_)))
    · unfold laws_toInstr.f
      exact Ev.bind (toOperandS_f _ (by omega)) (Ev.bind (toInt64S_f _ (by omega)) (Ev.bind (toUint64S_f _ (by omega)) (Ev.now _)))
    · rw [wrap64_nat (by omega)]
      exact h) (fun out _ => by
    refine Ev.succ ?_
    simp only [laws_toInstrS.l0]
    exact Ev.neg (by omega) (Ev.now _))
  simpa using h
theorem toBlockS_f (l : List S96) (hl : sBlockS l ≤ 1048576) : Ev (fun k => laws_toBlockS.f k l) (l.map iBlock) := by
  unfold laws_toBlockS.f
  have hl1 : l.length ≤ 1048576 := by unfold sBlockS at hl; omega
  refine Ev.pos (by omega) (Ev.pos (by omega) ?_)
  have h := to_gen iBlock z62 z96 l (fun k out i => laws_toBlockS.l0 k l out i) (fun i out r hi ho h => by
    refine Ev.succ ?_
    simp only [laws_toBlockS.l0]
    have hs := sum_getD_le sBlock z96 l i hi
    have e : rd_T96 l i = l.getD i z96 := by simp [rd_T96]
    rw [e]
    have hz : sBlock (l.getD i z96) = sInstrS (l.getD i z96).f0 := rfl
    unfold sBlockS at hl
    refine Ev.pos (by omega) (Ev.pos (by omega) (Ev.bind (a := (l.getD i z96).f0.map iInstr) ?_ (Ev.pos (by omega) ?_)))
    · unfold laws_toBlock.f
      exact Ev.bind (toInstrS_f _ (by omega)) (Ev.now _)
    · rw [wrap64_nat (by omega)]
      exact h) (fun out _ => by
    refine Ev.succ ?_
    simp only [laws_toBlockS.l0]
    exact Ev.neg (by omega) (Ev.now _))
  simpa using h
theorem toFunc_f (n : ByteArray) (b : Int) (ps : List Int) (c : Int) (bs : List S96) (h : n.size + ps.length + sBlockS bs ≤ 1048576) : Ev (fun k => laws_toFunc.f k n b ps c bs) (n, b, ps, c, bs.map iBlock) := by
  unfold laws_toFunc.f
  exact Ev.bind (toInt64S_f _ (by omega)) (Ev.bind (toBlockS_f _ (by omega)) (Ev.now _))

/-! ### eq, of one value with itself -/
theorem eqInt64S_f (l : List Int) (hl : l.length ≤ 9223372036854775806) : Ev (fun k => laws_eqInt64S.f k l l) true := by
  unfold laws_eqInt64S.f
  refine Ev.pos rfl (all_gen l.length (fun k i => laws_eqInt64S.l0 k l l i) (fun i hi h => ?_) ?_)
  · refine Ev.succ ?_
    simp only [laws_eqInt64S.l0]
    rw [wrap64_nat (by omega)]
    exact Ev.pos (by omega) (Ev.pos (by omega) (Ev.pos (by omega) (Ev.pos trivial h)))
  · refine Ev.succ ?_
    simp only [laws_eqInt64S.l0]
    exact Ev.neg (by omega) (Ev.now _)
theorem eqUint64S_f (l : List Int) (hl : l.length ≤ 9223372036854775806) : Ev (fun k => laws_eqUint64S.f k l l) true := by
  unfold laws_eqUint64S.f
  refine Ev.pos rfl (all_gen l.length (fun k i => laws_eqUint64S.l0 k l l i) (fun i hi h => ?_) ?_)
  · refine Ev.succ ?_
    simp only [laws_eqUint64S.l0]
    rw [wrap64_nat (by omega)]
    exact Ev.pos (by omega) (Ev.pos (by omega) (Ev.pos (by omega) (Ev.pos trivial h)))
  · refine Ev.succ ?_
    simp only [laws_eqUint64S.l0]
    exact Ev.neg (by omega) (Ev.now _)
theorem eqOperandS_f (l : List S75) (hl : l.length ≤ 9223372036854775806) : Ev (fun k => laws_eqOperandS.f k l l) true := by
  unfold laws_eqOperandS.f
  refine Ev.pos rfl (all_gen l.length (fun k i => laws_eqOperandS.l0 k l l i) (fun i hi h => ?_) ?_)
  · refine Ev.succ ?_
    simp only [laws_eqOperandS.l0]
    rw [wrap64_nat (by omega)]
    exact Ev.pos (by omega) (Ev.pos (by omega) (Ev.pos (by omega) (Ev.eq_bind (a := true) (by simp [laws_eqOperand.f]) (Ev.pos rfl h))))
  · refine Ev.succ ?_
    simp only [laws_eqOperandS.l0]
    exact Ev.neg (by omega) (Ev.now _)
def bInstr (x : S66) : Prop := x.f6.length ≤ 1048576 ∧ x.f7.length ≤ 1048576 ∧ x.f8.length ≤ 1048576
def bBlock (x : S62) : Prop := x.f0.length ≤ 1048576 ∧ ∀ y ∈ x.f0, bInstr y
theorem eqInstr_f (x : S66) (h : bInstr x) : Ev (fun k => laws_eqInstr.f k x.f0 x.f1 x.f2 x.f3 x.f4 x.f5 x.f6 x.f7 x.f8 x.f0 x.f1 x.f2 x.f3 x.f4 x.f5 x.f6 x.f7 x.f8) true := by
  obtain ⟨h6, h7, h8⟩ := h
  unfold laws_eqInstr.f
  exact Ev.pos rfl (Ev.pos rfl (Ev.pos rfl (Ev.pos rfl (Ev.pos rfl (Ev.pos rfl (Ev.bind (eqOperandS_f _ (by omega)) (Ev.pos rfl (Ev.bind (eqInt64S_f _ (by omega)) (Ev.pos rfl (Ev.bind (eqUint64S_f _ (by omega)) (Ev.pos rfl (Ev.now _))))))))))))
theorem eqInstrS_f (l : List S66) (hl : l.length ≤ 1048576) (hb : ∀ y ∈ l, bInstr y) : Ev (fun k => laws_eqInstrS.f k l l) true := by
  unfold laws_eqInstrS.f
  refine Ev.pos rfl (all_gen l.length (fun k i => laws_eqInstrS.l0 k l l i) (fun i hi h => ?_) ?_)
  · refine Ev.succ ?_
    simp only [laws_eqInstrS.l0]
    rw [wrap64_nat (by omega)]
    have hm : bInstr (rd_T66 l i) := hb _ (by simp only [rd_T66, Int.toNat_natCast]; rw [getD_eq hi]; exact List.getElem_mem hi)
    exact Ev.pos (by omega) (Ev.pos (by omega) (Ev.pos (by omega) (Ev.bind (eqInstr_f _ hm) (Ev.pos rfl h))))
  · refine Ev.succ ?_
    simp only [laws_eqInstrS.l0]
    exact Ev.neg (by omega) (Ev.now _)
theorem eqBlockS_f (l : List S62) (hl : l.length ≤ 1048576) (hb : ∀ y ∈ l, bBlock y) : Ev (fun k => laws_eqBlockS.f k l l) true := by
  unfold laws_eqBlockS.f
  refine Ev.pos rfl (all_gen l.length (fun k i => laws_eqBlockS.l0 k l l i) (fun i hi h => ?_) ?_)
  · refine Ev.succ ?_
    simp only [laws_eqBlockS.l0]
    rw [wrap64_nat (by omega)]
    have hm : bBlock (rd_T62 l i) := hb _ (by simp only [rd_T62, Int.toNat_natCast]; rw [getD_eq hi]; exact List.getElem_mem hi)
    refine Ev.pos (by omega) (Ev.pos (by omega) (Ev.pos (by omega) (Ev.bind (a := true) ?_ (Ev.pos rfl h))))
    unfold laws_eqBlock.f
    exact Ev.bind (eqInstrS_f _ hm.1 hm.2) (Ev.pos rfl (Ev.now _))
  · refine Ev.succ ?_
    simp only [laws_eqBlockS.l0]
    exact Ev.neg (by omega) (Ev.now _)
theorem eqFunc_f (n : ByteArray) (b : Int) (ps : List Int) (c : Int) (bs : List S62) (hp : ps.length ≤ 1048576) (hl : bs.length ≤ 1048576) (hb : ∀ y ∈ bs, bBlock y) : Ev (fun k => laws_eqFunc.f k n b ps c bs n b ps c bs) true := by
  unfold laws_eqFunc.f
  exact Ev.pos rfl (Ev.pos rfl (Ev.bind (eqInt64S_f _ (by omega)) (Ev.pos rfl (Ev.pos rfl (Ev.bind (eqBlockS_f _ hl hb) (Ev.pos rfl (Ev.now _)))))))
theorem bBlock_of (bs : List S96) (h : sBlockS bs ≤ 1048576) : ∀ y ∈ bs.map iBlock, bBlock y := by
  intro y hy
  obtain ⟨x, hx, rfl⟩ := List.mem_map.1 hy
  obtain ⟨i, hi, rfl⟩ := List.getElem_of_mem hx
  have h1 := sum_getD_le sBlock z96 bs i hi
  rw [getD_eq hi] at h1
  have hz : sBlock bs[i] = bs[i].f0.length + (bs[i].f0.map sInstr).sum := rfl
  unfold sBlockS at h
  refine ⟨by show (bs[i].f0.map iInstr).length ≤ _; rw [List.length_map]; omega, fun z hz2 => ?_⟩
  obtain ⟨u, hu, rfl⟩ := List.mem_map.1 (show z ∈ bs[i].f0.map iInstr from hz2)
  obtain ⟨j, hj, rfl⟩ := List.getElem_of_mem hu
  have h2 := sum_getD_le sInstr z140 bs[i].f0 j hj
  rw [getD_eq hj] at h2
  have hz3 : sInstr bs[i].f0[j] = bs[i].f0[j].f6.length + bs[i].f0[j].f7.length + bs[i].f0[j].f8.length := rfl
  refine ⟨?_, ?_, ?_⟩
  · show (bs[i].f0[j].f6.map iOperand).length ≤ _; rw [List.length_map]; omega
  · show bs[i].f0[j].f7.length ≤ _; omega
  · show bs[i].f0[j].f8.length ≤ _; omega
end Go.Proofs.Ytoedcnhgobbnfaa.All


/- What reads as data has machine lengths. -/
namespace Go.Proofs.Ytoedcnhgobbnfaa.All
open Go.RowKit Go.Proofs.YtoedcnhgobbnfaaW.PrintWords Go.Proofs.YtoedcnhgobbnfaaW.PrintLast Go.Proofs.YtoedcnhgobbnfaaW.PrintMore
set_option linter.unusedVariables false
set_option linter.unusedSimpArgs false
theorem lBlockS_ok {l : List S96} (h : l.length ≤ 9223372036854775807 ∧ ∀ y ∈ l, ok96 y) : lBlockS l := by
  refine ⟨h.1, fun b hb => ?_⟩
  have h1 := h.2 b hb
  unfold ok96 at h1
  refine ⟨h1.1, fun x hx => ?_⟩
  have h2 := h1.2 x hx
  unfold ok140 at h2
  obtain ⟨_, _, _, _, _, _, h6, h7, h8⟩ := h2
  exact ⟨h6.1, h7.1, h8.1⟩
end Go.Proofs.Ytoedcnhgobbnfaa.All


/- Plain laws: a result's own cells marked, and found marked. -/
namespace Go.Proofs.Ytoedcnhgobbnfaa.All
open Go.RowKit Go.Proofs.YtoedcnhgobbnfaaW.PrintWords Go.Proofs.YtoedcnhgobbnfaaW.PrintLast Go.Proofs.YtoedcnhgobbnfaaW.PrintMore
set_option linter.unusedVariables false
set_option linter.unusedSimpArgs false
def marks (n : Nat) : List Int := (List.range n).map fun (j : Nat) => (1 : Int) + (j : Int)
theorem marks_length (n : Nat) : (marks n).length = n := by simp [marks]
theorem marks_at (n i : Nat) (h : i < n) : rd (marks n) i = 1 + i := by
  simp [rd, marks, List.getElem?_range, h]
theorem markInt64S_f (l : List Int) (hl : l.length ≤ 1000000000000) : Ev (fun k => laws_markInt64S.f k l 1) ((1 : Int) + (l.length : Nat), marks l.length) := by
  unfold laws_markInt64S.f marks
  refine mk_gen (fun (j : Nat) => (1 : Int) + (j : Int)) l (fun out => ((1 : Int) + (l.length : Nat), out)) (fun k out i => laws_markInt64S.l0 k out (1 + i) i) (fun i out r hi ho h => ?_) (fun out ho => ?_)
  · refine Ev.succ ?_
    simp only [laws_markInt64S.l0]
    refine Ev.pos (by omega) (Ev.pos (by omega) ?_)
    rw [wrap64_nat (by omega), wrap64_id (by omega) (by omega)]
    have e : (1 : Int) + ((i + 1 : Nat) : Int) = 1 + (i : Int) + 1 := by omega
    rw [e] at h
    simpa using h
  · refine Ev.succ ?_
    simp only [laws_markInt64S.l0]
    exact Ev.neg (by omega) (Ev.now _)
theorem heldInt64S_f (n : Nat) (hl : n ≤ 1000000000000) : Ev (fun k => laws_heldInt64S.f k (marks n) 1) ((1 : Int) + (n : Nat)) := by
  unfold laws_heldInt64S.f
  refine for_gen ((1 : Int) + (n : Nat)) n (fun k i => laws_heldInt64S.l0 k (marks n) (1 + i) i) (fun i hi h => ?_) ?_
  · refine Ev.succ ?_
    simp only [laws_heldInt64S.l0]
    rw [marks_at n i hi]
    refine Ev.pos (by rw [marks_length]; omega) (Ev.pos (by omega) (Ev.pos rfl ?_))
    rw [wrap64_nat (by omega), wrap64_id (by omega) (by omega)]
    have e : (1 : Int) + ((i + 1 : Nat) : Int) = 1 + (i : Int) + 1 := by omega
    rw [e] at h
    exact h
  · refine Ev.succ ?_
    simp only [laws_heldInt64S.l0]
    exact Ev.neg (by rw [marks_length]; omega) (Ev.now _)
end Go.Proofs.Ytoedcnhgobbnfaa.All


/- How many cells the laws mark. -/
namespace Go.Proofs.Ytoedcnhgobbnfaa.All
open Go.RowKit Go.Proofs.YtoedcnhgobbnfaaW.PrintWords Go.Proofs.YtoedcnhgobbnfaaW.PrintLast Go.Proofs.YtoedcnhgobbnfaaW.PrintMore
set_option linter.unusedVariables false
set_option linter.unusedSimpArgs false
def nB (bs : List S62) : Nat := (bs.map fun b => b.f0.length).sum
theorem cnt_of_s (bs : List S96) : nB (bs.map iBlock) ≤ sBlockS bs ∧ cntL_Block (bs.map iBlock) ≤ 10 * sBlockS bs := by
  have hI : ∀ xs : List S140, cntL_Instr (xs.map iInstr) ≤ 10 * sInstrS xs := by
    intro xs
    unfold cntL_Instr sInstrS
    induction xs with
    | nil => simp
    | cons x xs ih =>
      have h1 : cnt_Instr (iInstr x) = 6 + 4 * x.f6.length + x.f7.length + x.f8.length := by
        unfold cnt_Instr iInstr cntL_int64 cntL_uint64 cntL_Operand
        have h2 : ∀ l : List S158, ((l.map iOperand).map cnt_Operand).sum = 4 * l.length := by
          intro l
          induction l with
          | nil => rfl
          | cons a l ih => simp only [List.map_cons, List.sum_cons, ih, List.length_cons]; have : cnt_Operand (iOperand a) = 4 := rfl; omega
        simp only [h2]
      have h3 : sInstr x = x.f6.length + x.f7.length + x.f8.length := rfl
      simp only [List.map_cons, List.sum_cons, List.length_cons] at ih ⊢
      omega
  unfold nB cntL_Block sBlockS
  induction bs with
  | nil => simp
  | cons x xs ih =>
    have h1 := hI x.f0
    have h2 : cnt_Block (iBlock x) = cntL_Instr (x.f0.map iInstr) := rfl
    have h3 : sBlock x = sInstrS x.f0 := rfl
    have h4 : (iBlock x).f0.length = x.f0.length := by simp [iBlock]
    have h5 : x.f0.length ≤ sInstrS x.f0 := by unfold sInstrS; omega
    simp only [List.map_cons, List.sum_cons, List.length_cons] at ih ⊢
    omega
end Go.Proofs.Ytoedcnhgobbnfaa.All


namespace Go.Proofs.Ytoedcnhgobbnfaa.All
open Go.RowKit Go.Proofs.YtoedcnhgobbnfaaW.PrintWords Go.Proofs.YtoedcnhgobbnfaaW.PrintLast Go.Proofs.YtoedcnhgobbnfaaW.PrintMore
attribute [local go_sem] max2_int min2_int max_two min_two max_three min_three max_four min_four   -- for this text's walks alone
set_option linter.unusedVariables false
set_option linter.unusedSimpArgs false

/-! ### spec_l4Idoms: function 58 -/
mutual
def spec_l4Idoms.l0 : Nat → List (List Bool) → List Int → Int → Int → Option (List Int)
 | 0, _, _, _, _ => none
 | k + 1, x0, x3, x4, x5 => if x5 < x4 then (spec_l4Idoms.l1 k x0 x3 x4 x5 (-1) 0) else (some x3)
def spec_l4Idoms.l1 : Nat → List (List Bool) → List Int → Int → Int → Int → Int → Option (List Int)
 | 0, _, _, _, _, _, _ => none
 | k + 1, x0, x3, x4, x5, x6, x7 => if x7 < x4 then (if x7 = x5 then (spec_l4Idoms.l1 k x0 x3 x4 x5 x6 (wrap64 (x7 + 1))) else (if 0 ≤ x7 then (if x7 < (x0.length : Int) then (if 0 ≤ x5 then (if x5 < ((rd_L18 x0 x7).length : Int) then (if rdOf false (rd_L18 x0 x7) x5 = true then (if x6 < 0 then (spec_l4Idoms.l1 k x0 x3 x4 x5 x7 (wrap64 (x7 + 1))) else (if 0 ≤ x6 then (if x6 < (x0.length : Int) then (if x7 < ((rd_L18 x0 x6).length : Int) then (if rdOf false (rd_L18 x0 x6) x7 = true then (spec_l4Idoms.l1 k x0 x3 x4 x5 x7 (wrap64 (x7 + 1))) else (spec_l4Idoms.l1 k x0 x3 x4 x5 x6 (wrap64 (x7 + 1)))) else (none)) else (none)) else (none))) else (spec_l4Idoms.l1 k x0 x3 x4 x5 x6 (wrap64 (x7 + 1)))) else (none)) else (none)) else (none)) else (none))) else (if x3.length < 17592186044416 then (spec_l4Idoms.l0 k x0 (x3 ++ [x6]) x4 (wrap64 (x5 + 1))) else (none))
end
def spec_l4Idoms.f (k : Nat) (l0 : List (List Bool)) : Option (List Int) := spec_l4Idoms.l0 k l0 (([] : List Int)) (l0.length : Int) 0
set_option maxHeartbeats 8000000 in
set_option maxRecDepth 100000 in
theorem spec_l4Idoms.calls (k : Nat) (A0 : Option Addr) (c0 : Nat) (l0 : List (List Bool)) (r : List Int) (w : World) (hr0 : Kd.C (Kd.slice 4 Kd.bool) w A0 l0.length l0) (hc0 : l0.length ≤ c0) (h : spec_l4Idoms.f k l0 = some r) :
 Calls Try.prog 58 #[.slice A0 l0.length c0] w fun e w' => ∃ v0_ : Value, e = .returned (v0_) ∧ Kd.R (Kd.int .i64) 2 w' w.heap.size (fun _ => True) v0_ r ∧ Below w.heap.size w w' := by
 have HR0 := Aside0.mk hr0
 have HC0 := Aside0.mk hc0
 clear hr0 hc0
 have HB := Aside0.mk (Below.refl w.heap.size w)
 have H : (spec_l4Idoms.l0 k l0 (([] : List Int)) (l0.length : Int) 0) = some r := h
 clear h
 obtain ⟨y328, hy328⟩ : ∃ y_ : List Int, y_ = (([] : List Int)) := ⟨_, rfl⟩
 replace H : (spec_l4Idoms.l0 k l0 y328 (l0.length : Int) 0) = some r := by first | (rw [hy328]; with_reducible exact H) | (have H2_ := (Option.bind_some _ _).symm.trans H; rw [hy328]; with_reducible exact H2_) | (have H2_ := (Option.bind_some _ _).symm.trans H; with_reducible exact H2_) | with_reducible exact H | (rw [hy328]; exact H) | exact H
 have Ny328 := Aside0.mk hy328
 clear hy328
 have H' := Aside0.mk H
 clear H
 go_enter Try.func58, Try.ntmps58
 go_wp2_with (first | ((with_reducible refine gate_dst (N := 8) rfl ?_); refine Kd.R_lit (Kd.int .i64) _ 2 ?hg (N := 8) ?hd (xs := ([] : List Int)) (inner := []) (ok := fun _ => True) (okp := fun _ => True) ?hr ?hp (fun _ hk => hk) trivial (Below.refl _ _) (Nat.le_refl _) (by simp) ?_; (case hd => rfl); (case hg => rfl); (case hr => first | (go_simp; done) | (go_simp; rfl)); (case hp => exact (Reps.none _ _)); intro v329 w2 ho3 hb hg_ hnew_; clear hg_ hnew_; (first | rw [← Ny328.out] at ho3 | (simp only [Int.reduceToNat] at ho3; rw [← Ny328.out] at ho3)); have n0_ := Aside0.mk (Kd.R_lower ho3 (below_size (by repeat (first | (with_reducible first | exact HB.out | apply below_alloc | apply pw_below_drewN | apply below_drew1) | exact HB.out)))); have n1_ := Aside0.mk (below_step (by repeat (first | (with_reducible first | exact HB.out | apply below_alloc | apply pw_below_drewN | apply below_drew1) | exact HB.out)) hb); clear HB; have HO330 := n0_; have HB := n1_; clear n0_ n1_; clear hb ho3))
 go_loopg [3, 5] k (fun kq v3 v5 w' => ∃ (x3_1 : List Int) (x5_1 : Int), v5 = .int .i64 x5_1 ∧ Aside0 (spec_l4Idoms.l0 kq l0 x3_1 (l0.length : Int) x5_1 = some r) ∧ Aside0 (kq ≤ k) ∧ Aside0 (Kd.R (Kd.int .i64) 2 w' w.heap.size (fun _ => True) v3 x3_1) ∧ Aside0 (Below w.heap.size w w'))
 case atStart => exact ⟨(y328), (0), (by first | rfl | (simp; done) | (simp [*]; done)), H', ⟨Nat.le_refl _⟩, ⟨by (with_reducible repeat (first | apply Kd.R_alloc | apply Kd.R_drewN | apply Kd.R_drew)); exact HO330.out⟩, ⟨by repeat (first | (with_reducible first | exact HB.out | apply below_alloc | apply pw_below_drewN | apply below_drew1) | exact HB.out)⟩⟩
 case round =>
  clear H'
  try clear p2
  obtain ⟨x3_1, x5_1, rfl, HA, HK1, HO_3, HB⟩ := hrel
  cases gk with
  | zero => exact absurd HA.out (by simp [spec_l4Idoms.l0])
  | succ k1 =>
   have H := HA.out
   clear HA
   simp only [spec_l4Idoms.l0] at H
   by_cases c4 : x5_1 < (l0.length : Int)
   · rw [if_pos c4] at H
     have c4b0 : decide (x5_1 < (l0.length : Int)) = true := decide_eq_true c4
     clear c4
     have H' := Aside0.mk H
     clear H
     go_wp2
     go_loopg [6, 7] k1 (fun kq v6 v7 w' => ∃ (x6_2 : Int) (x7_2 : Int), v6 = .int .i64 x6_2 ∧ v7 = .int .i64 x7_2 ∧ Aside0 (spec_l4Idoms.l1 kq l0 x3_1 (l0.length : Int) x5_1 x6_2 x7_2 = some r) ∧ Aside0 (kq ≤ k1) ∧ Aside0 (Kd.R (Kd.int .i64) 2 w' w.heap.size (fun _ => True) u3 x3_1) ∧ Aside0 (Below w.heap.size w w'))
     case atStart => exact ⟨((-1)), (0), (by first | rfl | (simp; done) | (simp [*]; done)), (by first | rfl | (simp; done) | (simp [*]; done)), H', ⟨Nat.le_refl _⟩, ⟨by (with_reducible repeat (first | apply Kd.R_alloc | apply Kd.R_drewN | apply Kd.R_drew)); exact HO_3.out⟩, ⟨by repeat (first | (with_reducible first | exact HB.out | apply below_alloc | apply pw_below_drewN | apply below_drew1) | exact HB.out)⟩⟩
     case round =>
      clear H'
      try clear p2
      try clear c4
      try clear c4b0
      try clear p2
      obtain ⟨x6_2, x7_2, rfl, rfl, HA, HK2, HO_3, HB⟩ := hrel
      cases gk with
      | zero => exact absurd HA.out (by simp [spec_l4Idoms.l1])
      | succ k2 =>
       have H := HA.out
       clear HA
       simp only [spec_l4Idoms.l1] at H
       by_cases c5 : x7_2 < (l0.length : Int)
       · rw [if_pos c5] at H
         have c5b0 : decide (x7_2 < (l0.length : Int)) = true := decide_eq_true c5
         clear c5
         by_cases c6 : x7_2 = x5_1
         · rw [if_pos c6] at H
           have c6b0 : (x7_2 == x5_1) = true := beq_iff_eq.mpr c6
           have c6b1 : (x7_2 != x5_1) = false := bne_eq_false_iff_eq.mpr c6
           clear c6
           have H' := Aside0.mk H
           clear H
           go_wp2
           go_roundg k2
           case measure => have := HK1.out; have := HK2.out; omega
           case rel => exact ⟨(x6_2), (wrap64 (x7_2 + 1)), (by first | rfl | (simp; done) | (simp [*]; done)), (by first | rfl | (simp; done) | (simp [*]; done)), H', ⟨by have := HK1.out; have := HK2.out; omega⟩, ⟨by (with_reducible repeat (first | apply Kd.R_alloc | apply Kd.R_drewN | apply Kd.R_drew)); exact HO_3.out⟩, ⟨by repeat (first | (with_reducible first | exact HB.out | apply below_alloc | apply pw_below_drewN | apply below_drew1) | exact HB.out)⟩⟩
         · rw [if_neg c6] at H
           have c6b0 : (x7_2 == x5_1) = false := beq_eq_false_iff_ne.mpr c6
           have c6b1 : (x7_2 != x5_1) = true := bne_iff_ne.mpr c6
           by_cases c7 : 0 ≤ x7_2
           · rw [if_pos c7] at H
             have c7b0 : decide (0 ≤ x7_2) = true := decide_eq_true c7
             clear c7
             by_cases c8 : x7_2 < (l0.length : Int)
             · rw [if_pos c8] at H
               have c8b0 : decide (x7_2 < (l0.length : Int)) = true := decide_eq_true c8
               clear c8
               by_cases c9 : 0 ≤ x5_1
               · rw [if_pos c9] at H
                 have c9b0 : decide (0 ≤ x5_1) = true := decide_eq_true c9
                 clear c9
                 by_cases c10 : x5_1 < ((rd_L18 l0 x7_2).length : Int)
                 · rw [if_pos c10] at H
                   have c10b0 : decide (x5_1 < ((rd_L18 l0 x7_2).length : Int)) = true := decide_eq_true c10
                   clear c10
                   obtain ⟨bq11, hbq11⟩ : ∃ b_ : Bool, b_ = (rdOf false (rd_L18 l0 x7_2) x5_1) := ⟨_, rfl⟩
                   replace H : (if bq11 = true then (if x6_2 < 0 then (spec_l4Idoms.l1 k2 l0 x3_1 (l0.length : Int) x5_1 x7_2 (wrap64 (x7_2 + 1))) else (if 0 ≤ x6_2 then (if x6_2 < (l0.length : Int) then (if x7_2 < ((rd_L18 l0 x6_2).length : Int) then (if rdOf false (rd_L18 l0 x6_2) x7_2 = true then (spec_l4Idoms.l1 k2 l0 x3_1 (l0.length : Int) x5_1 x7_2 (wrap64 (x7_2 + 1))) else (spec_l4Idoms.l1 k2 l0 x3_1 (l0.length : Int) x5_1 x6_2 (wrap64 (x7_2 + 1)))) else (none)) else (none)) else (none))) else (spec_l4Idoms.l1 k2 l0 x3_1 (l0.length : Int) x5_1 x6_2 (wrap64 (x7_2 + 1)))) = some r := by rw [← hbq11] at H; exact H
                   have Nbq11 := Aside0.mk hbq11
                   clear hbq11
                   by_cases c12 : bq11 = true
                   · subst c12
                     have H1 : (if x6_2 < 0 then (spec_l4Idoms.l1 k2 l0 x3_1 (l0.length : Int) x5_1 x7_2 (wrap64 (x7_2 + 1))) else (if 0 ≤ x6_2 then (if x6_2 < (l0.length : Int) then (if x7_2 < ((rd_L18 l0 x6_2).length : Int) then (if rdOf false (rd_L18 l0 x6_2) x7_2 = true then (spec_l4Idoms.l1 k2 l0 x3_1 (l0.length : Int) x5_1 x7_2 (wrap64 (x7_2 + 1))) else (spec_l4Idoms.l1 k2 l0 x3_1 (l0.length : Int) x5_1 x6_2 (wrap64 (x7_2 + 1)))) else (none)) else (none)) else (none))) = some r := by rw [if_pos rfl] at H; exact H
                     clear H
                     have H := H1
                     clear H1
                     by_cases c13 : x6_2 < 0
                     · rw [if_pos c13] at H
                       have c13b0 : decide (x6_2 < 0) = true := decide_eq_true c13
                       clear c13
                       have H' := Aside0.mk H
                       clear H
                       have p331 : 0 ≤ (x7_2 : Int) := of_decide_eq_true (by first | (with_reducible assumption) | assumption)
                       have q331 : x7_2 < (l0.length : Int) := of_decide_eq_true (by first | (with_reducible assumption) | assumption)
                       obtain ⟨ad331, A331_0, c331_0, e331, hx331_0, hl331_0, hi331_0⟩ := at_L18 HR0.out x7_2 p331 q331
                       cases e331
                       replace hx331_0 := (HB.out.cell (World.block_lt_of_cell? w _ hx331_0)).trans hx331_0
                       have HR331_0 := Aside0.mk hi331_0
                       have HC331_0 := Aside0.mk hl331_0
                       clear hi331_0 hl331_0
                       replace p331 := eq_true p331
                       replace q331 := eq_true q331
                       have p332 : 0 ≤ (x5_1 : Int) := of_decide_eq_true (by first | (with_reducible assumption) | assumption)
                       have q332 : x5_1 < ((rd_L18 l0 x7_2).length : Int) := of_decide_eq_true (by first | (with_reducible assumption) | assumption)
                       obtain ⟨ad332, e332, hx332_0⟩ := Kd.at_bool HR331_0.out x5_1 p332 q332
                       (try rw [← Nbq11.out] at hx332_0)
                       cases e332
                       replace hx332_0 := (HB.out.cell (World.block_lt_of_cell? w _ hx332_0)).trans hx332_0
                       replace p332 := eq_true p332
                       replace q332 := eq_true q332
                       go_wp2
                       go_roundg k2
                       case measure => have := HK1.out; have := HK2.out; omega
                       case rel => exact ⟨(x7_2), (wrap64 (x7_2 + 1)), (by first | rfl | (simp; done) | (simp [*]; done)), (by first | rfl | (simp; done) | (simp [*]; done)), H', ⟨by have := HK1.out; have := HK2.out; omega⟩, ⟨by (with_reducible repeat (first | apply Kd.R_alloc | apply Kd.R_drewN | apply Kd.R_drew)); exact HO_3.out⟩, ⟨by repeat (first | (with_reducible first | exact HB.out | apply below_alloc | apply pw_below_drewN | apply below_drew1) | exact HB.out)⟩⟩
                     · rw [if_neg c13] at H
                       have c13b0 : decide (x6_2 < 0) = false := decide_eq_false c13
                       clear c13
                       by_cases c14 : 0 ≤ x6_2
                       · rw [if_pos c14] at H
                         have c14b0 : decide (0 ≤ x6_2) = true := decide_eq_true c14
                         clear c14
                         by_cases c15 : x6_2 < (l0.length : Int)
                         · rw [if_pos c15] at H
                           have c15b0 : decide (x6_2 < (l0.length : Int)) = true := decide_eq_true c15
                           clear c15
                           by_cases c16 : x7_2 < ((rd_L18 l0 x6_2).length : Int)
                           · rw [if_pos c16] at H
                             have c16b0 : decide (x7_2 < ((rd_L18 l0 x6_2).length : Int)) = true := decide_eq_true c16
                             clear c16
                             obtain ⟨bq17, hbq17⟩ : ∃ b_ : Bool, b_ = (rdOf false (rd_L18 l0 x6_2) x7_2) := ⟨_, rfl⟩
                             replace H : (if bq17 = true then (spec_l4Idoms.l1 k2 l0 x3_1 (l0.length : Int) x5_1 x7_2 (wrap64 (x7_2 + 1))) else (spec_l4Idoms.l1 k2 l0 x3_1 (l0.length : Int) x5_1 x6_2 (wrap64 (x7_2 + 1)))) = some r := by rw [← hbq17] at H; exact H
                             have Nbq17 := Aside0.mk hbq17
                             clear hbq17
                             by_cases c18 : bq17 = true
                             · subst c18
                               have H1 : (spec_l4Idoms.l1 k2 l0 x3_1 (l0.length : Int) x5_1 x7_2 (wrap64 (x7_2 + 1))) = some r := by rw [if_pos rfl] at H; exact H
                               clear H
                               have H := H1
                               clear H1
                               have H' := Aside0.mk H
                               clear H
                               have p331 : 0 ≤ (x7_2 : Int) := of_decide_eq_true (by first | (with_reducible assumption) | assumption)
                               have q331 : x7_2 < (l0.length : Int) := of_decide_eq_true (by first | (with_reducible assumption) | assumption)
                               obtain ⟨ad331, A331_0, c331_0, e331, hx331_0, hl331_0, hi331_0⟩ := at_L18 HR0.out x7_2 p331 q331
                               cases e331
                               replace hx331_0 := (HB.out.cell (World.block_lt_of_cell? w _ hx331_0)).trans hx331_0
                               have HR331_0 := Aside0.mk hi331_0
                               have HC331_0 := Aside0.mk hl331_0
                               clear hi331_0 hl331_0
                               replace p331 := eq_true p331
                               replace q331 := eq_true q331
                               have p332 : 0 ≤ (x5_1 : Int) := of_decide_eq_true (by first | (with_reducible assumption) | assumption)
                               have q332 : x5_1 < ((rd_L18 l0 x7_2).length : Int) := of_decide_eq_true (by first | (with_reducible assumption) | assumption)
                               obtain ⟨ad332, e332, hx332_0⟩ := Kd.at_bool HR331_0.out x5_1 p332 q332
                               (try rw [← Nbq11.out] at hx332_0)
                               (try rw [← Nbq17.out] at hx332_0)
                               cases e332
                               replace hx332_0 := (HB.out.cell (World.block_lt_of_cell? w _ hx332_0)).trans hx332_0
                               replace p332 := eq_true p332
                               replace q332 := eq_true q332
                               have p333 : 0 ≤ (x6_2 : Int) := of_decide_eq_true (by first | (with_reducible assumption) | assumption)
                               have q333 : x6_2 < (l0.length : Int) := of_decide_eq_true (by first | (with_reducible assumption) | assumption)
                               obtain ⟨ad333, A333_0, c333_0, e333, hx333_0, hl333_0, hi333_0⟩ := at_L18 HR0.out x6_2 p333 q333
                               obtain rfl : ad331 = ad333 := (by injection e333)
                               replace hx333_0 := (HB.out.cell (World.block_lt_of_cell? w _ hx333_0)).trans hx333_0
                               have HR333_0 := Aside0.mk hi333_0
                               have HC333_0 := Aside0.mk hl333_0
                               clear hi333_0 hl333_0
                               replace p333 := eq_true p333
                               replace q333 := eq_true q333
                               have p334 : 0 ≤ (x7_2 : Int) := of_decide_eq_true (by first | (with_reducible assumption) | assumption)
                               have q334 : x7_2 < ((rd_L18 l0 x6_2).length : Int) := of_decide_eq_true (by first | (with_reducible assumption) | assumption)
                               obtain ⟨ad334, e334, hx334_0⟩ := Kd.at_bool HR333_0.out x7_2 p334 q334
                               (try rw [← Nbq11.out] at hx334_0)
                               (try rw [← Nbq17.out] at hx334_0)
                               cases e334
                               replace hx334_0 := (HB.out.cell (World.block_lt_of_cell? w _ hx334_0)).trans hx334_0
                               replace p334 := eq_true p334
                               replace q334 := eq_true q334
                               go_wp2
                               go_roundg k2
                               case measure => have := HK1.out; have := HK2.out; omega
                               case rel => exact ⟨(x7_2), (wrap64 (x7_2 + 1)), (by first | rfl | (simp; done) | (simp [*]; done)), (by first | rfl | (simp; done) | (simp [*]; done)), H', ⟨by have := HK1.out; have := HK2.out; omega⟩, ⟨by (with_reducible repeat (first | apply Kd.R_alloc | apply Kd.R_drewN | apply Kd.R_drew)); exact HO_3.out⟩, ⟨by repeat (first | (with_reducible first | exact HB.out | apply below_alloc | apply pw_below_drewN | apply below_drew1) | exact HB.out)⟩⟩
                             · replace c18 := Bool.eq_false_iff.mpr c18
                               subst c18
                               have H1 : (spec_l4Idoms.l1 k2 l0 x3_1 (l0.length : Int) x5_1 x6_2 (wrap64 (x7_2 + 1))) = some r := by rw [if_neg (show ¬ (false = true) by decide)] at H; exact H
                               clear H
                               have H := H1
                               clear H1
                               have H' := Aside0.mk H
                               clear H
                               have p331 : 0 ≤ (x7_2 : Int) := of_decide_eq_true (by first | (with_reducible assumption) | assumption)
                               have q331 : x7_2 < (l0.length : Int) := of_decide_eq_true (by first | (with_reducible assumption) | assumption)
                               obtain ⟨ad331, A331_0, c331_0, e331, hx331_0, hl331_0, hi331_0⟩ := at_L18 HR0.out x7_2 p331 q331
                               cases e331
                               replace hx331_0 := (HB.out.cell (World.block_lt_of_cell? w _ hx331_0)).trans hx331_0
                               have HR331_0 := Aside0.mk hi331_0
                               have HC331_0 := Aside0.mk hl331_0
                               clear hi331_0 hl331_0
                               replace p331 := eq_true p331
                               replace q331 := eq_true q331
                               have p332 : 0 ≤ (x5_1 : Int) := of_decide_eq_true (by first | (with_reducible assumption) | assumption)
                               have q332 : x5_1 < ((rd_L18 l0 x7_2).length : Int) := of_decide_eq_true (by first | (with_reducible assumption) | assumption)
                               obtain ⟨ad332, e332, hx332_0⟩ := Kd.at_bool HR331_0.out x5_1 p332 q332
                               (try rw [← Nbq11.out] at hx332_0)
                               (try rw [← Nbq17.out] at hx332_0)
                               cases e332
                               replace hx332_0 := (HB.out.cell (World.block_lt_of_cell? w _ hx332_0)).trans hx332_0
                               replace p332 := eq_true p332
                               replace q332 := eq_true q332
                               have p333 : 0 ≤ (x6_2 : Int) := of_decide_eq_true (by first | (with_reducible assumption) | assumption)
                               have q333 : x6_2 < (l0.length : Int) := of_decide_eq_true (by first | (with_reducible assumption) | assumption)
                               obtain ⟨ad333, A333_0, c333_0, e333, hx333_0, hl333_0, hi333_0⟩ := at_L18 HR0.out x6_2 p333 q333
                               obtain rfl : ad331 = ad333 := (by injection e333)
                               replace hx333_0 := (HB.out.cell (World.block_lt_of_cell? w _ hx333_0)).trans hx333_0
                               have HR333_0 := Aside0.mk hi333_0
                               have HC333_0 := Aside0.mk hl333_0
                               clear hi333_0 hl333_0
                               replace p333 := eq_true p333
                               replace q333 := eq_true q333
                               have p334 : 0 ≤ (x7_2 : Int) := of_decide_eq_true (by first | (with_reducible assumption) | assumption)
                               have q334 : x7_2 < ((rd_L18 l0 x6_2).length : Int) := of_decide_eq_true (by first | (with_reducible assumption) | assumption)
                               obtain ⟨ad334, e334, hx334_0⟩ := Kd.at_bool HR333_0.out x7_2 p334 q334
                               (try rw [← Nbq11.out] at hx334_0)
                               (try rw [← Nbq17.out] at hx334_0)
                               cases e334
                               replace hx334_0 := (HB.out.cell (World.block_lt_of_cell? w _ hx334_0)).trans hx334_0
                               replace p334 := eq_true p334
                               replace q334 := eq_true q334
                               go_wp2
                               go_roundg k2
                               case measure => have := HK1.out; have := HK2.out; omega
                               case rel => exact ⟨(x6_2), (wrap64 (x7_2 + 1)), (by first | rfl | (simp; done) | (simp [*]; done)), (by first | rfl | (simp; done) | (simp [*]; done)), H', ⟨by have := HK1.out; have := HK2.out; omega⟩, ⟨by (with_reducible repeat (first | apply Kd.R_alloc | apply Kd.R_drewN | apply Kd.R_drew)); exact HO_3.out⟩, ⟨by repeat (first | (with_reducible first | exact HB.out | apply below_alloc | apply pw_below_drewN | apply below_drew1) | exact HB.out)⟩⟩
                           · rw [if_neg c16] at H
                             exact absurd H (by simp)
                         · rw [if_neg c15] at H
                           exact absurd H (by simp)
                       · rw [if_neg c14] at H
                         exact absurd H (by simp)
                   · replace c12 := Bool.eq_false_iff.mpr c12
                     subst c12
                     have H1 : (spec_l4Idoms.l1 k2 l0 x3_1 (l0.length : Int) x5_1 x6_2 (wrap64 (x7_2 + 1))) = some r := by rw [if_neg (show ¬ (false = true) by decide)] at H; exact H
                     clear H
                     have H := H1
                     clear H1
                     have H' := Aside0.mk H
                     clear H
                     have p331 : 0 ≤ (x7_2 : Int) := of_decide_eq_true (by first | (with_reducible assumption) | assumption)
                     have q331 : x7_2 < (l0.length : Int) := of_decide_eq_true (by first | (with_reducible assumption) | assumption)
                     obtain ⟨ad331, A331_0, c331_0, e331, hx331_0, hl331_0, hi331_0⟩ := at_L18 HR0.out x7_2 p331 q331
                     cases e331
                     replace hx331_0 := (HB.out.cell (World.block_lt_of_cell? w _ hx331_0)).trans hx331_0
                     have HR331_0 := Aside0.mk hi331_0
                     have HC331_0 := Aside0.mk hl331_0
                     clear hi331_0 hl331_0
                     replace p331 := eq_true p331
                     replace q331 := eq_true q331
                     have p332 : 0 ≤ (x5_1 : Int) := of_decide_eq_true (by first | (with_reducible assumption) | assumption)
                     have q332 : x5_1 < ((rd_L18 l0 x7_2).length : Int) := of_decide_eq_true (by first | (with_reducible assumption) | assumption)
                     obtain ⟨ad332, e332, hx332_0⟩ := Kd.at_bool HR331_0.out x5_1 p332 q332
                     (try rw [← Nbq11.out] at hx332_0)
                     cases e332
                     replace hx332_0 := (HB.out.cell (World.block_lt_of_cell? w _ hx332_0)).trans hx332_0
                     replace p332 := eq_true p332
                     replace q332 := eq_true q332
                     go_wp2
                     go_roundg k2
                     case measure => have := HK1.out; have := HK2.out; omega
                     case rel => exact ⟨(x6_2), (wrap64 (x7_2 + 1)), (by first | rfl | (simp; done) | (simp [*]; done)), (by first | rfl | (simp; done) | (simp [*]; done)), H', ⟨by have := HK1.out; have := HK2.out; omega⟩, ⟨by (with_reducible repeat (first | apply Kd.R_alloc | apply Kd.R_drewN | apply Kd.R_drew)); exact HO_3.out⟩, ⟨by repeat (first | (with_reducible first | exact HB.out | apply below_alloc | apply pw_below_drewN | apply below_drew1) | exact HB.out)⟩⟩
                 · rw [if_neg c10] at H
                   exact absurd H (by simp)
               · rw [if_neg c9] at H
                 exact absurd H (by simp)
             · rw [if_neg c8] at H
               exact absurd H (by simp)
           · rw [if_neg c7] at H
             exact absurd H (by simp)
       · rw [if_neg c5] at H
         have c5b0 : decide (x7_2 < (l0.length : Int)) = false := decide_eq_false c5
         clear c5
         by_cases c19 : x3_1.length < 17592186044416
         · rw [if_pos c19] at H
           have LMc19 := Aside0.mk c19
           clear c19
           obtain ⟨y335, hy335⟩ : ∃ y_ : List Int, y_ = (x3_1 ++ [x6_2]) := ⟨_, rfl⟩
           replace H : (spec_l4Idoms.l0 k2 l0 y335 (l0.length : Int) (wrap64 (x5_1 + 1))) = some r := by first | (rw [hy335]; with_reducible exact H) | (have H2_ := (Option.bind_some _ _).symm.trans H; rw [hy335]; with_reducible exact H2_) | (have H2_ := (Option.bind_some _ _).symm.trans H; with_reducible exact H2_) | with_reducible exact H | (rw [hy335]; exact H) | exact H
           have Ny335 := Aside0.mk hy335
           clear hy335
           have H' := Aside0.mk H
           clear H
           go_wp2_with (first | ((with_reducible refine gate_builtin (b := .append) (xs := #[.tmp 47, .tmp 49]) rfl ?_); at_builtin; refine Kd.R_append (Kd.int .i64) (w0 := w) w.heap.size rfl (.tmp 47) (.tmp 49) 22 2 (.int .i64 0) 8 rfl Try.underlying22 info2 rfl (by decide) (by omega) u3 x3_1 x6_2 [.int .i64 x6_2] (fun _ => True) (fun _ => False) rfl rfl ?aP (fun _ hk => hk.elim) ?aF ?aO ?aB ?aS ?aL ?_; (case aP => exact rfl); (case aB => exact (by repeat (first | (with_reducible first | exact HB.out | apply below_alloc | apply pw_below_drewN | apply below_drew1) | exact HB.out))); (case aF => exact (fun _ _ => trivial)); (case aO => exact (by (with_reducible repeat (first | apply Kd.R_alloc | apply Kd.R_drewN | apply Kd.R_drew)); exact HO_3.out)); (case aS => exact (below_size (by repeat (first | (with_reducible first | exact HB.out | apply below_alloc | apply pw_below_drewN | apply below_drew1) | exact HB.out)))); (case aL => have := LMc19.out; omega); intro v336 w20 ho hb hg hat; rw [← Ny335.out] at ho; have n0_ := Aside0.mk (hb); have n1_ := Aside0.mk (ho); clear HB; clear HO_3; have HB := n0_; have HO337 := n1_; clear n0_ n1_; clear ho hb hg hat))
           go_roundg k2
           case measure => have := HK1.out; have := HK2.out; omega
           case rel => exact ⟨(y335), (wrap64 (x5_1 + 1)), (by first | rfl | (simp; done) | (simp [*]; done)), H', ⟨by have := HK1.out; have := HK2.out; omega⟩, ⟨by (with_reducible repeat (first | apply Kd.R_alloc | apply Kd.R_drewN | apply Kd.R_drew)); exact HO337.out⟩, ⟨by repeat (first | (with_reducible first | exact HB.out | apply below_alloc | apply pw_below_drewN | apply below_drew1) | exact HB.out)⟩⟩
         · rw [if_neg c19] at H
           exact absurd H (by simp)
   · rw [if_neg c4] at H
     have c4b0 : decide (x5_1 < (l0.length : Int)) = false := decide_eq_false c4
     clear c4
     obtain rfl := Option.some.inj H
     go_wp2
     go_ret
     exact ⟨_, by first | rfl | (simp [errW_none, errW_some] <;> rfl) | (simp [*, errW_none, errW_some] <;> rfl), by (with_reducible repeat (first | apply Kd.R_alloc | apply Kd.R_drewN | apply Kd.R_drew)); exact HO_3.out, by repeat (first | (with_reducible first | exact HB.out | apply below_alloc | apply pw_below_drewN | apply below_drew1) | exact HB.out)⟩

end Go.Proofs.Ytoedcnhgobbnfaa.All


namespace Go.Proofs.Ytoedcnhgobbnfaa.All
open Go.RowKit Go.Proofs.YtoedcnhgobbnfaaW.PrintWords Go.Proofs.YtoedcnhgobbnfaaW.PrintLast Go.Proofs.YtoedcnhgobbnfaaW.PrintMore
attribute [local go_sem] max2_int min2_int max_two min_two max_three min_three max_four min_four   -- for this text's walks alone
set_option linter.unusedVariables false
set_option linter.unusedSimpArgs false

/-! ### spec_Dominators: function 32 -/
end Go.Proofs.Ytoedcnhgobbnfaa.All


namespace Go.Proofs.Ytoedcnhgobbnfaa.All
open Go.RowKit Go.Proofs.YtoedcnhgobbnfaaW.PrintWords Go.Proofs.YtoedcnhgobbnfaaW.PrintLast Go.Proofs.YtoedcnhgobbnfaaW.PrintMore
attribute [local go_sem] max2_int min2_int max_two min_two max_three min_three max_four min_four   -- for this text's walks alone
set_option linter.unusedVariables false
set_option linter.unusedSimpArgs false

/-! ### impl_Dominators: function 33 -/
mutual
def impl_Dominators.l0 : Nat → List (List Bool) → List Int → Int → Int → ByteArray → Int → List Int → Int → List (S62) → Option (List Int)
 | 0, _, _, _, _, _, _, _, _, _ => none
 | k + 1, x3, x4, x12, x13, x396000, x396001, x396002, x396003, x396004 => if x13 < x12 then (impl_Dominators.l1 k x3 x4 x13 (-1) x12 x13 (x396004.length : Int) 0 x396000 x396001 x396002 x396003 x396004) else (some x4)
def impl_Dominators.l1 : Nat → List (List Bool) → List Int → Int → Int → Int → Int → Int → Int → ByteArray → Int → List Int → Int → List (S62) → Option (List Int)
 | 0, _, _, _, _, _, _, _, _, _, _, _, _, _ => none
 | k + 1, x3, x4, x5, x6, x12, x13, x18, x19, x396000, x396001, x396002, x396003, x396004 => if x19 < x18 then (if x19 = x5 then (impl_Dominators.j2 k x3 x4 x5 x6 x19 x12 x13 x18 x19 true x396000 x396001 x396002 x396003 x396004) else (if 0 ≤ x19 then (if x19 < (x3.length : Int) then (if 0 ≤ x5 then (if x5 < ((rd_L18 x3 x19).length : Int) then (impl_Dominators.j2 k x3 x4 x5 x6 x19 x12 x13 x18 x19 (!(rdOf false (rd_L18 x3 x19) x5)) x396000 x396001 x396002 x396003 x396004) else (none)) else (none)) else (none)) else (none))) else (if x4.length < 17592186044416 then (impl_Dominators.l0 k x3 (x4 ++ [x6]) x12 (wrap64 (x13 + 1)) x396000 x396001 x396002 x396003 x396004) else (none))
def impl_Dominators.j2 : Nat → List (List Bool) → List Int → Int → Int → Int → Int → Int → Int → Int → Bool → ByteArray → Int → List Int → Int → List (S62) → Option (List Int)
 | 0, _, _, _, _, _, _, _, _, _, _, _, _, _, _, _ => none
 | k + 1, x3, x4, x5, x6, x7, x12, x13, x18, x19, x34, x396000, x396001, x396002, x396003, x396004 => if x34 = true then (impl_Dominators.l1 k x3 x4 x5 x6 x12 x13 x18 (wrap64 (x19 + 1)) x396000 x396001 x396002 x396003 x396004) else (if x6 < 0 then (impl_Dominators.l1 k x3 x4 x5 x7 x12 x13 x18 (wrap64 (x19 + 1)) x396000 x396001 x396002 x396003 x396004) else (if 0 ≤ x6 then (if x6 < (x3.length : Int) then (if 0 ≤ x7 then (if x7 < ((rd_L18 x3 x6).length : Int) then (if rdOf false (rd_L18 x3 x6) x7 = true then (impl_Dominators.l1 k x3 x4 x5 x7 x12 x13 x18 (wrap64 (x19 + 1)) x396000 x396001 x396002 x396003 x396004) else (impl_Dominators.l1 k x3 x4 x5 x6 x12 x13 x18 (wrap64 (x19 + 1)) x396000 x396001 x396002 x396003 x396004)) else (none)) else (none)) else (none)) else (none)))
end
def impl_Dominators.f (k : Nat) (a0_0 : ByteArray) (a0_1 : Int) (l0_2 : List Int) (a0_3 : Int) (l0_4 : List (S62)) : Option (List Int) := (impl_dominance.f k a0_0 a0_1 l0_2 a0_3 l0_4).bind fun t396 => (impl_Dominators.l0 k t396 ([] : List Int) (l0_4.length : Int) 0 a0_0 a0_1 l0_2 a0_3 l0_4)
set_option maxHeartbeats 8000000 in
set_option maxRecDepth 100000 in
theorem impl_Dominators.calls (k : Nat) (a0_0 : ByteArray) (a0_1 : Int) (A0_2 : Option Addr) (c0_2 : Nat) (l0_2 : List Int) (a0_3 : Int) (A0_4 : Option Addr) (c0_4 : Nat) (l0_4 : List (S62)) (r : List Int) (w : World) (hr0_2 : Kd.C (Kd.int .i64) w A0_2 l0_2.length l0_2) (hc0_2 : l0_2.length ≤ c0_2) (hr0_4 : Kd.C k62 w A0_4 l0_4.length l0_4) (hc0_4 : l0_4.length ≤ c0_4) (h : impl_Dominators.f k a0_0 a0_1 l0_2 a0_3 l0_4 = some r) :
 Calls Try.prog 33 #[.agg #[.string a0_0, .int .i64 a0_1, .slice A0_2 l0_2.length c0_2, .int .i64 a0_3, .slice A0_4 l0_4.length c0_4]] w fun e w' => ∃ v0_ : Value, e = .returned (v0_) ∧ Kd.R (Kd.int .i64) 2 w' w.heap.size (fun _ => True) v0_ r ∧ Below w.heap.size w w' := by
 have hu30 := Try.underlying30
 have HR0_2 := Aside0.mk hr0_2
 have HC0_2 := Aside0.mk hc0_2
 clear hr0_2 hc0_2
 have HR0_4 := Aside0.mk hr0_4
 have HC0_4 := Aside0.mk hc0_4
 clear hr0_4 hc0_4
 have HB := Aside0.mk (Below.refl w.heap.size w)
 have H : ((impl_dominance.f k a0_0 a0_1 l0_2 a0_3 l0_4).bind fun t396 => (impl_Dominators.l0 k t396 ([] : List Int) (l0_4.length : Int) 0 a0_0 a0_1 l0_2 a0_3 l0_4)) = some r := h
 clear h
 replace H := Option.bind_eq_some_iff.mp H
 obtain ⟨t396, A20, H⟩ := H
 replace H : (impl_Dominators.l0 k t396 ([] : List Int) (l0_4.length : Int) 0 a0_0 a0_1 l0_2 a0_3 l0_4) = some r := H
 have A2 := Aside0.mk A20
 clear A20
 have H' := Aside0.mk H
 clear H
 go_enter Try.func33, Try.ntmps33
 go_wp2_with (first | ((with_reducible refine gate_dst (N := 1) rfl ?_); refine box_event ?hg (N := 1) ?hd (cs := #[.string a0_0, .int .i64 a0_1, .slice A0_2 l0_2.length c0_2, .int .i64 a0_3, .slice A0_4 l0_4.length c0_4]) (t := 30) ?hr ?_; (case hd => rfl); (case hg => rfl); (case hr => first | (go_simp; done) | (go_simp; rfl)); intro gb395 hg w3 hbox hb; have n0_ := Aside0.mk (below_step (by repeat (first | (with_reducible first | exact HB.out | apply below_alloc | apply pw_below_drewN | apply below_drew1) | exact HB.out)) hb); have n1_ := Aside0.mk (hbox); have n2_ := Aside0.mk ((by rw [hg]; exact (below_size (by repeat (first | (with_reducible first | exact HB.out | apply below_alloc | apply pw_below_drewN | apply below_drew1) | exact HB.out))) : w.heap.size ≤ gb395)); have n3_ := Aside0.mk ((by rw [hg]; exact (below_size (by repeat (first | (with_reducible first | exact HB.out | apply below_alloc | apply pw_below_drewN | apply below_drew1) | exact HB.out))) : w.heap.size ≤ gb395)); clear HB; have HB := n0_; have BK395 := n1_; have GW395 := n2_; have GE395 := n3_; clear n0_ n1_ n2_ n3_; clear hb hbox hg; have hcz4_0 : w3.cell? ⟨gb395, 0, none⟩ = some (.string a0_0) := (blk_cell BK395.out 0).trans rfl; have hcz4_1 : w3.cell? ⟨gb395, 1, none⟩ = some (.int .i64 a0_1) := (blk_cell BK395.out 1).trans rfl; have hcz4_2 : w3.cell? ⟨gb395, 2, none⟩ = some (.slice A0_2 l0_2.length c0_2) := (blk_cell BK395.out 2).trans rfl; have hcz4_3 : w3.cell? ⟨gb395, 3, none⟩ = some (.int .i64 a0_3) := (blk_cell BK395.out 3).trans rfl; have hcz4_4 : w3.cell? ⟨gb395, 4, none⟩ = some (.slice A0_4 l0_4.length c0_4) := (blk_cell BK395.out 4).trans rfl; have hfz4_0 := blk_frozen BK395.out 0; have hfz4_1 := blk_frozen BK395.out 1; have hfz4_2 := blk_frozen BK395.out 2; have hfz4_3 := blk_frozen BK395.out 3; have hfz4_4 := blk_frozen BK395.out 4) | ((with_reducible refine gate_callee (f := 60) rfl ?_); refine goesL_ (some 9) rfl rfl Try.func60 (by kernel_rfl) rfl #[.agg #[.string a0_0, .int .i64 a0_1, .slice A0_2 l0_2.length c0_2, .int .i64 a0_3, .slice A0_4 l0_4.length c0_4]] rfl (by (try simp only [List.map_toArray, List.map_cons, List.map_nil]); first | done | rfl | (simp only [List.length_drop, List.length_take]; rfl)) ?_; (with_reducible refine (impl_dominance.calls k a0_0 a0_1 _ _ l0_2 a0_3 _ _ l0_4 t396 _ ?side1 ?side2 ?side3 ?side4 A2.out).mono ?_); (case side1 => repeat (first | exact (Kd.C_below HR0_2.out HB.out) | (with_reducible refine Kd.C_alloc ?_ _) | (with_reducible refine Kd.C_drewN ?_ _) | (with_reducible refine Kd.C_drew ?_))); (case side2 => exact HC0_2.out); (case side3 => repeat (first | exact (Kd.C_below HR0_4.out HB.out) | (with_reducible refine Kd.C_alloc ?_ _) | (with_reducible refine Kd.C_drewN ?_ _) | (with_reducible refine Kd.C_drew ?_))); (case side4 => exact HC0_4.out); rintro e w5 ⟨v397, rfl, ho0, hb⟩; refine ⟨_, rfl, ?_⟩; have n0_ := Aside0.mk (Kd.S_lower ho0 (below_size (by repeat (first | (with_reducible first | exact HB.out | apply below_alloc | apply pw_below_drewN | apply below_drew1 | refine below_set ?_ GE395.out) | exact HB.out)))); have n1_ := Aside0.mk (blk_below (g := gb395) (o := .cells #[.string a0_0, .int .i64 a0_1, .slice A0_2 l0_2.length c0_2, .int .i64 a0_3, .slice A0_4 l0_4.length c0_4] 30 (0, 0)) (by (with_reducible repeat (first | refine blk_drewN ?_ _ | refine blk_drew ?_ | refine blk_alloc ?_ _)); exact BK395.out) hb); have n2_ := Aside0.mk (below_step (by repeat (first | (with_reducible first | exact HB.out | apply below_alloc | apply pw_below_drewN | apply below_drew1 | refine below_set ?_ GE395.out) | exact HB.out)) hb); clear BK395; clear HB; have HO398 := n0_; have BK395 := n1_; have HB := n2_; clear n0_ n1_ n2_; (try clear hb); (try clear hb2); (try clear hk); (try clear hi); (try clear ho0); have hcz6_0 : w5.cell? ⟨gb395, 0, none⟩ = some (.string a0_0) := (blk_cell BK395.out 0).trans rfl; have hcz6_1 : w5.cell? ⟨gb395, 1, none⟩ = some (.int .i64 a0_1) := (blk_cell BK395.out 1).trans rfl; have hcz6_2 : w5.cell? ⟨gb395, 2, none⟩ = some (.slice A0_2 l0_2.length c0_2) := (blk_cell BK395.out 2).trans rfl; have hcz6_3 : w5.cell? ⟨gb395, 3, none⟩ = some (.int .i64 a0_3) := (blk_cell BK395.out 3).trans rfl; have hcz6_4 : w5.cell? ⟨gb395, 4, none⟩ = some (.slice A0_4 l0_4.length c0_4) := (blk_cell BK395.out 4).trans rfl; have hfz6_0 := blk_frozen BK395.out 0; have hfz6_1 := blk_frozen BK395.out 1; have hfz6_2 := blk_frozen BK395.out 2; have hfz6_3 := blk_frozen BK395.out 3; have hfz6_4 := blk_frozen BK395.out 4))
 go_loopg [4, 13] k (fun kq v4 v13 w' => ∃ (x4_1 : List Int) (x13_1 : Int), v13 = .int .i64 x13_1 ∧ Aside0 (impl_Dominators.l0 kq t396 x4_1 (l0_4.length : Int) x13_1 a0_0 a0_1 l0_2 a0_3 l0_4 = some r) ∧ Aside0 (kq ≤ k) ∧ Aside0 (Kd.S (Kd.slice 4 Kd.bool) 54 w' w.heap.size (fun _ => True) v397 t396) ∧ Aside0 (Kd.R (Kd.int .i64) 2 w' w.heap.size (fun _ => True) v4 x4_1) ∧ Aside0 (w'.heap[gb395]? = some (.cells #[.string a0_0, .int .i64 a0_1, (.slice A0_2 l0_2.length c0_2), .int .i64 a0_3, (.slice A0_4 l0_4.length c0_4)] 30 (0, 0))) ∧ Aside0 (Below w.heap.size w w'))
 case atStart => exact ⟨(([] : List Int)), (0), (by first | rfl | (simp; done) | (simp [*]; done)), H', ⟨Nat.le_refl _⟩, ⟨by (with_reducible repeat (first | apply Kd.S_alloc | apply Kd.S_drewN | apply Kd.S_drew)); exact HO398.out⟩, ⟨by first | exact Kd.R_nil _ _ _ _ _ | exact Kd.N_nil _ _ _ _ _ | exact Kd.V_nil _ _ _ _ _ | exact Kd.Q_nil _ _ _ _ _ | exact Kd.S_nil _ _ _ _ _⟩, ⟨by (with_reducible repeat (first | refine blk_drewN ?_ _ | refine blk_drew ?_ | refine blk_alloc ?_ _)); exact BK395.out⟩, ⟨by repeat (first | (with_reducible first | exact HB.out | apply below_alloc | apply pw_below_drewN | apply below_drew1 | refine below_set ?_ GE395.out) | exact HB.out)⟩⟩
 case round =>
  clear H'
  try clear p2
  try clear c3
  try clear c6
  try clear hcz4_0
  try clear hcz4_1
  try clear hcz4_2
  try clear hcz4_3
  try clear hcz4_4
  try clear hcz6_0
  try clear hcz6_1
  try clear hcz6_2
  try clear hcz6_3
  try clear hcz6_4
  try clear hfz4_0
  try clear hfz4_1
  try clear hfz4_2
  try clear hfz4_3
  try clear hfz4_4
  try clear hfz6_0
  try clear hfz6_1
  try clear hfz6_2
  try clear hfz6_3
  try clear hfz6_4
  obtain ⟨x4_1, x13_1, rfl, HA, HK1, HO_3, HO_4, BK395, HB⟩ := hrel
  cases gk with
  | zero => exact absurd HA.out (by simp [impl_Dominators.l0])
  | succ k1 =>
   have H := HA.out
   clear HA
   simp only [impl_Dominators.l0] at H
   by_cases c7 : x13_1 < (l0_4.length : Int)
   · rw [if_pos c7] at H
     have c7b0 : decide (x13_1 < (l0_4.length : Int)) = true := decide_eq_true c7
     clear c7
     have H' := Aside0.mk H
     clear H
     have hcz8_0 : wr.cell? ⟨gb395, 0, none⟩ = some (.string a0_0) := (blk_cell BK395.out 0).trans rfl
     have hcz8_1 : wr.cell? ⟨gb395, 1, none⟩ = some (.int .i64 a0_1) := (blk_cell BK395.out 1).trans rfl
     have hcz8_2 : wr.cell? ⟨gb395, 2, none⟩ = some (.slice A0_2 l0_2.length c0_2) := (blk_cell BK395.out 2).trans rfl
     have hcz8_3 : wr.cell? ⟨gb395, 3, none⟩ = some (.int .i64 a0_3) := (blk_cell BK395.out 3).trans rfl
     have hcz8_4 : wr.cell? ⟨gb395, 4, none⟩ = some (.slice A0_4 l0_4.length c0_4) := (blk_cell BK395.out 4).trans rfl
     have hfz8_0 := blk_frozen BK395.out 0
     have hfz8_1 := blk_frozen BK395.out 1
     have hfz8_2 := blk_frozen BK395.out 2
     have hfz8_3 := blk_frozen BK395.out 3
     have hfz8_4 := blk_frozen BK395.out 4
     go_wp2
     go_loopg [6, 19] k1 (fun kq v6 v19 w' => ∃ (x6_2 : Int) (x19_2 : Int), v6 = .int .i64 x6_2 ∧ v19 = .int .i64 x19_2 ∧ Aside0 (impl_Dominators.l1 kq t396 x4_1 x13_1 x6_2 (l0_4.length : Int) x13_1 (l0_4.length : Int) x19_2 a0_0 a0_1 l0_2 a0_3 l0_4 = some r) ∧ Aside0 (kq ≤ k1) ∧ Aside0 (Kd.S (Kd.slice 4 Kd.bool) 54 w' w.heap.size (fun _ => True) v397 t396) ∧ Aside0 (Kd.R (Kd.int .i64) 2 w' w.heap.size (fun _ => True) u4 x4_1) ∧ Aside0 (w'.heap[gb395]? = some (.cells #[.string a0_0, .int .i64 a0_1, (.slice A0_2 l0_2.length c0_2), .int .i64 a0_3, (.slice A0_4 l0_4.length c0_4)] 30 (0, 0))) ∧ Aside0 (Below w.heap.size w w'))
     case atStart => exact ⟨((-1)), (0), (by first | rfl | (simp; done) | (simp [*]; done)), (by first | rfl | (simp; done) | (simp [*]; done)), H', ⟨Nat.le_refl _⟩, ⟨by (with_reducible repeat (first | apply Kd.S_alloc | apply Kd.S_drewN | apply Kd.S_drew)); exact HO_3.out⟩, ⟨by (with_reducible repeat (first | apply Kd.R_alloc | apply Kd.R_drewN | apply Kd.R_drew)); exact HO_4.out⟩, ⟨by (with_reducible repeat (first | refine blk_drewN ?_ _ | refine blk_drew ?_ | refine blk_alloc ?_ _)); exact BK395.out⟩, ⟨by repeat (first | (with_reducible first | exact HB.out | apply below_alloc | apply pw_below_drewN | apply below_drew1 | refine below_set ?_ GE395.out) | exact HB.out)⟩⟩
     case round =>
      clear H'
      try clear p2
      try clear c3
      try clear c6
      try clear c7
      try clear c7b0
      try clear hcz4_0
      try clear hcz4_1
      try clear hcz4_2
      try clear hcz4_3
      try clear hcz4_4
      try clear hcz6_0
      try clear hcz6_1
      try clear hcz6_2
      try clear hcz6_3
      try clear hcz6_4
      try clear hcz8_0
      try clear hcz8_1
      try clear hcz8_2
      try clear hcz8_3
      try clear hcz8_4
      try clear hfz4_0
      try clear hfz4_1
      try clear hfz4_2
      try clear hfz4_3
      try clear hfz4_4
      try clear hfz6_0
      try clear hfz6_1
      try clear hfz6_2
      try clear hfz6_3
      try clear hfz6_4
      try clear hfz8_0
      try clear hfz8_1
      try clear hfz8_2
      try clear hfz8_3
      try clear hfz8_4
      try clear p2
      obtain ⟨x6_2, x19_2, rfl, rfl, HA, HK2, HO_3, HO_4, BK395, HB⟩ := hrel
      cases gk with
      | zero => exact absurd HA.out (by simp [impl_Dominators.l1])
      | succ k2 =>
       have H := HA.out
       clear HA
       simp only [impl_Dominators.l1] at H
       by_cases c9 : x19_2 < (l0_4.length : Int)
       · rw [if_pos c9] at H
         have c9b0 : decide (x19_2 < (l0_4.length : Int)) = true := decide_eq_true c9
         clear c9
         have HC10 := Aside0.mk H
         clear H
         go_upto_region 10 with (fail)
         go_cut [34] (fun v34 wc => ∃ (kq : Nat) (x34_9 : Bool), v34 = .bool x34_9 ∧ Aside0 (impl_Dominators.j2 kq t396 x4_1 x13_1 x6_2 x19_2 (l0_4.length : Int) x13_1 (l0_4.length : Int) x19_2 x34_9 a0_0 a0_1 l0_2 a0_3 l0_4 = some r) ∧ Aside0 (kq ≤ k2) ∧ Aside0 (Kd.S (Kd.slice 4 Kd.bool) 54 wc w.heap.size (fun _ => True) v397 t396) ∧ Aside0 (Kd.R (Kd.int .i64) 2 wc w.heap.size (fun _ => True) u4 x4_1) ∧ Aside0 (wc.heap[gb395]? = some (.cells #[.string a0_0, .int .i64 a0_1, (.slice A0_2 l0_2.length c0_2), .int .i64 a0_3, (.slice A0_4 l0_4.length c0_4)] 30 (0, 0))) ∧ Aside0 (Below w.heap.size w wc))
         case first =>
          have H := HC10.out
          clear HC10
          by_cases c11 : x19_2 = x13_1
          · rw [if_pos c11] at H
            have c11b0 : (x19_2 == x13_1) = true := beq_iff_eq.mpr c11
            have c11b1 : (x19_2 != x13_1) = false := bne_eq_false_iff_eq.mpr c11
            clear c11
            (first | rw [c11b0] | (simp only [i64_w, i32_w]; rw [c11b0]) | skip)
            have H' := Aside0.mk H
            clear H
            go_wp2
            go_meet
            case rel => exact ⟨_, (true), (by first | rfl | (simp; done) | (simp [*]; done)), H', ⟨by have := HK1.out; have := HK2.out; first | omega | exact Nat.le_refl _⟩, ⟨by (with_reducible repeat (first | apply Kd.S_alloc | apply Kd.S_drewN | apply Kd.S_drew)); exact HO_3.out⟩, ⟨by (with_reducible repeat (first | apply Kd.R_alloc | apply Kd.R_drewN | apply Kd.R_drew)); exact HO_4.out⟩, ⟨by (with_reducible repeat (first | refine blk_drewN ?_ _ | refine blk_drew ?_ | refine blk_alloc ?_ _)); exact BK395.out⟩, ⟨by repeat (first | (with_reducible first | exact HB.out | apply below_alloc | apply pw_below_drewN | apply below_drew1 | refine below_set ?_ GE395.out) | exact HB.out)⟩⟩
          · rw [if_neg c11] at H
            have c11b0 : (x19_2 == x13_1) = false := beq_eq_false_iff_ne.mpr c11
            have c11b1 : (x19_2 != x13_1) = true := bne_iff_ne.mpr c11
            (first | rw [c11b0] | (simp only [i64_w, i32_w]; rw [c11b0]) | skip)
            by_cases c12 : 0 ≤ x19_2
            · rw [if_pos c12] at H
              have c12b0 : decide (0 ≤ x19_2) = true := decide_eq_true c12
              clear c12
              by_cases c13 : x19_2 < (t396.length : Int)
              · rw [if_pos c13] at H
                have c13b0 : decide (x19_2 < (t396.length : Int)) = true := decide_eq_true c13
                clear c13
                by_cases c14 : 0 ≤ x13_1
                · rw [if_pos c14] at H
                  have c14b0 : decide (0 ≤ x13_1) = true := decide_eq_true c14
                  clear c14
                  by_cases c15 : x13_1 < ((rd_L18 t396 x19_2).length : Int)
                  · rw [if_pos c15] at H
                    have c15b0 : decide (x13_1 < ((rd_L18 t396 x19_2).length : Int)) = true := decide_eq_true c15
                    clear c15
                    have H' := Aside0.mk H
                    clear H
                    obtain ⟨Ao16, co16, eo16⟩ := Kd.S_slice HO_3.out
                    subst eo16
                    have p402 : 0 ≤ (x19_2 : Int) := of_decide_eq_true (by first | (with_reducible assumption) | assumption)
                    have q402 : x19_2 < (t396.length : Int) := of_decide_eq_true (by first | (with_reducible assumption) | assumption)
                    obtain ⟨ad402, A402_0, c402_0, e402, hx402_0, hl402_0, hi402_0⟩ := at_L18 (Kd.S_reads' HO_3.out).2.2 x19_2 p402 q402
                    cases e402
                    obtain ⟨ce402, hce402, hMe402, hcc402⟩ := Kd.S_get HO_3.out [] x19_2 p402 (by first | exact q402 | exact of_decide_eq_true (by first | (with_reducible assumption) | assumption) | (have e_ := (Kd.S_reads' HO_3.out).1; omega))
                    obtain ⟨ve402_0, rfl, ge402_0⟩ := hMe402
                    have hv402_0 := hcc402 0 _ rfl
                    rw [Nat.add_zero, show ((Kd.slice 4 Kd.bool)).sz = 1 from rfl, Nat.mul_one] at hv402_0
                    replace hv402_0 := Option.some.inj (hv402_0.symm.trans hx402_0)
                    rw [hv402_0] at ge402_0
                    have HL402_0 := Aside0.mk (show Kd.R Kd.bool 4 _ _ _ _ (rd_L18 t396 x19_2) from ge402_0)
                    clear hv402_0 ge402_0
                    clear hcc402 hce402
                    have HR402_0 := Aside0.mk hi402_0
                    have HC402_0 := Aside0.mk hl402_0
                    clear hi402_0 hl402_0
                    replace p402 := eq_true p402
                    replace q402 := eq_true q402
                    have p403 : 0 ≤ (x13_1 : Int) := of_decide_eq_true (by first | (with_reducible assumption) | assumption)
                    have q403 : x13_1 < ((rd_L18 t396 x19_2).length : Int) := of_decide_eq_true (by first | (with_reducible assumption) | assumption)
                    obtain ⟨ad403, e403, hx403_0⟩ := Kd.at_bool (by repeat (first | (with_reducible exact HR402_0.out) | (with_reducible refine Kd.C_alloc ?_ _) | (with_reducible refine Kd.C_drewN ?_ _) | (with_reducible refine Kd.C_drew ?_) | exact HR402_0.out)) x13_1 p403 q403
                    cases e403
                    replace p403 := eq_true p403
                    replace q403 := eq_true q403
                    go_wp2
                    go_meet
                    case rel => exact ⟨_, (!(rdOf false (rd_L18 t396 x19_2) x13_1)), (by first | rfl | (simp; done) | (simp [*]; done)), H', ⟨by have := HK1.out; have := HK2.out; first | omega | exact Nat.le_refl _⟩, ⟨by (with_reducible repeat (first | apply Kd.S_alloc | apply Kd.S_drewN | apply Kd.S_drew)); exact HO_3.out⟩, ⟨by (with_reducible repeat (first | apply Kd.R_alloc | apply Kd.R_drewN | apply Kd.R_drew)); exact HO_4.out⟩, ⟨by (with_reducible repeat (first | refine blk_drewN ?_ _ | refine blk_drew ?_ | refine blk_alloc ?_ _)); exact BK395.out⟩, ⟨by repeat (first | (with_reducible first | exact HB.out | apply below_alloc | apply pw_below_drewN | apply below_drew1 | refine below_set ?_ GE395.out) | exact HB.out)⟩⟩
                  · rw [if_neg c15] at H
                    exact absurd H (by simp)
                · rw [if_neg c14] at H
                  exact absurd H (by simp)
              · rw [if_neg c13] at H
                exact absurd H (by simp)
            · rw [if_neg c12] at H
              exact absurd H (by simp)
         case rest =>
          clear HC10
          try clear c1
          try clear p2
          try clear c3
          try clear c4
          try clear p4
          try clear q4
          try clear hx4
          try clear c6
          try clear c7
          try clear c7b0
          try clear c9
          try clear c9b0
          try clear c11
          try clear c11b0
          try clear c11b1
          try clear c12
          try clear c12b0
          try clear c13
          try clear c13b0
          try clear c14
          try clear c14b0
          try clear c15
          try clear c15b0
          try clear hcz4_0
          try clear hcz4_1
          try clear hcz4_2
          try clear hcz4_3
          try clear hcz4_4
          try clear hcz6_0
          try clear hcz6_1
          try clear hcz6_2
          try clear hcz6_3
          try clear hcz6_4
          try clear hcz8_0
          try clear hcz8_1
          try clear hcz8_2
          try clear hcz8_3
          try clear hcz8_4
          try clear hfz4_0
          try clear hfz4_1
          try clear hfz4_2
          try clear hfz4_3
          try clear hfz4_4
          try clear hfz6_0
          try clear hfz6_1
          try clear hfz6_2
          try clear hfz6_3
          try clear hfz6_4
          try clear hfz8_0
          try clear hfz8_1
          try clear hfz8_2
          try clear hfz8_3
          try clear hfz8_4
          try clear hx402_0
          try clear hx403_0
          try clear p2
          try clear p402
          try clear p403
          try clear q402
          try clear q403
          obtain ⟨kq, x34_9, rfl, HA, HJ9, HO_3, HO_4, BK395, HB⟩ := hcut
          cases kq with
          | zero => exact absurd HA.out (by simp [impl_Dominators.j2])
          | succ kj9 =>
           have H := HA.out
           clear HA
           simp only [impl_Dominators.j2] at H
           by_cases c17 : x34_9 = true
           · subst c17
             have H1 : (impl_Dominators.l1 kj9 t396 x4_1 x13_1 x6_2 (l0_4.length : Int) x13_1 (l0_4.length : Int) (wrap64 (x19_2 + 1)) a0_0 a0_1 l0_2 a0_3 l0_4) = some r := by rw [if_pos rfl] at H; exact H
             clear H
             have H := H1
             clear H1
             have H' := Aside0.mk H
             clear H
             go_wp2
             go_roundg kj9
             case measure => have := HK1.out; have := HK2.out; have := HJ9.out; omega
             case rel => exact ⟨(x6_2), (wrap64 (x19_2 + 1)), (by first | rfl | (simp; done) | (simp [*]; done)), (by first | rfl | (simp; done) | (simp [*]; done)), H', ⟨by have := HK1.out; have := HK2.out; have := HJ9.out; omega⟩, ⟨by (with_reducible repeat (first | apply Kd.S_alloc | apply Kd.S_drewN | apply Kd.S_drew)); exact HO_3.out⟩, ⟨by (with_reducible repeat (first | apply Kd.R_alloc | apply Kd.R_drewN | apply Kd.R_drew)); exact HO_4.out⟩, ⟨by (with_reducible repeat (first | refine blk_drewN ?_ _ | refine blk_drew ?_ | refine blk_alloc ?_ _)); exact BK395.out⟩, ⟨by repeat (first | (with_reducible first | exact HB.out | apply below_alloc | apply pw_below_drewN | apply below_drew1 | refine below_set ?_ GE395.out) | exact HB.out)⟩⟩
           · replace c17 := Bool.eq_false_iff.mpr c17
             subst c17
             have H1 : (if x6_2 < 0 then (impl_Dominators.l1 kj9 t396 x4_1 x13_1 x19_2 (l0_4.length : Int) x13_1 (l0_4.length : Int) (wrap64 (x19_2 + 1)) a0_0 a0_1 l0_2 a0_3 l0_4) else (if 0 ≤ x6_2 then (if x6_2 < (t396.length : Int) then (if 0 ≤ x19_2 then (if x19_2 < ((rd_L18 t396 x6_2).length : Int) then (if rdOf false (rd_L18 t396 x6_2) x19_2 = true then (impl_Dominators.l1 kj9 t396 x4_1 x13_1 x19_2 (l0_4.length : Int) x13_1 (l0_4.length : Int) (wrap64 (x19_2 + 1)) a0_0 a0_1 l0_2 a0_3 l0_4) else (impl_Dominators.l1 kj9 t396 x4_1 x13_1 x6_2 (l0_4.length : Int) x13_1 (l0_4.length : Int) (wrap64 (x19_2 + 1)) a0_0 a0_1 l0_2 a0_3 l0_4)) else (none)) else (none)) else (none)) else (none))) = some r := by rw [if_neg (show ¬ (false = true) by decide)] at H; exact H
             clear H
             have H := H1
             clear H1
             by_cases c18 : x6_2 < 0
             · rw [if_pos c18] at H
               have c18b0 : decide (x6_2 < 0) = true := decide_eq_true c18
               clear c18
               have H' := Aside0.mk H
               clear H
               go_wp2
               go_roundg kj9
               case measure => have := HK1.out; have := HK2.out; have := HJ9.out; omega
               case rel => exact ⟨(x19_2), (wrap64 (x19_2 + 1)), (by first | rfl | (simp; done) | (simp [*]; done)), (by first | rfl | (simp; done) | (simp [*]; done)), H', ⟨by have := HK1.out; have := HK2.out; have := HJ9.out; omega⟩, ⟨by (with_reducible repeat (first | apply Kd.S_alloc | apply Kd.S_drewN | apply Kd.S_drew)); exact HO_3.out⟩, ⟨by (with_reducible repeat (first | apply Kd.R_alloc | apply Kd.R_drewN | apply Kd.R_drew)); exact HO_4.out⟩, ⟨by (with_reducible repeat (first | refine blk_drewN ?_ _ | refine blk_drew ?_ | refine blk_alloc ?_ _)); exact BK395.out⟩, ⟨by repeat (first | (with_reducible first | exact HB.out | apply below_alloc | apply pw_below_drewN | apply below_drew1 | refine below_set ?_ GE395.out) | exact HB.out)⟩⟩
             · rw [if_neg c18] at H
               have c18b0 : decide (x6_2 < 0) = false := decide_eq_false c18
               clear c18
               by_cases c19 : 0 ≤ x6_2
               · rw [if_pos c19] at H
                 have c19b0 : decide (0 ≤ x6_2) = true := decide_eq_true c19
                 clear c19
                 by_cases c20 : x6_2 < (t396.length : Int)
                 · rw [if_pos c20] at H
                   have c20b0 : decide (x6_2 < (t396.length : Int)) = true := decide_eq_true c20
                   clear c20
                   by_cases c21 : 0 ≤ x19_2
                   · rw [if_pos c21] at H
                     have c21b0 : decide (0 ≤ x19_2) = true := decide_eq_true c21
                     clear c21
                     by_cases c22 : x19_2 < ((rd_L18 t396 x6_2).length : Int)
                     · rw [if_pos c22] at H
                       have c22b0 : decide (x19_2 < ((rd_L18 t396 x6_2).length : Int)) = true := decide_eq_true c22
                       clear c22
                       obtain ⟨bq23, hbq23⟩ : ∃ b_ : Bool, b_ = (rdOf false (rd_L18 t396 x6_2) x19_2) := ⟨_, rfl⟩
                       replace H : (if bq23 = true then (impl_Dominators.l1 kj9 t396 x4_1 x13_1 x19_2 (l0_4.length : Int) x13_1 (l0_4.length : Int) (wrap64 (x19_2 + 1)) a0_0 a0_1 l0_2 a0_3 l0_4) else (impl_Dominators.l1 kj9 t396 x4_1 x13_1 x6_2 (l0_4.length : Int) x13_1 (l0_4.length : Int) (wrap64 (x19_2 + 1)) a0_0 a0_1 l0_2 a0_3 l0_4)) = some r := by rw [← hbq23] at H; exact H
                       have Nbq23 := Aside0.mk hbq23
                       clear hbq23
                       by_cases c24 : bq23 = true
                       · subst c24
                         have H1 : (impl_Dominators.l1 kj9 t396 x4_1 x13_1 x19_2 (l0_4.length : Int) x13_1 (l0_4.length : Int) (wrap64 (x19_2 + 1)) a0_0 a0_1 l0_2 a0_3 l0_4) = some r := by rw [if_pos rfl] at H; exact H
                         clear H
                         have H := H1
                         clear H1
                         have H' := Aside0.mk H
                         clear H
                         obtain ⟨Ao25, co25, eo25⟩ := Kd.S_slice HO_3.out
                         subst eo25
                         have p404 : 0 ≤ (x6_2 : Int) := of_decide_eq_true (by first | (with_reducible assumption) | assumption)
                         have q404 : x6_2 < (t396.length : Int) := of_decide_eq_true (by first | (with_reducible assumption) | assumption)
                         obtain ⟨ad404, A404_0, c404_0, e404, hx404_0, hl404_0, hi404_0⟩ := at_L18 (Kd.S_reads' HO_3.out).2.2 x6_2 p404 q404
                         cases e404
                         obtain ⟨ce404, hce404, hMe404, hcc404⟩ := Kd.S_get HO_3.out [] x6_2 p404 (by first | exact q404 | exact of_decide_eq_true (by first | (with_reducible assumption) | assumption) | (have e_ := (Kd.S_reads' HO_3.out).1; omega))
                         obtain ⟨ve404_0, rfl, ge404_0⟩ := hMe404
                         have hv404_0 := hcc404 0 _ rfl
                         rw [Nat.add_zero, show ((Kd.slice 4 Kd.bool)).sz = 1 from rfl, Nat.mul_one] at hv404_0
                         replace hv404_0 := Option.some.inj (hv404_0.symm.trans hx404_0)
                         rw [hv404_0] at ge404_0
                         have HL404_0 := Aside0.mk (show Kd.R Kd.bool 4 _ _ _ _ (rd_L18 t396 x6_2) from ge404_0)
                         clear hv404_0 ge404_0
                         clear hcc404 hce404
                         have HR404_0 := Aside0.mk hi404_0
                         have HC404_0 := Aside0.mk hl404_0
                         clear hi404_0 hl404_0
                         replace p404 := eq_true p404
                         replace q404 := eq_true q404
                         have p405 : 0 ≤ (x19_2 : Int) := of_decide_eq_true (by first | (with_reducible assumption) | assumption)
                         have q405 : x19_2 < ((rd_L18 t396 x6_2).length : Int) := of_decide_eq_true (by first | (with_reducible assumption) | assumption)
                         obtain ⟨ad405, e405, hx405_0⟩ := Kd.at_bool (by repeat (first | (with_reducible exact HR404_0.out) | (with_reducible refine Kd.C_alloc ?_ _) | (with_reducible refine Kd.C_drewN ?_ _) | (with_reducible refine Kd.C_drew ?_) | exact HR404_0.out)) x19_2 p405 q405
                         (try rw [← Nbq23.out] at hx405_0)
                         cases e405
                         replace p405 := eq_true p405
                         replace q405 := eq_true q405
                         go_wp2
                         go_roundg kj9
                         case measure => have := HK1.out; have := HK2.out; have := HJ9.out; omega
                         case rel => exact ⟨(x19_2), (wrap64 (x19_2 + 1)), (by first | rfl | (simp; done) | (simp [*]; done)), (by first | rfl | (simp; done) | (simp [*]; done)), H', ⟨by have := HK1.out; have := HK2.out; have := HJ9.out; omega⟩, ⟨by (with_reducible repeat (first | apply Kd.S_alloc | apply Kd.S_drewN | apply Kd.S_drew)); exact HO_3.out⟩, ⟨by (with_reducible repeat (first | apply Kd.R_alloc | apply Kd.R_drewN | apply Kd.R_drew)); exact HO_4.out⟩, ⟨by (with_reducible repeat (first | refine blk_drewN ?_ _ | refine blk_drew ?_ | refine blk_alloc ?_ _)); exact BK395.out⟩, ⟨by repeat (first | (with_reducible first | exact HB.out | apply below_alloc | apply pw_below_drewN | apply below_drew1 | refine below_set ?_ GE395.out) | exact HB.out)⟩⟩
                       · replace c24 := Bool.eq_false_iff.mpr c24
                         subst c24
                         have H1 : (impl_Dominators.l1 kj9 t396 x4_1 x13_1 x6_2 (l0_4.length : Int) x13_1 (l0_4.length : Int) (wrap64 (x19_2 + 1)) a0_0 a0_1 l0_2 a0_3 l0_4) = some r := by rw [if_neg (show ¬ (false = true) by decide)] at H; exact H
                         clear H
                         have H := H1
                         clear H1
                         have H' := Aside0.mk H
                         clear H
                         obtain ⟨Ao26, co26, eo26⟩ := Kd.S_slice HO_3.out
                         subst eo26
                         have p404 : 0 ≤ (x6_2 : Int) := of_decide_eq_true (by first | (with_reducible assumption) | assumption)
                         have q404 : x6_2 < (t396.length : Int) := of_decide_eq_true (by first | (with_reducible assumption) | assumption)
                         obtain ⟨ad404, A404_0, c404_0, e404, hx404_0, hl404_0, hi404_0⟩ := at_L18 (Kd.S_reads' HO_3.out).2.2 x6_2 p404 q404
                         cases e404
                         obtain ⟨ce404, hce404, hMe404, hcc404⟩ := Kd.S_get HO_3.out [] x6_2 p404 (by first | exact q404 | exact of_decide_eq_true (by first | (with_reducible assumption) | assumption) | (have e_ := (Kd.S_reads' HO_3.out).1; omega))
                         obtain ⟨ve404_0, rfl, ge404_0⟩ := hMe404
                         have hv404_0 := hcc404 0 _ rfl
                         rw [Nat.add_zero, show ((Kd.slice 4 Kd.bool)).sz = 1 from rfl, Nat.mul_one] at hv404_0
                         replace hv404_0 := Option.some.inj (hv404_0.symm.trans hx404_0)
                         rw [hv404_0] at ge404_0
                         have HL404_0 := Aside0.mk (show Kd.R Kd.bool 4 _ _ _ _ (rd_L18 t396 x6_2) from ge404_0)
                         clear hv404_0 ge404_0
                         clear hcc404 hce404
                         have HR404_0 := Aside0.mk hi404_0
                         have HC404_0 := Aside0.mk hl404_0
                         clear hi404_0 hl404_0
                         replace p404 := eq_true p404
                         replace q404 := eq_true q404
                         have p405 : 0 ≤ (x19_2 : Int) := of_decide_eq_true (by first | (with_reducible assumption) | assumption)
                         have q405 : x19_2 < ((rd_L18 t396 x6_2).length : Int) := of_decide_eq_true (by first | (with_reducible assumption) | assumption)
                         obtain ⟨ad405, e405, hx405_0⟩ := Kd.at_bool (by repeat (first | (with_reducible exact HR404_0.out) | (with_reducible refine Kd.C_alloc ?_ _) | (with_reducible refine Kd.C_drewN ?_ _) | (with_reducible refine Kd.C_drew ?_) | exact HR404_0.out)) x19_2 p405 q405
                         (try rw [← Nbq23.out] at hx405_0)
                         cases e405
                         replace p405 := eq_true p405
                         replace q405 := eq_true q405
                         go_wp2
                         go_roundg kj9
                         case measure => have := HK1.out; have := HK2.out; have := HJ9.out; omega
                         case rel => exact ⟨(x6_2), (wrap64 (x19_2 + 1)), (by first | rfl | (simp; done) | (simp [*]; done)), (by first | rfl | (simp; done) | (simp [*]; done)), H', ⟨by have := HK1.out; have := HK2.out; have := HJ9.out; omega⟩, ⟨by (with_reducible repeat (first | apply Kd.S_alloc | apply Kd.S_drewN | apply Kd.S_drew)); exact HO_3.out⟩, ⟨by (with_reducible repeat (first | apply Kd.R_alloc | apply Kd.R_drewN | apply Kd.R_drew)); exact HO_4.out⟩, ⟨by (with_reducible repeat (first | refine blk_drewN ?_ _ | refine blk_drew ?_ | refine blk_alloc ?_ _)); exact BK395.out⟩, ⟨by repeat (first | (with_reducible first | exact HB.out | apply below_alloc | apply pw_below_drewN | apply below_drew1 | refine below_set ?_ GE395.out) | exact HB.out)⟩⟩
                     · rw [if_neg c22] at H
                       exact absurd H (by simp)
                   · rw [if_neg c21] at H
                     exact absurd H (by simp)
                 · rw [if_neg c20] at H
                   exact absurd H (by simp)
               · rw [if_neg c19] at H
                 exact absurd H (by simp)
       · rw [if_neg c9] at H
         have c9b0 : decide (x19_2 < (l0_4.length : Int)) = false := decide_eq_false c9
         clear c9
         by_cases c27 : x4_1.length < 17592186044416
         · rw [if_pos c27] at H
           have LMc27 := Aside0.mk c27
           clear c27
           obtain ⟨y399, hy399⟩ : ∃ y_ : List Int, y_ = (x4_1 ++ [x6_2]) := ⟨_, rfl⟩
           replace H : (impl_Dominators.l0 k2 t396 y399 (l0_4.length : Int) (wrap64 (x13_1 + 1)) a0_0 a0_1 l0_2 a0_3 l0_4) = some r := by first | (rw [hy399]; with_reducible exact H) | (have H2_ := (Option.bind_some _ _).symm.trans H; rw [hy399]; with_reducible exact H2_) | (have H2_ := (Option.bind_some _ _).symm.trans H; with_reducible exact H2_) | with_reducible exact H | (rw [hy399]; exact H) | exact H
           have Ny399 := Aside0.mk hy399
           clear hy399
           have H' := Aside0.mk H
           clear H
           go_wp2_with (first | ((with_reducible refine gate_builtin (b := .append) (xs := #[.tmp 48, .tmp 50]) rfl ?_); at_builtin; refine Kd.R_append (Kd.int .i64) (w0 := w) w.heap.size rfl (.tmp 48) (.tmp 50) 22 2 (.int .i64 0) 8 rfl Try.underlying22 info2 rfl (by decide) (by omega) u4 x4_1 x6_2 [.int .i64 x6_2] (fun _ => True) (fun _ => False) rfl rfl ?aP (fun _ hk => hk.elim) ?aF ?aO ?aB ?aS ?aL ?_; (case aP => exact rfl); (case aB => exact (by repeat (first | (with_reducible first | exact HB.out | apply below_alloc | apply pw_below_drewN | apply below_drew1 | refine below_set ?_ GE395.out) | exact HB.out))); (case aF => exact (fun _ _ => trivial)); (case aO => exact (by (with_reducible repeat (first | apply Kd.R_alloc | apply Kd.R_drewN | apply Kd.R_drew)); exact HO_4.out)); (case aS => exact (below_size (by repeat (first | (with_reducible first | exact HB.out | apply below_alloc | apply pw_below_drewN | apply below_drew1 | refine below_set ?_ GE395.out) | exact HB.out)))); (case aL => have := LMc27.out; omega); intro v400 w28 ho hb hg hat; rw [← Ny399.out] at ho; have n0_ := Aside0.mk (Kd.S_over' (by (with_reducible repeat (first | apply Kd.S_alloc | apply Kd.S_drewN | apply Kd.S_drew)); exact HO_3.out) (Kd.R_typed (by (with_reducible repeat (first | apply Kd.R_alloc | apply Kd.R_drewN | apply Kd.R_drew)); exact HO_4.out)) (by decide) hg); have n1_ := Aside0.mk (blk_grown (g := gb395) (o := .cells #[.string a0_0, .int .i64 a0_1, .slice A0_2 l0_2.length c0_2, .int .i64 a0_3, .slice A0_4 l0_4.length c0_4] 30 (0, 0)) (by (with_reducible repeat (first | refine blk_drewN ?_ _ | refine blk_drew ?_ | refine blk_alloc ?_ _)); exact BK395.out) hg (Kd.R_ne HO_4.out BK395.out (by decide))); have n2_ := Aside0.mk (hb); have n3_ := Aside0.mk (ho); clear HO_3; clear BK395; clear HB; clear HO_4; have HO_3 := n0_; have BK395 := n1_; have HB := n2_; have HO401 := n3_; clear n0_ n1_ n2_ n3_; clear ho hb hg hat))
           go_roundg k2
           case measure => have := HK1.out; have := HK2.out; omega
           case rel => exact ⟨(y399), (wrap64 (x13_1 + 1)), (by first | rfl | (simp; done) | (simp [*]; done)), H', ⟨by have := HK1.out; have := HK2.out; omega⟩, ⟨by (with_reducible repeat (first | apply Kd.S_alloc | apply Kd.S_drewN | apply Kd.S_drew)); exact HO_3.out⟩, ⟨by (with_reducible repeat (first | apply Kd.R_alloc | apply Kd.R_drewN | apply Kd.R_drew)); exact HO401.out⟩, ⟨by (with_reducible repeat (first | refine blk_drewN ?_ _ | refine blk_drew ?_ | refine blk_alloc ?_ _)); exact BK395.out⟩, ⟨by repeat (first | (with_reducible first | exact HB.out | apply below_alloc | apply pw_below_drewN | apply below_drew1 | refine below_set ?_ GE395.out) | exact HB.out)⟩⟩
         · rw [if_neg c27] at H
           exact absurd H (by simp)
   · rw [if_neg c7] at H
     have c7b0 : decide (x13_1 < (l0_4.length : Int)) = false := decide_eq_false c7
     clear c7
     obtain rfl := Option.some.inj H
     go_wp2
     go_ret
     exact ⟨_, by first | rfl | (simp [errW_none, errW_some] <;> rfl) | (simp [*, errW_none, errW_some] <;> rfl), by (with_reducible repeat (first | apply Kd.R_alloc | apply Kd.R_drewN | apply Kd.R_drew)); exact HO_4.out, by repeat (first | (with_reducible first | exact HB.out | apply below_alloc | apply pw_below_drewN | apply below_drew1 | refine below_set ?_ GE395.out) | exact HB.out)⟩

end Go.Proofs.Ytoedcnhgobbnfaa.All


namespace Go.Proofs.Ytoedcnhgobbnfaa.All
open Go.RowKit Go.Proofs.YtoedcnhgobbnfaaW.PrintWords Go.Proofs.YtoedcnhgobbnfaaW.PrintLast Go.Proofs.YtoedcnhgobbnfaaW.PrintMore
attribute [local go_sem] max2_int min2_int max_two min_two max_three min_three max_four min_four   -- for this text's walks alone
set_option linter.unusedVariables false
set_option linter.unusedSimpArgs false

/-! ### spec_PrevBlocks: function 23 -/
end Go.Proofs.Ytoedcnhgobbnfaa.All


/- Next and previous blocks: the reference's and the program's lists are one. -/
namespace Go.Proofs.Ytoedcnhgobbnfaa.All
open Go.RowKit Go.Proofs.YtoedcnhgobbnfaaW.PrintWords Go.Proofs.YtoedcnhgobbnfaaW.PrintLast Go.Proofs.YtoedcnhgobbnfaaW.PrintMore
set_option linter.unusedVariables false
set_option linter.unusedSimpArgs false
def gOk (bs : List S62) : Prop := bs.length ≤ 1048576 ∧ ∀ b ∈ bs, bBlock b
def nextOf (bs : List S62) (a : Int) : List Int :=
  if a < 0 then [] else if (bs.length : Int) ≤ a then [] else if (rd_T62 bs a).f0.length = 0 then [] else nextL bs.length (rd_T66 (rd_T62 bs a).f0 (((rd_T62 bs a).f0.length : Int) - 1)).f7
theorem getD_mem {α : Type} {xs : List α} {i : Nat} (h : i < xs.length) (z : α) : xs.getD i z ∈ xs := by rw [getD_eq h]; exact List.getElem_mem h
theorem gOk_at {bs : List S62} (h : gOk bs) {a : Int} (h0 : 0 ≤ a) (h1 : a < (bs.length : Int)) : bBlock (rd_T62 bs a) := h.2 _ (getD_mem (by omega) _)
theorem gOk_last {bs : List S62} (h : gOk bs) {a : Int} (h0 : 0 ≤ a) (h1 : a < (bs.length : Int)) (h2 : (rd_T62 bs a).f0.length ≠ 0) : bInstr (rd_T66 (rd_T62 bs a).f0 (((rd_T62 bs a).f0.length : Int) - 1)) := (gOk_at h h0 h1).2 _ (getD_mem (by omega) _)
theorem nextOf_len {bs : List S62} (h : gOk bs) (a : Int) : (nextOf bs a).length ≤ 1048576 := by
  unfold nextOf
  split
  · simp
  · split
    · simp
    · split
      · simp
      · have h1 := gOk_last h (a := a) (by omega) (by omega) (by assumption)
        have h2 := nextL_len bs.length (rd_T66 (rd_T62 bs a).f0 (((rd_T62 bs a).f0.length : Int) - 1)).f7
        have := h1.2.1
        omega
theorem nextOf_range (bs : List S62) (a : Int) : ∀ x ∈ nextOf bs a, 0 ≤ x ∧ x < (bs.length : Int) := by
  unfold nextOf
  split
  · simp
  · split
    · simp
    · split
      · simp
      · exact nextL_range _ _
theorem nextOf_nodup (bs : List S62) (a : Int) : (nextOf bs a).Nodup := by
  unfold nextOf
  split
  · simp
  · split
    · simp
    · split
      · simp
      · exact nextL_nodup _ _
theorem implNext_f (n : ByteArray) (y : Int) (ps : List Int) (c : Int) (bs : List S62) (a : Int) (h : gOk bs) : impl_NextBlocks.f n y ps c bs a = some (nextOf bs a) := by
  unfold impl_NextBlocks.f nextOf
  by_cases h1 : a < 0
  · rw [if_pos h1, if_pos h1]
  rw [if_neg h1, if_neg h1]
  by_cases h2 : (bs.length : Int) ≤ a
  · rw [if_pos h2, if_pos h2]
  rw [if_neg h2, if_neg h2]
  by_cases h3 : (rd_T62 bs a).f0.length = 0
  · rw [if_pos h3, if_pos h3]
  rw [if_neg h3, if_neg h3]
  have h4 := gOk_last h (a := a) (by omega) (by omega) h3
  have h5 := gOk_at h (a := a) (by omega) (by omega)
  have := h.1
  have := h5.1
  have := h4.2.1
  rw [if_pos ⟨by omega, by omega, by omega⟩]
theorem l4Has_f (l : List Int) (v : Int) (hl : l.length ≤ 9223372036854775806) : Ev (fun k => spec_l4Has.f k l v) (l.contains v) := by
  unfold spec_l4Has.f
  have key : ∀ d i : Nat, i + d = l.length → Ev (fun k => spec_l4Has.l0 k l v (i : Int)) ((l.drop i).contains v) := by
    intro d
    induction d with
    | zero =>
      intro i hi
      obtain rfl : i = l.length := by omega
      refine Ev.succ ?_
      simp only [spec_l4Has.l0]
      rw [List.drop_length]
      exact Ev.neg (by omega) (Ev.some (by simp))
    | succ d ih =>
      intro i hi
      have hlt : i < l.length := by omega
      refine Ev.succ ?_
      simp only [spec_l4Has.l0]
      have e : rd l i = l[i] := by simp [rd, List.getElem?_eq_getElem hlt]
      rw [e, wrap64_nat (by omega), List.drop_eq_getElem_cons hlt, List.contains_cons]
      refine Ev.pos (by omega) (Ev.pos (by omega) ?_)
      by_cases c : l[i] = v
      · exact Ev.pos c (Ev.some (by simp [c]))
      · refine Ev.neg c ?_
        rw [beq_eq_false_iff_ne.2 (Ne.symm c), Bool.false_or]
        exact ih (i + 1) (by omega)
  exact key l.length 0 (by omega)
theorem specNext_f (n : ByteArray) (y : Int) (ps : List Int) (c : Int) (bs : List S62) (a : Int) (h : gOk bs) : Ev (fun k => spec_NextBlocks.f k n y ps c bs a) (nextOf bs a) := by
  unfold spec_NextBlocks.f nextOf
  refine Ev.some_bind ?_
  have done : Ev (fun k => spec_NextBlocks.j0 k a [] true n y ps c bs) [] := by
    refine Ev.succ ?_
    simp only [spec_NextBlocks.j0]
    exact Ev.pos trivial (Ev.now _)
  by_cases h1 : a < 0
  · rw [if_pos h1]
    exact Ev.pos h1 done
  rw [if_neg h1]
  refine Ev.neg h1 ?_
  by_cases h2 : (bs.length : Int) ≤ a
  · rw [if_pos h2]
    exact Ev.pos h2 done
  rw [if_neg h2]
  refine Ev.neg (by omega) (Ev.pos (by omega) (Ev.pos (by omega) ?_))
  by_cases h3 : (rd_T62 bs a).f0.length = 0
  · rw [if_pos h3]
    have e : (((rd_T62 bs a).f0.length : Int) == 0) = true := by rw [h3]; rfl
    rw [e]
    exact done
  rw [if_neg h3]
  have e : (((rd_T62 bs a).f0.length : Int) == 0) = false := by rw [beq_eq_false_iff_ne]; omega
  rw [e]
  have h4 := gOk_last h (a := a) (by omega) (by omega) h3
  have h5 := gOk_at h (a := a) (by omega) (by omega)
  have h6 := h5.1
  have h7 := h4.2.1
  have hb := h.1
  refine Ev.succ ?_
  simp only [spec_NextBlocks.j0]
  rw [wrap64_id (x := ((rd_T62 bs a).f0.length : Int) - 1) (by omega) (by omega)]
  refine Ev.neg (by simp) (Ev.pos (by omega) (Ev.pos (by omega) (Ev.pos (by omega) (Ev.pos (by omega) ?_))))
  generalize rd_T66 (rd_T62 bs a).f0 (((rd_T62 bs a).f0.length : Int) - 1) = x at h4 h7
  have key : ∀ d i : Nat, i + d = x.f7.length → Ev (fun k => spec_NextBlocks.l0 k (nextL bs.length (x.f7.take i)) (i : Int) n y ps c bs x.f0 x.f1 x.f2 x.f3 x.f4 x.f5 x.f6 x.f7 x.f8) (nextL bs.length x.f7) := by
    intro d
    induction d with
    | zero =>
      intro i hi
      obtain rfl : i = x.f7.length := by omega
      refine Ev.succ ?_
      simp only [spec_NextBlocks.l0]
      rw [List.take_length]
      exact Ev.neg (by omega) (Ev.now _)
    | succ d ih =>
      intro i hi
      have hlt : i < x.f7.length := by omega
      have h8 := ih (i + 1) (by omega)
      rw [nextL_take bs.length x.f7 i hlt] at h8
      refine Ev.succ ?_
      simp only [spec_NextBlocks.l0]
      have e1 : rd x.f7 i = x.f7[i] := by simp [rd, List.getElem?_eq_getElem hlt]
      have hlen := nextL_len bs.length (x.f7.take i)
      rw [List.length_take] at hlen
      rw [e1, wrap64_nat (by omega)]
      refine Ev.pos (by omega) (Ev.pos (by omega) ?_)
      unfold stepN at h8
      by_cases c0 : 0 ≤ x.f7[i]
      · by_cases c1 : x.f7[i] < (bs.length : Int)
        · refine Ev.pos c0 (Ev.pos c1 (Ev.bind (l4Has_f _ _ (by omega)) ?_))
          by_cases c2 : (nextL bs.length (x.f7.take i)).contains x.f7[i] = true
          · rw [if_neg (by rw [c2]; simp)] at h8
            exact Ev.pos c2 h8
          · rw [if_pos ⟨c0, c1, by simpa using c2⟩] at h8
            exact Ev.neg c2 (Ev.pos (by omega) h8)
        · rw [if_neg (fun h => c1 h.2.1)] at h8
          exact Ev.pos c0 (Ev.neg c1 h8)
      · rw [if_neg (fun h => c0 h.1)] at h8
        exact Ev.neg c0 h8
  exact key x.f7.length 0 (by omega)
/-- The blocks that go to a block, rising. -/
def prevOf (bs : List S62) (a : Int) : List Int := ((List.range bs.length).filter fun (b : Nat) => (nextOf bs (b : Int)).contains a).map fun (b : Nat) => (b : Int)
def prevTo (bs : List S62) (a : Int) (i : Nat) : List Int := ((List.range i).filter fun (b : Nat) => (nextOf bs (b : Int)).contains a).map fun (b : Nat) => (b : Int)
theorem prevTo_succ (bs : List S62) (a : Int) (i : Nat) : prevTo bs a (i + 1) = prevTo bs a i ++ (if (nextOf bs (i : Int)).contains a = true then [(i : Int)] else []) := by
  unfold prevTo
  rw [List.range_succ, List.filter_append, List.map_append]
  congr 1
  by_cases h : (nextOf bs (i : Int)).contains a = true
  · rw [if_pos h]; simp only [List.filter_cons, h, if_true, List.filter_nil, List.map_cons, List.map_nil]
  · rw [if_neg h]; simp only [List.filter_cons, h, List.filter_nil]; rfl
theorem prevTo_len (bs : List S62) (a : Int) (i : Nat) : (prevTo bs a i).length ≤ i := by
  unfold prevTo
  rw [List.length_map]
  have := List.length_filter_le (fun b : Nat => (nextOf bs (b : Int)).contains a) (List.range i)
  rw [List.length_range] at this
  exact this
theorem implPrev_f (n : ByteArray) (y : Int) (ps : List Int) (c : Int) (bs : List S62) (a : Int) (h : gOk bs) : Ev (fun k => impl_PrevBlocks.f k n y ps c bs a) (prevOf bs a) := by
  unfold impl_PrevBlocks.f
  have hb := h.1
  have inner : ∀ (i : Nat) (l : List Int), l.Nodup → l.length ≤ 1048576 → ∀ (r : List Int) (d j : Nat) (acc : List Int), j + d = l.length → acc.length + d ≤ 4194304 → Ev (fun k => impl_PrevBlocks.l0 k a (acc ++ (if (l.drop j).contains a = true then [(i : Int)] else [])) (bs.length : Int) (wrap64 ((i : Int) + 1)) n y ps c bs) r → Ev (fun k => impl_PrevBlocks.l1 k a acc (i : Int) (bs.length : Int) (i : Int) l (l.length : Int) (j : Int) n y ps c bs) r := by
    intro i l hnd hll r d
    induction d with
    | zero =>
      intro j acc hj ha h8
      obtain rfl : j = l.length := by omega
      refine Ev.succ ?_
      simp only [impl_PrevBlocks.l1]
      rw [List.drop_length] at h8
      exact Ev.neg (by omega) (by simpa using h8)
    | succ d ih =>
      intro j acc hj ha h8
      have hlt : j < l.length := by omega
      refine Ev.succ ?_
      simp only [impl_PrevBlocks.l1]
      have e1 : rd l j = l[j] := by simp [rd, List.getElem?_eq_getElem hlt]
      rw [e1, wrap64_nat (show j < 9223372036854775807 by omega)]
      rw [List.drop_eq_getElem_cons hlt, List.contains_cons] at h8
      refine Ev.pos (by omega) (Ev.pos (by omega) (Ev.pos (by omega) ?_))
      by_cases e : l[j] = a
      · refine Ev.pos e (Ev.pos (by omega) (ih (j + 1) _ (by omega) (by simp; omega) ?_))
        have hno : (l.drop (j + 1)).contains a = false := by
          have h9 : (l.drop j).Nodup := hnd.sublist (List.drop_sublist _ _)
          rw [List.drop_eq_getElem_cons hlt, List.nodup_cons, e] at h9
          simpa using h9.1
        rw [hno]
        simpa [e] using h8
      · refine Ev.neg e (ih (j + 1) _ (by omega) (by omega) ?_)
        rw [beq_eq_false_iff_ne.2 (Ne.symm e), Bool.false_or] at h8
        exact h8
  have key : ∀ d i : Nat, i + d = bs.length → Ev (fun k => impl_PrevBlocks.l0 k a (prevTo bs a i) (bs.length : Int) (i : Int) n y ps c bs) (prevOf bs a) := by
    intro d
    induction d with
    | zero =>
      intro i hi
      obtain rfl : i = bs.length := by omega
      refine Ev.succ ?_
      simp only [impl_PrevBlocks.l0]
      exact Ev.neg (by omega) (Ev.now _)
    | succ d ih =>
      intro i hi
      have h8 := ih (i + 1) (by omega)
      rw [prevTo_succ] at h8
      have hl := prevTo_len bs a i
      have hn := nextOf_len h (i : Int)
      refine Ev.succ ?_
      simp only [impl_PrevBlocks.l0]
      refine Ev.pos (by omega) (Ev.eq_bind (implNext_f n y ps c bs i h) (inner i _ (nextOf_nodup bs i) hn _ (nextOf bs i).length 0 _ (by omega) (by omega) ?_))
      rw [wrap64_nat (by omega), List.drop_zero]
      exact h8
  exact key bs.length 0 (by omega)
theorem prevOf_len (bs : List S62) (a : Int) : (prevOf bs a).length ≤ bs.length := prevTo_len bs a bs.length
end Go.Proofs.Ytoedcnhgobbnfaa.All


/- Which blocks can be come to: the reference's walk and the program's are one. -/
namespace Go.Proofs.Ytoedcnhgobbnfaa.All
open Go.RowKit Go.Proofs.YtoedcnhgobbnfaaW.PrintWords Go.Proofs.YtoedcnhgobbnfaaW.PrintLast Go.Proofs.YtoedcnhgobbnfaaW.PrintMore
set_option linter.unusedVariables false
set_option linter.unusedSimpArgs false
def rsOf (bs : List S62) : List (List Int) := (List.range bs.length).map fun (b : Nat) => nextOf bs (b : Int)
theorem rsOf_len (bs : List S62) : (rsOf bs).length = bs.length := by simp [rsOf]
theorem rsOf_getD (bs : List S62) (i : Nat) (h : i < bs.length) : (rsOf bs).getD i [] = nextOf bs (i : Int) := by
  unfold rsOf
  rw [List.getD_eq_getElem?_getD, List.getElem?_map, List.getElem?_eq_getElem (by simpa using h)]
  simp
theorem rsOf_ok {bs : List S62} (h : gOk bs) : okRows bs.length (rsOf bs) = true := by
  unfold okRows rsOf
  rw [List.all_eq_true]
  intro r hr
  obtain ⟨b, _, rfl⟩ := List.mem_map.1 hr
  rw [Bool.and_eq_true, decide_eq_true_eq, List.all_eq_true]
  have := nextOf_len h (b : Int)
  exact ⟨by omega, fun t ht => by simpa using nextOf_range bs (b : Int) t ht⟩
theorem l4Build_f (n : ByteArray) (y : Int) (ps : List Int) (c : Int) (bs : List S62) (h : gOk bs) : Ev (fun k => spec_l4Build.f k n y ps c bs) (rsOf bs, prevUp (rsOf bs) bs.length) := by
  unfold spec_l4Build.f
  have hb := h.1
  refine Ev.pos (by omega) ?_
  have key : ∀ m : Nat, Ev (fun k => rowsOf (fun b => spec_NextBlocks.f k n y ps c bs b) m) ((List.range m).map fun (b : Nat) => nextOf bs (b : Int)) := by
    intro m
    induction m with
    | zero => exact Ev.now _
    | succ m ih =>
      simp only [rowsOf]
      refine Ev.bind ih (Ev.bind (specNext_f n y ps c bs (m : Int) h) ?_)
      rw [List.range_succ, List.map_append]
      exact Ev.now _
  exact Ev.bind (key bs.length) (Ev.pos (rsOf_ok h) (Ev.now _))
/-- How many are not come to yet. -/
def fc : List Bool → Nat
  | [] => 0
  | b :: bs => (if b = true then 0 else 1) + fc bs
theorem fc_set : ∀ (s : List Bool) (i : Nat), i < s.length → s.getD i false = false → fc (s.set i true) + 1 = fc s
  | [], i, h, _ => absurd h (by simp)
  | b :: s, 0, _, h => by
    have hb : b = false := by simpa using h
    subst hb
    simp only [List.set_cons_zero, fc]
    simp
    omega
  | b :: s, i + 1, h, h2 => by
    have := fc_set s i (by simpa using h) (by simpa using h2)
    simp only [List.set_cons_succ, fc]
    omega
def reIn (wo : Int) : List Int → List Bool → List Int → List Bool × List Int
  | [], s, t => (s, t)
  | x :: xs, s, t => if x = wo ∨ s.getD x.toNat false = true then reIn wo xs s t else reIn wo xs (s.set x.toNat true) (t ++ [x])
theorem reIn_inv (wo : Int) (n : Nat) : ∀ (l : List Int) (s : List Bool) (t : List Int), s.length = n → (∀ x ∈ l, 0 ≤ x ∧ x < (n : Int)) → (∀ x ∈ t, 0 ≤ x ∧ x < (n : Int)) →
    (reIn wo l s t).1.length = n ∧ (∀ x ∈ (reIn wo l s t).2, 0 ≤ x ∧ x < (n : Int)) ∧ fc (reIn wo l s t).1 + (reIn wo l s t).2.length = fc s + t.length
  | [], s, t, hs, _, ht => ⟨hs, ht, rfl⟩
  | x :: xs, s, t, hs, hl, ht => by
    have hx := hl x (List.mem_cons_self ..)
    simp only [reIn]
    by_cases c : x = wo ∨ s.getD x.toNat false = true
    · rw [if_pos c]
      exact reIn_inv wo n xs s t hs (fun z hz => hl z (List.mem_cons_of_mem _ hz)) ht
    · rw [if_neg c]
      obtain ⟨h1, h2, h3⟩ := reIn_inv wo n xs (s.set x.toNat true) (t ++ [x]) (by rw [List.length_set]; exact hs) (fun z hz => hl z (List.mem_cons_of_mem _ hz)) (by
        intro z hz
        rcases List.mem_append.1 hz with hz | hz
        · exact ht z hz
        · rw [List.mem_singleton.1 hz]; exact hx)
      have h4 := fc_set s x.toNat (by omega) (by
        cases hg : s.getD x.toNat false with
        | false => rfl
        | true => exact absurd (Or.inr hg) c)
      refine ⟨h1, h2, ?_⟩
      rw [h3, List.length_append, List.length_singleton]
      omega
def reOut (N : Int → List Int) (wo : Int) : Nat → List Bool → List Int → List Bool
  | 0, s, _ => s
  | f + 1, s, t => match t.getLast? with
    | none => s
    | some b => reOut N wo f (reIn wo (N b) s t.dropLast).1 (reIn wo (N b) s t.dropLast).2
theorem reOut_len (bs : List S62) (wo : Int) : ∀ (f : Nat) (s : List Bool) (t : List Int), s.length = bs.length → (∀ x ∈ t, 0 ≤ x ∧ x < (bs.length : Int)) → (reOut (nextOf bs) wo f s t).length = bs.length
  | 0, s, t, hs, _ => hs
  | f + 1, s, t, hs, ht => by
    rcases List.eq_nil_or_concat t with rfl | ⟨i, b, rfl⟩
    · simpa [reOut] using hs
    · simp only [List.concat_eq_append] at ht ⊢
      simp only [reOut, List.getLast?_append, List.getLast?_singleton, Option.some_or, List.dropLast_concat]
      have h := reIn_inv wo bs.length (nextOf bs b) s i hs (nextOf_range bs b) (fun x hx => ht x (List.mem_append_left _ hx))
      exact reOut_len bs wo f _ _ h.1 h.2.1
def reachOf (bs : List S62) (wo : Int) : List Bool :=
  if bs.length = 0 ∨ wo = 0 then List.replicate bs.length false else reOut (nextOf bs) wo (bs.length + 1) ((List.replicate bs.length false).set 0 true) [0]
theorem reachOf_len (bs : List S62) (wo : Int) : (reachOf bs wo).length = bs.length := by
  unfold reachOf
  split
  · simp
  · exact reOut_len bs wo _ _ _ (by simp) (by intro x hx; rw [List.mem_singleton.1 hx]; omega)
theorem rdOf_eq (s : List Bool) (x : Int) : rdOf false s x = s.getD x.toNat false := rfl
theorem specRe_f (ps : List (List Int)) (wo : Int) (bs : List S62) (h : gOk bs) : ∀ (f : Nat) (s : List Bool) (t : List Int), fc s + t.length ≤ f → f ≤ 4194304 → s.length = bs.length → (∀ x ∈ t, 0 ≤ x ∧ x < (bs.length : Int)) → Ev (fun k => spec_l4Reach.l0 k wo s t (rsOf bs) ps) (reOut (nextOf bs) wo f s t) := by
  have hb := h.1
  have inner : ∀ (b : Int), 0 ≤ b → b < (bs.length : Int) → ∀ (r : List Bool) (d j : Nat) (s : List Bool) (t : List Int), j + d = (nextOf bs b).length → s.length = bs.length → fc s + t.length ≤ 4194304 →
      Ev (fun k => spec_l4Reach.l0 k wo (reIn wo ((nextOf bs b).drop j) s t).1 (reIn wo ((nextOf bs b).drop j) s t).2 (rsOf bs) ps) r → Ev (fun k => spec_l4Reach.l1 k wo s t b (j : Int) (rsOf bs) ps) r := by
    intro b h0 h1 r d
    have hrow : rd_L4 (rsOf bs) b = nextOf bs b := by
      have := rsOf_getD bs b.toNat (by omega)
      rw [Int.toNat_of_nonneg h0] at this
      exact this
    have hlen := nextOf_len h b
    have hrg := nextOf_range bs b
    induction d with
    | zero =>
      intro j s t hj hs hf h8
      obtain rfl : j = (nextOf bs b).length := by omega
      rw [List.drop_length] at h8
      refine Ev.succ ?_
      simp only [spec_l4Reach.l1]
      rw [hrow, rsOf_len]
      exact Ev.pos h0 (Ev.pos h1 (Ev.neg (by omega) h8))
    | succ d ih =>
      intro j s t hj hs hf h8
      have hlt : j < (nextOf bs b).length := by omega
      have e1 : rd (nextOf bs b) j = (nextOf bs b)[j] := by simp [rd, List.getElem?_eq_getElem hlt]
      have hx := hrg _ (List.getElem_mem hlt)
      rw [List.drop_eq_getElem_cons hlt] at h8
      generalize (nextOf bs b)[j] = x at e1 hx h8
      simp only [reIn] at h8
      refine Ev.succ ?_
      simp only [spec_l4Reach.l1]
      rw [hrow, rsOf_len, e1, wrap64_nat (by omega), hs, rdOf_eq]
      refine Ev.pos h0 (Ev.pos h1 (Ev.pos (by omega) (Ev.pos (by omega) ?_)))
      by_cases c1 : x = wo
      · rw [if_pos (Or.inl c1)] at h8
        exact Ev.pos c1 (ih (j + 1) s t (by omega) hs hf h8)
      · refine Ev.neg c1 (Ev.pos hx.1 (Ev.pos hx.2 ?_))
        by_cases c2 : s.getD x.toNat false = true
        · rw [if_pos (Or.inr c2)] at h8
          exact Ev.pos c2 (ih (j + 1) s t (by omega) hs hf h8)
        · rw [if_neg (fun hh => hh.elim c1 c2)] at h8
          have h4 := fc_set s x.toNat (by omega) (by simpa using c2)
          exact Ev.neg c2 (Ev.pos (by omega) (ih (j + 1) _ _ (by omega) (by rw [List.length_set]; exact hs) (by rw [List.length_append, List.length_singleton]; omega) h8))
  intro f
  induction f with
  | zero =>
    intro s t hm hf hs ht
    have : t = [] := List.length_eq_zero_iff.1 (by omega)
    subst this
    refine Ev.succ ?_
    simp only [spec_l4Reach.l0]
    exact Ev.neg (by simp) (Ev.now _)
  | succ f ih =>
    intro s t hm hf hs ht
    rcases List.eq_nil_or_concat t with rfl | ⟨i, b, rfl⟩
    · refine Ev.succ ?_
      simp only [spec_l4Reach.l0, reOut, List.getLast?_nil]
      exact Ev.neg (by simp) (Ev.now _)
    · simp only [List.concat_eq_append] at hm ht ⊢
      have hbb := ht b (by simp)
      have hinv := reIn_inv wo bs.length (nextOf bs b) s i hs (nextOf_range bs b) (fun x hx => ht x (List.mem_append_left _ hx))
      rw [List.length_append, List.length_singleton] at hm
      refine Ev.succ ?_
      simp only [spec_l4Reach.l0, reOut, List.getLast?_append, List.getLast?_singleton, Option.some_or, List.dropLast_concat, List.length_append, List.length_singleton]
      rw [wrap64_id (x := ((i.length + 1 : Nat) : Int) - 1) (by omega) (by omega)]
      have e2 : (((i.length + 1 : Nat) : Int) - 1) = (i.length : Int) := by omega
      rw [e2]
      have e3 : rd (i ++ [b]) (i.length : Int) = b := by simp [rd]
      rw [e3, Int.toNat_natCast, List.take_left]
      refine Ev.pos (by omega) (Ev.pos (by omega) (Ev.pos (by omega) (Ev.pos (by omega) ?_)))
      refine inner b hbb.1 hbb.2 _ (nextOf bs b).length 0 s i (by omega) hs (by omega) ?_
      rw [List.drop_zero]
      exact ih _ _ (by omega) (by omega) hinv.1 hinv.2.1
theorem fc_rep (n : Nat) : fc (List.replicate n false) = n := by
  induction n with
  | zero => rfl
  | succ n ih => rw [List.replicate_succ, fc, ih]; simp; omega
theorem specReach_f (ps : List (List Int)) (wo : Int) (bs : List S62) (h : gOk bs) : Ev (fun k => spec_l4Reach.f k (rsOf bs) ps 0 wo) (reachOf bs wo) := by
  have hb := h.1
  unfold spec_l4Reach.f reachOf
  rw [rsOf_len, Int.toNat_natCast]
  refine Ev.pos (by omega) (Ev.pos (by omega) (Ev.some_bind ?_))
  have done : Ev (fun k => spec_l4Reach.j0 k 0 wo (List.replicate bs.length false) true (rsOf bs) ps) (List.replicate bs.length false) := by
    refine Ev.succ ?_
    simp only [spec_l4Reach.j0]
    exact Ev.pos trivial (Ev.now _)
  by_cases c1 : 0 = wo
  · rw [if_pos (Or.inr c1.symm)]
    exact Ev.pos c1 done
  refine Ev.neg c1 (Ev.neg (by omega) ?_)
  by_cases c2 : bs.length = 0
  · rw [if_pos (Or.inl c2), decide_eq_true (by omega)]
    exact done
  rw [if_neg (fun hh => hh.elim c2 (fun e => c1 e.symm)), decide_eq_false (by omega)]
  refine Ev.succ ?_
  simp only [spec_l4Reach.j0, List.length_replicate]
  refine Ev.neg (by simp) (Ev.pos (by omega) (Ev.pos (by omega) ?_))
  have h4 := fc_set (List.replicate bs.length false) 0 (by simp; omega) (by rw [List.getD_eq_getElem?_getD, List.getElem?_replicate, if_pos (by omega)]; rfl)
  rw [fc_rep] at h4
  refine specRe_f ps wo bs h (bs.length + 1) _ _ (by simp; omega) (by omega) (by simp) (by intro x hx; rw [List.mem_singleton.1 hx]; omega)
theorem implRe_f (n : ByteArray) (y : Int) (ps : List Int) (c : Int) (wo : Int) (bs : List S62) (h : gOk bs) : ∀ (f : Nat) (s : List Bool) (t : List Int), fc s + t.length ≤ f → f ≤ 4194304 → s.length = bs.length → (∀ x ∈ t, 0 ≤ x ∧ x < (bs.length : Int)) → Ev (fun k => impl_reached.l0 k wo s t n y ps c bs) (reOut (nextOf bs) wo f s t) := by
  have hb := h.1
  have inner : ∀ (b : Int), 0 ≤ b → b < (bs.length : Int) → ∀ (r : List Bool) (d j : Nat) (s : List Bool) (t : List Int), j + d = (nextOf bs b).length → s.length = bs.length → fc s + t.length ≤ 4194304 →
      Ev (fun k => impl_reached.l0 k wo (reIn wo ((nextOf bs b).drop j) s t).1 (reIn wo ((nextOf bs b).drop j) s t).2 n y ps c bs) r → Ev (fun k => impl_reached.l1 k wo s t (nextOf bs b) ((nextOf bs b).length : Int) (j : Int) n y ps c bs) r := by
    intro b h0 h1 r d
    have hlen := nextOf_len h b
    have hrg := nextOf_range bs b
    induction d with
    | zero =>
      intro j s t hj hs hf h8
      obtain rfl : j = (nextOf bs b).length := by omega
      rw [List.drop_length] at h8
      refine Ev.succ ?_
      simp only [impl_reached.l1]
      exact Ev.neg (by omega) h8
    | succ d ih =>
      intro j s t hj hs hf h8
      have hlt : j < (nextOf bs b).length := by omega
      have e1 : rd (nextOf bs b) j = (nextOf bs b)[j] := by simp [rd, List.getElem?_eq_getElem hlt]
      have hx := hrg _ (List.getElem_mem hlt)
      rw [List.drop_eq_getElem_cons hlt] at h8
      generalize (nextOf bs b)[j] = x at e1 hx h8
      simp only [reIn] at h8
      refine Ev.succ ?_
      simp only [impl_reached.l1]
      rw [e1, wrap64_nat (by omega), hs, rdOf_eq]
      refine Ev.pos (by omega) (Ev.pos (by omega) (Ev.pos (by omega) (Ev.pos hx.1 (Ev.pos hx.2 ?_))))
      by_cases c2 : s.getD x.toNat false = true
      · rw [if_pos (Or.inr c2)] at h8
        exact Ev.pos c2 (ih (j + 1) s t (by omega) hs hf h8)
      · refine Ev.neg c2 ?_
        by_cases c1 : x = wo
        · rw [if_pos (Or.inl c1)] at h8
          exact Ev.pos c1 (ih (j + 1) s t (by omega) hs hf h8)
        · rw [if_neg (fun hh => hh.elim c1 c2)] at h8
          have h4 := fc_set s x.toNat (by omega) (by simpa using c2)
          exact Ev.neg c1 (Ev.pos (by omega) (ih (j + 1) _ _ (by omega) (by rw [List.length_set]; exact hs) (by rw [List.length_append, List.length_singleton]; omega) h8))
  intro f
  induction f with
  | zero =>
    intro s t hm hf hs ht
    have : t = [] := List.length_eq_zero_iff.1 (by omega)
    subst this
    refine Ev.succ ?_
    simp only [impl_reached.l0]
    exact Ev.neg (by simp) (Ev.now _)
  | succ f ih =>
    intro s t hm hf hs ht
    rcases List.eq_nil_or_concat t with rfl | ⟨i, b, rfl⟩
    · refine Ev.succ ?_
      simp only [impl_reached.l0, reOut, List.getLast?_nil]
      exact Ev.neg (by simp) (Ev.now _)
    · simp only [List.concat_eq_append] at hm ht ⊢
      have hbb := ht b (by simp)
      have hinv := reIn_inv wo bs.length (nextOf bs b) s i hs (nextOf_range bs b) (fun x hx => ht x (List.mem_append_left _ hx))
      rw [List.length_append, List.length_singleton] at hm
      refine Ev.succ ?_
      simp only [impl_reached.l0, reOut, List.getLast?_append, List.getLast?_singleton, Option.some_or, List.dropLast_concat, List.length_append, List.length_singleton]
      rw [wrap64_id (x := ((i.length + 1 : Nat) : Int) - 1) (by omega) (by omega)]
      have e2 : (((i.length + 1 : Nat) : Int) - 1) = (i.length : Int) := by omega
      rw [e2]
      have e3 : rd (i ++ [b]) (i.length : Int) = b := by simp [rd]
      rw [e3, Int.toNat_natCast, List.take_left]
      refine Ev.pos (by omega) (Ev.pos (by omega) (Ev.pos (by omega) (Ev.pos (by omega) (Ev.eq_bind (implNext_f n y ps c bs b h) ?_))))
      refine inner b hbb.1 hbb.2 _ (nextOf bs b).length 0 s i (by omega) hs (by omega) ?_
      rw [List.drop_zero]
      exact ih _ _ (by omega) (by omega) hinv.1 hinv.2.1
theorem implReach_f (n : ByteArray) (y : Int) (ps : List Int) (c : Int) (wo : Int) (bs : List S62) (h : gOk bs) : Ev (fun k => impl_reached.f k n y ps c bs wo) (reachOf bs wo) := by
  have hb := h.1
  unfold impl_reached.f reachOf
  rw [Int.toNat_natCast]
  refine Ev.pos (by omega) (Ev.pos (by omega) (Ev.some_bind ?_))
  have done : Ev (fun k => impl_reached.j0 k wo (List.replicate bs.length false) true n y ps c bs) (List.replicate bs.length false) := by
    refine Ev.succ ?_
    simp only [impl_reached.j0]
    exact Ev.pos trivial (Ev.now _)
  by_cases c2 : bs.length = 0
  · rw [if_pos (Or.inl c2)]
    exact Ev.pos (by omega) done
  refine Ev.neg (by omega) ?_
  by_cases c1 : wo = 0
  · rw [if_pos (Or.inr c1), show (wo == 0) = true from by rw [c1]; rfl]
    exact done
  rw [if_neg (fun hh => hh.elim c2 c1), show (wo == 0) = false from by rw [beq_eq_false_iff_ne]; exact c1]
  refine Ev.succ ?_
  simp only [impl_reached.j0, List.length_replicate]
  refine Ev.neg (by simp) (Ev.pos (by omega) ?_)
  have h4 := fc_set (List.replicate bs.length false) 0 (by simp; omega) (by rw [List.getD_eq_getElem?_getD, List.getElem?_replicate, if_pos (by omega)]; rfl)
  rw [fc_rep] at h4
  refine implRe_f n y ps c wo bs h (bs.length + 1) _ _ (by simp; omega) (by omega) (by simp) (by intro x hx; rw [List.mem_singleton.1 hx]; omega)
end Go.Proofs.Ytoedcnhgobbnfaa.All


/- Who dominates whom, as a table; the nearest one of each. -/
namespace Go.Proofs.Ytoedcnhgobbnfaa.All
open Go.RowKit Go.Proofs.YtoedcnhgobbnfaaW.PrintWords Go.Proofs.YtoedcnhgobbnfaaW.PrintLast Go.Proofs.YtoedcnhgobbnfaaW.PrintMore
set_option linter.unusedVariables false
set_option linter.unusedSimpArgs false
theorem fill_gen {β ρ : Type} (f : Nat → β) (xs : List β) (r : ρ) (g : Nat → List β → Int → Option ρ)
    (hstep : ∀ (i : Nat) (out : List β), i < xs.length → out.length = xs.length → Ev (fun k => g k (out.set i (f i)) ((i + 1 : Nat) : Int)) r → Ev (fun k => g k out (i : Int)) r)
    (hend : Ev (fun k => g k ((List.range xs.length).map f) (xs.length : Int)) r) : Ev (fun k => g k xs 0) r := by
  have key : ∀ d i : Nat, i + d = xs.length → Ev (fun k => g k ((List.range i).map f ++ xs.drop i) (i : Int)) r := by
    intro d
    induction d with
    | zero =>
      intro i hi
      obtain rfl : i = xs.length := by omega
      rw [List.drop_length, List.append_nil]
      exact hend
    | succ d ih =>
      intro i hi
      have h1 := ih (i + 1) (by omega)
      refine hstep i _ (by omega) (by simp; omega) ?_
      have e : ((List.range i).map f ++ xs.drop i).set i (f i) = (List.range (i + 1)).map f ++ xs.drop (i + 1) := by
        have hl : ((List.range i).map f).length = i := by simp
        rw [List.set_append_right _ _ (by omega), hl, Nat.sub_self, List.drop_eq_getElem_cons (show i < xs.length by omega), List.set_cons_zero, List.range_succ, List.map_append, List.append_assoc]
        rfl
      rw [e]
      exact h1
  have h0 := key xs.length 0 (by omega)
  simpa using h0
/-! What is seen stays seen; what is never come to hinders nobody. -/
theorem reIn_seen (wo : Int) (i : Nat) : ∀ (l : List Int) (s : List Bool) (t : List Int), s.getD i false = true → (reIn wo l s t).1.getD i false = true
  | [], _, _, h => h
  | x :: xs, s, t, h => by
    simp only [reIn]
    split
    · exact reIn_seen wo i xs s t h
    · refine reIn_seen wo i xs _ _ ?_
      rw [List.getD_eq_getElem?_getD, List.getElem?_set]
      rw [List.getD_eq_getElem?_getD] at h
      split
      · split
        · rfl
        · rename_i e1 e2
          rw [List.getElem?_eq_none (by omega)] at h
          exact h
      · exact h
theorem reOut_seen (N : Int → List Int) (wo : Int) (i : Nat) : ∀ (f : Nat) (s : List Bool) (t : List Int), s.getD i false = true → (reOut N wo f s t).getD i false = true
  | 0, _, _, h => h
  | f + 1, s, t, h => by
    simp only [reOut]
    split
    · exact h
    · exact reOut_seen N wo i f _ _ (reIn_seen wo i _ _ _ h)
theorem reIn_skip (a n : Nat) (han : a < n) : ∀ (l : List Int) (s : List Bool) (t : List Int), s.length = n → (∀ x ∈ l, 0 ≤ x ∧ x < (n : Int)) → (reIn (-1) l s t).1.getD a false = false → reIn (a : Int) l s t = reIn (-1) l s t
  | [], _, _, _, _, _ => rfl
  | x :: xs, s, t, hs, hl, h => by
    have hx := hl x (List.mem_cons_self ..)
    have hxs : ∀ z ∈ xs, 0 ≤ z ∧ z < (n : Int) := fun z hz => hl z (List.mem_cons_of_mem _ hz)
    simp only [reIn] at h ⊢
    have hm : ¬ x = -1 := by omega
    have hxa : ¬ x = (a : Int) := by
      intro e
      subst e
      rw [Int.toNat_natCast] at h
      by_cases c : s.getD a false = true
      · rw [if_pos (Or.inr c)] at h
        rw [reIn_seen (-1) a xs s t c] at h
        cases h
      · rw [if_neg (fun hh => hh.elim hm c)] at h
        rw [reIn_seen (-1) a xs _ _ (by rw [List.getD_eq_getElem?_getD, List.getElem?_set_self (by omega)]; rfl)] at h
        cases h
    by_cases c : s.getD x.toNat false = true
    · rw [if_pos (Or.inr c)] at h ⊢
      rw [if_pos (Or.inr c)]
      exact reIn_skip a n han xs s t hs hxs h
    · rw [if_neg (fun hh => hh.elim hm c)] at h
      rw [if_neg (fun hh => hh.elim hxa c), if_neg (fun hh => hh.elim hm c)]
      exact reIn_skip a n han xs _ _ (by rw [List.length_set]; exact hs) hxs h
theorem reOut_skip (bs : List S62) (a : Nat) (han : a < bs.length) : ∀ (f : Nat) (s : List Bool) (t : List Int), s.length = bs.length → (∀ x ∈ t, 0 ≤ x ∧ x < (bs.length : Int)) → (reOut (nextOf bs) (-1) f s t).getD a false = false → reOut (nextOf bs) (a : Int) f s t = reOut (nextOf bs) (-1) f s t
  | 0, _, _, _, _, _ => rfl
  | f + 1, s, t, hs, ht, h => by
    rcases List.eq_nil_or_concat t with rfl | ⟨i, b, rfl⟩
    · simp [reOut]
    · simp only [List.concat_eq_append] at ht h ⊢
      simp only [reOut, List.getLast?_append, List.getLast?_singleton, Option.some_or, List.dropLast_concat] at h ⊢
      have hinv := reIn_inv (-1) bs.length (nextOf bs b) s i hs (nextOf_range bs b) (fun x hx => ht x (List.mem_append_left _ hx))
      have h1 : (reIn (-1) (nextOf bs b) s i).1.getD a false = false := by
        cases hc : (reIn (-1) (nextOf bs b) s i).1.getD a false with
        | false => rfl
        | true => rw [reOut_seen _ _ _ _ _ _ hc] at h; cases h
      rw [reIn_skip a bs.length han (nextOf bs b) s i hs (nextOf_range bs b) h1]
      exact reOut_skip bs a han f _ _ hinv.1 hinv.2.1 h
theorem reachOf_skip (bs : List S62) (a : Nat) (han : a < bs.length) (h : (reachOf bs (-1)).getD a false = false) : reachOf bs (a : Int) = reachOf bs (-1) := by
  unfold reachOf at h ⊢
  rw [if_neg (by omega)] at h
  rw [if_neg (show ¬ (bs.length = 0 ∨ (-1 : Int) = 0) by omega)]
  by_cases c : (a : Int) = 0
  · obtain rfl : a = 0 := by omega
    rw [reOut_seen _ _ _ _ _ _ (by rw [List.getD_eq_getElem?_getD, List.getElem?_set_self (by simpa using han)]; rfl)] at h
    cases h
  · rw [if_neg (by omega)]
    exact reOut_skip bs a han _ _ _ (by simp) (by intro x hx; rw [List.mem_singleton.1 hx]; omega) h
def domB (bs : List S62) (a b : Nat) : Bool := (reachOf bs (-1)).getD b false && !(reachOf bs (a : Int)).getD b false
def domRow (bs : List S62) (a : Nat) : List Bool := (List.range bs.length).map (domB bs a)
def domsTo (bs : List S62) (i : Nat) : List (List Bool) := (List.range i).map (domRow bs)
theorem domsTo_succ (bs : List S62) (i : Nat) : domsTo bs (i + 1) = domsTo bs i ++ [domRow bs i] := by unfold domsTo; rw [List.range_succ, List.map_append]; rfl
theorem domsTo_len (bs : List S62) (i : Nat) : (domsTo bs i).length = i := by simp [domsTo]
theorem domRow_len (bs : List S62) (i : Nat) : (domRow bs i).length = bs.length := by simp [domRow]
theorem domRow_at (bs : List S62) (a b : Nat) (h : b < bs.length) : (domRow bs a).getD b false = domB bs a b := by
  unfold domRow
  rw [List.getD_eq_getElem?_getD, List.getElem?_map, List.getElem?_range h]
  rfl
theorem domRow_none (bs : List S62) (a : Nat) (han : a < bs.length) (h : (reachOf bs (-1)).getD a false = false) : List.replicate bs.length false = domRow bs a := by
  apply List.ext_getElem
  · rw [domRow_len]; simp
  · intro i h1 h2
    simp only [domRow, List.getElem_replicate, List.getElem_map, List.getElem_range, domB]
    rw [reachOf_skip bs a han h]
    simp
theorem specDoms_f (ps : List (List Int)) (bs : List S62) (h : gOk bs) : Ev (fun k => spec_l4Doms.f k (rsOf bs) ps) (domsTo bs bs.length) := by
  unfold spec_l4Doms.f
  have hb := h.1
  refine Ev.bind (specReach_f ps (-1) bs h) ?_
  rw [rsOf_len]
  have l1 := reachOf_len bs (-1)
  have key : ∀ d i : Nat, i + d = bs.length → Ev (fun k => spec_l4Doms.l0 k (bs.length : Int) (reachOf bs (-1)) (domsTo bs i) (i : Int) (rsOf bs) ps) (domsTo bs bs.length) := by
    intro d
    induction d with
    | zero =>
      intro i hi
      obtain rfl : i = bs.length := by omega
      refine Ev.succ ?_
      simp only [spec_l4Doms.l0]
      exact Ev.neg (by omega) (Ev.now _)
    | succ d ih =>
      intro i hi
      have h8 := ih (i + 1) (by omega)
      have l2 := reachOf_len bs (i : Int)
      have l3 := domsTo_len bs i
      rw [domsTo_succ] at h8
      refine Ev.succ ?_
      simp only [spec_l4Doms.l0]
      refine Ev.pos (by omega) (Ev.bind (specReach_f ps (i : Int) bs h) (Ev.pos (by omega) (Ev.pos (by omega) ?_)))
      rw [Int.toNat_natCast]
      refine fill_gen (domB bs i) (List.replicate bs.length false) _ (fun k out j => spec_l4Doms.l1 k (bs.length : Int) (reachOf bs (-1)) (domsTo bs i) (i : Int) (reachOf bs (i : Int)) out j (rsOf bs) ps) ?_ ?_
      · intro j out hj ho h9
        rw [List.length_replicate] at hj ho
        refine Ev.succ ?_
        simp only [spec_l4Doms.l1]
        rw [wrap64_nat (by omega), rdOf_eq, rdOf_eq, Int.toNat_natCast]
        refine Ev.pos (by omega) (Ev.pos (by omega) (Ev.pos (by omega) ?_))
        unfold domB at h9
        by_cases c : (reachOf bs (-1)).getD j false = true
        · rw [c, Bool.true_and] at h9
          exact Ev.pos c (Ev.pos (by omega) (Ev.pos (by omega) h9))
        · rw [Bool.eq_false_iff.2 c, Bool.false_and] at h9
          exact Ev.neg c (Ev.pos (by omega) h9)
      · rw [List.length_replicate]
        refine Ev.succ ?_
        simp only [spec_l4Doms.l1]
        rw [wrap64_nat (i := i) (by omega)]
        exact Ev.neg (by omega) (Ev.pos (by omega) h8)
  exact key bs.length 0 (by omega)
theorem implDoms_f (n : ByteArray) (y : Int) (ps : List Int) (c : Int) (bs : List S62) (h : gOk bs) : Ev (fun k => impl_dominance.f k n y ps c bs) (domsTo bs bs.length) := by
  unfold impl_dominance.f
  have hb := h.1
  refine Ev.bind (implReach_f n y ps c (-1) bs h) ?_
  have l1 := reachOf_len bs (-1)
  have key : ∀ d i : Nat, i + d = bs.length → Ev (fun k => impl_dominance.l0 k (reachOf bs (-1)) (domsTo bs i) (bs.length : Int) (i : Int) n y ps c bs) (domsTo bs bs.length) := by
    intro d
    induction d with
    | zero =>
      intro i hi
      obtain rfl : i = bs.length := by omega
      refine Ev.succ ?_
      simp only [impl_dominance.l0]
      exact Ev.neg (by omega) (Ev.now _)
    | succ d ih =>
      intro i hi
      have h8 := ih (i + 1) (by omega)
      have l2 := reachOf_len bs (i : Int)
      have l3 := domsTo_len bs i
      rw [domsTo_succ] at h8
      refine Ev.succ ?_
      simp only [impl_dominance.l0]
      rw [Int.toNat_natCast, wrap64_nat (by omega), rdOf_eq, Int.toNat_natCast]
      refine Ev.pos (by omega) (Ev.pos (by omega) (Ev.pos (by omega) (Ev.some_bind (Ev.pos (by omega) (Ev.pos (by omega) ?_)))))
      by_cases ca : (reachOf bs (-1)).getD i false = true
      · refine Ev.pos ca (Ev.bind (implReach_f n y ps c (i : Int) bs h) ?_)
        refine fill_gen (domB bs i) (List.replicate bs.length false) _ (fun k out j => impl_dominance.l1 k (reachOf bs (-1)) (domsTo bs i) out (reachOf bs (i : Int)) (bs.length : Int) (i : Int) (bs.length : Int) j n y ps c bs) ?_ ?_
        · intro j out hj ho h9
          rw [List.length_replicate] at hj ho
          refine Ev.succ ?_
          simp only [impl_dominance.l1]
          rw [wrap64_nat (by omega), rdOf_eq, rdOf_eq, Int.toNat_natCast]
          refine Ev.pos (by omega) (Ev.pos (by omega) (Ev.pos (by omega) ?_))
          unfold domB at h9
          by_cases c : (reachOf bs (-1)).getD j false = true
          · rw [c, Bool.true_and] at h9
            exact Ev.pos c (Ev.pos (by omega) (Ev.pos (by omega) h9))
          · rw [Bool.eq_false_iff.2 c, Bool.false_and] at h9
            exact Ev.neg c (Ev.pos (by omega) h9)
        · rw [List.length_replicate]
          refine Ev.succ ?_
          simp only [impl_dominance.l1]
          rw [wrap64_nat (i := i) (by omega)]
          exact Ev.neg (by omega) (Ev.pos (by omega) h8)
      · refine Ev.neg ca (Ev.pos (by omega) ?_)
        rw [domRow_none bs i (by omega) (Bool.eq_false_iff.2 ca)]
        exact h8
  exact key bs.length 0 (by omega)
theorem rdRow (bs : List S62) (a : Nat) (h : a < bs.length) : rd_L18 (domsTo bs bs.length) (a : Int) = domRow bs a := by
  show (domsTo bs bs.length).getD (a : Int).toNat [] = _
  rw [Int.toNat_natCast]
  unfold domsTo
  rw [List.getD_eq_getElem?_getD, List.getElem?_map, List.getElem?_range h]
  rfl
theorem rdRow2 (bs : List S62) (a b : Nat) (h : b < bs.length) : rdOf false (domRow bs a) (b : Int) = domB bs a b := by rw [rdOf_eq, Int.toNat_natCast]; exact domRow_at bs a b h
end Go.Proofs.Ytoedcnhgobbnfaa.All


/- Where a block's dominating ends. -/
namespace Go.Proofs.Ytoedcnhgobbnfaa.All
open Go.RowKit Go.Proofs.YtoedcnhgobbnfaaW.PrintWords Go.Proofs.YtoedcnhgobbnfaaW.PrintLast Go.Proofs.YtoedcnhgobbnfaaW.PrintMore
set_option linter.unusedVariables false
set_option linter.unusedSimpArgs false
theorem getD_set {α : Type} (xs : List α) (i j : Nat) (v z : α) (h : i < xs.length) : (xs.set i v).getD j z = if i = j then v else xs.getD j z := by
  rw [List.getD_eq_getElem?_getD, List.getD_eq_getElem?_getD, List.getElem?_set]
  split
  · first | rfl | (rename_i e; subst e; rw [if_pos h]; rfl) | simp [h]
  · rfl
theorem pushB_at (b : Int) (t : Nat) : ∀ (ts : List Int) (prev : List (List Int)), ts.Nodup → (∀ x ∈ ts, 0 ≤ x ∧ x < (prev.length : Int)) → (pushB prev b ts).getD t [] = prev.getD t [] ++ (if ts.contains (t : Int) = true then [b] else [])
  | [], prev, _, _ => by simp [pushB]
  | x :: xs, prev, hn, hr => by
    have hx := hr x (List.mem_cons_self ..)
    rw [List.nodup_cons] at hn
    have h := pushB_at b t xs (prev.set x.toNat (prev.getD x.toNat [] ++ [b])) hn.2 (by rw [List.length_set]; exact fun z hz => hr z (List.mem_cons_of_mem _ hz))
    have h3 : pushB prev b (x :: xs) = pushB (prev.set x.toNat (prev.getD x.toNat [] ++ [b])) b xs := rfl
    rw [h3, h, getD_set _ _ _ _ _ (by omega)]
    by_cases e : x.toNat = t
    · have e2 : x = (t : Int) := by omega
      have e3 : xs.contains (t : Int) = false := by rw [← e2]; simpa using hn.1
      rw [if_pos e, e3, List.contains_cons, e2, Int.toNat_natCast]
      simp
    · have e2 : ¬ ((t : Int) = x) := by omega
      rw [if_neg e, List.contains_cons, beq_eq_false_iff_ne.2 e2, Bool.false_or]
theorem prevUp_at {bs : List S62} (t : Nat) : ∀ m, m ≤ bs.length → (prevUp (rsOf bs) m).getD t [] = prevTo bs (t : Int) m
  | 0, _ => by
    simp only [prevUp, prevTo, List.range_zero, List.filter_nil, List.map_nil, List.getD_eq_getElem?_getD, List.getElem?_replicate]
    split <;> rfl
  | m + 1, hm => by
    rw [prevUp, rsOf_getD bs m (by omega), pushB_at _ _ _ _ (nextOf_nodup bs (m : Int)) (by rw [prevUp_len, rsOf_len]; exact nextOf_range bs (m : Int)), prevUp_at t m (by omega), prevTo_succ]
theorem rdPrev {bs : List S62} (t : Nat) : rd_L4 (prevUp (rsOf bs) bs.length) (t : Int) = prevOf bs (t : Int) := by
  show (prevUp (rsOf bs) bs.length).getD (t : Int).toNat [] = _
  rw [Int.toNat_natCast]
  exact prevUp_at t bs.length (Nat.le_refl _)
theorem prevOf_range (bs : List S62) (a : Int) : ∀ x ∈ prevOf bs a, 0 ≤ x ∧ x < (bs.length : Int) := by
  intro x hx
  unfold prevOf at hx
  obtain ⟨b, hb, rfl⟩ := List.mem_map.1 hx
  have := List.mem_range.1 (List.mem_filter.1 hb).1
  omega
def frB (bs : List S62) (a b : Nat) : Bool := (prevOf bs (b : Int)).any (fun p => domB bs a p.toNat) && (!domB bs a b || decide (a = b))
def frTo (bs : List S62) (a : Nat) : Nat → List Int
  | 0 => []
  | i + 1 => frTo bs a i ++ (if frB bs a i = true then [(i : Int)] else [])
theorem frTo_len (bs : List S62) (a : Nat) : ∀ i, (frTo bs a i).length ≤ i
  | 0 => Nat.le_refl _
  | i + 1 => by
    have := frTo_len bs a i
    simp only [frTo, List.length_append]
    split <;> simp <;> omega
def frontOf (bs : List S62) (a : Int) : List Int := if a < 0 ∨ a ≥ (bs.length : Int) then [] else frTo bs a.toNat bs.length
theorem frontOf_len (bs : List S62) (a : Int) : (frontOf bs a).length ≤ bs.length := by
  unfold frontOf
  split
  · simp
  · exact frTo_len _ _ _
theorem any_drop {l : List Int} {j : Nat} (h : j < l.length) (p : Int → Bool) : (l.drop j).any p = (p l[j] || (l.drop (j + 1)).any p) := by rw [List.drop_eq_getElem_cons h, List.any_cons]
theorem specFr_f (bs : List S62) (a : Nat) (ha : a < bs.length) (h : gOk bs) : Ev (fun k => spec_l4Frontier.f k (rsOf bs) (prevUp (rsOf bs) bs.length) (domsTo bs bs.length) (a : Int)) (frTo bs a bs.length) := by
  unfold spec_l4Frontier.f
  have hb := h.1
  have l0 := domsTo_len bs bs.length
  have l1 : (prevUp (rsOf bs) bs.length).length = bs.length := by rw [prevUp_len, rsOf_len]
  have key : ∀ d i : Nat, i + d = bs.length → Ev (fun k => spec_l4Frontier.l0 k (domsTo bs bs.length) (a : Int) (frTo bs a i) (i : Int) (rsOf bs) (prevUp (rsOf bs) bs.length)) (frTo bs a bs.length) := by
    intro d
    induction d with
    | zero =>
      intro i hi
      obtain rfl : i = bs.length := by omega
      refine Ev.succ ?_
      simp only [spec_l4Frontier.l0]
      rw [rsOf_len]
      exact Ev.neg (by omega) (Ev.now _)
    | succ d ih =>
      intro i hi
      have h8 := ih (i + 1) (by omega)
      have l3 := frTo_len bs a i
      have l4 := prevOf_len bs (i : Int)
      simp only [frTo] at h8
      unfold frB at h8
      refine Ev.succ ?_
      simp only [spec_l4Frontier.l0]
      rw [rsOf_len]
      refine Ev.pos (by omega) ?_
      have inner : ∀ (e j : Nat) (f : Bool), j + e = (prevOf bs (i : Int)).length → (f || ((prevOf bs (i : Int)).drop j).any (fun p => domB bs a p.toNat)) = (prevOf bs (i : Int)).any (fun p => domB bs a p.toNat) → Ev (fun k => spec_l4Frontier.l1 k (domsTo bs bs.length) (a : Int) (frTo bs a i) (i : Int) f (j : Int) (rsOf bs) (prevUp (rsOf bs) bs.length)) (frTo bs a bs.length) := by
        intro e
        induction e with
        | zero =>
          intro j f hj hf
          obtain rfl : j = (prevOf bs (i : Int)).length := by omega
          rw [List.drop_length, List.any_nil, Bool.or_false] at hf
          rw [← hf] at h8
          refine Ev.succ ?_
          simp only [spec_l4Frontier.l1]
          rw [l1, rdPrev, l0, rdRow bs a ha, domRow_len, rdRow2 bs a i (by omega), wrap64_nat (i := i) (by omega)]
          refine Ev.pos (by omega) (Ev.pos (by omega) (Ev.neg (by omega) ?_))
          by_cases c1 : f = true
          · subst c1
            rw [Bool.true_and] at h8
            refine Ev.pos rfl (Ev.pos (by omega) (Ev.pos (by omega) (Ev.pos (by omega) ?_)))
            by_cases c2 : domB bs a i = true
            · rw [c2, Bool.not_true, Bool.false_or] at h8
              refine Ev.pos c2 ?_
              by_cases c3 : a = i
              · rw [if_pos (by simpa using c3)] at h8
                exact Ev.pos (by omega) (Ev.pos (by omega) h8)
              · rw [if_neg (by simpa using c3), List.append_nil] at h8
                exact Ev.neg (by omega) h8
            · rw [Bool.eq_false_iff.2 c2, Bool.not_false, Bool.true_or, if_pos rfl] at h8
              exact Ev.neg c2 (Ev.pos (by omega) h8)
          · rw [Bool.eq_false_iff.2 c1, Bool.false_and, if_neg (by simp), List.append_nil] at h8
            exact Ev.neg c1 h8
        | succ e ih2 =>
          intro j f hj hf
          have hlt : j < (prevOf bs (i : Int)).length := by omega
          have hx := prevOf_range bs (i : Int) _ (List.getElem_mem hlt)
          have e1 : rd (prevOf bs (i : Int)) j = (prevOf bs (i : Int))[j] := by simp [rd, List.getElem?_eq_getElem hlt]
          rw [any_drop hlt] at hf
          refine Ev.succ ?_
          simp only [spec_l4Frontier.l1]
          rw [l1, rdPrev, l0, rdRow bs a ha, domRow_len, e1, wrap64_nat (i := j) (by omega)]
          generalize (prevOf bs (i : Int))[j] = x at e1 hx hf
          obtain ⟨q, rfl⟩ : ∃ q : Nat, x = (q : Int) := ⟨x.toNat, by omega⟩
          rw [rdRow2 bs a q (by omega)]
          rw [Int.toNat_natCast] at hf
          refine Ev.pos (by omega) (Ev.pos (by omega) (Ev.pos (by omega) ?_))
          by_cases c1 : f = true
          · subst c1
            exact Ev.pos rfl (ih2 (j + 1) true (by omega) (by rw [← hf]; simp))
          · refine Ev.neg c1 (Ev.pos (by omega) (Ev.pos (by omega) (Ev.pos (by omega) (Ev.pos (by omega) (Ev.pos (by omega) (ih2 (j + 1) _ (by omega) ?_))))))
            rw [Bool.eq_false_iff.2 c1, Bool.false_or] at hf
            exact hf
      exact inner (prevOf bs (i : Int)).length 0 false (by omega) (by rw [List.drop_zero, Bool.false_or])
  exact key bs.length 0 (by omega)
theorem specFrontier_f (n : ByteArray) (y : Int) (ps : List Int) (c : Int) (bs : List S62) (a : Int) (h : gOk bs) : Ev (fun k => spec_Frontier.f k n y ps c bs a) (frontOf bs a) := by
  unfold spec_Frontier.f frontOf
  have done : Ev (fun k => spec_Frontier.j0 k a true n y ps c bs) [] := by
    refine Ev.succ ?_
    simp only [spec_Frontier.j0]
    exact Ev.pos trivial (Ev.now _)
  by_cases h1 : a < 0
  · rw [if_pos (Or.inl h1)]; exact Ev.pos h1 done
  refine Ev.neg h1 ?_
  by_cases h2 : a ≥ (bs.length : Int)
  · rw [if_pos (Or.inr h2), decide_eq_true h2]; exact done
  rw [if_neg (by omega), decide_eq_false h2]
  refine Ev.succ ?_
  simp only [spec_Frontier.j0]
  obtain ⟨q, rfl⟩ : ∃ q : Nat, a = (q : Int) := ⟨a.toNat, by omega⟩
  exact Ev.neg (by simp) (Ev.bind (l4Build_f n y ps c bs h) (Ev.bind (specDoms_f _ bs h) (Ev.bind (specFr_f bs q (by omega) h) (Ev.now _))))
theorem implFrontier_f (n : ByteArray) (y : Int) (ps : List Int) (c : Int) (bs : List S62) (a : Int) (h : gOk bs) : Ev (fun k => impl_Frontier.f k n y ps c bs a) (frontOf bs a) := by
  unfold impl_Frontier.f frontOf
  have hb := h.1
  have done : Ev (fun k => impl_Frontier.j0 k a true n y ps c bs) [] := by
    refine Ev.succ ?_
    simp only [impl_Frontier.j0]
    exact Ev.pos trivial (Ev.now _)
  by_cases h1 : a < 0
  · rw [if_pos (Or.inl h1)]; exact Ev.pos h1 done
  refine Ev.neg h1 ?_
  by_cases h2 : a ≥ (bs.length : Int)
  · rw [if_pos (Or.inr h2), decide_eq_true h2]; exact done
  rw [if_neg (by omega), decide_eq_false h2]
  refine Ev.succ ?_
  simp only [impl_Frontier.j0]
  obtain ⟨q, rfl⟩ : ∃ q : Nat, a = (q : Int) := ⟨a.toNat, by omega⟩
  rw [Int.toNat_natCast]
  refine Ev.neg (by simp) (Ev.bind (implDoms_f n y ps c bs h) ?_)
  have l0 := domsTo_len bs bs.length
  have key : ∀ d i : Nat, i + d = bs.length → Ev (fun k => impl_Frontier.l0 k (q : Int) (domsTo bs bs.length) (frTo bs q i) (bs.length : Int) (i : Int) n y ps c bs) (frTo bs q bs.length) := by
    intro d
    induction d with
    | zero =>
      intro i hi
      obtain rfl : i = bs.length := by omega
      refine Ev.succ ?_
      simp only [impl_Frontier.l0]
      exact Ev.neg (by omega) (Ev.now _)
    | succ d ih =>
      intro i hi
      have h8 := ih (i + 1) (by omega)
      have l3 := frTo_len bs q i
      have l4 := prevOf_len bs (i : Int)
      simp only [frTo] at h8
      unfold frB at h8
      have go : (!domB bs q i || decide (q = i)) = true → Ev (fun k => impl_Frontier.j2 k (q : Int) (domsTo bs bs.length) (frTo bs q i) (i : Int) (bs.length : Int) (i : Int) false n y ps c bs) (frTo bs q bs.length) := by
        intro hc
        rw [hc, Bool.and_true] at h8
        refine Ev.succ ?_
        simp only [impl_Frontier.j2]
        refine Ev.neg (by simp) (Ev.bind (implPrev_f n y ps c bs (i : Int) h) ?_)
        have inner : ∀ (e j : Nat), j + e = (prevOf bs (i : Int)).length → ((prevOf bs (i : Int)).drop j).any (fun p => domB bs q p.toNat) = (prevOf bs (i : Int)).any (fun p => domB bs q p.toNat) → Ev (fun k => impl_Frontier.l1 k (q : Int) (domsTo bs bs.length) (frTo bs q i) (i : Int) (bs.length : Int) (i : Int) (prevOf bs (i : Int)) ((prevOf bs (i : Int)).length : Int) (j : Int) n y ps c bs) (frTo bs q bs.length) := by
          intro e
          induction e with
          | zero =>
            intro j hj hf
            obtain rfl : j = (prevOf bs (i : Int)).length := by omega
            rw [List.drop_length, List.any_nil] at hf
            rw [← hf, if_neg (by simp), List.append_nil] at h8
            refine Ev.succ ?_
            simp only [impl_Frontier.l1]
            rw [wrap64_nat (i := i) (by omega)]
            exact Ev.neg (by omega) h8
          | succ e ih2 =>
            intro j hj hf
            have hlt : j < (prevOf bs (i : Int)).length := by omega
            have hx := prevOf_range bs (i : Int) _ (List.getElem_mem hlt)
            have e1 : rd (prevOf bs (i : Int)) j = (prevOf bs (i : Int))[j] := by simp [rd, List.getElem?_eq_getElem hlt]
            rw [any_drop hlt] at hf
            refine Ev.succ ?_
            simp only [impl_Frontier.l1]
            rw [l0, rdRow bs q (by omega), domRow_len, e1, wrap64_nat (i := i) (by omega), wrap64_nat (i := j) (by omega)]
            generalize (prevOf bs (i : Int))[j] = x at e1 hx hf
            obtain ⟨z, rfl⟩ : ∃ z : Nat, x = (z : Int) := ⟨x.toNat, by omega⟩
            rw [rdRow2 bs q z (by omega)]
            rw [Int.toNat_natCast] at hf
            refine Ev.pos (by omega) (Ev.pos (by omega) (Ev.pos (by omega) (Ev.pos (by omega) (Ev.pos (by omega) (Ev.pos (by omega) (Ev.pos (by omega) ?_))))))
            by_cases c1 : domB bs q z = true
            · rw [c1, Bool.true_or] at hf
              rw [← hf, if_pos rfl] at h8
              exact Ev.pos c1 (Ev.pos (by omega) h8)
            · rw [Bool.eq_false_iff.2 c1, Bool.false_or] at hf
              exact Ev.neg c1 (ih2 (j + 1) (by omega) hf)
        exact inner (prevOf bs (i : Int)).length 0 (by omega) (by rw [List.drop_zero])
      refine Ev.succ ?_
      simp only [impl_Frontier.l0]
      rw [l0, rdRow bs q (by omega), domRow_len, rdRow2 bs q i (by omega)]
      refine Ev.pos (by omega) (Ev.pos (by omega) (Ev.pos (by omega) (Ev.pos (by omega) (Ev.pos (by omega) ?_))))
      by_cases c2 : domB bs q i = true
      · refine Ev.pos c2 ?_
        by_cases c3 : q = i
        · rw [show ((i : Int) != (q : Int)) = false from by rw [c3]; simp]
          exact go (by rw [c3]; simp)
        · rw [show ((i : Int) != (q : Int)) = true from by rw [bne_iff_ne]; omega]
          rw [c2, show (!true || decide (q = i)) = false from by simp [c3], Bool.and_false, if_neg (by simp), List.append_nil] at h8
          refine Ev.succ ?_
          simp only [impl_Frontier.j2]
          rw [wrap64_nat (i := i) (by omega)]
          exact Ev.pos trivial h8
      · exact Ev.neg c2 (go (by rw [Bool.eq_false_iff.2 c2]; rfl))
  exact key bs.length 0 (by omega)
end Go.Proofs.Ytoedcnhgobbnfaa.All


/- FnExactFrontier: the printed law is true of all arguments. -/
namespace Go.Proofs.Ytoedcnhgobbnfaa.Pure
open Go.Proofs.Ytoedcnhgobbnfaa.All
open Go.RowKit Go.Proofs.YtoedcnhgobbnfaaW.PrintWords Go.Proofs.YtoedcnhgobbnfaaW.PrintLast Go.Proofs.YtoedcnhgobbnfaaW.PrintMore
set_option linter.unusedVariables false
set_option linter.unusedSimpArgs false
theorem FnExactFrontier (a0_0 : ByteArray) (a0_1 : Int) (l0_2 : List Int) (a0_3 : Int) (l0_4 : List S96) (a1 : Int) (h0 : a0_0.size ≤ 9223372036854775807) (_ : (Lit.int .i64 a0_1).wf = true) (h2 : l0_2.length ≤ 9223372036854775807 ∧ ∀ y ∈ l0_2, (Lit.int .i64 y).wf = true) (_ : (Lit.int .i64 a0_3).wf = true) (h4 : l0_4.length ≤ 9223372036854775807 ∧ ∀ y ∈ l0_4, ok96 y) (_ : (Lit.int .i64 a1).wf = true) :
    ∃ k, laws_FnExactFrontier.f k a0_0 a0_1 l0_2 a0_3 l0_4 a1 = some true := by
  refine Ev.rounds ?_
  obtain ⟨r, hr, hc⟩ := szFunc_f a0_0 a0_1 l0_2 a0_3 l0_4 h0 h2.1 (lBlockS_ok h4)
  unfold laws_FnExactFrontier.f
  refine Ev.bind hr ?_
  by_cases hneg : r < 0
  · exact Ev.pos hneg (Ev.now _)
  refine Ev.neg hneg ?_
  have hs : a0_0.size + l0_2.length + sBlockS l0_4 ≤ 1048576 := by omega
  have ht := toFunc_f a0_0 a0_1 l0_2 a0_3 l0_4 hs
  have hb := bBlock_of l0_4 (by omega)
  have hc := cnt_of_s l0_4
  have hl : (l0_4.map iBlock).length ≤ 1048576 := by rw [List.length_map]; unfold sBlockS at hs; omega
  have hg : gOk (l0_4.map iBlock) := ⟨hl, hb⟩
  have hu : (frontOf (l0_4.map iBlock) a1).length ≤ 1048576 := Nat.le_trans (frontOf_len (l0_4.map iBlock) a1) hg.1
  have hS := specFrontier_f a0_0 a0_1 l0_2 a0_3 (l0_4.map iBlock) a1 hg
  have hI := implFrontier_f a0_0 a0_1 l0_2 a0_3 (l0_4.map iBlock) a1 hg
  generalize frontOf (l0_4.map iBlock) a1 = y at hS hI hu
  have hE := eqInt64S_f y (by omega)
  have hM := markInt64S_f y (by omega)
  have hH := heldInt64S_f y.length (by omega)
  have hF := eqFunc_f a0_0 a0_1 l0_2 a0_3 (l0_4.map iBlock) (by omega) hl hb
  have hK : laws_markFunc.f a0_0 a0_1 l0_2 a0_3 (l0_4.map iBlock) 1 = some ((1 : Int) + (cntL_int64 l0_2 : Nat) + (cntL_Block (l0_4.map iBlock) : Nat)) := by
    have e : cntL_int64 l0_2 = l0_2.length := rfl
    unfold laws_markFunc.f
    rw [if_pos (by omega), if_pos (by omega)]
  refine Ev.bind ht (Ev.bind hS (Ev.bind ht (Ev.bind hI (Ev.bind hE (Ev.pos rfl (Ev.bind ht (Ev.bind hF (Ev.pos rfl (Ev.eq_bind hK (Ev.neg (by omega) (Ev.bind hE ?_)))))))))))
  refine Ev.succ ?_
  simp only [laws_FnExactFrontier.j0]
  refine Ev.neg (by simp) (Ev.bind hM (Ev.bind hH (Ev.neg (by omega) (Ev.pos rfl ?_))))
  refine Ev.bind ht (Ev.bind hI (Ev.bind hE (Ev.pos rfl (Ev.bind hH ?_))))
  exact Ev.neg (by omega) (Ev.pos rfl (Ev.now _))
end Go.Proofs.Ytoedcnhgobbnfaa.Pure

