/- Part 4 of the proof of FnExactDominates: functions of the translation with what they return, and plain laws of these. Written by programs of this session over the kit's print, and by hand. -/
import Derived.Test.YtoedcnhgobbnfaaProg
import Derived.Test.YtoedcnhgobbnfaaCFnExactDominatesWApart
import Derived.Test.YtoedcnhgobbnfaaCFnExactDominatesWArr
import Derived.Test.YtoedcnhgobbnfaaCFnExactDominatesWFoot
import Derived.Test.YtoedcnhgobbnfaaCFnExactDominatesWGuard
import Derived.Test.YtoedcnhgobbnfaaCFnExactDominatesWKept
import Derived.Test.YtoedcnhgobbnfaaCFnExactDominatesWLast
import Derived.Test.YtoedcnhgobbnfaaCFnExactDominatesWMore
import Derived.Test.YtoedcnhgobbnfaaCFnExactDominatesWN
import Derived.Test.YtoedcnhgobbnfaaCFnExactDominatesWNEv
import Derived.Test.YtoedcnhgobbnfaaCFnExactDominatesWQPut
import Derived.Test.YtoedcnhgobbnfaaCFnExactDominatesWRepsOne
import Derived.Test.YtoedcnhgobbnfaaCFnExactDominatesWShare
import Derived.Test.YtoedcnhgobbnfaaCFnExactDominatesWTab
import Derived.Test.YtoedcnhgobbnfaaCFnExactDominatesWWords
import Derived.Test.YtoedcnhgobbnfaaCFnExactDominatesWZeros
import Derived.Below
import Derived.Deep.Draws
import Derived.Deep.AppendLies
import Derived.Maps.AppendAt
import Derived.OwnWalk
import Derived.Laws.BytesArg
import Derived.Laws.MakeOwn
import Derived.Laws.OwnMore
import Derived.Deep.OwnRows
import Derived.Tactics
import Derived.Lib.ConvBytes
import Derived.Laws.Slices
import Derived.WalkKit
import Derived.KernelRfl
import Derived.RowKit3
import Derived.Deep.LoopGhost
import Derived.Deep.QuietTactic
import Derived.BigQuiet
import Derived.WideLaws
import Derived.Deep.DeepCutAuto
import Derived.Deep.CutBlock
import Derived.Deep.RegionHeld3
import Derived.Laws.Rows
import Derived.Lib.AppendStr
import Derived.ArgAppend
import Derived.Laws.IdiomCopy
import Derived.OrdersHeld
import Derived.Laws.BitsLemmas
import Derived.RowKit
import Derived.Maps.OwnSet
import Derived.Maps.OwnOps
import Derived.Deep.Slices
import Derived.ChangeArms
import Derived.ProofKit
import Derived.OpenShut
import Derived.ShutString
import Derived.ChangeOld
import Derived.SizedLaws
import Derived.Test.YtoedcnhgobbnfaaCFnExactDominates1
import Derived.Test.YtoedcnhgobbnfaaCFnExactDominates2
import Derived.Test.YtoedcnhgobbnfaaCFnExactDominates3
namespace Go.Proofs.Ytoedcnhgobbnfaa.All
open Go.RowKit Go.Proofs.YtoedcnhgobbnfaaW.PrintWords Go.Proofs.YtoedcnhgobbnfaaW.PrintLast Go.Proofs.YtoedcnhgobbnfaaW.PrintMore
attribute [local go_sem] max2_int min2_int max_two min_two max_three min_three max_four min_four   -- for this text's walks alone
set_option linter.unusedVariables false
set_option linter.unusedSimpArgs false

/-! ### laws_FnExactDominates: function 3 -/
def laws_FnExactDominates.f (k : Nat) (a0_0 : ByteArray) (a0_1 : Int) (l0_2 : List Int) (a0_3 : Int) (l0_4 : List (S96)) (a1 : Int) (a2 : Int) : Option (Bool) := (laws_szFunc.f k a0_0 a0_1 l0_2 a0_3 l0_4 1048576).bind fun t288 => (if t288 < 0 then (some true) else ((laws_toFunc.f k a0_0 a0_1 l0_2 a0_3 l0_4).bind fun bt289 => ((spec_Dominates.f k bt289.1 bt289.2.1 bt289.2.2.1 bt289.2.2.2.1 bt289.2.2.2.2 a1 a2).bind fun t298 => ((laws_toFunc.f k a0_0 a0_1 l0_2 a0_3 l0_4).bind fun bt299 => ((impl_Dominates.f k bt299.1 bt299.2.1 bt299.2.2.1 bt299.2.2.2.1 bt299.2.2.2.2 a1 a2).bind fun t309 => (if (t309 != t298) = true then (some false) else ((laws_toFunc.f k a0_0 a0_1 l0_2 a0_3 l0_4).bind fun bt310 => ((laws_eqFunc.f k bt299.1 bt299.2.1 bt299.2.2.1 bt299.2.2.2.1 bt299.2.2.2.2 bt310.1 bt310.2.1 bt310.2.2.1 bt310.2.2.2.1 bt310.2.2.2.2).bind fun t319 => (if t319 = true then (some true) else (some false))))))))))
set_option maxHeartbeats 8000000 in
set_option maxRecDepth 100000 in
theorem laws_FnExactDominates.calls (k : Nat) (a0_0 : ByteArray) (a0_1 : Int) (A0_2 : Option Addr) (c0_2 : Nat) (l0_2 : List Int) (a0_3 : Int) (A0_4 : Option Addr) (c0_4 : Nat) (l0_4 : List (S96)) (a1 : Int) (a2 : Int) (r : Bool) (w : World) (hr0_2 : Kd.C (Kd.int .i64) w A0_2 l0_2.length l0_2) (hc0_2 : l0_2.length ≤ c0_2) (hr0_4 : Kd.C k96 w A0_4 l0_4.length l0_4) (hc0_4 : l0_4.length ≤ c0_4) (h : laws_FnExactDominates.f k a0_0 a0_1 l0_2 a0_3 l0_4 a1 a2 = some r) :
 Calls Try.prog 3 #[.agg #[.string a0_0, .int .i64 a0_1, .slice A0_2 l0_2.length c0_2, .int .i64 a0_3, .slice A0_4 l0_4.length c0_4], .int .i64 a1, .int .i64 a2] w fun e w' => e = .returned (.bool r) ∧ Below w.heap.size w w' := by
 have hu25 := Try.underlying25
 have hu30 := Try.underlying30
 have HR0_2 := Aside0.mk hr0_2
 have HC0_2 := Aside0.mk hc0_2
 clear hr0_2 hc0_2
 have HR0_4 := Aside0.mk hr0_4
 have HC0_4 := Aside0.mk hc0_4
 clear hr0_4 hc0_4
 have HB := Aside0.mk (Below.refl w.heap.size w)
 have H : ((laws_szFunc.f k a0_0 a0_1 l0_2 a0_3 l0_4 1048576).bind fun t288 => (if t288 < 0 then (some true) else ((laws_toFunc.f k a0_0 a0_1 l0_2 a0_3 l0_4).bind fun bt289 => ((spec_Dominates.f k bt289.1 bt289.2.1 bt289.2.2.1 bt289.2.2.2.1 bt289.2.2.2.2 a1 a2).bind fun t298 => ((laws_toFunc.f k a0_0 a0_1 l0_2 a0_3 l0_4).bind fun bt299 => ((impl_Dominates.f k bt299.1 bt299.2.1 bt299.2.2.1 bt299.2.2.2.1 bt299.2.2.2.2 a1 a2).bind fun t309 => (if (t309 != t298) = true then (some false) else ((laws_toFunc.f k a0_0 a0_1 l0_2 a0_3 l0_4).bind fun bt310 => ((laws_eqFunc.f k bt299.1 bt299.2.1 bt299.2.2.1 bt299.2.2.2.1 bt299.2.2.2.2 bt310.1 bt310.2.1 bt310.2.2.1 bt310.2.2.2.1 bt310.2.2.2.2).bind fun t319 => (if t319 = true then (some true) else (some false))))))))))) = some r := h
 clear h
 replace H := Option.bind_eq_some_iff.mp H
 obtain ⟨t288, A40, H⟩ := H
 replace H : (if t288 < 0 then (some true) else ((laws_toFunc.f k a0_0 a0_1 l0_2 a0_3 l0_4).bind fun bt289 => ((spec_Dominates.f k bt289.1 bt289.2.1 bt289.2.2.1 bt289.2.2.2.1 bt289.2.2.2.2 a1 a2).bind fun t298 => ((laws_toFunc.f k a0_0 a0_1 l0_2 a0_3 l0_4).bind fun bt299 => ((impl_Dominates.f k bt299.1 bt299.2.1 bt299.2.2.1 bt299.2.2.2.1 bt299.2.2.2.2 a1 a2).bind fun t309 => (if (t309 != t298) = true then (some false) else ((laws_toFunc.f k a0_0 a0_1 l0_2 a0_3 l0_4).bind fun bt310 => ((laws_eqFunc.f k bt299.1 bt299.2.1 bt299.2.2.1 bt299.2.2.2.1 bt299.2.2.2.2 bt310.1 bt310.2.1 bt310.2.2.1 bt310.2.2.2.1 bt310.2.2.2.2).bind fun t319 => (if t319 = true then (some true) else (some false)))))))))) = some r := H
 have A4 := Aside0.mk A40
 clear A40
 by_cases c5 : t288 < 0
 · rw [if_pos c5] at H
   have c5b0 : decide (t288 < 0) = true := decide_eq_true c5
   clear c5
   obtain rfl := Option.some.inj H
   go_enter Try.func3, Try.ntmps3
   go_wp2_with (first | ((with_reducible refine gate_dst (N := 3) rfl ?_); refine box_event ?hg (N := 3) ?hd (cs := #[.string a0_0, .int .i64 a0_1, .slice A0_2 l0_2.length c0_2, .int .i64 a0_3, .slice A0_4 l0_4.length c0_4]) (t := 25) ?hr ?_; (case hd => rfl); (case hg => rfl); (case hr => first | (go_simp; done) | (go_simp; rfl)); intro gb287 hg w6 hbox hb; have n0_ := Aside0.mk (below_step (by repeat (first | (with_reducible first | exact HB.out | apply below_alloc | apply pw_below_drewN | apply below_drew1) | exact HB.out)) hb); have n1_ := Aside0.mk (hbox); have n2_ := Aside0.mk ((by rw [hg]; exact (below_size (by repeat (first | (with_reducible first | exact HB.out | apply below_alloc | apply pw_below_drewN | apply below_drew1) | exact HB.out))) : w.heap.size ≤ gb287)); have n3_ := Aside0.mk ((by rw [hg]; exact (below_size (by repeat (first | (with_reducible first | exact HB.out | apply below_alloc | apply pw_below_drewN | apply below_drew1) | exact HB.out))) : w.heap.size ≤ gb287)); clear HB; have HB := n0_; have BK287 := n1_; have GW287 := n2_; have GE287 := n3_; clear n0_ n1_ n2_ n3_; clear hb hbox hg; have hcz7_0 : w6.cell? ⟨gb287, 0, none⟩ = some (.string a0_0) := (blk_cell BK287.out 0).trans rfl; have hcz7_1 : w6.cell? ⟨gb287, 1, none⟩ = some (.int .i64 a0_1) := (blk_cell BK287.out 1).trans rfl; have hcz7_2 : w6.cell? ⟨gb287, 2, none⟩ = some (.slice A0_2 l0_2.length c0_2) := (blk_cell BK287.out 2).trans rfl; have hcz7_3 : w6.cell? ⟨gb287, 3, none⟩ = some (.int .i64 a0_3) := (blk_cell BK287.out 3).trans rfl; have hcz7_4 : w6.cell? ⟨gb287, 4, none⟩ = some (.slice A0_4 l0_4.length c0_4) := (blk_cell BK287.out 4).trans rfl; have hfz7_0 := blk_frozen BK287.out 0; have hfz7_1 := blk_frozen BK287.out 1; have hfz7_2 := blk_frozen BK287.out 2; have hfz7_3 := blk_frozen BK287.out 3; have hfz7_4 := blk_frozen BK287.out 4) | ((with_reducible refine gate_callee (f := 12) rfl ?_); refine goesL_ (some 13) rfl rfl Try.func12 (by kernel_rfl) rfl #[.agg #[.string a0_0, .int .i64 a0_1, .slice A0_2 l0_2.length c0_2, .int .i64 a0_3, .slice A0_4 l0_4.length c0_4], .int .i64 1048576] rfl (by (try simp only [List.map_toArray, List.map_cons, List.map_nil]); first | done | rfl | (simp only [List.length_drop, List.length_take]; rfl)) ?_; (with_reducible refine (laws_szFunc.calls k a0_0 a0_1 _ _ l0_2 a0_3 _ _ l0_4 1048576 t288 _ ?side1 ?side2 ?side3 ?side4 A4.out).mono ?_); (case side1 => repeat (first | exact (Kd.C_below HR0_2.out HB.out) | (with_reducible refine Kd.C_alloc ?_ _) | (with_reducible refine Kd.C_drewN ?_ _) | (with_reducible refine Kd.C_drew ?_))); (case side2 => exact HC0_2.out); (case side3 => repeat (first | exact (Kd.C_below HR0_4.out HB.out) | (with_reducible refine Kd.C_alloc ?_ _) | (with_reducible refine Kd.C_drewN ?_ _) | (with_reducible refine Kd.C_drew ?_))); (case side4 => exact HC0_4.out); rintro e w8 ⟨rfl, hb⟩; refine ⟨_, rfl, ?_⟩; have n0_ := Aside0.mk (blk_below (g := gb287) (o := .cells #[.string a0_0, .int .i64 a0_1, .slice A0_2 l0_2.length c0_2, .int .i64 a0_3, .slice A0_4 l0_4.length c0_4] 25 (0, 0)) (by (with_reducible repeat (first | refine blk_drewN ?_ _ | refine blk_drew ?_ | refine blk_alloc ?_ _)); exact BK287.out) hb); have n1_ := Aside0.mk (below_step (by repeat (first | (with_reducible first | exact HB.out | apply below_alloc | apply pw_below_drewN | apply below_drew1 | refine below_set ?_ GE287.out) | exact HB.out)) hb); clear BK287; clear HB; have BK287 := n0_; have HB := n1_; clear n0_ n1_; (try clear hb); (try clear hb2); (try clear hk); (try clear hi)))
   go_ret
   exact ⟨by first | rfl | (simp [errW_none, errW_some] <;> rfl) | (simp [*, errW_none, errW_some] <;> rfl), by repeat (first | (with_reducible first | exact HB.out | apply below_alloc | apply pw_below_drewN | apply below_drew1 | refine below_set ?_ GE287.out) | exact HB.out)⟩
 · rw [if_neg c5] at H
   have c5b0 : decide (t288 < 0) = false := decide_eq_false c5
   clear c5
   replace H := Option.bind_eq_some_iff.mp H
   obtain ⟨⟨t289, t290, t291, t294, t295⟩, A90, H⟩ := H
   replace H : ((spec_Dominates.f k t289 t290 t291 t294 t295 a1 a2).bind fun t298 => ((laws_toFunc.f k a0_0 a0_1 l0_2 a0_3 l0_4).bind fun bt299 => ((impl_Dominates.f k bt299.1 bt299.2.1 bt299.2.2.1 bt299.2.2.2.1 bt299.2.2.2.2 a1 a2).bind fun t309 => (if (t309 != t298) = true then (some false) else ((laws_toFunc.f k a0_0 a0_1 l0_2 a0_3 l0_4).bind fun bt310 => ((laws_eqFunc.f k bt299.1 bt299.2.1 bt299.2.2.1 bt299.2.2.2.1 bt299.2.2.2.2 bt310.1 bt310.2.1 bt310.2.2.1 bt310.2.2.2.1 bt310.2.2.2.2).bind fun t319 => (if t319 = true then (some true) else (some false)))))))) = some r := H
   have A9 := Aside0.mk A90
   clear A90
   replace H := Option.bind_eq_some_iff.mp H
   obtain ⟨t298, A100, H⟩ := H
   replace H : ((laws_toFunc.f k a0_0 a0_1 l0_2 a0_3 l0_4).bind fun bt299 => ((impl_Dominates.f k bt299.1 bt299.2.1 bt299.2.2.1 bt299.2.2.2.1 bt299.2.2.2.2 a1 a2).bind fun t309 => (if (t309 != t298) = true then (some false) else ((laws_toFunc.f k a0_0 a0_1 l0_2 a0_3 l0_4).bind fun bt310 => ((laws_eqFunc.f k bt299.1 bt299.2.1 bt299.2.2.1 bt299.2.2.2.1 bt299.2.2.2.2 bt310.1 bt310.2.1 bt310.2.2.1 bt310.2.2.2.1 bt310.2.2.2.2).bind fun t319 => (if t319 = true then (some true) else (some false))))))) = some r := H
   have A10 := Aside0.mk A100
   clear A100
   replace H := Option.bind_eq_some_iff.mp H
   obtain ⟨⟨t299, t300, t301, t304, t305⟩, A110, H⟩ := H
   replace H : ((impl_Dominates.f k t299 t300 t301 t304 t305 a1 a2).bind fun t309 => (if (t309 != t298) = true then (some false) else ((laws_toFunc.f k a0_0 a0_1 l0_2 a0_3 l0_4).bind fun bt310 => ((laws_eqFunc.f k t299 t300 t301 t304 t305 bt310.1 bt310.2.1 bt310.2.2.1 bt310.2.2.2.1 bt310.2.2.2.2).bind fun t319 => (if t319 = true then (some true) else (some false)))))) = some r := H
   have A11 := Aside0.mk A110
   clear A110
   replace H := Option.bind_eq_some_iff.mp H
   obtain ⟨t309, A120, H⟩ := H
   replace H : (if (t309 != t298) = true then (some false) else ((laws_toFunc.f k a0_0 a0_1 l0_2 a0_3 l0_4).bind fun bt310 => ((laws_eqFunc.f k t299 t300 t301 t304 t305 bt310.1 bt310.2.1 bt310.2.2.1 bt310.2.2.2.1 bt310.2.2.2.2).bind fun t319 => (if t319 = true then (some true) else (some false))))) = some r := H
   have A12 := Aside0.mk A120
   clear A120
   by_cases c13 : (t309 != t298) = true
   · rw [if_pos c13] at H
     have c13b0 : (t309 != t298) = true := c13
     (try (have c13b1 : decide (t309 = t298) = false := by simpa using c13))
     (try (have c13b2 : (t309 == t298) = false := by simpa using c13))
     (try (have c13b3 : ¬ (t309 = t298) := by simpa using c13))
     clear c13
     obtain rfl := Option.some.inj H
     go_enter Try.func3, Try.ntmps3
     go_wp2_with (first | ((with_reducible refine gate_dst (N := 3) rfl ?_); refine box_event ?hg (N := 3) ?hd (cs := #[.string a0_0, .int .i64 a0_1, .slice A0_2 l0_2.length c0_2, .int .i64 a0_3, .slice A0_4 l0_4.length c0_4]) (t := 25) ?hr ?_; (case hd => rfl); (case hg => rfl); (case hr => first | (go_simp; done) | (go_simp; rfl)); intro gb287 hg w14 hbox hb; have n0_ := Aside0.mk (below_step (by repeat (first | (with_reducible first | exact HB.out | apply below_alloc | apply pw_below_drewN | apply below_drew1) | exact HB.out)) hb); have n1_ := Aside0.mk (hbox); have n2_ := Aside0.mk ((by rw [hg]; exact (below_size (by repeat (first | (with_reducible first | exact HB.out | apply below_alloc | apply pw_below_drewN | apply below_drew1) | exact HB.out))) : w.heap.size ≤ gb287)); have n3_ := Aside0.mk ((by rw [hg]; exact (below_size (by repeat (first | (with_reducible first | exact HB.out | apply below_alloc | apply pw_below_drewN | apply below_drew1) | exact HB.out))) : w.heap.size ≤ gb287)); clear HB; have HB := n0_; have BK287 := n1_; have GW287 := n2_; have GE287 := n3_; clear n0_ n1_ n2_ n3_; clear hb hbox hg; have hcz15_0 : w14.cell? ⟨gb287, 0, none⟩ = some (.string a0_0) := (blk_cell BK287.out 0).trans rfl; have hcz15_1 : w14.cell? ⟨gb287, 1, none⟩ = some (.int .i64 a0_1) := (blk_cell BK287.out 1).trans rfl; have hcz15_2 : w14.cell? ⟨gb287, 2, none⟩ = some (.slice A0_2 l0_2.length c0_2) := (blk_cell BK287.out 2).trans rfl; have hcz15_3 : w14.cell? ⟨gb287, 3, none⟩ = some (.int .i64 a0_3) := (blk_cell BK287.out 3).trans rfl; have hcz15_4 : w14.cell? ⟨gb287, 4, none⟩ = some (.slice A0_4 l0_4.length c0_4) := (blk_cell BK287.out 4).trans rfl; have hfz15_0 := blk_frozen BK287.out 0; have hfz15_1 := blk_frozen BK287.out 1; have hfz15_2 := blk_frozen BK287.out 2; have hfz15_3 := blk_frozen BK287.out 3; have hfz15_4 := blk_frozen BK287.out 4) | ((with_reducible refine gate_callee (f := 12) rfl ?_); refine goesL_ (some 13) rfl rfl Try.func12 (by kernel_rfl) rfl #[.agg #[.string a0_0, .int .i64 a0_1, .slice A0_2 l0_2.length c0_2, .int .i64 a0_3, .slice A0_4 l0_4.length c0_4], .int .i64 1048576] rfl (by (try simp only [List.map_toArray, List.map_cons, List.map_nil]); first | done | rfl | (simp only [List.length_drop, List.length_take]; rfl)) ?_; (with_reducible refine (laws_szFunc.calls k a0_0 a0_1 _ _ l0_2 a0_3 _ _ l0_4 1048576 t288 _ ?side1 ?side2 ?side3 ?side4 A4.out).mono ?_); (case side1 => repeat (first | exact (Kd.C_below HR0_2.out HB.out) | (with_reducible refine Kd.C_alloc ?_ _) | (with_reducible refine Kd.C_drewN ?_ _) | (with_reducible refine Kd.C_drew ?_))); (case side2 => exact HC0_2.out); (case side3 => repeat (first | exact (Kd.C_below HR0_4.out HB.out) | (with_reducible refine Kd.C_alloc ?_ _) | (with_reducible refine Kd.C_drewN ?_ _) | (with_reducible refine Kd.C_drew ?_))); (case side4 => exact HC0_4.out); rintro e w16 ⟨rfl, hb⟩; refine ⟨_, rfl, ?_⟩; have n0_ := Aside0.mk (blk_below (g := gb287) (o := .cells #[.string a0_0, .int .i64 a0_1, .slice A0_2 l0_2.length c0_2, .int .i64 a0_3, .slice A0_4 l0_4.length c0_4] 25 (0, 0)) (by (with_reducible repeat (first | refine blk_drewN ?_ _ | refine blk_drew ?_ | refine blk_alloc ?_ _)); exact BK287.out) hb); have n1_ := Aside0.mk (below_step (by repeat (first | (with_reducible first | exact HB.out | apply below_alloc | apply pw_below_drewN | apply below_drew1 | refine below_set ?_ GE287.out) | exact HB.out)) hb); clear BK287; clear HB; have BK287 := n0_; have HB := n1_; clear n0_ n1_; (try clear hb); (try clear hb2); (try clear hk); (try clear hi); have hcz17_0 : w16.cell? ⟨gb287, 0, none⟩ = some (.string a0_0) := (blk_cell BK287.out 0).trans rfl; have hcz17_1 : w16.cell? ⟨gb287, 1, none⟩ = some (.int .i64 a0_1) := (blk_cell BK287.out 1).trans rfl; have hcz17_2 : w16.cell? ⟨gb287, 2, none⟩ = some (.slice A0_2 l0_2.length c0_2) := (blk_cell BK287.out 2).trans rfl; have hcz17_3 : w16.cell? ⟨gb287, 3, none⟩ = some (.int .i64 a0_3) := (blk_cell BK287.out 3).trans rfl; have hcz17_4 : w16.cell? ⟨gb287, 4, none⟩ = some (.slice A0_4 l0_4.length c0_4) := (blk_cell BK287.out 4).trans rfl; have hfz17_0 := blk_frozen BK287.out 0; have hfz17_1 := blk_frozen BK287.out 1; have hfz17_2 := blk_frozen BK287.out 2; have hfz17_3 := blk_frozen BK287.out 3; have hfz17_4 := blk_frozen BK287.out 4) | ((with_reducible refine gate_callee (f := 14) rfl ?_); refine goesL_ (some 17) rfl rfl Try.func14 (by kernel_rfl) rfl #[.agg #[.string a0_0, .int .i64 a0_1, .slice A0_2 l0_2.length c0_2, .int .i64 a0_3, .slice A0_4 l0_4.length c0_4]] rfl (by (try simp only [List.map_toArray, List.map_cons, List.map_nil]); first | done | rfl | (simp only [List.length_drop, List.length_take]; rfl)) ?_; (with_reducible refine (laws_toFunc.calls k a0_0 a0_1 _ _ l0_2 a0_3 _ _ l0_4 t289 t290 t291 t294 t295 _ ?side1 ?side2 ?side3 ?side4 A9.out).mono ?_); (case side1 => repeat (first | exact (Kd.C_below HR0_2.out HB.out) | (with_reducible refine Kd.C_alloc ?_ _) | (with_reducible refine Kd.C_drewN ?_ _) | (with_reducible refine Kd.C_drew ?_))); (case side2 => exact HC0_2.out); (case side3 => repeat (first | exact (Kd.C_below HR0_4.out HB.out) | (with_reducible refine Kd.C_alloc ?_ _) | (with_reducible refine Kd.C_drewN ?_ _) | (with_reducible refine Kd.C_drew ?_))); (case side4 => exact HC0_4.out); rintro e w18 ⟨v292, v296, rfl, ho0, ho1, hb⟩; refine ⟨_, rfl, ?_⟩; have n0_ := Aside0.mk (Kd.R_lower ho0 (below_size (by repeat (first | (with_reducible first | exact HB.out | apply below_alloc | apply pw_below_drewN | apply below_drew1 | refine below_set ?_ GE287.out) | exact HB.out)))); have n1_ := Aside0.mk (Kd.R_lower ho1 (below_size (by repeat (first | (with_reducible first | exact HB.out | apply below_alloc | apply pw_below_drewN | apply below_drew1 | refine below_set ?_ GE287.out) | exact HB.out)))); have n2_ := Aside0.mk (blk_below (g := gb287) (o := .cells #[.string a0_0, .int .i64 a0_1, .slice A0_2 l0_2.length c0_2, .int .i64 a0_3, .slice A0_4 l0_4.length c0_4] 25 (0, 0)) (by (with_reducible repeat (first | refine blk_drewN ?_ _ | refine blk_drew ?_ | refine blk_alloc ?_ _)); exact BK287.out) hb); have n3_ := Aside0.mk (below_step (by repeat (first | (with_reducible first | exact HB.out | apply below_alloc | apply pw_below_drewN | apply below_drew1 | refine below_set ?_ GE287.out) | exact HB.out)) hb); clear BK287; clear HB; have HO293 := n0_; have HO297 := n1_; have BK287 := n2_; have HB := n3_; clear n0_ n1_ n2_ n3_; (try clear hb); (try clear hb2); (try clear hk); (try clear hi); (try clear ho0); (try clear ho1); obtain ⟨Ao19, co19, eo19⟩ := Kd.R_slice HO293.out; subst eo19; obtain ⟨Ao20, co20, eo20⟩ := Kd.R_slice HO297.out; subst eo20) | ((with_reducible refine gate_callee (f := 13) rfl ?_); refine goesL_ (some 20) rfl rfl Try.func13 (by kernel_rfl) rfl #[.agg #[.string t289, .int .i64 t290, .slice Ao19 t291.length co19, .int .i64 t294, .slice Ao20 t295.length co20], .int .i64 a1, .int .i64 a2] rfl (by (try simp only [List.map_toArray, List.map_cons, List.map_nil]); first | done | rfl | (simp only [List.length_drop, List.length_take]; rfl)) ?_; (with_reducible refine (spec_Dominates.calls k t289 t290 _ _ t291 t294 _ _ t295 a1 a2 t298 _ ?side1 ?side2 ?side3 ?side4 A10.out).mono ?_); (case side1 => repeat (first | exact (Kd.R_reads' HO293.out).2.2 | (with_reducible refine Kd.C_alloc ?_ _) | (with_reducible refine Kd.C_drewN ?_ _) | (with_reducible refine Kd.C_drew ?_))); (case side2 => exact (Kd.R_reads' HO293.out).2.1); (case side3 => repeat (first | exact (Kd.R_reads' HO297.out).2.2 | (with_reducible refine Kd.C_alloc ?_ _) | (with_reducible refine Kd.C_drewN ?_ _) | (with_reducible refine Kd.C_drew ?_))); (case side4 => exact (Kd.R_reads' HO297.out).2.1); rintro e w21 ⟨rfl, hb⟩; refine ⟨_, rfl, ?_⟩; have n0_ := Aside0.mk (Kd.R_below (by (with_reducible repeat (first | apply Kd.R_alloc | apply Kd.R_drewN | apply Kd.R_drew)); exact HO293.out) hb); have n1_ := Aside0.mk (Kd.R_below (by (with_reducible repeat (first | apply Kd.R_alloc | apply Kd.R_drewN | apply Kd.R_drew)); exact HO297.out) hb); have n2_ := Aside0.mk (blk_below (g := gb287) (o := .cells #[.string a0_0, .int .i64 a0_1, .slice A0_2 l0_2.length c0_2, .int .i64 a0_3, .slice A0_4 l0_4.length c0_4] 25 (0, 0)) (by (with_reducible repeat (first | refine blk_drewN ?_ _ | refine blk_drew ?_ | refine blk_alloc ?_ _)); exact BK287.out) hb); have n3_ := Aside0.mk (below_step (by repeat (first | (with_reducible first | exact HB.out | apply below_alloc | apply pw_below_drewN | apply below_drew1 | refine below_set ?_ GE287.out) | exact HB.out)) hb); clear HO293; clear HO297; clear BK287; clear HB; have HO293 := n0_; have HO297 := n1_; have BK287 := n2_; have HB := n3_; clear n0_ n1_ n2_ n3_; (try clear hb); (try clear hb2); (try clear hk); (try clear hi); have hcz22_0 : w21.cell? ⟨gb287, 0, none⟩ = some (.string a0_0) := (blk_cell BK287.out 0).trans rfl; have hcz22_1 : w21.cell? ⟨gb287, 1, none⟩ = some (.int .i64 a0_1) := (blk_cell BK287.out 1).trans rfl; have hcz22_2 : w21.cell? ⟨gb287, 2, none⟩ = some (.slice A0_2 l0_2.length c0_2) := (blk_cell BK287.out 2).trans rfl; have hcz22_3 : w21.cell? ⟨gb287, 3, none⟩ = some (.int .i64 a0_3) := (blk_cell BK287.out 3).trans rfl; have hcz22_4 : w21.cell? ⟨gb287, 4, none⟩ = some (.slice A0_4 l0_4.length c0_4) := (blk_cell BK287.out 4).trans rfl; have hfz22_0 := blk_frozen BK287.out 0; have hfz22_1 := blk_frozen BK287.out 1; have hfz22_2 := blk_frozen BK287.out 2; have hfz22_3 := blk_frozen BK287.out 3; have hfz22_4 := blk_frozen BK287.out 4) | ((with_reducible refine gate_callee (f := 14) rfl ?_); refine goesL_ (some 22) rfl rfl Try.func14 (by kernel_rfl) rfl #[.agg #[.string a0_0, .int .i64 a0_1, .slice A0_2 l0_2.length c0_2, .int .i64 a0_3, .slice A0_4 l0_4.length c0_4]] rfl (by (try simp only [List.map_toArray, List.map_cons, List.map_nil]); first | done | rfl | (simp only [List.length_drop, List.length_take]; rfl)) ?_; (with_reducible refine (laws_toFunc.calls k a0_0 a0_1 _ _ l0_2 a0_3 _ _ l0_4 t299 t300 t301 t304 t305 _ ?side1 ?side2 ?side3 ?side4 A11.out).mono ?_); (case side1 => repeat (first | exact (Kd.C_below HR0_2.out HB.out) | (with_reducible refine Kd.C_alloc ?_ _) | (with_reducible refine Kd.C_drewN ?_ _) | (with_reducible refine Kd.C_drew ?_))); (case side2 => exact HC0_2.out); (case side3 => repeat (first | exact (Kd.C_below HR0_4.out HB.out) | (with_reducible refine Kd.C_alloc ?_ _) | (with_reducible refine Kd.C_drewN ?_ _) | (with_reducible refine Kd.C_drew ?_))); (case side4 => exact HC0_4.out); rintro e w23 ⟨v302, v306, rfl, ho0, ho1, hb⟩; refine ⟨_, rfl, ?_⟩; have n0_ := Aside0.mk (Kd.R_elder' (by (with_reducible repeat (first | apply Kd.R_alloc | apply Kd.R_drewN | apply Kd.R_drew)); exact HO293.out) (Kd.R_base ho0) hb); have n1_ := Aside0.mk (Kd.R_mono (Kd.R_told (Kd.R_told (Kd.R_old (by (with_reducible repeat (first | apply Kd.R_alloc | apply Kd.R_drewN | apply Kd.R_drew)); exact HO297.out) hb) (Kd.R_base ho0)) (Kd.R_base ho1)) (fun _ h_ => h_.1)); have n2_ := Aside0.mk (Kd.R_lower (Kd.R_new' ho0 (Kd.R_lt (by (with_reducible repeat (first | apply Kd.R_alloc | apply Kd.R_drewN | apply Kd.R_drew)); exact HO293.out))) (below_size (by repeat (first | (with_reducible first | exact HB.out | apply below_alloc | apply pw_below_drewN | apply below_drew1 | refine below_set ?_ GE287.out) | exact HB.out)))); have n3_ := Aside0.mk (Kd.R_lower (Kd.R_new' (Kd.R_new' ho1 (Kd.R_lt (by (with_reducible repeat (first | apply Kd.R_alloc | apply Kd.R_drewN | apply Kd.R_drew)); exact HO293.out))) (Kd.R_lt (by (with_reducible repeat (first | apply Kd.R_alloc | apply Kd.R_drewN | apply Kd.R_drew)); exact HO297.out))) (below_size (by repeat (first | (with_reducible first | exact HB.out | apply below_alloc | apply pw_below_drewN | apply below_drew1 | refine below_set ?_ GE287.out) | exact HB.out)))); have n4_ := Aside0.mk (blk_below (g := gb287) (o := .cells #[.string a0_0, .int .i64 a0_1, .slice A0_2 l0_2.length c0_2, .int .i64 a0_3, .slice A0_4 l0_4.length c0_4] 25 (0, 0)) (by (with_reducible repeat (first | refine blk_drewN ?_ _ | refine blk_drew ?_ | refine blk_alloc ?_ _)); exact BK287.out) hb); have n5_ := Aside0.mk (below_step (by repeat (first | (with_reducible first | exact HB.out | apply below_alloc | apply pw_below_drewN | apply below_drew1 | refine below_set ?_ GE287.out) | exact HB.out)) hb); clear HO293; clear HO297; clear BK287; clear HB; have HO293 := n0_; have HO297 := n1_; have HO303 := n2_; have HO307 := n3_; have BK287 := n4_; have HB := n5_; clear n0_ n1_ n2_ n3_ n4_ n5_; (try clear hb); (try clear hb2); (try clear hk); (try clear hi); (try clear ho0); (try clear ho1)) | ((with_reducible refine gate_dst (N := 9) rfl ?_); refine box_event ?hg (N := 9) ?hd (cs := #[.string (⟨#[]⟩ : ByteArray), .int .i64 0, .slice none 0 0, .int .i64 0, .slice none 0 0]) (t := 30) ?hr ?_; (case hd => rfl); (case hg => rfl); (case hr => first | (go_simp; done) | (go_simp; rfl)); intro gb308 hg w24 hbox hb; have n0_ := Aside0.mk (Kd.R_below (by (with_reducible repeat (first | apply Kd.R_alloc | apply Kd.R_drewN | apply Kd.R_drew)); exact HO293.out) hb); have n1_ := Aside0.mk (Kd.R_below (by (with_reducible repeat (first | apply Kd.R_alloc | apply Kd.R_drewN | apply Kd.R_drew)); exact HO297.out) hb); have n2_ := Aside0.mk (Kd.R_below (by (with_reducible repeat (first | apply Kd.R_alloc | apply Kd.R_drewN | apply Kd.R_drew)); exact HO303.out) hb); have n3_ := Aside0.mk (Kd.R_below (by (with_reducible repeat (first | apply Kd.R_alloc | apply Kd.R_drewN | apply Kd.R_drew)); exact HO307.out) hb); have n4_ := Aside0.mk (blk_below (g := gb287) (o := .cells #[.string a0_0, .int .i64 a0_1, .slice A0_2 l0_2.length c0_2, .int .i64 a0_3, .slice A0_4 l0_4.length c0_4] 25 (0, 0)) (by (with_reducible repeat (first | refine blk_drewN ?_ _ | refine blk_drew ?_ | refine blk_alloc ?_ _)); exact BK287.out) hb); have n5_ := Aside0.mk (below_step (by repeat (first | (with_reducible first | exact HB.out | apply below_alloc | apply pw_below_drewN | apply below_drew1 | refine below_set ?_ GE287.out) | exact HB.out)) hb); have n6_ := Aside0.mk (hbox); have n7_ := Aside0.mk ((by rw [hg]; exact (below_size (by repeat (first | (with_reducible first | exact HB.out | apply below_alloc | apply pw_below_drewN | apply below_drew1 | refine below_set ?_ GE287.out) | exact HB.out))) : w.heap.size ≤ gb308)); have n8_ := Aside0.mk ((by rw [hg]; exact (below_size (by repeat (first | (with_reducible first | exact HB.out | apply below_alloc | apply pw_below_drewN | apply below_drew1 | refine below_set ?_ GE287.out) | exact HB.out))) : w.heap.size ≤ gb308)); have n9_ := Aside0.mk ((by rw [hg]; exact Nat.ne_of_lt (blk_lt (g := gb287) (o := .cells #[.string a0_0, .int .i64 a0_1, .slice A0_2 l0_2.length c0_2, .int .i64 a0_3, .slice A0_4 l0_4.length c0_4] 25 (0, 0)) (by (with_reducible repeat (first | refine blk_drewN ?_ _ | refine blk_drew ?_ | refine blk_alloc ?_ _)); exact BK287.out)) : gb287 ≠ gb308)); have n10_ := Aside0.mk ((by rw [hg]; exact Nat.ne_of_gt (blk_lt (g := gb287) (o := .cells #[.string a0_0, .int .i64 a0_1, .slice A0_2 l0_2.length c0_2, .int .i64 a0_3, .slice A0_4 l0_4.length c0_4] 25 (0, 0)) (by (with_reducible repeat (first | refine blk_drewN ?_ _ | refine blk_drew ?_ | refine blk_alloc ?_ _)); exact BK287.out)) : gb308 ≠ gb287)); clear HO293; clear HO297; clear HO303; clear HO307; clear BK287; clear HB; have HO293 := n0_; have HO297 := n1_; have HO303 := n2_; have HO307 := n3_; have BK287 := n4_; have HB := n5_; have BK308 := n6_; have GW308 := n7_; have GE308 := n8_; have NB287_308 := n9_; have NB308_287 := n10_; clear n0_ n1_ n2_ n3_ n4_ n5_ n6_ n7_ n8_ n9_ n10_; clear hb hbox hg; have hnb25 := NB308_287.out; have hnc25 := NB287_308.out; have hcz26_0 : w24.cell? ⟨gb308, 0, none⟩ = some (.string (⟨#[]⟩ : ByteArray)) := (blk_cell BK308.out 0).trans rfl; have hcz26_1 : w24.cell? ⟨gb308, 1, none⟩ = some (.int .i64 0) := (blk_cell BK308.out 1).trans rfl; have hcz26_2 : w24.cell? ⟨gb308, 2, none⟩ = some (.slice none 0 0) := (blk_cell BK308.out 2).trans rfl; have hcz26_3 : w24.cell? ⟨gb308, 3, none⟩ = some (.int .i64 0) := (blk_cell BK308.out 3).trans rfl; have hcz26_4 : w24.cell? ⟨gb308, 4, none⟩ = some (.slice none 0 0) := (blk_cell BK308.out 4).trans rfl; have hfz26_0 := blk_frozen BK308.out 0; have hfz26_1 := blk_frozen BK308.out 1; have hfz26_2 := blk_frozen BK308.out 2; have hfz26_3 := blk_frozen BK308.out 3; have hfz26_4 := blk_frozen BK308.out 4; obtain ⟨Ao27, co27, eo27⟩ := Kd.R_slice HO303.out; subst eo27; obtain ⟨Ao28, co28, eo28⟩ := Kd.R_slice HO307.out; subst eo28) | ((with_reducible refine gate_callee (f := 15) rfl ?_); refine goesL_ (some 26) rfl rfl Try.func15 (by kernel_rfl) rfl #[.agg #[.string t299, .int .i64 t300, .slice Ao27 t301.length co27, .int .i64 t304, .slice Ao28 t305.length co28], .int .i64 a1, .int .i64 a2] rfl (by (try simp only [List.map_toArray, List.map_cons, List.map_nil]); first | done | rfl | (simp only [List.length_drop, List.length_take]; rfl)) ?_; (with_reducible refine (impl_Dominates.calls k t299 t300 _ _ t301 t304 _ _ t305 a1 a2 t309 _ ?side1 ?side2 ?side3 ?side4 A12.out).mono ?_); (case side1 => refine (Kd.R_reads' (e := 2) (base := w.heap.size) (ok := fun k_ => (True ∧ some k_ ≠ (.slice Ao19 t291.length co19 : Value).ownBlock)) (n := t301.length) (c := co27) ?_).2.2; exact (by (with_reducible repeat (first | apply Kd.R_alloc | apply Kd.R_drewN | apply Kd.R_drew)); exact (Kd.R_mono (Kd.R_far (p := ⟨gb308, 4, none⟩) (Kd.R_far (p := ⟨gb308, 3, none⟩) (Kd.R_far (p := ⟨gb308, 2, none⟩) (Kd.R_far (p := ⟨gb308, 1, none⟩) (Kd.R_far (p := ⟨gb308, 0, none⟩) (Kd.R_types HO303.out BK308.out (by decide)) (fun _ hk => hk.2) (.string t299)) (fun _ hk => hk.2) (.int .i64 t300)) (fun _ hk => hk.2) (.slice Ao27 t301.length co27)) (fun _ hk => hk.2) (.int .i64 t304)) (fun _ hk => hk.2) (.slice Ao28 t305.length co28)) (fun _ h_ => h_.1)))); (case side2 => exact (Kd.R_reads' HO303.out).2.1); (case side3 => refine (Kd.R_reads' (e := 62) (base := w.heap.size) (ok := fun k_ => ((some k_ ≠ (.slice Ao27 t301.length co27 : Value).ownBlock ∧ some k_ ≠ (.slice Ao19 t291.length co19 : Value).ownBlock) ∧ some k_ ≠ (.slice Ao20 t295.length co20 : Value).ownBlock)) (n := t305.length) (c := co28) ?_).2.2; exact (by (with_reducible repeat (first | apply Kd.R_alloc | apply Kd.R_drewN | apply Kd.R_drew)); exact (Kd.R_mono (Kd.R_far (p := ⟨gb308, 4, none⟩) (Kd.R_far (p := ⟨gb308, 3, none⟩) (Kd.R_far (p := ⟨gb308, 2, none⟩) (Kd.R_far (p := ⟨gb308, 1, none⟩) (Kd.R_far (p := ⟨gb308, 0, none⟩) (Kd.R_types HO307.out BK308.out (by decide)) (fun _ hk => hk.2) (.string t299)) (fun _ hk => hk.2) (.int .i64 t300)) (fun _ hk => hk.2) (.slice Ao27 t301.length co27)) (fun _ hk => hk.2) (.int .i64 t304)) (fun _ hk => hk.2) (.slice Ao28 t305.length co28)) (fun _ h_ => h_.1)))); (case side4 => exact (Kd.R_reads' HO307.out).2.1); rintro e w29 ⟨rfl, hb⟩; refine ⟨_, rfl, ?_⟩; have n0_ := Aside0.mk (Kd.R_below (by (with_reducible repeat (first | apply Kd.R_alloc | apply Kd.R_drewN | apply Kd.R_drew)); exact (Kd.R_mono (Kd.R_far (p := ⟨gb308, 4, none⟩) (Kd.R_far (p := ⟨gb308, 3, none⟩) (Kd.R_far (p := ⟨gb308, 2, none⟩) (Kd.R_far (p := ⟨gb308, 1, none⟩) (Kd.R_far (p := ⟨gb308, 0, none⟩) (Kd.R_types HO293.out BK308.out (by decide)) (fun _ hk => hk.2) (.string t299)) (fun _ hk => hk.2) (.int .i64 t300)) (fun _ hk => hk.2) (.slice Ao27 t301.length co27)) (fun _ hk => hk.2) (.int .i64 t304)) (fun _ hk => hk.2) (.slice Ao28 t305.length co28)) (fun _ h_ => h_.1))) hb); have n1_ := Aside0.mk (Kd.R_below (by (with_reducible repeat (first | apply Kd.R_alloc | apply Kd.R_drewN | apply Kd.R_drew)); exact (Kd.R_mono (Kd.R_far (p := ⟨gb308, 4, none⟩) (Kd.R_far (p := ⟨gb308, 3, none⟩) (Kd.R_far (p := ⟨gb308, 2, none⟩) (Kd.R_far (p := ⟨gb308, 1, none⟩) (Kd.R_far (p := ⟨gb308, 0, none⟩) (Kd.R_types HO297.out BK308.out (by decide)) (fun _ hk => hk.2) (.string t299)) (fun _ hk => hk.2) (.int .i64 t300)) (fun _ hk => hk.2) (.slice Ao27 t301.length co27)) (fun _ hk => hk.2) (.int .i64 t304)) (fun _ hk => hk.2) (.slice Ao28 t305.length co28)) (fun _ h_ => h_.1))) hb); have n2_ := Aside0.mk (Kd.R_below (by (with_reducible repeat (first | apply Kd.R_alloc | apply Kd.R_drewN | apply Kd.R_drew)); exact (Kd.R_mono (Kd.R_far (p := ⟨gb308, 4, none⟩) (Kd.R_far (p := ⟨gb308, 3, none⟩) (Kd.R_far (p := ⟨gb308, 2, none⟩) (Kd.R_far (p := ⟨gb308, 1, none⟩) (Kd.R_far (p := ⟨gb308, 0, none⟩) (Kd.R_types HO303.out BK308.out (by decide)) (fun _ hk => hk.2) (.string t299)) (fun _ hk => hk.2) (.int .i64 t300)) (fun _ hk => hk.2) (.slice Ao27 t301.length co27)) (fun _ hk => hk.2) (.int .i64 t304)) (fun _ hk => hk.2) (.slice Ao28 t305.length co28)) (fun _ h_ => h_.1))) hb); have n3_ := Aside0.mk (Kd.R_below (by (with_reducible repeat (first | apply Kd.R_alloc | apply Kd.R_drewN | apply Kd.R_drew)); exact (Kd.R_mono (Kd.R_far (p := ⟨gb308, 4, none⟩) (Kd.R_far (p := ⟨gb308, 3, none⟩) (Kd.R_far (p := ⟨gb308, 2, none⟩) (Kd.R_far (p := ⟨gb308, 1, none⟩) (Kd.R_far (p := ⟨gb308, 0, none⟩) (Kd.R_types HO307.out BK308.out (by decide)) (fun _ hk => hk.2) (.string t299)) (fun _ hk => hk.2) (.int .i64 t300)) (fun _ hk => hk.2) (.slice Ao27 t301.length co27)) (fun _ hk => hk.2) (.int .i64 t304)) (fun _ hk => hk.2) (.slice Ao28 t305.length co28)) (fun _ h_ => h_.1))) hb); have n4_ := Aside0.mk (blk_below (g := gb287) (o := .cells #[.string a0_0, .int .i64 a0_1, .slice A0_2 l0_2.length c0_2, .int .i64 a0_3, .slice A0_4 l0_4.length c0_4] 25 (0, 0)) (by (with_reducible repeat (first | refine blk_drewN ?_ _ | refine blk_drew ?_ | refine blk_alloc ?_ _)); refine blk_far ?_ NB287_308.out _; (with_reducible repeat (first | refine blk_drewN ?_ _ | refine blk_drew ?_ | refine blk_alloc ?_ _)); refine blk_far ?_ NB287_308.out _; (with_reducible repeat (first | refine blk_drewN ?_ _ | refine blk_drew ?_ | refine blk_alloc ?_ _)); refine blk_far ?_ NB287_308.out _; (with_reducible repeat (first | refine blk_drewN ?_ _ | refine blk_drew ?_ | refine blk_alloc ?_ _)); refine blk_far ?_ NB287_308.out _; (with_reducible repeat (first | refine blk_drewN ?_ _ | refine blk_drew ?_ | refine blk_alloc ?_ _)); refine blk_far ?_ NB287_308.out _; (with_reducible repeat (first | refine blk_drewN ?_ _ | refine blk_drew ?_ | refine blk_alloc ?_ _)); exact BK287.out) hb); have n5_ := Aside0.mk (blk_below (g := gb308) (o := .cells #[.string t299, .int .i64 t300, .slice Ao27 t301.length co27, .int .i64 t304, .slice Ao28 t305.length co28] 30 (0, 0)) (by (with_reducible repeat (first | refine blk_drewN ?_ _ | refine blk_drew ?_ | refine blk_alloc ?_ _)); refine blk_put (cs := #[.string t299, .int .i64 t300, .slice Ao27 t301.length co27, .int .i64 t304, .slice none 0 0]) ?_ 4 _ rfl; (with_reducible repeat (first | refine blk_drewN ?_ _ | refine blk_drew ?_ | refine blk_alloc ?_ _)); refine blk_put (cs := #[.string t299, .int .i64 t300, .slice Ao27 t301.length co27, .int .i64 0, .slice none 0 0]) ?_ 3 _ rfl; (with_reducible repeat (first | refine blk_drewN ?_ _ | refine blk_drew ?_ | refine blk_alloc ?_ _)); refine blk_put (cs := #[.string t299, .int .i64 t300, .slice none 0 0, .int .i64 0, .slice none 0 0]) ?_ 2 _ rfl; (with_reducible repeat (first | refine blk_drewN ?_ _ | refine blk_drew ?_ | refine blk_alloc ?_ _)); refine blk_put (cs := #[.string t299, .int .i64 0, .slice none 0 0, .int .i64 0, .slice none 0 0]) ?_ 1 _ rfl; (with_reducible repeat (first | refine blk_drewN ?_ _ | refine blk_drew ?_ | refine blk_alloc ?_ _)); refine blk_put (cs := #[.string (⟨#[]⟩ : ByteArray), .int .i64 0, .slice none 0 0, .int .i64 0, .slice none 0 0]) ?_ 0 _ rfl; (with_reducible repeat (first | refine blk_drewN ?_ _ | refine blk_drew ?_ | refine blk_alloc ?_ _)); exact BK308.out) hb); have n6_ := Aside0.mk (below_step (by repeat (first | (with_reducible first | exact HB.out | apply below_alloc | apply pw_below_drewN | apply below_drew1 | refine below_set ?_ GE287.out | refine below_set ?_ GE308.out) | exact HB.out)) hb); clear HO293; clear HO297; clear HO303; clear HO307; clear BK287; clear BK308; clear HB; have HO293 := n0_; have HO297 := n1_; have HO303 := n2_; have HO307 := n3_; have BK287 := n4_; have BK308 := n5_; have HB := n6_; clear n0_ n1_ n2_ n3_ n4_ n5_ n6_; (try clear hb); (try clear hb2); (try clear hk); (try clear hi)))
     go_ret
     exact ⟨by first | rfl | (simp [errW_none, errW_some] <;> rfl) | (simp [*, errW_none, errW_some] <;> rfl), by repeat (first | (with_reducible first | exact HB.out | apply below_alloc | apply pw_below_drewN | apply below_drew1 | refine below_set ?_ GE287.out | refine below_set ?_ GE308.out) | exact HB.out)⟩
   · rw [if_neg c13] at H
     have c13b0 : (t309 != t298) = false := by simpa using c13
     (try (have c13b1 : decide (t309 = t298) = true := by simpa using c13))
     (try (have c13b2 : (t309 == t298) = true := by simpa using c13))
     clear c13
     replace H := Option.bind_eq_some_iff.mp H
     obtain ⟨⟨t310, t311, t312, t315, t316⟩, A300, H⟩ := H
     replace H : ((laws_eqFunc.f k t299 t300 t301 t304 t305 t310 t311 t312 t315 t316).bind fun t319 => (if t319 = true then (some true) else (some false))) = some r := H
     have A30 := Aside0.mk A300
     clear A300
     replace H := Option.bind_eq_some_iff.mp H
     obtain ⟨t319, A310, H⟩ := H
     replace H : (if t319 = true then (some true) else (some false)) = some r := H
     have A31 := Aside0.mk A310
     clear A310
     by_cases c32 : t319 = true
     · subst c32
       have H1 : (some true) = some r := by rw [if_pos rfl] at H; exact H
       clear H
       have H := H1
       clear H1
       obtain rfl := Option.some.inj H
       go_enter Try.func3, Try.ntmps3
       try go_wp2_with (first | ((with_reducible refine gate_dst (N := 3) rfl ?_); refine box_event ?hg (N := 3) ?hd (cs := #[.string a0_0, .int .i64 a0_1, .slice A0_2 l0_2.length c0_2, .int .i64 a0_3, .slice A0_4 l0_4.length c0_4]) (t := 25) ?hr ?_; (case hd => rfl); (case hg => rfl); (case hr => first | (go_simp; done) | (go_simp; rfl)); intro gb287 hg w33 hbox hb; have n0_ := Aside0.mk (below_step (by repeat (first | (with_reducible first | exact HB.out | apply below_alloc | apply pw_below_drewN | apply below_drew1) | exact HB.out)) hb); have n1_ := Aside0.mk (hbox); have n2_ := Aside0.mk ((by rw [hg]; exact (below_size (by repeat (first | (with_reducible first | exact HB.out | apply below_alloc | apply pw_below_drewN | apply below_drew1) | exact HB.out))) : w.heap.size ≤ gb287)); have n3_ := Aside0.mk ((by rw [hg]; exact (below_size (by repeat (first | (with_reducible first | exact HB.out | apply below_alloc | apply pw_below_drewN | apply below_drew1) | exact HB.out))) : w.heap.size ≤ gb287)); clear HB; have HB := n0_; have BK287 := n1_; have GW287 := n2_; have GE287 := n3_; clear n0_ n1_ n2_ n3_; clear hb hbox hg; have hcz34_0 : w33.cell? ⟨gb287, 0, none⟩ = some (.string a0_0) := (blk_cell BK287.out 0).trans rfl; have hcz34_1 : w33.cell? ⟨gb287, 1, none⟩ = some (.int .i64 a0_1) := (blk_cell BK287.out 1).trans rfl; have hcz34_2 : w33.cell? ⟨gb287, 2, none⟩ = some (.slice A0_2 l0_2.length c0_2) := (blk_cell BK287.out 2).trans rfl; have hcz34_3 : w33.cell? ⟨gb287, 3, none⟩ = some (.int .i64 a0_3) := (blk_cell BK287.out 3).trans rfl; have hcz34_4 : w33.cell? ⟨gb287, 4, none⟩ = some (.slice A0_4 l0_4.length c0_4) := (blk_cell BK287.out 4).trans rfl; have hfz34_0 := blk_frozen BK287.out 0; have hfz34_1 := blk_frozen BK287.out 1; have hfz34_2 := blk_frozen BK287.out 2; have hfz34_3 := blk_frozen BK287.out 3; have hfz34_4 := blk_frozen BK287.out 4) | ((with_reducible refine gate_callee (f := 12) rfl ?_); refine goesL_ (some 13) rfl rfl Try.func12 (by kernel_rfl) rfl #[.agg #[.string a0_0, .int .i64 a0_1, .slice A0_2 l0_2.length c0_2, .int .i64 a0_3, .slice A0_4 l0_4.length c0_4], .int .i64 1048576] rfl (by (try simp only [List.map_toArray, List.map_cons, List.map_nil]); first | done | rfl | (simp only [List.length_drop, List.length_take]; rfl)) ?_; (with_reducible refine (laws_szFunc.calls k a0_0 a0_1 _ _ l0_2 a0_3 _ _ l0_4 1048576 t288 _ ?side1 ?side2 ?side3 ?side4 A4.out).mono ?_); (case side1 => repeat (first | exact (Kd.C_below HR0_2.out HB.out) | (with_reducible refine Kd.C_alloc ?_ _) | (with_reducible refine Kd.C_drewN ?_ _) | (with_reducible refine Kd.C_drew ?_))); (case side2 => exact HC0_2.out); (case side3 => repeat (first | exact (Kd.C_below HR0_4.out HB.out) | (with_reducible refine Kd.C_alloc ?_ _) | (with_reducible refine Kd.C_drewN ?_ _) | (with_reducible refine Kd.C_drew ?_))); (case side4 => exact HC0_4.out); rintro e w35 ⟨rfl, hb⟩; refine ⟨_, rfl, ?_⟩; have n0_ := Aside0.mk (blk_below (g := gb287) (o := .cells #[.string a0_0, .int .i64 a0_1, .slice A0_2 l0_2.length c0_2, .int .i64 a0_3, .slice A0_4 l0_4.length c0_4] 25 (0, 0)) (by (with_reducible repeat (first | refine blk_drewN ?_ _ | refine blk_drew ?_ | refine blk_alloc ?_ _)); exact BK287.out) hb); have n1_ := Aside0.mk (below_step (by repeat (first | (with_reducible first | exact HB.out | apply below_alloc | apply pw_below_drewN | apply below_drew1 | refine below_set ?_ GE287.out) | exact HB.out)) hb); clear BK287; clear HB; have BK287 := n0_; have HB := n1_; clear n0_ n1_; (try clear hb); (try clear hb2); (try clear hk); (try clear hi); have hcz36_0 : w35.cell? ⟨gb287, 0, none⟩ = some (.string a0_0) := (blk_cell BK287.out 0).trans rfl; have hcz36_1 : w35.cell? ⟨gb287, 1, none⟩ = some (.int .i64 a0_1) := (blk_cell BK287.out 1).trans rfl; have hcz36_2 : w35.cell? ⟨gb287, 2, none⟩ = some (.slice A0_2 l0_2.length c0_2) := (blk_cell BK287.out 2).trans rfl; have hcz36_3 : w35.cell? ⟨gb287, 3, none⟩ = some (.int .i64 a0_3) := (blk_cell BK287.out 3).trans rfl; have hcz36_4 : w35.cell? ⟨gb287, 4, none⟩ = some (.slice A0_4 l0_4.length c0_4) := (blk_cell BK287.out 4).trans rfl; have hfz36_0 := blk_frozen BK287.out 0; have hfz36_1 := blk_frozen BK287.out 1; have hfz36_2 := blk_frozen BK287.out 2; have hfz36_3 := blk_frozen BK287.out 3; have hfz36_4 := blk_frozen BK287.out 4) | ((with_reducible refine gate_callee (f := 14) rfl ?_); refine goesL_ (some 17) rfl rfl Try.func14 (by kernel_rfl) rfl #[.agg #[.string a0_0, .int .i64 a0_1, .slice A0_2 l0_2.length c0_2, .int .i64 a0_3, .slice A0_4 l0_4.length c0_4]] rfl (by (try simp only [List.map_toArray, List.map_cons, List.map_nil]); first | done | rfl | (simp only [List.length_drop, List.length_take]; rfl)) ?_; (with_reducible refine (laws_toFunc.calls k a0_0 a0_1 _ _ l0_2 a0_3 _ _ l0_4 t289 t290 t291 t294 t295 _ ?side1 ?side2 ?side3 ?side4 A9.out).mono ?_); (case side1 => repeat (first | exact (Kd.C_below HR0_2.out HB.out) | (with_reducible refine Kd.C_alloc ?_ _) | (with_reducible refine Kd.C_drewN ?_ _) | (with_reducible refine Kd.C_drew ?_))); (case side2 => exact HC0_2.out); (case side3 => repeat (first | exact (Kd.C_below HR0_4.out HB.out) | (with_reducible refine Kd.C_alloc ?_ _) | (with_reducible refine Kd.C_drewN ?_ _) | (with_reducible refine Kd.C_drew ?_))); (case side4 => exact HC0_4.out); rintro e w37 ⟨v292, v296, rfl, ho0, ho1, hb⟩; refine ⟨_, rfl, ?_⟩; have n0_ := Aside0.mk (Kd.R_lower ho0 (below_size (by repeat (first | (with_reducible first | exact HB.out | apply below_alloc | apply pw_below_drewN | apply below_drew1 | refine below_set ?_ GE287.out) | exact HB.out)))); have n1_ := Aside0.mk (Kd.R_lower ho1 (below_size (by repeat (first | (with_reducible first | exact HB.out | apply below_alloc | apply pw_below_drewN | apply below_drew1 | refine below_set ?_ GE287.out) | exact HB.out)))); have n2_ := Aside0.mk (blk_below (g := gb287) (o := .cells #[.string a0_0, .int .i64 a0_1, .slice A0_2 l0_2.length c0_2, .int .i64 a0_3, .slice A0_4 l0_4.length c0_4] 25 (0, 0)) (by (with_reducible repeat (first | refine blk_drewN ?_ _ | refine blk_drew ?_ | refine blk_alloc ?_ _)); exact BK287.out) hb); have n3_ := Aside0.mk (below_step (by repeat (first | (with_reducible first | exact HB.out | apply below_alloc | apply pw_below_drewN | apply below_drew1 | refine below_set ?_ GE287.out) | exact HB.out)) hb); clear BK287; clear HB; have HO293 := n0_; have HO297 := n1_; have BK287 := n2_; have HB := n3_; clear n0_ n1_ n2_ n3_; (try clear hb); (try clear hb2); (try clear hk); (try clear hi); (try clear ho0); (try clear ho1); obtain ⟨Ao38, co38, eo38⟩ := Kd.R_slice HO293.out; subst eo38; obtain ⟨Ao39, co39, eo39⟩ := Kd.R_slice HO297.out; subst eo39) | ((with_reducible refine gate_callee (f := 13) rfl ?_); refine goesL_ (some 20) rfl rfl Try.func13 (by kernel_rfl) rfl #[.agg #[.string t289, .int .i64 t290, .slice Ao38 t291.length co38, .int .i64 t294, .slice Ao39 t295.length co39], .int .i64 a1, .int .i64 a2] rfl (by (try simp only [List.map_toArray, List.map_cons, List.map_nil]); first | done | rfl | (simp only [List.length_drop, List.length_take]; rfl)) ?_; (with_reducible refine (spec_Dominates.calls k t289 t290 _ _ t291 t294 _ _ t295 a1 a2 t298 _ ?side1 ?side2 ?side3 ?side4 A10.out).mono ?_); (case side1 => repeat (first | exact (Kd.R_reads' HO293.out).2.2 | (with_reducible refine Kd.C_alloc ?_ _) | (with_reducible refine Kd.C_drewN ?_ _) | (with_reducible refine Kd.C_drew ?_))); (case side2 => exact (Kd.R_reads' HO293.out).2.1); (case side3 => repeat (first | exact (Kd.R_reads' HO297.out).2.2 | (with_reducible refine Kd.C_alloc ?_ _) | (with_reducible refine Kd.C_drewN ?_ _) | (with_reducible refine Kd.C_drew ?_))); (case side4 => exact (Kd.R_reads' HO297.out).2.1); rintro e w40 ⟨rfl, hb⟩; refine ⟨_, rfl, ?_⟩; have n0_ := Aside0.mk (Kd.R_below (by (with_reducible repeat (first | apply Kd.R_alloc | apply Kd.R_drewN | apply Kd.R_drew)); exact HO293.out) hb); have n1_ := Aside0.mk (Kd.R_below (by (with_reducible repeat (first | apply Kd.R_alloc | apply Kd.R_drewN | apply Kd.R_drew)); exact HO297.out) hb); have n2_ := Aside0.mk (blk_below (g := gb287) (o := .cells #[.string a0_0, .int .i64 a0_1, .slice A0_2 l0_2.length c0_2, .int .i64 a0_3, .slice A0_4 l0_4.length c0_4] 25 (0, 0)) (by (with_reducible repeat (first | refine blk_drewN ?_ _ | refine blk_drew ?_ | refine blk_alloc ?_ _)); exact BK287.out) hb); have n3_ := Aside0.mk (below_step (by repeat (first | (with_reducible first | exact HB.out | apply below_alloc | apply pw_below_drewN | apply below_drew1 | refine below_set ?_ GE287.out) | exact HB.out)) hb); clear HO293; clear HO297; clear BK287; clear HB; have HO293 := n0_; have HO297 := n1_; have BK287 := n2_; have HB := n3_; clear n0_ n1_ n2_ n3_; (try clear hb); (try clear hb2); (try clear hk); (try clear hi); have hcz41_0 : w40.cell? ⟨gb287, 0, none⟩ = some (.string a0_0) := (blk_cell BK287.out 0).trans rfl; have hcz41_1 : w40.cell? ⟨gb287, 1, none⟩ = some (.int .i64 a0_1) := (blk_cell BK287.out 1).trans rfl; have hcz41_2 : w40.cell? ⟨gb287, 2, none⟩ = some (.slice A0_2 l0_2.length c0_2) := (blk_cell BK287.out 2).trans rfl; have hcz41_3 : w40.cell? ⟨gb287, 3, none⟩ = some (.int .i64 a0_3) := (blk_cell BK287.out 3).trans rfl; have hcz41_4 : w40.cell? ⟨gb287, 4, none⟩ = some (.slice A0_4 l0_4.length c0_4) := (blk_cell BK287.out 4).trans rfl; have hfz41_0 := blk_frozen BK287.out 0; have hfz41_1 := blk_frozen BK287.out 1; have hfz41_2 := blk_frozen BK287.out 2; have hfz41_3 := blk_frozen BK287.out 3; have hfz41_4 := blk_frozen BK287.out 4) | ((with_reducible refine gate_callee (f := 14) rfl ?_); refine goesL_ (some 22) rfl rfl Try.func14 (by kernel_rfl) rfl #[.agg #[.string a0_0, .int .i64 a0_1, .slice A0_2 l0_2.length c0_2, .int .i64 a0_3, .slice A0_4 l0_4.length c0_4]] rfl (by (try simp only [List.map_toArray, List.map_cons, List.map_nil]); first | done | rfl | (simp only [List.length_drop, List.length_take]; rfl)) ?_; (with_reducible refine (laws_toFunc.calls k a0_0 a0_1 _ _ l0_2 a0_3 _ _ l0_4 t299 t300 t301 t304 t305 _ ?side1 ?side2 ?side3 ?side4 A11.out).mono ?_); (case side1 => repeat (first | exact (Kd.C_below HR0_2.out HB.out) | (with_reducible refine Kd.C_alloc ?_ _) | (with_reducible refine Kd.C_drewN ?_ _) | (with_reducible refine Kd.C_drew ?_))); (case side2 => exact HC0_2.out); (case side3 => repeat (first | exact (Kd.C_below HR0_4.out HB.out) | (with_reducible refine Kd.C_alloc ?_ _) | (with_reducible refine Kd.C_drewN ?_ _) | (with_reducible refine Kd.C_drew ?_))); (case side4 => exact HC0_4.out); rintro e w42 ⟨v302, v306, rfl, ho0, ho1, hb⟩; refine ⟨_, rfl, ?_⟩; have n0_ := Aside0.mk (Kd.R_elder' (by (with_reducible repeat (first | apply Kd.R_alloc | apply Kd.R_drewN | apply Kd.R_drew)); exact HO293.out) (Kd.R_base ho0) hb); have n1_ := Aside0.mk (Kd.R_mono (Kd.R_told (Kd.R_told (Kd.R_old (by (with_reducible repeat (first | apply Kd.R_alloc | apply Kd.R_drewN | apply Kd.R_drew)); exact HO297.out) hb) (Kd.R_base ho0)) (Kd.R_base ho1)) (fun _ h_ => h_.1)); have n2_ := Aside0.mk (Kd.R_lower (Kd.R_new' ho0 (Kd.R_lt (by (with_reducible repeat (first | apply Kd.R_alloc | apply Kd.R_drewN | apply Kd.R_drew)); exact HO293.out))) (below_size (by repeat (first | (with_reducible first | exact HB.out | apply below_alloc | apply pw_below_drewN | apply below_drew1 | refine below_set ?_ GE287.out) | exact HB.out)))); have n3_ := Aside0.mk (Kd.R_lower (Kd.R_new' (Kd.R_new' ho1 (Kd.R_lt (by (with_reducible repeat (first | apply Kd.R_alloc | apply Kd.R_drewN | apply Kd.R_drew)); exact HO293.out))) (Kd.R_lt (by (with_reducible repeat (first | apply Kd.R_alloc | apply Kd.R_drewN | apply Kd.R_drew)); exact HO297.out))) (below_size (by repeat (first | (with_reducible first | exact HB.out | apply below_alloc | apply pw_below_drewN | apply below_drew1 | refine below_set ?_ GE287.out) | exact HB.out)))); have n4_ := Aside0.mk (blk_below (g := gb287) (o := .cells #[.string a0_0, .int .i64 a0_1, .slice A0_2 l0_2.length c0_2, .int .i64 a0_3, .slice A0_4 l0_4.length c0_4] 25 (0, 0)) (by (with_reducible repeat (first | refine blk_drewN ?_ _ | refine blk_drew ?_ | refine blk_alloc ?_ _)); exact BK287.out) hb); have n5_ := Aside0.mk (below_step (by repeat (first | (with_reducible first | exact HB.out | apply below_alloc | apply pw_below_drewN | apply below_drew1 | refine below_set ?_ GE287.out) | exact HB.out)) hb); clear HO293; clear HO297; clear BK287; clear HB; have HO293 := n0_; have HO297 := n1_; have HO303 := n2_; have HO307 := n3_; have BK287 := n4_; have HB := n5_; clear n0_ n1_ n2_ n3_ n4_ n5_; (try clear hb); (try clear hb2); (try clear hk); (try clear hi); (try clear ho0); (try clear ho1)) | ((with_reducible refine gate_dst (N := 9) rfl ?_); refine box_event ?hg (N := 9) ?hd (cs := #[.string (⟨#[]⟩ : ByteArray), .int .i64 0, .slice none 0 0, .int .i64 0, .slice none 0 0]) (t := 30) ?hr ?_; (case hd => rfl); (case hg => rfl); (case hr => first | (go_simp; done) | (go_simp; rfl)); intro gb308 hg w43 hbox hb; have n0_ := Aside0.mk (Kd.R_below (by (with_reducible repeat (first | apply Kd.R_alloc | apply Kd.R_drewN | apply Kd.R_drew)); exact HO293.out) hb); have n1_ := Aside0.mk (Kd.R_below (by (with_reducible repeat (first | apply Kd.R_alloc | apply Kd.R_drewN | apply Kd.R_drew)); exact HO297.out) hb); have n2_ := Aside0.mk (Kd.R_below (by (with_reducible repeat (first | apply Kd.R_alloc | apply Kd.R_drewN | apply Kd.R_drew)); exact HO303.out) hb); have n3_ := Aside0.mk (Kd.R_below (by (with_reducible repeat (first | apply Kd.R_alloc | apply Kd.R_drewN | apply Kd.R_drew)); exact HO307.out) hb); have n4_ := Aside0.mk (blk_below (g := gb287) (o := .cells #[.string a0_0, .int .i64 a0_1, .slice A0_2 l0_2.length c0_2, .int .i64 a0_3, .slice A0_4 l0_4.length c0_4] 25 (0, 0)) (by (with_reducible repeat (first | refine blk_drewN ?_ _ | refine blk_drew ?_ | refine blk_alloc ?_ _)); exact BK287.out) hb); have n5_ := Aside0.mk (below_step (by repeat (first | (with_reducible first | exact HB.out | apply below_alloc | apply pw_below_drewN | apply below_drew1 | refine below_set ?_ GE287.out) | exact HB.out)) hb); have n6_ := Aside0.mk (hbox); have n7_ := Aside0.mk ((by rw [hg]; exact (below_size (by repeat (first | (with_reducible first | exact HB.out | apply below_alloc | apply pw_below_drewN | apply below_drew1 | refine below_set ?_ GE287.out) | exact HB.out))) : w.heap.size ≤ gb308)); have n8_ := Aside0.mk ((by rw [hg]; exact (below_size (by repeat (first | (with_reducible first | exact HB.out | apply below_alloc | apply pw_below_drewN | apply below_drew1 | refine below_set ?_ GE287.out) | exact HB.out))) : w.heap.size ≤ gb308)); have n9_ := Aside0.mk ((by rw [hg]; exact Nat.ne_of_lt (blk_lt (g := gb287) (o := .cells #[.string a0_0, .int .i64 a0_1, .slice A0_2 l0_2.length c0_2, .int .i64 a0_3, .slice A0_4 l0_4.length c0_4] 25 (0, 0)) (by (with_reducible repeat (first | refine blk_drewN ?_ _ | refine blk_drew ?_ | refine blk_alloc ?_ _)); exact BK287.out)) : gb287 ≠ gb308)); have n10_ := Aside0.mk ((by rw [hg]; exact Nat.ne_of_gt (blk_lt (g := gb287) (o := .cells #[.string a0_0, .int .i64 a0_1, .slice A0_2 l0_2.length c0_2, .int .i64 a0_3, .slice A0_4 l0_4.length c0_4] 25 (0, 0)) (by (with_reducible repeat (first | refine blk_drewN ?_ _ | refine blk_drew ?_ | refine blk_alloc ?_ _)); exact BK287.out)) : gb308 ≠ gb287)); clear HO293; clear HO297; clear HO303; clear HO307; clear BK287; clear HB; have HO293 := n0_; have HO297 := n1_; have HO303 := n2_; have HO307 := n3_; have BK287 := n4_; have HB := n5_; have BK308 := n6_; have GW308 := n7_; have GE308 := n8_; have NB287_308 := n9_; have NB308_287 := n10_; clear n0_ n1_ n2_ n3_ n4_ n5_ n6_ n7_ n8_ n9_ n10_; clear hb hbox hg; have hnb44 := NB308_287.out; have hnc44 := NB287_308.out; have hcz45_0 : w43.cell? ⟨gb308, 0, none⟩ = some (.string (⟨#[]⟩ : ByteArray)) := (blk_cell BK308.out 0).trans rfl; have hcz45_1 : w43.cell? ⟨gb308, 1, none⟩ = some (.int .i64 0) := (blk_cell BK308.out 1).trans rfl; have hcz45_2 : w43.cell? ⟨gb308, 2, none⟩ = some (.slice none 0 0) := (blk_cell BK308.out 2).trans rfl; have hcz45_3 : w43.cell? ⟨gb308, 3, none⟩ = some (.int .i64 0) := (blk_cell BK308.out 3).trans rfl; have hcz45_4 : w43.cell? ⟨gb308, 4, none⟩ = some (.slice none 0 0) := (blk_cell BK308.out 4).trans rfl; have hfz45_0 := blk_frozen BK308.out 0; have hfz45_1 := blk_frozen BK308.out 1; have hfz45_2 := blk_frozen BK308.out 2; have hfz45_3 := blk_frozen BK308.out 3; have hfz45_4 := blk_frozen BK308.out 4; obtain ⟨Ao46, co46, eo46⟩ := Kd.R_slice HO303.out; subst eo46; obtain ⟨Ao47, co47, eo47⟩ := Kd.R_slice HO307.out; subst eo47) | ((with_reducible refine gate_callee (f := 15) rfl ?_); refine goesL_ (some 26) rfl rfl Try.func15 (by kernel_rfl) rfl #[.agg #[.string t299, .int .i64 t300, .slice Ao46 t301.length co46, .int .i64 t304, .slice Ao47 t305.length co47], .int .i64 a1, .int .i64 a2] rfl (by (try simp only [List.map_toArray, List.map_cons, List.map_nil]); first | done | rfl | (simp only [List.length_drop, List.length_take]; rfl)) ?_; (with_reducible refine (impl_Dominates.calls k t299 t300 _ _ t301 t304 _ _ t305 a1 a2 t309 _ ?side1 ?side2 ?side3 ?side4 A12.out).mono ?_); (case side1 => refine (Kd.R_reads' (e := 2) (base := w.heap.size) (ok := fun k_ => (True ∧ some k_ ≠ (.slice Ao38 t291.length co38 : Value).ownBlock)) (n := t301.length) (c := co46) ?_).2.2; exact (by (with_reducible repeat (first | apply Kd.R_alloc | apply Kd.R_drewN | apply Kd.R_drew)); exact (Kd.R_mono (Kd.R_far (p := ⟨gb308, 4, none⟩) (Kd.R_far (p := ⟨gb308, 3, none⟩) (Kd.R_far (p := ⟨gb308, 2, none⟩) (Kd.R_far (p := ⟨gb308, 1, none⟩) (Kd.R_far (p := ⟨gb308, 0, none⟩) (Kd.R_types HO303.out BK308.out (by decide)) (fun _ hk => hk.2) (.string t299)) (fun _ hk => hk.2) (.int .i64 t300)) (fun _ hk => hk.2) (.slice Ao46 t301.length co46)) (fun _ hk => hk.2) (.int .i64 t304)) (fun _ hk => hk.2) (.slice Ao47 t305.length co47)) (fun _ h_ => h_.1)))); (case side2 => exact (Kd.R_reads' HO303.out).2.1); (case side3 => refine (Kd.R_reads' (e := 62) (base := w.heap.size) (ok := fun k_ => ((some k_ ≠ (.slice Ao46 t301.length co46 : Value).ownBlock ∧ some k_ ≠ (.slice Ao38 t291.length co38 : Value).ownBlock) ∧ some k_ ≠ (.slice Ao39 t295.length co39 : Value).ownBlock)) (n := t305.length) (c := co47) ?_).2.2; exact (by (with_reducible repeat (first | apply Kd.R_alloc | apply Kd.R_drewN | apply Kd.R_drew)); exact (Kd.R_mono (Kd.R_far (p := ⟨gb308, 4, none⟩) (Kd.R_far (p := ⟨gb308, 3, none⟩) (Kd.R_far (p := ⟨gb308, 2, none⟩) (Kd.R_far (p := ⟨gb308, 1, none⟩) (Kd.R_far (p := ⟨gb308, 0, none⟩) (Kd.R_types HO307.out BK308.out (by decide)) (fun _ hk => hk.2) (.string t299)) (fun _ hk => hk.2) (.int .i64 t300)) (fun _ hk => hk.2) (.slice Ao46 t301.length co46)) (fun _ hk => hk.2) (.int .i64 t304)) (fun _ hk => hk.2) (.slice Ao47 t305.length co47)) (fun _ h_ => h_.1)))); (case side4 => exact (Kd.R_reads' HO307.out).2.1); rintro e w48 ⟨rfl, hb⟩; refine ⟨_, rfl, ?_⟩; have n0_ := Aside0.mk (Kd.R_below (by (with_reducible repeat (first | apply Kd.R_alloc | apply Kd.R_drewN | apply Kd.R_drew)); exact (Kd.R_mono (Kd.R_far (p := ⟨gb308, 4, none⟩) (Kd.R_far (p := ⟨gb308, 3, none⟩) (Kd.R_far (p := ⟨gb308, 2, none⟩) (Kd.R_far (p := ⟨gb308, 1, none⟩) (Kd.R_far (p := ⟨gb308, 0, none⟩) (Kd.R_types HO293.out BK308.out (by decide)) (fun _ hk => hk.2) (.string t299)) (fun _ hk => hk.2) (.int .i64 t300)) (fun _ hk => hk.2) (.slice Ao46 t301.length co46)) (fun _ hk => hk.2) (.int .i64 t304)) (fun _ hk => hk.2) (.slice Ao47 t305.length co47)) (fun _ h_ => h_.1))) hb); have n1_ := Aside0.mk (Kd.R_below (by (with_reducible repeat (first | apply Kd.R_alloc | apply Kd.R_drewN | apply Kd.R_drew)); exact (Kd.R_mono (Kd.R_far (p := ⟨gb308, 4, none⟩) (Kd.R_far (p := ⟨gb308, 3, none⟩) (Kd.R_far (p := ⟨gb308, 2, none⟩) (Kd.R_far (p := ⟨gb308, 1, none⟩) (Kd.R_far (p := ⟨gb308, 0, none⟩) (Kd.R_types HO297.out BK308.out (by decide)) (fun _ hk => hk.2) (.string t299)) (fun _ hk => hk.2) (.int .i64 t300)) (fun _ hk => hk.2) (.slice Ao46 t301.length co46)) (fun _ hk => hk.2) (.int .i64 t304)) (fun _ hk => hk.2) (.slice Ao47 t305.length co47)) (fun _ h_ => h_.1))) hb); have n2_ := Aside0.mk (Kd.R_below (by (with_reducible repeat (first | apply Kd.R_alloc | apply Kd.R_drewN | apply Kd.R_drew)); exact (Kd.R_mono (Kd.R_far (p := ⟨gb308, 4, none⟩) (Kd.R_far (p := ⟨gb308, 3, none⟩) (Kd.R_far (p := ⟨gb308, 2, none⟩) (Kd.R_far (p := ⟨gb308, 1, none⟩) (Kd.R_far (p := ⟨gb308, 0, none⟩) (Kd.R_types HO303.out BK308.out (by decide)) (fun _ hk => hk.2) (.string t299)) (fun _ hk => hk.2) (.int .i64 t300)) (fun _ hk => hk.2) (.slice Ao46 t301.length co46)) (fun _ hk => hk.2) (.int .i64 t304)) (fun _ hk => hk.2) (.slice Ao47 t305.length co47)) (fun _ h_ => h_.1))) hb); have n3_ := Aside0.mk (Kd.R_below (by (with_reducible repeat (first | apply Kd.R_alloc | apply Kd.R_drewN | apply Kd.R_drew)); exact (Kd.R_mono (Kd.R_far (p := ⟨gb308, 4, none⟩) (Kd.R_far (p := ⟨gb308, 3, none⟩) (Kd.R_far (p := ⟨gb308, 2, none⟩) (Kd.R_far (p := ⟨gb308, 1, none⟩) (Kd.R_far (p := ⟨gb308, 0, none⟩) (Kd.R_types HO307.out BK308.out (by decide)) (fun _ hk => hk.2) (.string t299)) (fun _ hk => hk.2) (.int .i64 t300)) (fun _ hk => hk.2) (.slice Ao46 t301.length co46)) (fun _ hk => hk.2) (.int .i64 t304)) (fun _ hk => hk.2) (.slice Ao47 t305.length co47)) (fun _ h_ => h_.1))) hb); have n4_ := Aside0.mk (blk_below (g := gb287) (o := .cells #[.string a0_0, .int .i64 a0_1, .slice A0_2 l0_2.length c0_2, .int .i64 a0_3, .slice A0_4 l0_4.length c0_4] 25 (0, 0)) (by (with_reducible repeat (first | refine blk_drewN ?_ _ | refine blk_drew ?_ | refine blk_alloc ?_ _)); refine blk_far ?_ NB287_308.out _; (with_reducible repeat (first | refine blk_drewN ?_ _ | refine blk_drew ?_ | refine blk_alloc ?_ _)); refine blk_far ?_ NB287_308.out _; (with_reducible repeat (first | refine blk_drewN ?_ _ | refine blk_drew ?_ | refine blk_alloc ?_ _)); refine blk_far ?_ NB287_308.out _; (with_reducible repeat (first | refine blk_drewN ?_ _ | refine blk_drew ?_ | refine blk_alloc ?_ _)); refine blk_far ?_ NB287_308.out _; (with_reducible repeat (first | refine blk_drewN ?_ _ | refine blk_drew ?_ | refine blk_alloc ?_ _)); refine blk_far ?_ NB287_308.out _; (with_reducible repeat (first | refine blk_drewN ?_ _ | refine blk_drew ?_ | refine blk_alloc ?_ _)); exact BK287.out) hb); have n5_ := Aside0.mk (blk_below (g := gb308) (o := .cells #[.string t299, .int .i64 t300, .slice Ao46 t301.length co46, .int .i64 t304, .slice Ao47 t305.length co47] 30 (0, 0)) (by (with_reducible repeat (first | refine blk_drewN ?_ _ | refine blk_drew ?_ | refine blk_alloc ?_ _)); refine blk_put (cs := #[.string t299, .int .i64 t300, .slice Ao46 t301.length co46, .int .i64 t304, .slice none 0 0]) ?_ 4 _ rfl; (with_reducible repeat (first | refine blk_drewN ?_ _ | refine blk_drew ?_ | refine blk_alloc ?_ _)); refine blk_put (cs := #[.string t299, .int .i64 t300, .slice Ao46 t301.length co46, .int .i64 0, .slice none 0 0]) ?_ 3 _ rfl; (with_reducible repeat (first | refine blk_drewN ?_ _ | refine blk_drew ?_ | refine blk_alloc ?_ _)); refine blk_put (cs := #[.string t299, .int .i64 t300, .slice none 0 0, .int .i64 0, .slice none 0 0]) ?_ 2 _ rfl; (with_reducible repeat (first | refine blk_drewN ?_ _ | refine blk_drew ?_ | refine blk_alloc ?_ _)); refine blk_put (cs := #[.string t299, .int .i64 0, .slice none 0 0, .int .i64 0, .slice none 0 0]) ?_ 1 _ rfl; (with_reducible repeat (first | refine blk_drewN ?_ _ | refine blk_drew ?_ | refine blk_alloc ?_ _)); refine blk_put (cs := #[.string (⟨#[]⟩ : ByteArray), .int .i64 0, .slice none 0 0, .int .i64 0, .slice none 0 0]) ?_ 0 _ rfl; (with_reducible repeat (first | refine blk_drewN ?_ _ | refine blk_drew ?_ | refine blk_alloc ?_ _)); exact BK308.out) hb); have n6_ := Aside0.mk (below_step (by repeat (first | (with_reducible first | exact HB.out | apply below_alloc | apply pw_below_drewN | apply below_drew1 | refine below_set ?_ GE287.out | refine below_set ?_ GE308.out) | exact HB.out)) hb); clear HO293; clear HO297; clear HO303; clear HO307; clear BK287; clear BK308; clear HB; have HO293 := n0_; have HO297 := n1_; have HO303 := n2_; have HO307 := n3_; have BK287 := n4_; have BK308 := n5_; have HB := n6_; clear n0_ n1_ n2_ n3_ n4_ n5_ n6_; (try clear hb); (try clear hb2); (try clear hk); (try clear hi)))
       have n0_ := Aside0.mk (Kd.R_drew HO293.out)
       have n1_ := Aside0.mk (Kd.R_drew HO297.out)
       have n2_ := Aside0.mk (Kd.R_drew HO303.out)
       have n3_ := Aside0.mk (Kd.R_drew HO307.out)
       have n4_ := Aside0.mk (blk_drew BK287.out)
       have n5_ := Aside0.mk (blk_drew BK308.out)
       have n6_ := Aside0.mk (below_drew1 HB.out)
       clear HO293
       clear HO297
       clear HO303
       clear HO307
       clear BK287
       clear BK308
       clear HB
       have HO293 := n0_
       have HO297 := n1_
       have HO303 := n2_
       have HO307 := n3_
       have BK287 := n4_
       have BK308 := n5_
       have HB := n6_
       clear n0_ n1_ n2_ n3_ n4_ n5_ n6_
       refine start_ (n := 5) (S := fun w' => w'.cell? ⟨gb308, 0, none⟩ = some (.string t299) ∧ w'.cell? ⟨gb308, 1, none⟩ = some (.int .i64 t300) ∧ w'.cell? ⟨gb308, 2, none⟩ = some (.slice Ao46 t301.length co46) ∧ w'.cell? ⟨gb308, 3, none⟩ = some (.int .i64 t304) ∧ w'.cell? ⟨gb308, 4, none⟩ = some (.slice Ao47 t305.length co47) ∧ w'.cell? ⟨gb287, 0, none⟩ = some (.string a0_0) ∧ w'.cell? ⟨gb287, 1, none⟩ = some (.int .i64 a0_1) ∧ w'.cell? ⟨gb287, 2, none⟩ = some (.slice A0_2 l0_2.length c0_2) ∧ w'.cell? ⟨gb287, 3, none⟩ = some (.int .i64 a0_3) ∧ w'.cell? ⟨gb287, 4, none⟩ = some (.slice A0_4 l0_4.length c0_4)) (ds := []) #[false, false, false, false, false] (by kernel_rfl) rfl rfl ⟨(blk_cell BK308.out 0).trans rfl, (blk_cell BK308.out 1).trans rfl, (blk_cell BK308.out 2).trans rfl, (blk_cell BK308.out 3).trans rfl, (blk_cell BK308.out 4).trans rfl, (blk_cell BK287.out 0).trans rfl, (blk_cell BK287.out 1).trans rfl, (blk_cell BK287.out 2).trans rfl, (blk_cell BK287.out 3).trans rfl, (blk_cell BK287.out 4).trans rfl⟩ (fun hHeld => ?_)
       generalize w48.drew = w49 at HO293 HO297 HO303 HO307 BK287 BK308 HB hHeld ⊢
       refine take_ (i := 0) (N := some 30) (v := ?_) (a' := ?_) #[true, false, false, false, false] rfl rfl (by kernel_rfl) (fun _ _ _ h => h) (Or.inl ⟨by rfl, ?_⟩) hHeld ?_ ?_
       rotate_left
       · rintro w' ⟨s0, s1, s2, s3, s4, s5, s6, s7, s8, s9⟩
         go_simp
         with_reducible rfl
       rotate_left
       · simp only [Act.put, List.setIfInBounds_toArray, List.set_cons_zero, List.set_cons_succ, i64_w, i32_w]
         rfl
       refine take_ (i := 1) (N := some 31) (v := ?_) (a' := ?_) #[true, true, false, false, false] rfl rfl (by kernel_rfl) (fun _ _ _ h => h) (Or.inl ⟨by rfl, ?_⟩) hHeld ?_ ?_
       rotate_left
       · rintro w' ⟨s0, s1, s2, s3, s4, s5, s6, s7, s8, s9⟩
         go_simp
         with_reducible rfl
       rotate_left
       · simp only [Act.put, List.setIfInBounds_toArray, List.set_cons_zero, List.set_cons_succ, i64_w, i32_w]
         rfl
       refine one_ (i := 2) (N := some 32) #[true, true, true, false, false] rfl rfl (by kernel_rfl) (by decide) (fun K hK => ?_)
       refine goes_ Try.func14 (by kernel_rfl) rfl #[.agg #[.string a0_0, .int .i64 a0_1, .slice A0_2 l0_2.length c0_2, .int .i64 a0_3, .slice A0_4 l0_4.length c0_4]] (by rfl) rfl rfl (by (try simp only [List.map_toArray, List.map_cons, List.map_nil]); first | done | rfl | (simp only [List.length_drop, List.length_take]; rfl)) ?_
       with_reducible refine (laws_toFunc.calls k a0_0 a0_1 _ _ l0_2 a0_3 _ _ l0_4 t310 t311 t312 t315 t316 _ ?side1 ?side2 ?side3 ?side4 A30.out).mono ?_
       (case side1 => repeat (first | exact (Kd.C_below HR0_2.out HB.out) | (with_reducible refine Kd.C_alloc ?_ _) | (with_reducible refine Kd.C_drewN ?_ _) | (with_reducible refine Kd.C_drew ?_)))
       (case side2 => exact HC0_2.out)
       (case side3 => repeat (first | exact (Kd.C_below HR0_4.out HB.out) | (with_reducible refine Kd.C_alloc ?_ _) | (with_reducible refine Kd.C_drewN ?_ _) | (with_reducible refine Kd.C_drew ?_)))
       (case side4 => exact HC0_4.out)
       rintro e w50 ⟨v313, v317, rfl, ho0, ho1, hb⟩
       refine ⟨_, rfl, ?_⟩
       have n0_ := Aside0.mk (Kd.R_elder' (by (with_reducible repeat (first | apply Kd.R_alloc | apply Kd.R_drewN | apply Kd.R_drew)); exact HO293.out) (Kd.R_base ho0) hb)
       have n1_ := Aside0.mk (Kd.R_mono (Kd.R_told (Kd.R_told (Kd.R_old (by (with_reducible repeat (first | apply Kd.R_alloc | apply Kd.R_drewN | apply Kd.R_drew)); exact HO297.out) hb) (Kd.R_base ho0)) (Kd.R_base ho1)) (fun _ h_ => h_.1))
       have n2_ := Aside0.mk (Kd.R_elder' (by (with_reducible repeat (first | apply Kd.R_alloc | apply Kd.R_drewN | apply Kd.R_drew)); exact HO303.out) (Kd.R_base ho0) hb)
       have n3_ := Aside0.mk (Kd.R_mono (Kd.R_told (Kd.R_told (Kd.R_old (by (with_reducible repeat (first | apply Kd.R_alloc | apply Kd.R_drewN | apply Kd.R_drew)); exact HO307.out) hb) (Kd.R_base ho0)) (Kd.R_base ho1)) (fun _ h_ => h_.1))
       have n4_ := Aside0.mk (Kd.R_lower (Kd.R_new' (Kd.R_new' ho0 (Kd.R_lt (by (with_reducible repeat (first | apply Kd.R_alloc | apply Kd.R_drewN | apply Kd.R_drew)); exact HO293.out))) (Kd.R_lt (by (with_reducible repeat (first | apply Kd.R_alloc | apply Kd.R_drewN | apply Kd.R_drew)); exact HO303.out))) (below_size (by repeat (first | (with_reducible first | exact HB.out | apply below_alloc | apply pw_below_drewN | apply below_drew1 | refine below_set ?_ GE287.out | refine below_set ?_ GE308.out) | exact HB.out))))
       have n5_ := Aside0.mk (Kd.R_lower (Kd.R_new' (Kd.R_new' (Kd.R_new' (Kd.R_new' ho1 (Kd.R_lt (by (with_reducible repeat (first | apply Kd.R_alloc | apply Kd.R_drewN | apply Kd.R_drew)); exact HO293.out))) (Kd.R_lt (by (with_reducible repeat (first | apply Kd.R_alloc | apply Kd.R_drewN | apply Kd.R_drew)); exact HO297.out))) (Kd.R_lt (by (with_reducible repeat (first | apply Kd.R_alloc | apply Kd.R_drewN | apply Kd.R_drew)); exact HO303.out))) (Kd.R_lt (by (with_reducible repeat (first | apply Kd.R_alloc | apply Kd.R_drewN | apply Kd.R_drew)); exact HO307.out))) (below_size (by repeat (first | (with_reducible first | exact HB.out | apply below_alloc | apply pw_below_drewN | apply below_drew1 | refine below_set ?_ GE287.out | refine below_set ?_ GE308.out) | exact HB.out))))
       have n6_ := Aside0.mk (blk_below (g := gb287) (o := .cells #[.string a0_0, .int .i64 a0_1, .slice A0_2 l0_2.length c0_2, .int .i64 a0_3, .slice A0_4 l0_4.length c0_4] 25 (0, 0)) (by (with_reducible repeat (first | refine blk_drewN ?_ _ | refine blk_drew ?_ | refine blk_alloc ?_ _)); exact BK287.out) hb)
       have n7_ := Aside0.mk (blk_below (g := gb308) (o := .cells #[.string t299, .int .i64 t300, .slice Ao46 t301.length co46, .int .i64 t304, .slice Ao47 t305.length co47] 30 (0, 0)) (by (with_reducible repeat (first | refine blk_drewN ?_ _ | refine blk_drew ?_ | refine blk_alloc ?_ _)); exact BK308.out) hb)
       have n8_ := Aside0.mk (below_step (by repeat (first | (with_reducible first | exact HB.out | apply below_alloc | apply pw_below_drewN | apply below_drew1 | refine below_set ?_ GE287.out | refine below_set ?_ GE308.out) | exact HB.out)) hb)
       clear HO293
       clear HO297
       clear HO303
       clear HO307
       clear BK287
       clear BK308
       clear HB
       have HO293 := n0_
       have HO297 := n1_
       have HO303 := n2_
       have HO307 := n3_
       have HO314 := n4_
       have HO318 := n5_
       have BK287 := n6_
       have BK308 := n7_
       have HB := n8_
       clear n0_ n1_ n2_ n3_ n4_ n5_ n6_ n7_ n8_
       (try clear hb)
       (try clear hb2)
       (try clear hk)
       (try clear hi)
       (try clear ho0)
       (try clear ho1)
       obtain ⟨Ao51, co51, eo51⟩ := Kd.R_slice HO314.out
       (first | subst eo51 | (injection eo51 with f1_ f2_ f3_; have f4_ := f1_.symm; have f5_ := f3_.symm; clear f1_ f2_ f3_; subst f4_; subst f5_))
       obtain ⟨Ao52, co52, eo52⟩ := Kd.R_slice HO318.out
       (first | subst eo52 | (injection eo52 with f1_ f2_ f3_; have f4_ := f1_.symm; have f5_ := f3_.symm; clear f1_ f2_ f3_; subst f4_; subst f5_))
       refine hK.out _ _ ⟨(blk_cell BK308.out 0).trans rfl, (blk_cell BK308.out 1).trans rfl, (blk_cell BK308.out 2).trans rfl, (blk_cell BK308.out 3).trans rfl, (blk_cell BK308.out 4).trans rfl, (blk_cell BK287.out 0).trans rfl, (blk_cell BK287.out 1).trans rfl, (blk_cell BK287.out 2).trans rfl, (blk_cell BK287.out 3).trans rfl, (blk_cell BK287.out 4).trans rfl⟩ (fun hHeld => ?_)
       clear hK K
       refine norm_ (a' := ?_) ?_ ?_
       rotate_left
       · show Act.put _ (some 32) _ = _
         simp only [Act.put, List.setIfInBounds_toArray, List.set_cons_zero, List.set_cons_succ, i64_w, i32_w]
         rfl
       refine one_ (i := 3) (N := some 33) #[true, true, true, true, false] rfl rfl (by kernel_rfl) (by decide) (fun K hK => ?_)
       refine goes_ Try.func16 (by kernel_rfl) rfl #[.agg #[.string t299, .int .i64 t300, .slice Ao46 t301.length co46, .int .i64 t304, .slice Ao47 t305.length co47], .agg #[.string t310, .int .i64 t311, .slice Ao51 t312.length co51, .int .i64 t315, .slice Ao52 t316.length co52]] (by rfl) rfl rfl (by (try simp only [List.map_toArray, List.map_cons, List.map_nil]); first | done | rfl | (simp only [List.length_drop, List.length_take]; rfl)) ?_
       with_reducible refine (laws_eqFunc.calls k t299 t300 _ _ t301 t304 _ _ t305 t310 t311 _ _ t312 t315 _ _ t316 true _ ?side1 ?side2 ?side3 ?side4 ?side5 ?side6 ?side7 ?side8 A31.out).mono ?_
       (case side1 => repeat (first | exact (Kd.R_reads' HO303.out).2.2 | (with_reducible refine Kd.C_alloc ?_ _) | (with_reducible refine Kd.C_drewN ?_ _) | (with_reducible refine Kd.C_drew ?_)))
       (case side2 => exact (Kd.R_reads' HO303.out).2.1)
       (case side3 => repeat (first | exact (Kd.R_reads' HO307.out).2.2 | (with_reducible refine Kd.C_alloc ?_ _) | (with_reducible refine Kd.C_drewN ?_ _) | (with_reducible refine Kd.C_drew ?_)))
       (case side4 => exact (Kd.R_reads' HO307.out).2.1)
       (case side5 => repeat (first | exact (Kd.R_reads' HO314.out).2.2 | (with_reducible refine Kd.C_alloc ?_ _) | (with_reducible refine Kd.C_drewN ?_ _) | (with_reducible refine Kd.C_drew ?_)))
       (case side6 => exact (Kd.R_reads' HO314.out).2.1)
       (case side7 => repeat (first | exact (Kd.R_reads' HO318.out).2.2 | (with_reducible refine Kd.C_alloc ?_ _) | (with_reducible refine Kd.C_drewN ?_ _) | (with_reducible refine Kd.C_drew ?_)))
       (case side8 => exact (Kd.R_reads' HO318.out).2.1)
       rintro e w53 ⟨rfl, hb⟩
       refine ⟨_, rfl, ?_⟩
       have n0_ := Aside0.mk (Kd.R_below (by (with_reducible repeat (first | apply Kd.R_alloc | apply Kd.R_drewN | apply Kd.R_drew)); exact HO293.out) hb)
       have n1_ := Aside0.mk (Kd.R_below (by (with_reducible repeat (first | apply Kd.R_alloc | apply Kd.R_drewN | apply Kd.R_drew)); exact HO297.out) hb)
       have n2_ := Aside0.mk (Kd.R_below (by (with_reducible repeat (first | apply Kd.R_alloc | apply Kd.R_drewN | apply Kd.R_drew)); exact HO303.out) hb)
       have n3_ := Aside0.mk (Kd.R_below (by (with_reducible repeat (first | apply Kd.R_alloc | apply Kd.R_drewN | apply Kd.R_drew)); exact HO307.out) hb)
       have n4_ := Aside0.mk (Kd.R_below (by (with_reducible repeat (first | apply Kd.R_alloc | apply Kd.R_drewN | apply Kd.R_drew)); exact HO314.out) hb)
       have n5_ := Aside0.mk (Kd.R_below (by (with_reducible repeat (first | apply Kd.R_alloc | apply Kd.R_drewN | apply Kd.R_drew)); exact HO318.out) hb)
       have n6_ := Aside0.mk (blk_below (g := gb287) (o := .cells #[.string a0_0, .int .i64 a0_1, .slice A0_2 l0_2.length c0_2, .int .i64 a0_3, .slice A0_4 l0_4.length c0_4] 25 (0, 0)) (by (with_reducible repeat (first | refine blk_drewN ?_ _ | refine blk_drew ?_ | refine blk_alloc ?_ _)); exact BK287.out) hb)
       have n7_ := Aside0.mk (blk_below (g := gb308) (o := .cells #[.string t299, .int .i64 t300, .slice Ao46 t301.length co46, .int .i64 t304, .slice Ao47 t305.length co47] 30 (0, 0)) (by (with_reducible repeat (first | refine blk_drewN ?_ _ | refine blk_drew ?_ | refine blk_alloc ?_ _)); exact BK308.out) hb)
       have n8_ := Aside0.mk (below_step (by repeat (first | (with_reducible first | exact HB.out | apply below_alloc | apply pw_below_drewN | apply below_drew1 | refine below_set ?_ GE287.out | refine below_set ?_ GE308.out) | exact HB.out)) hb)
       clear HO293
       clear HO297
       clear HO303
       clear HO307
       clear HO314
       clear HO318
       clear BK287
       clear BK308
       clear HB
       have HO293 := n0_
       have HO297 := n1_
       have HO303 := n2_
       have HO307 := n3_
       have HO314 := n4_
       have HO318 := n5_
       have BK287 := n6_
       have BK308 := n7_
       have HB := n8_
       clear n0_ n1_ n2_ n3_ n4_ n5_ n6_ n7_ n8_
       (try clear hb)
       (try clear hb2)
       (try clear hk)
       (try clear hi)
       refine hK.out _ _ ⟨(blk_cell BK308.out 0).trans rfl, (blk_cell BK308.out 1).trans rfl, (blk_cell BK308.out 2).trans rfl, (blk_cell BK308.out 3).trans rfl, (blk_cell BK308.out 4).trans rfl, (blk_cell BK287.out 0).trans rfl, (blk_cell BK287.out 1).trans rfl, (blk_cell BK287.out 2).trans rfl, (blk_cell BK287.out 3).trans rfl, (blk_cell BK287.out 4).trans rfl⟩ (fun hHeld => ?_)
       clear hK K
       refine norm_ (a' := ?_) ?_ ?_
       rotate_left
       · show Act.put _ (some 33) _ = _
         simp only [Act.put, List.setIfInBounds_toArray, List.set_cons_zero, List.set_cons_succ, i64_w, i32_w]
         rfl
       refine pure_ (i := 4) (N := some 34) (v := ?_) (a' := ?_) #[true, true, true, true, true] rfl rfl (by kernel_rfl) (fun _ _ _ h => h) (Or.inl ⟨by rfl, ?_⟩) ?_ ?_
       rotate_left
       · intro w'
         go_simp
         with_reducible rfl
       rotate_left
       · simp only [Act.put, List.setIfInBounds_toArray, List.set_cons_zero, List.set_cons_succ, i64_w, i32_w]
         rfl
       refine done_ (by kernel_rfl) ?_
       try go_wp2
       go_ret
       exact ⟨by first | rfl | (simp [errW_none, errW_some] <;> rfl) | (simp [*, errW_none, errW_some] <;> rfl), by repeat (first | (with_reducible first | exact HB.out | apply below_alloc | apply pw_below_drewN | apply below_drew1 | refine below_set ?_ GE287.out | refine below_set ?_ GE308.out) | exact HB.out)⟩
     · replace c32 := Bool.eq_false_iff.mpr c32
       subst c32
       have H1 : (some false) = some r := by rw [if_neg (show ¬ (false = true) by decide)] at H; exact H
       clear H
       have H := H1
       clear H1
       obtain rfl := Option.some.inj H
       go_enter Try.func3, Try.ntmps3
       try go_wp2_with (first | ((with_reducible refine gate_dst (N := 3) rfl ?_); refine box_event ?hg (N := 3) ?hd (cs := #[.string a0_0, .int .i64 a0_1, .slice A0_2 l0_2.length c0_2, .int .i64 a0_3, .slice A0_4 l0_4.length c0_4]) (t := 25) ?hr ?_; (case hd => rfl); (case hg => rfl); (case hr => first | (go_simp; done) | (go_simp; rfl)); intro gb287 hg w54 hbox hb; have n0_ := Aside0.mk (below_step (by repeat (first | (with_reducible first | exact HB.out | apply below_alloc | apply pw_below_drewN | apply below_drew1) | exact HB.out)) hb); have n1_ := Aside0.mk (hbox); have n2_ := Aside0.mk ((by rw [hg]; exact (below_size (by repeat (first | (with_reducible first | exact HB.out | apply below_alloc | apply pw_below_drewN | apply below_drew1) | exact HB.out))) : w.heap.size ≤ gb287)); have n3_ := Aside0.mk ((by rw [hg]; exact (below_size (by repeat (first | (with_reducible first | exact HB.out | apply below_alloc | apply pw_below_drewN | apply below_drew1) | exact HB.out))) : w.heap.size ≤ gb287)); clear HB; have HB := n0_; have BK287 := n1_; have GW287 := n2_; have GE287 := n3_; clear n0_ n1_ n2_ n3_; clear hb hbox hg; have hcz55_0 : w54.cell? ⟨gb287, 0, none⟩ = some (.string a0_0) := (blk_cell BK287.out 0).trans rfl; have hcz55_1 : w54.cell? ⟨gb287, 1, none⟩ = some (.int .i64 a0_1) := (blk_cell BK287.out 1).trans rfl; have hcz55_2 : w54.cell? ⟨gb287, 2, none⟩ = some (.slice A0_2 l0_2.length c0_2) := (blk_cell BK287.out 2).trans rfl; have hcz55_3 : w54.cell? ⟨gb287, 3, none⟩ = some (.int .i64 a0_3) := (blk_cell BK287.out 3).trans rfl; have hcz55_4 : w54.cell? ⟨gb287, 4, none⟩ = some (.slice A0_4 l0_4.length c0_4) := (blk_cell BK287.out 4).trans rfl; have hfz55_0 := blk_frozen BK287.out 0; have hfz55_1 := blk_frozen BK287.out 1; have hfz55_2 := blk_frozen BK287.out 2; have hfz55_3 := blk_frozen BK287.out 3; have hfz55_4 := blk_frozen BK287.out 4) | ((with_reducible refine gate_callee (f := 12) rfl ?_); refine goesL_ (some 13) rfl rfl Try.func12 (by kernel_rfl) rfl #[.agg #[.string a0_0, .int .i64 a0_1, .slice A0_2 l0_2.length c0_2, .int .i64 a0_3, .slice A0_4 l0_4.length c0_4], .int .i64 1048576] rfl (by (try simp only [List.map_toArray, List.map_cons, List.map_nil]); first | done | rfl | (simp only [List.length_drop, List.length_take]; rfl)) ?_; (with_reducible refine (laws_szFunc.calls k a0_0 a0_1 _ _ l0_2 a0_3 _ _ l0_4 1048576 t288 _ ?side1 ?side2 ?side3 ?side4 A4.out).mono ?_); (case side1 => repeat (first | exact (Kd.C_below HR0_2.out HB.out) | (with_reducible refine Kd.C_alloc ?_ _) | (with_reducible refine Kd.C_drewN ?_ _) | (with_reducible refine Kd.C_drew ?_))); (case side2 => exact HC0_2.out); (case side3 => repeat (first | exact (Kd.C_below HR0_4.out HB.out) | (with_reducible refine Kd.C_alloc ?_ _) | (with_reducible refine Kd.C_drewN ?_ _) | (with_reducible refine Kd.C_drew ?_))); (case side4 => exact HC0_4.out); rintro e w56 ⟨rfl, hb⟩; refine ⟨_, rfl, ?_⟩; have n0_ := Aside0.mk (blk_below (g := gb287) (o := .cells #[.string a0_0, .int .i64 a0_1, .slice A0_2 l0_2.length c0_2, .int .i64 a0_3, .slice A0_4 l0_4.length c0_4] 25 (0, 0)) (by (with_reducible repeat (first | refine blk_drewN ?_ _ | refine blk_drew ?_ | refine blk_alloc ?_ _)); exact BK287.out) hb); have n1_ := Aside0.mk (below_step (by repeat (first | (with_reducible first | exact HB.out | apply below_alloc | apply pw_below_drewN | apply below_drew1 | refine below_set ?_ GE287.out) | exact HB.out)) hb); clear BK287; clear HB; have BK287 := n0_; have HB := n1_; clear n0_ n1_; (try clear hb); (try clear hb2); (try clear hk); (try clear hi); have hcz57_0 : w56.cell? ⟨gb287, 0, none⟩ = some (.string a0_0) := (blk_cell BK287.out 0).trans rfl; have hcz57_1 : w56.cell? ⟨gb287, 1, none⟩ = some (.int .i64 a0_1) := (blk_cell BK287.out 1).trans rfl; have hcz57_2 : w56.cell? ⟨gb287, 2, none⟩ = some (.slice A0_2 l0_2.length c0_2) := (blk_cell BK287.out 2).trans rfl; have hcz57_3 : w56.cell? ⟨gb287, 3, none⟩ = some (.int .i64 a0_3) := (blk_cell BK287.out 3).trans rfl; have hcz57_4 : w56.cell? ⟨gb287, 4, none⟩ = some (.slice A0_4 l0_4.length c0_4) := (blk_cell BK287.out 4).trans rfl; have hfz57_0 := blk_frozen BK287.out 0; have hfz57_1 := blk_frozen BK287.out 1; have hfz57_2 := blk_frozen BK287.out 2; have hfz57_3 := blk_frozen BK287.out 3; have hfz57_4 := blk_frozen BK287.out 4) | ((with_reducible refine gate_callee (f := 14) rfl ?_); refine goesL_ (some 17) rfl rfl Try.func14 (by kernel_rfl) rfl #[.agg #[.string a0_0, .int .i64 a0_1, .slice A0_2 l0_2.length c0_2, .int .i64 a0_3, .slice A0_4 l0_4.length c0_4]] rfl (by (try simp only [List.map_toArray, List.map_cons, List.map_nil]); first | done | rfl | (simp only [List.length_drop, List.length_take]; rfl)) ?_; (with_reducible refine (laws_toFunc.calls k a0_0 a0_1 _ _ l0_2 a0_3 _ _ l0_4 t289 t290 t291 t294 t295 _ ?side1 ?side2 ?side3 ?side4 A9.out).mono ?_); (case side1 => repeat (first | exact (Kd.C_below HR0_2.out HB.out) | (with_reducible refine Kd.C_alloc ?_ _) | (with_reducible refine Kd.C_drewN ?_ _) | (with_reducible refine Kd.C_drew ?_))); (case side2 => exact HC0_2.out); (case side3 => repeat (first | exact (Kd.C_below HR0_4.out HB.out) | (with_reducible refine Kd.C_alloc ?_ _) | (with_reducible refine Kd.C_drewN ?_ _) | (with_reducible refine Kd.C_drew ?_))); (case side4 => exact HC0_4.out); rintro e w58 ⟨v292, v296, rfl, ho0, ho1, hb⟩; refine ⟨_, rfl, ?_⟩; have n0_ := Aside0.mk (Kd.R_lower ho0 (below_size (by repeat (first | (with_reducible first | exact HB.out | apply below_alloc | apply pw_below_drewN | apply below_drew1 | refine below_set ?_ GE287.out) | exact HB.out)))); have n1_ := Aside0.mk (Kd.R_lower ho1 (below_size (by repeat (first | (with_reducible first | exact HB.out | apply below_alloc | apply pw_below_drewN | apply below_drew1 | refine below_set ?_ GE287.out) | exact HB.out)))); have n2_ := Aside0.mk (blk_below (g := gb287) (o := .cells #[.string a0_0, .int .i64 a0_1, .slice A0_2 l0_2.length c0_2, .int .i64 a0_3, .slice A0_4 l0_4.length c0_4] 25 (0, 0)) (by (with_reducible repeat (first | refine blk_drewN ?_ _ | refine blk_drew ?_ | refine blk_alloc ?_ _)); exact BK287.out) hb); have n3_ := Aside0.mk (below_step (by repeat (first | (with_reducible first | exact HB.out | apply below_alloc | apply pw_below_drewN | apply below_drew1 | refine below_set ?_ GE287.out) | exact HB.out)) hb); clear BK287; clear HB; have HO293 := n0_; have HO297 := n1_; have BK287 := n2_; have HB := n3_; clear n0_ n1_ n2_ n3_; (try clear hb); (try clear hb2); (try clear hk); (try clear hi); (try clear ho0); (try clear ho1); obtain ⟨Ao59, co59, eo59⟩ := Kd.R_slice HO293.out; subst eo59; obtain ⟨Ao60, co60, eo60⟩ := Kd.R_slice HO297.out; subst eo60) | ((with_reducible refine gate_callee (f := 13) rfl ?_); refine goesL_ (some 20) rfl rfl Try.func13 (by kernel_rfl) rfl #[.agg #[.string t289, .int .i64 t290, .slice Ao59 t291.length co59, .int .i64 t294, .slice Ao60 t295.length co60], .int .i64 a1, .int .i64 a2] rfl (by (try simp only [List.map_toArray, List.map_cons, List.map_nil]); first | done | rfl | (simp only [List.length_drop, List.length_take]; rfl)) ?_; (with_reducible refine (spec_Dominates.calls k t289 t290 _ _ t291 t294 _ _ t295 a1 a2 t298 _ ?side1 ?side2 ?side3 ?side4 A10.out).mono ?_); (case side1 => repeat (first | exact (Kd.R_reads' HO293.out).2.2 | (with_reducible refine Kd.C_alloc ?_ _) | (with_reducible refine Kd.C_drewN ?_ _) | (with_reducible refine Kd.C_drew ?_))); (case side2 => exact (Kd.R_reads' HO293.out).2.1); (case side3 => repeat (first | exact (Kd.R_reads' HO297.out).2.2 | (with_reducible refine Kd.C_alloc ?_ _) | (with_reducible refine Kd.C_drewN ?_ _) | (with_reducible refine Kd.C_drew ?_))); (case side4 => exact (Kd.R_reads' HO297.out).2.1); rintro e w61 ⟨rfl, hb⟩; refine ⟨_, rfl, ?_⟩; have n0_ := Aside0.mk (Kd.R_below (by (with_reducible repeat (first | apply Kd.R_alloc | apply Kd.R_drewN | apply Kd.R_drew)); exact HO293.out) hb); have n1_ := Aside0.mk (Kd.R_below (by (with_reducible repeat (first | apply Kd.R_alloc | apply Kd.R_drewN | apply Kd.R_drew)); exact HO297.out) hb); have n2_ := Aside0.mk (blk_below (g := gb287) (o := .cells #[.string a0_0, .int .i64 a0_1, .slice A0_2 l0_2.length c0_2, .int .i64 a0_3, .slice A0_4 l0_4.length c0_4] 25 (0, 0)) (by (with_reducible repeat (first | refine blk_drewN ?_ _ | refine blk_drew ?_ | refine blk_alloc ?_ _)); exact BK287.out) hb); have n3_ := Aside0.mk (below_step (by repeat (first | (with_reducible first | exact HB.out | apply below_alloc | apply pw_below_drewN | apply below_drew1 | refine below_set ?_ GE287.out) | exact HB.out)) hb); clear HO293; clear HO297; clear BK287; clear HB; have HO293 := n0_; have HO297 := n1_; have BK287 := n2_; have HB := n3_; clear n0_ n1_ n2_ n3_; (try clear hb); (try clear hb2); (try clear hk); (try clear hi); have hcz62_0 : w61.cell? ⟨gb287, 0, none⟩ = some (.string a0_0) := (blk_cell BK287.out 0).trans rfl; have hcz62_1 : w61.cell? ⟨gb287, 1, none⟩ = some (.int .i64 a0_1) := (blk_cell BK287.out 1).trans rfl; have hcz62_2 : w61.cell? ⟨gb287, 2, none⟩ = some (.slice A0_2 l0_2.length c0_2) := (blk_cell BK287.out 2).trans rfl; have hcz62_3 : w61.cell? ⟨gb287, 3, none⟩ = some (.int .i64 a0_3) := (blk_cell BK287.out 3).trans rfl; have hcz62_4 : w61.cell? ⟨gb287, 4, none⟩ = some (.slice A0_4 l0_4.length c0_4) := (blk_cell BK287.out 4).trans rfl; have hfz62_0 := blk_frozen BK287.out 0; have hfz62_1 := blk_frozen BK287.out 1; have hfz62_2 := blk_frozen BK287.out 2; have hfz62_3 := blk_frozen BK287.out 3; have hfz62_4 := blk_frozen BK287.out 4) | ((with_reducible refine gate_callee (f := 14) rfl ?_); refine goesL_ (some 22) rfl rfl Try.func14 (by kernel_rfl) rfl #[.agg #[.string a0_0, .int .i64 a0_1, .slice A0_2 l0_2.length c0_2, .int .i64 a0_3, .slice A0_4 l0_4.length c0_4]] rfl (by (try simp only [List.map_toArray, List.map_cons, List.map_nil]); first | done | rfl | (simp only [List.length_drop, List.length_take]; rfl)) ?_; (with_reducible refine (laws_toFunc.calls k a0_0 a0_1 _ _ l0_2 a0_3 _ _ l0_4 t299 t300 t301 t304 t305 _ ?side1 ?side2 ?side3 ?side4 A11.out).mono ?_); (case side1 => repeat (first | exact (Kd.C_below HR0_2.out HB.out) | (with_reducible refine Kd.C_alloc ?_ _) | (with_reducible refine Kd.C_drewN ?_ _) | (with_reducible refine Kd.C_drew ?_))); (case side2 => exact HC0_2.out); (case side3 => repeat (first | exact (Kd.C_below HR0_4.out HB.out) | (with_reducible refine Kd.C_alloc ?_ _) | (with_reducible refine Kd.C_drewN ?_ _) | (with_reducible refine Kd.C_drew ?_))); (case side4 => exact HC0_4.out); rintro e w63 ⟨v302, v306, rfl, ho0, ho1, hb⟩; refine ⟨_, rfl, ?_⟩; have n0_ := Aside0.mk (Kd.R_elder' (by (with_reducible repeat (first | apply Kd.R_alloc | apply Kd.R_drewN | apply Kd.R_drew)); exact HO293.out) (Kd.R_base ho0) hb); have n1_ := Aside0.mk (Kd.R_mono (Kd.R_told (Kd.R_told (Kd.R_old (by (with_reducible repeat (first | apply Kd.R_alloc | apply Kd.R_drewN | apply Kd.R_drew)); exact HO297.out) hb) (Kd.R_base ho0)) (Kd.R_base ho1)) (fun _ h_ => h_.1)); have n2_ := Aside0.mk (Kd.R_lower (Kd.R_new' ho0 (Kd.R_lt (by (with_reducible repeat (first | apply Kd.R_alloc | apply Kd.R_drewN | apply Kd.R_drew)); exact HO293.out))) (below_size (by repeat (first | (with_reducible first | exact HB.out | apply below_alloc | apply pw_below_drewN | apply below_drew1 | refine below_set ?_ GE287.out) | exact HB.out)))); have n3_ := Aside0.mk (Kd.R_lower (Kd.R_new' (Kd.R_new' ho1 (Kd.R_lt (by (with_reducible repeat (first | apply Kd.R_alloc | apply Kd.R_drewN | apply Kd.R_drew)); exact HO293.out))) (Kd.R_lt (by (with_reducible repeat (first | apply Kd.R_alloc | apply Kd.R_drewN | apply Kd.R_drew)); exact HO297.out))) (below_size (by repeat (first | (with_reducible first | exact HB.out | apply below_alloc | apply pw_below_drewN | apply below_drew1 | refine below_set ?_ GE287.out) | exact HB.out)))); have n4_ := Aside0.mk (blk_below (g := gb287) (o := .cells #[.string a0_0, .int .i64 a0_1, .slice A0_2 l0_2.length c0_2, .int .i64 a0_3, .slice A0_4 l0_4.length c0_4] 25 (0, 0)) (by (with_reducible repeat (first | refine blk_drewN ?_ _ | refine blk_drew ?_ | refine blk_alloc ?_ _)); exact BK287.out) hb); have n5_ := Aside0.mk (below_step (by repeat (first | (with_reducible first | exact HB.out | apply below_alloc | apply pw_below_drewN | apply below_drew1 | refine below_set ?_ GE287.out) | exact HB.out)) hb); clear HO293; clear HO297; clear BK287; clear HB; have HO293 := n0_; have HO297 := n1_; have HO303 := n2_; have HO307 := n3_; have BK287 := n4_; have HB := n5_; clear n0_ n1_ n2_ n3_ n4_ n5_; (try clear hb); (try clear hb2); (try clear hk); (try clear hi); (try clear ho0); (try clear ho1)) | ((with_reducible refine gate_dst (N := 9) rfl ?_); refine box_event ?hg (N := 9) ?hd (cs := #[.string (⟨#[]⟩ : ByteArray), .int .i64 0, .slice none 0 0, .int .i64 0, .slice none 0 0]) (t := 30) ?hr ?_; (case hd => rfl); (case hg => rfl); (case hr => first | (go_simp; done) | (go_simp; rfl)); intro gb308 hg w64 hbox hb; have n0_ := Aside0.mk (Kd.R_below (by (with_reducible repeat (first | apply Kd.R_alloc | apply Kd.R_drewN | apply Kd.R_drew)); exact HO293.out) hb); have n1_ := Aside0.mk (Kd.R_below (by (with_reducible repeat (first | apply Kd.R_alloc | apply Kd.R_drewN | apply Kd.R_drew)); exact HO297.out) hb); have n2_ := Aside0.mk (Kd.R_below (by (with_reducible repeat (first | apply Kd.R_alloc | apply Kd.R_drewN | apply Kd.R_drew)); exact HO303.out) hb); have n3_ := Aside0.mk (Kd.R_below (by (with_reducible repeat (first | apply Kd.R_alloc | apply Kd.R_drewN | apply Kd.R_drew)); exact HO307.out) hb); have n4_ := Aside0.mk (blk_below (g := gb287) (o := .cells #[.string a0_0, .int .i64 a0_1, .slice A0_2 l0_2.length c0_2, .int .i64 a0_3, .slice A0_4 l0_4.length c0_4] 25 (0, 0)) (by (with_reducible repeat (first | refine blk_drewN ?_ _ | refine blk_drew ?_ | refine blk_alloc ?_ _)); exact BK287.out) hb); have n5_ := Aside0.mk (below_step (by repeat (first | (with_reducible first | exact HB.out | apply below_alloc | apply pw_below_drewN | apply below_drew1 | refine below_set ?_ GE287.out) | exact HB.out)) hb); have n6_ := Aside0.mk (hbox); have n7_ := Aside0.mk ((by rw [hg]; exact (below_size (by repeat (first | (with_reducible first | exact HB.out | apply below_alloc | apply pw_below_drewN | apply below_drew1 | refine below_set ?_ GE287.out) | exact HB.out))) : w.heap.size ≤ gb308)); have n8_ := Aside0.mk ((by rw [hg]; exact (below_size (by repeat (first | (with_reducible first | exact HB.out | apply below_alloc | apply pw_below_drewN | apply below_drew1 | refine below_set ?_ GE287.out) | exact HB.out))) : w.heap.size ≤ gb308)); have n9_ := Aside0.mk ((by rw [hg]; exact Nat.ne_of_lt (blk_lt (g := gb287) (o := .cells #[.string a0_0, .int .i64 a0_1, .slice A0_2 l0_2.length c0_2, .int .i64 a0_3, .slice A0_4 l0_4.length c0_4] 25 (0, 0)) (by (with_reducible repeat (first | refine blk_drewN ?_ _ | refine blk_drew ?_ | refine blk_alloc ?_ _)); exact BK287.out)) : gb287 ≠ gb308)); have n10_ := Aside0.mk ((by rw [hg]; exact Nat.ne_of_gt (blk_lt (g := gb287) (o := .cells #[.string a0_0, .int .i64 a0_1, .slice A0_2 l0_2.length c0_2, .int .i64 a0_3, .slice A0_4 l0_4.length c0_4] 25 (0, 0)) (by (with_reducible repeat (first | refine blk_drewN ?_ _ | refine blk_drew ?_ | refine blk_alloc ?_ _)); exact BK287.out)) : gb308 ≠ gb287)); clear HO293; clear HO297; clear HO303; clear HO307; clear BK287; clear HB; have HO293 := n0_; have HO297 := n1_; have HO303 := n2_; have HO307 := n3_; have BK287 := n4_; have HB := n5_; have BK308 := n6_; have GW308 := n7_; have GE308 := n8_; have NB287_308 := n9_; have NB308_287 := n10_; clear n0_ n1_ n2_ n3_ n4_ n5_ n6_ n7_ n8_ n9_ n10_; clear hb hbox hg; have hnb65 := NB308_287.out; have hnc65 := NB287_308.out; have hcz66_0 : w64.cell? ⟨gb308, 0, none⟩ = some (.string (⟨#[]⟩ : ByteArray)) := (blk_cell BK308.out 0).trans rfl; have hcz66_1 : w64.cell? ⟨gb308, 1, none⟩ = some (.int .i64 0) := (blk_cell BK308.out 1).trans rfl; have hcz66_2 : w64.cell? ⟨gb308, 2, none⟩ = some (.slice none 0 0) := (blk_cell BK308.out 2).trans rfl; have hcz66_3 : w64.cell? ⟨gb308, 3, none⟩ = some (.int .i64 0) := (blk_cell BK308.out 3).trans rfl; have hcz66_4 : w64.cell? ⟨gb308, 4, none⟩ = some (.slice none 0 0) := (blk_cell BK308.out 4).trans rfl; have hfz66_0 := blk_frozen BK308.out 0; have hfz66_1 := blk_frozen BK308.out 1; have hfz66_2 := blk_frozen BK308.out 2; have hfz66_3 := blk_frozen BK308.out 3; have hfz66_4 := blk_frozen BK308.out 4; obtain ⟨Ao67, co67, eo67⟩ := Kd.R_slice HO303.out; subst eo67; obtain ⟨Ao68, co68, eo68⟩ := Kd.R_slice HO307.out; subst eo68) | ((with_reducible refine gate_callee (f := 15) rfl ?_); refine goesL_ (some 26) rfl rfl Try.func15 (by kernel_rfl) rfl #[.agg #[.string t299, .int .i64 t300, .slice Ao67 t301.length co67, .int .i64 t304, .slice Ao68 t305.length co68], .int .i64 a1, .int .i64 a2] rfl (by (try simp only [List.map_toArray, List.map_cons, List.map_nil]); first | done | rfl | (simp only [List.length_drop, List.length_take]; rfl)) ?_; (with_reducible refine (impl_Dominates.calls k t299 t300 _ _ t301 t304 _ _ t305 a1 a2 t309 _ ?side1 ?side2 ?side3 ?side4 A12.out).mono ?_); (case side1 => refine (Kd.R_reads' (e := 2) (base := w.heap.size) (ok := fun k_ => (True ∧ some k_ ≠ (.slice Ao59 t291.length co59 : Value).ownBlock)) (n := t301.length) (c := co67) ?_).2.2; exact (by (with_reducible repeat (first | apply Kd.R_alloc | apply Kd.R_drewN | apply Kd.R_drew)); exact (Kd.R_mono (Kd.R_far (p := ⟨gb308, 4, none⟩) (Kd.R_far (p := ⟨gb308, 3, none⟩) (Kd.R_far (p := ⟨gb308, 2, none⟩) (Kd.R_far (p := ⟨gb308, 1, none⟩) (Kd.R_far (p := ⟨gb308, 0, none⟩) (Kd.R_types HO303.out BK308.out (by decide)) (fun _ hk => hk.2) (.string t299)) (fun _ hk => hk.2) (.int .i64 t300)) (fun _ hk => hk.2) (.slice Ao67 t301.length co67)) (fun _ hk => hk.2) (.int .i64 t304)) (fun _ hk => hk.2) (.slice Ao68 t305.length co68)) (fun _ h_ => h_.1)))); (case side2 => exact (Kd.R_reads' HO303.out).2.1); (case side3 => refine (Kd.R_reads' (e := 62) (base := w.heap.size) (ok := fun k_ => ((some k_ ≠ (.slice Ao67 t301.length co67 : Value).ownBlock ∧ some k_ ≠ (.slice Ao59 t291.length co59 : Value).ownBlock) ∧ some k_ ≠ (.slice Ao60 t295.length co60 : Value).ownBlock)) (n := t305.length) (c := co68) ?_).2.2; exact (by (with_reducible repeat (first | apply Kd.R_alloc | apply Kd.R_drewN | apply Kd.R_drew)); exact (Kd.R_mono (Kd.R_far (p := ⟨gb308, 4, none⟩) (Kd.R_far (p := ⟨gb308, 3, none⟩) (Kd.R_far (p := ⟨gb308, 2, none⟩) (Kd.R_far (p := ⟨gb308, 1, none⟩) (Kd.R_far (p := ⟨gb308, 0, none⟩) (Kd.R_types HO307.out BK308.out (by decide)) (fun _ hk => hk.2) (.string t299)) (fun _ hk => hk.2) (.int .i64 t300)) (fun _ hk => hk.2) (.slice Ao67 t301.length co67)) (fun _ hk => hk.2) (.int .i64 t304)) (fun _ hk => hk.2) (.slice Ao68 t305.length co68)) (fun _ h_ => h_.1)))); (case side4 => exact (Kd.R_reads' HO307.out).2.1); rintro e w69 ⟨rfl, hb⟩; refine ⟨_, rfl, ?_⟩; have n0_ := Aside0.mk (Kd.R_below (by (with_reducible repeat (first | apply Kd.R_alloc | apply Kd.R_drewN | apply Kd.R_drew)); exact (Kd.R_mono (Kd.R_far (p := ⟨gb308, 4, none⟩) (Kd.R_far (p := ⟨gb308, 3, none⟩) (Kd.R_far (p := ⟨gb308, 2, none⟩) (Kd.R_far (p := ⟨gb308, 1, none⟩) (Kd.R_far (p := ⟨gb308, 0, none⟩) (Kd.R_types HO293.out BK308.out (by decide)) (fun _ hk => hk.2) (.string t299)) (fun _ hk => hk.2) (.int .i64 t300)) (fun _ hk => hk.2) (.slice Ao67 t301.length co67)) (fun _ hk => hk.2) (.int .i64 t304)) (fun _ hk => hk.2) (.slice Ao68 t305.length co68)) (fun _ h_ => h_.1))) hb); have n1_ := Aside0.mk (Kd.R_below (by (with_reducible repeat (first | apply Kd.R_alloc | apply Kd.R_drewN | apply Kd.R_drew)); exact (Kd.R_mono (Kd.R_far (p := ⟨gb308, 4, none⟩) (Kd.R_far (p := ⟨gb308, 3, none⟩) (Kd.R_far (p := ⟨gb308, 2, none⟩) (Kd.R_far (p := ⟨gb308, 1, none⟩) (Kd.R_far (p := ⟨gb308, 0, none⟩) (Kd.R_types HO297.out BK308.out (by decide)) (fun _ hk => hk.2) (.string t299)) (fun _ hk => hk.2) (.int .i64 t300)) (fun _ hk => hk.2) (.slice Ao67 t301.length co67)) (fun _ hk => hk.2) (.int .i64 t304)) (fun _ hk => hk.2) (.slice Ao68 t305.length co68)) (fun _ h_ => h_.1))) hb); have n2_ := Aside0.mk (Kd.R_below (by (with_reducible repeat (first | apply Kd.R_alloc | apply Kd.R_drewN | apply Kd.R_drew)); exact (Kd.R_mono (Kd.R_far (p := ⟨gb308, 4, none⟩) (Kd.R_far (p := ⟨gb308, 3, none⟩) (Kd.R_far (p := ⟨gb308, 2, none⟩) (Kd.R_far (p := ⟨gb308, 1, none⟩) (Kd.R_far (p := ⟨gb308, 0, none⟩) (Kd.R_types HO303.out BK308.out (by decide)) (fun _ hk => hk.2) (.string t299)) (fun _ hk => hk.2) (.int .i64 t300)) (fun _ hk => hk.2) (.slice Ao67 t301.length co67)) (fun _ hk => hk.2) (.int .i64 t304)) (fun _ hk => hk.2) (.slice Ao68 t305.length co68)) (fun _ h_ => h_.1))) hb); have n3_ := Aside0.mk (Kd.R_below (by (with_reducible repeat (first | apply Kd.R_alloc | apply Kd.R_drewN | apply Kd.R_drew)); exact (Kd.R_mono (Kd.R_far (p := ⟨gb308, 4, none⟩) (Kd.R_far (p := ⟨gb308, 3, none⟩) (Kd.R_far (p := ⟨gb308, 2, none⟩) (Kd.R_far (p := ⟨gb308, 1, none⟩) (Kd.R_far (p := ⟨gb308, 0, none⟩) (Kd.R_types HO307.out BK308.out (by decide)) (fun _ hk => hk.2) (.string t299)) (fun _ hk => hk.2) (.int .i64 t300)) (fun _ hk => hk.2) (.slice Ao67 t301.length co67)) (fun _ hk => hk.2) (.int .i64 t304)) (fun _ hk => hk.2) (.slice Ao68 t305.length co68)) (fun _ h_ => h_.1))) hb); have n4_ := Aside0.mk (blk_below (g := gb287) (o := .cells #[.string a0_0, .int .i64 a0_1, .slice A0_2 l0_2.length c0_2, .int .i64 a0_3, .slice A0_4 l0_4.length c0_4] 25 (0, 0)) (by (with_reducible repeat (first | refine blk_drewN ?_ _ | refine blk_drew ?_ | refine blk_alloc ?_ _)); refine blk_far ?_ NB287_308.out _; (with_reducible repeat (first | refine blk_drewN ?_ _ | refine blk_drew ?_ | refine blk_alloc ?_ _)); refine blk_far ?_ NB287_308.out _; (with_reducible repeat (first | refine blk_drewN ?_ _ | refine blk_drew ?_ | refine blk_alloc ?_ _)); refine blk_far ?_ NB287_308.out _; (with_reducible repeat (first | refine blk_drewN ?_ _ | refine blk_drew ?_ | refine blk_alloc ?_ _)); refine blk_far ?_ NB287_308.out _; (with_reducible repeat (first | refine blk_drewN ?_ _ | refine blk_drew ?_ | refine blk_alloc ?_ _)); refine blk_far ?_ NB287_308.out _; (with_reducible repeat (first | refine blk_drewN ?_ _ | refine blk_drew ?_ | refine blk_alloc ?_ _)); exact BK287.out) hb); have n5_ := Aside0.mk (blk_below (g := gb308) (o := .cells #[.string t299, .int .i64 t300, .slice Ao67 t301.length co67, .int .i64 t304, .slice Ao68 t305.length co68] 30 (0, 0)) (by (with_reducible repeat (first | refine blk_drewN ?_ _ | refine blk_drew ?_ | refine blk_alloc ?_ _)); refine blk_put (cs := #[.string t299, .int .i64 t300, .slice Ao67 t301.length co67, .int .i64 t304, .slice none 0 0]) ?_ 4 _ rfl; (with_reducible repeat (first | refine blk_drewN ?_ _ | refine blk_drew ?_ | refine blk_alloc ?_ _)); refine blk_put (cs := #[.string t299, .int .i64 t300, .slice Ao67 t301.length co67, .int .i64 0, .slice none 0 0]) ?_ 3 _ rfl; (with_reducible repeat (first | refine blk_drewN ?_ _ | refine blk_drew ?_ | refine blk_alloc ?_ _)); refine blk_put (cs := #[.string t299, .int .i64 t300, .slice none 0 0, .int .i64 0, .slice none 0 0]) ?_ 2 _ rfl; (with_reducible repeat (first | refine blk_drewN ?_ _ | refine blk_drew ?_ | refine blk_alloc ?_ _)); refine blk_put (cs := #[.string t299, .int .i64 0, .slice none 0 0, .int .i64 0, .slice none 0 0]) ?_ 1 _ rfl; (with_reducible repeat (first | refine blk_drewN ?_ _ | refine blk_drew ?_ | refine blk_alloc ?_ _)); refine blk_put (cs := #[.string (⟨#[]⟩ : ByteArray), .int .i64 0, .slice none 0 0, .int .i64 0, .slice none 0 0]) ?_ 0 _ rfl; (with_reducible repeat (first | refine blk_drewN ?_ _ | refine blk_drew ?_ | refine blk_alloc ?_ _)); exact BK308.out) hb); have n6_ := Aside0.mk (below_step (by repeat (first | (with_reducible first | exact HB.out | apply below_alloc | apply pw_below_drewN | apply below_drew1 | refine below_set ?_ GE287.out | refine below_set ?_ GE308.out) | exact HB.out)) hb); clear HO293; clear HO297; clear HO303; clear HO307; clear BK287; clear BK308; clear HB; have HO293 := n0_; have HO297 := n1_; have HO303 := n2_; have HO307 := n3_; have BK287 := n4_; have BK308 := n5_; have HB := n6_; clear n0_ n1_ n2_ n3_ n4_ n5_ n6_; (try clear hb); (try clear hb2); (try clear hk); (try clear hi)))
       have n0_ := Aside0.mk (Kd.R_drew HO293.out)
       have n1_ := Aside0.mk (Kd.R_drew HO297.out)
       have n2_ := Aside0.mk (Kd.R_drew HO303.out)
       have n3_ := Aside0.mk (Kd.R_drew HO307.out)
       have n4_ := Aside0.mk (blk_drew BK287.out)
       have n5_ := Aside0.mk (blk_drew BK308.out)
       have n6_ := Aside0.mk (below_drew1 HB.out)
       clear HO293
       clear HO297
       clear HO303
       clear HO307
       clear BK287
       clear BK308
       clear HB
       have HO293 := n0_
       have HO297 := n1_
       have HO303 := n2_
       have HO307 := n3_
       have BK287 := n4_
       have BK308 := n5_
       have HB := n6_
       clear n0_ n1_ n2_ n3_ n4_ n5_ n6_
       refine start_ (n := 5) (S := fun w' => w'.cell? ⟨gb308, 0, none⟩ = some (.string t299) ∧ w'.cell? ⟨gb308, 1, none⟩ = some (.int .i64 t300) ∧ w'.cell? ⟨gb308, 2, none⟩ = some (.slice Ao67 t301.length co67) ∧ w'.cell? ⟨gb308, 3, none⟩ = some (.int .i64 t304) ∧ w'.cell? ⟨gb308, 4, none⟩ = some (.slice Ao68 t305.length co68) ∧ w'.cell? ⟨gb287, 0, none⟩ = some (.string a0_0) ∧ w'.cell? ⟨gb287, 1, none⟩ = some (.int .i64 a0_1) ∧ w'.cell? ⟨gb287, 2, none⟩ = some (.slice A0_2 l0_2.length c0_2) ∧ w'.cell? ⟨gb287, 3, none⟩ = some (.int .i64 a0_3) ∧ w'.cell? ⟨gb287, 4, none⟩ = some (.slice A0_4 l0_4.length c0_4)) (ds := []) #[false, false, false, false, false] (by kernel_rfl) rfl rfl ⟨(blk_cell BK308.out 0).trans rfl, (blk_cell BK308.out 1).trans rfl, (blk_cell BK308.out 2).trans rfl, (blk_cell BK308.out 3).trans rfl, (blk_cell BK308.out 4).trans rfl, (blk_cell BK287.out 0).trans rfl, (blk_cell BK287.out 1).trans rfl, (blk_cell BK287.out 2).trans rfl, (blk_cell BK287.out 3).trans rfl, (blk_cell BK287.out 4).trans rfl⟩ (fun hHeld => ?_)
       generalize w69.drew = w70 at HO293 HO297 HO303 HO307 BK287 BK308 HB hHeld ⊢
       refine take_ (i := 0) (N := some 30) (v := ?_) (a' := ?_) #[true, false, false, false, false] rfl rfl (by kernel_rfl) (fun _ _ _ h => h) (Or.inl ⟨by rfl, ?_⟩) hHeld ?_ ?_
       rotate_left
       · rintro w' ⟨s0, s1, s2, s3, s4, s5, s6, s7, s8, s9⟩
         go_simp
         with_reducible rfl
       rotate_left
       · simp only [Act.put, List.setIfInBounds_toArray, List.set_cons_zero, List.set_cons_succ, i64_w, i32_w]
         rfl
       refine take_ (i := 1) (N := some 31) (v := ?_) (a' := ?_) #[true, true, false, false, false] rfl rfl (by kernel_rfl) (fun _ _ _ h => h) (Or.inl ⟨by rfl, ?_⟩) hHeld ?_ ?_
       rotate_left
       · rintro w' ⟨s0, s1, s2, s3, s4, s5, s6, s7, s8, s9⟩
         go_simp
         with_reducible rfl
       rotate_left
       · simp only [Act.put, List.setIfInBounds_toArray, List.set_cons_zero, List.set_cons_succ, i64_w, i32_w]
         rfl
       refine one_ (i := 2) (N := some 32) #[true, true, true, false, false] rfl rfl (by kernel_rfl) (by decide) (fun K hK => ?_)
       refine goes_ Try.func14 (by kernel_rfl) rfl #[.agg #[.string a0_0, .int .i64 a0_1, .slice A0_2 l0_2.length c0_2, .int .i64 a0_3, .slice A0_4 l0_4.length c0_4]] (by rfl) rfl rfl (by (try simp only [List.map_toArray, List.map_cons, List.map_nil]); first | done | rfl | (simp only [List.length_drop, List.length_take]; rfl)) ?_
       with_reducible refine (laws_toFunc.calls k a0_0 a0_1 _ _ l0_2 a0_3 _ _ l0_4 t310 t311 t312 t315 t316 _ ?side1 ?side2 ?side3 ?side4 A30.out).mono ?_
       (case side1 => repeat (first | exact (Kd.C_below HR0_2.out HB.out) | (with_reducible refine Kd.C_alloc ?_ _) | (with_reducible refine Kd.C_drewN ?_ _) | (with_reducible refine Kd.C_drew ?_)))
       (case side2 => exact HC0_2.out)
       (case side3 => repeat (first | exact (Kd.C_below HR0_4.out HB.out) | (with_reducible refine Kd.C_alloc ?_ _) | (with_reducible refine Kd.C_drewN ?_ _) | (with_reducible refine Kd.C_drew ?_)))
       (case side4 => exact HC0_4.out)
       rintro e w71 ⟨v313, v317, rfl, ho0, ho1, hb⟩
       refine ⟨_, rfl, ?_⟩
       have n0_ := Aside0.mk (Kd.R_elder' (by (with_reducible repeat (first | apply Kd.R_alloc | apply Kd.R_drewN | apply Kd.R_drew)); exact HO293.out) (Kd.R_base ho0) hb)
       have n1_ := Aside0.mk (Kd.R_mono (Kd.R_told (Kd.R_told (Kd.R_old (by (with_reducible repeat (first | apply Kd.R_alloc | apply Kd.R_drewN | apply Kd.R_drew)); exact HO297.out) hb) (Kd.R_base ho0)) (Kd.R_base ho1)) (fun _ h_ => h_.1))
       have n2_ := Aside0.mk (Kd.R_elder' (by (with_reducible repeat (first | apply Kd.R_alloc | apply Kd.R_drewN | apply Kd.R_drew)); exact HO303.out) (Kd.R_base ho0) hb)
       have n3_ := Aside0.mk (Kd.R_mono (Kd.R_told (Kd.R_told (Kd.R_old (by (with_reducible repeat (first | apply Kd.R_alloc | apply Kd.R_drewN | apply Kd.R_drew)); exact HO307.out) hb) (Kd.R_base ho0)) (Kd.R_base ho1)) (fun _ h_ => h_.1))
       have n4_ := Aside0.mk (Kd.R_lower (Kd.R_new' (Kd.R_new' ho0 (Kd.R_lt (by (with_reducible repeat (first | apply Kd.R_alloc | apply Kd.R_drewN | apply Kd.R_drew)); exact HO293.out))) (Kd.R_lt (by (with_reducible repeat (first | apply Kd.R_alloc | apply Kd.R_drewN | apply Kd.R_drew)); exact HO303.out))) (below_size (by repeat (first | (with_reducible first | exact HB.out | apply below_alloc | apply pw_below_drewN | apply below_drew1 | refine below_set ?_ GE287.out | refine below_set ?_ GE308.out) | exact HB.out))))
       have n5_ := Aside0.mk (Kd.R_lower (Kd.R_new' (Kd.R_new' (Kd.R_new' (Kd.R_new' ho1 (Kd.R_lt (by (with_reducible repeat (first | apply Kd.R_alloc | apply Kd.R_drewN | apply Kd.R_drew)); exact HO293.out))) (Kd.R_lt (by (with_reducible repeat (first | apply Kd.R_alloc | apply Kd.R_drewN | apply Kd.R_drew)); exact HO297.out))) (Kd.R_lt (by (with_reducible repeat (first | apply Kd.R_alloc | apply Kd.R_drewN | apply Kd.R_drew)); exact HO303.out))) (Kd.R_lt (by (with_reducible repeat (first | apply Kd.R_alloc | apply Kd.R_drewN | apply Kd.R_drew)); exact HO307.out))) (below_size (by repeat (first | (with_reducible first | exact HB.out | apply below_alloc | apply pw_below_drewN | apply below_drew1 | refine below_set ?_ GE287.out | refine below_set ?_ GE308.out) | exact HB.out))))
       have n6_ := Aside0.mk (blk_below (g := gb287) (o := .cells #[.string a0_0, .int .i64 a0_1, .slice A0_2 l0_2.length c0_2, .int .i64 a0_3, .slice A0_4 l0_4.length c0_4] 25 (0, 0)) (by (with_reducible repeat (first | refine blk_drewN ?_ _ | refine blk_drew ?_ | refine blk_alloc ?_ _)); exact BK287.out) hb)
       have n7_ := Aside0.mk (blk_below (g := gb308) (o := .cells #[.string t299, .int .i64 t300, .slice Ao67 t301.length co67, .int .i64 t304, .slice Ao68 t305.length co68] 30 (0, 0)) (by (with_reducible repeat (first | refine blk_drewN ?_ _ | refine blk_drew ?_ | refine blk_alloc ?_ _)); exact BK308.out) hb)
       have n8_ := Aside0.mk (below_step (by repeat (first | (with_reducible first | exact HB.out | apply below_alloc | apply pw_below_drewN | apply below_drew1 | refine below_set ?_ GE287.out | refine below_set ?_ GE308.out) | exact HB.out)) hb)
       clear HO293
       clear HO297
       clear HO303
       clear HO307
       clear BK287
       clear BK308
       clear HB
       have HO293 := n0_
       have HO297 := n1_
       have HO303 := n2_
       have HO307 := n3_
       have HO314 := n4_
       have HO318 := n5_
       have BK287 := n6_
       have BK308 := n7_
       have HB := n8_
       clear n0_ n1_ n2_ n3_ n4_ n5_ n6_ n7_ n8_
       (try clear hb)
       (try clear hb2)
       (try clear hk)
       (try clear hi)
       (try clear ho0)
       (try clear ho1)
       obtain ⟨Ao72, co72, eo72⟩ := Kd.R_slice HO314.out
       (first | subst eo72 | (injection eo72 with f1_ f2_ f3_; have f4_ := f1_.symm; have f5_ := f3_.symm; clear f1_ f2_ f3_; subst f4_; subst f5_))
       obtain ⟨Ao73, co73, eo73⟩ := Kd.R_slice HO318.out
       (first | subst eo73 | (injection eo73 with f1_ f2_ f3_; have f4_ := f1_.symm; have f5_ := f3_.symm; clear f1_ f2_ f3_; subst f4_; subst f5_))
       refine hK.out _ _ ⟨(blk_cell BK308.out 0).trans rfl, (blk_cell BK308.out 1).trans rfl, (blk_cell BK308.out 2).trans rfl, (blk_cell BK308.out 3).trans rfl, (blk_cell BK308.out 4).trans rfl, (blk_cell BK287.out 0).trans rfl, (blk_cell BK287.out 1).trans rfl, (blk_cell BK287.out 2).trans rfl, (blk_cell BK287.out 3).trans rfl, (blk_cell BK287.out 4).trans rfl⟩ (fun hHeld => ?_)
       clear hK K
       refine norm_ (a' := ?_) ?_ ?_
       rotate_left
       · show Act.put _ (some 32) _ = _
         simp only [Act.put, List.setIfInBounds_toArray, List.set_cons_zero, List.set_cons_succ, i64_w, i32_w]
         rfl
       refine one_ (i := 3) (N := some 33) #[true, true, true, true, false] rfl rfl (by kernel_rfl) (by decide) (fun K hK => ?_)
       refine goes_ Try.func16 (by kernel_rfl) rfl #[.agg #[.string t299, .int .i64 t300, .slice Ao67 t301.length co67, .int .i64 t304, .slice Ao68 t305.length co68], .agg #[.string t310, .int .i64 t311, .slice Ao72 t312.length co72, .int .i64 t315, .slice Ao73 t316.length co73]] (by rfl) rfl rfl (by (try simp only [List.map_toArray, List.map_cons, List.map_nil]); first | done | rfl | (simp only [List.length_drop, List.length_take]; rfl)) ?_
       with_reducible refine (laws_eqFunc.calls k t299 t300 _ _ t301 t304 _ _ t305 t310 t311 _ _ t312 t315 _ _ t316 false _ ?side1 ?side2 ?side3 ?side4 ?side5 ?side6 ?side7 ?side8 A31.out).mono ?_
       (case side1 => repeat (first | exact (Kd.R_reads' HO303.out).2.2 | (with_reducible refine Kd.C_alloc ?_ _) | (with_reducible refine Kd.C_drewN ?_ _) | (with_reducible refine Kd.C_drew ?_)))
       (case side2 => exact (Kd.R_reads' HO303.out).2.1)
       (case side3 => repeat (first | exact (Kd.R_reads' HO307.out).2.2 | (with_reducible refine Kd.C_alloc ?_ _) | (with_reducible refine Kd.C_drewN ?_ _) | (with_reducible refine Kd.C_drew ?_)))
       (case side4 => exact (Kd.R_reads' HO307.out).2.1)
       (case side5 => repeat (first | exact (Kd.R_reads' HO314.out).2.2 | (with_reducible refine Kd.C_alloc ?_ _) | (with_reducible refine Kd.C_drewN ?_ _) | (with_reducible refine Kd.C_drew ?_)))
       (case side6 => exact (Kd.R_reads' HO314.out).2.1)
       (case side7 => repeat (first | exact (Kd.R_reads' HO318.out).2.2 | (with_reducible refine Kd.C_alloc ?_ _) | (with_reducible refine Kd.C_drewN ?_ _) | (with_reducible refine Kd.C_drew ?_)))
       (case side8 => exact (Kd.R_reads' HO318.out).2.1)
       rintro e w74 ⟨rfl, hb⟩
       refine ⟨_, rfl, ?_⟩
       have n0_ := Aside0.mk (Kd.R_below (by (with_reducible repeat (first | apply Kd.R_alloc | apply Kd.R_drewN | apply Kd.R_drew)); exact HO293.out) hb)
       have n1_ := Aside0.mk (Kd.R_below (by (with_reducible repeat (first | apply Kd.R_alloc | apply Kd.R_drewN | apply Kd.R_drew)); exact HO297.out) hb)
       have n2_ := Aside0.mk (Kd.R_below (by (with_reducible repeat (first | apply Kd.R_alloc | apply Kd.R_drewN | apply Kd.R_drew)); exact HO303.out) hb)
       have n3_ := Aside0.mk (Kd.R_below (by (with_reducible repeat (first | apply Kd.R_alloc | apply Kd.R_drewN | apply Kd.R_drew)); exact HO307.out) hb)
       have n4_ := Aside0.mk (Kd.R_below (by (with_reducible repeat (first | apply Kd.R_alloc | apply Kd.R_drewN | apply Kd.R_drew)); exact HO314.out) hb)
       have n5_ := Aside0.mk (Kd.R_below (by (with_reducible repeat (first | apply Kd.R_alloc | apply Kd.R_drewN | apply Kd.R_drew)); exact HO318.out) hb)
       have n6_ := Aside0.mk (blk_below (g := gb287) (o := .cells #[.string a0_0, .int .i64 a0_1, .slice A0_2 l0_2.length c0_2, .int .i64 a0_3, .slice A0_4 l0_4.length c0_4] 25 (0, 0)) (by (with_reducible repeat (first | refine blk_drewN ?_ _ | refine blk_drew ?_ | refine blk_alloc ?_ _)); exact BK287.out) hb)
       have n7_ := Aside0.mk (blk_below (g := gb308) (o := .cells #[.string t299, .int .i64 t300, .slice Ao67 t301.length co67, .int .i64 t304, .slice Ao68 t305.length co68] 30 (0, 0)) (by (with_reducible repeat (first | refine blk_drewN ?_ _ | refine blk_drew ?_ | refine blk_alloc ?_ _)); exact BK308.out) hb)
       have n8_ := Aside0.mk (below_step (by repeat (first | (with_reducible first | exact HB.out | apply below_alloc | apply pw_below_drewN | apply below_drew1 | refine below_set ?_ GE287.out | refine below_set ?_ GE308.out) | exact HB.out)) hb)
       clear HO293
       clear HO297
       clear HO303
       clear HO307
       clear HO314
       clear HO318
       clear BK287
       clear BK308
       clear HB
       have HO293 := n0_
       have HO297 := n1_
       have HO303 := n2_
       have HO307 := n3_
       have HO314 := n4_
       have HO318 := n5_
       have BK287 := n6_
       have BK308 := n7_
       have HB := n8_
       clear n0_ n1_ n2_ n3_ n4_ n5_ n6_ n7_ n8_
       (try clear hb)
       (try clear hb2)
       (try clear hk)
       (try clear hi)
       refine hK.out _ _ ⟨(blk_cell BK308.out 0).trans rfl, (blk_cell BK308.out 1).trans rfl, (blk_cell BK308.out 2).trans rfl, (blk_cell BK308.out 3).trans rfl, (blk_cell BK308.out 4).trans rfl, (blk_cell BK287.out 0).trans rfl, (blk_cell BK287.out 1).trans rfl, (blk_cell BK287.out 2).trans rfl, (blk_cell BK287.out 3).trans rfl, (blk_cell BK287.out 4).trans rfl⟩ (fun hHeld => ?_)
       clear hK K
       refine norm_ (a' := ?_) ?_ ?_
       rotate_left
       · show Act.put _ (some 33) _ = _
         simp only [Act.put, List.setIfInBounds_toArray, List.set_cons_zero, List.set_cons_succ, i64_w, i32_w]
         rfl
       refine pure_ (i := 4) (N := some 34) (v := ?_) (a' := ?_) #[true, true, true, true, true] rfl rfl (by kernel_rfl) (fun _ _ _ h => h) (Or.inl ⟨by rfl, ?_⟩) ?_ ?_
       rotate_left
       · intro w'
         go_simp
         with_reducible rfl
       rotate_left
       · simp only [Act.put, List.setIfInBounds_toArray, List.set_cons_zero, List.set_cons_succ, i64_w, i32_w]
         rfl
       refine done_ (by kernel_rfl) ?_
       try go_wp2
       go_ret
       exact ⟨by first | rfl | (simp [errW_none, errW_some] <;> rfl) | (simp [*, errW_none, errW_some] <;> rfl), by repeat (first | (with_reducible first | exact HB.out | apply below_alloc | apply pw_below_drewN | apply below_drew1 | refine below_set ?_ GE287.out | refine below_set ?_ GE308.out) | exact HB.out)⟩

end Go.Proofs.Ytoedcnhgobbnfaa.All


/- What reads as data of a type can be read as a value of its kind. -/
namespace Go.Proofs.Ytoedcnhgobbnfaa.All
open Go.RowKit Go.Proofs.YtoedcnhgobbnfaaW.PrintWords Go.Proofs.YtoedcnhgobbnfaaW.PrintLast Go.Proofs.YtoedcnhgobbnfaaW.PrintMore
set_option linter.unusedVariables false
set_option linter.unusedSimpArgs false
structure Rdb {α : Type} (d : Kd α) (P : Program) (t : TypeId) (ok : α → Prop) : Prop where
  sz : P.cellsOf t = d.sz
  rd : ∀ {H : Type} {enc : TypeId × Value → H} {w : World} {base : Nat} {sp : Nat → Bool} {held : Bool} {fuel : Nat} {cs : List Value} {x : DataW H × List MemPlace}, DataW.trod enc P w base sp held fuel t cs = some x → ∃ a, d.K w a cs ∧ ok a
theorem Rdb.int {P : Program} {t : TypeId} {k : IntKind} (ht : P.underlying t = some (.int k)) (hs : P.cellsOf t = 1) : Rdb (Kd.int k) P t (fun a => (Lit.int k a).wf = true) :=
  ⟨hs, fun h => by obtain ⟨n, rfl, _, hw⟩ := DataW.trod_int ht h; exact ⟨n, rfl, hw⟩⟩
theorem Rdb.bool {P : Program} {t : TypeId} (ht : P.underlying t = some .bool) (hs : P.cellsOf t = 1) : Rdb Kd.bool P t (fun _ => True) :=
  ⟨hs, fun h => by obtain ⟨b, rfl, _⟩ := DataW.trod_bool ht h; exact ⟨b, rfl, trivial⟩⟩
theorem Rdb.string {P : Program} {t : TypeId} (ht : P.underlying t = some .string) (hs : P.cellsOf t = 1) : Rdb Kd.string P t (fun s => s.size ≤ 9223372036854775807) :=
  ⟨hs, fun h => by obtain ⟨s, rfl, _, hm⟩ := DataW.trod_string ht h; exact ⟨s, rfl, hm⟩⟩
theorem rdb_list {α : Type} {P : Nat → α → Prop} : ∀ n : Nat, (∀ j, j < n → ∃ x, P j x) → ∃ l : List α, l.length = n ∧ ∀ (j : Nat) (x : α), l[j]? = some x → P j x
  | 0, _ => ⟨[], rfl, fun j x h => by simp at h⟩
  | n + 1, h => by
    obtain ⟨l, hl, hp⟩ := rdb_list n (fun j hj => h j (by omega))
    obtain ⟨x, hx⟩ := h n (by omega)
    refine ⟨l ++ [x], by simp [hl], fun j y hy => ?_⟩
    by_cases hj : j < n
    · rw [List.getElem?_append_left (by omega)] at hy
      exact hp j y hy
    · have hlt := (List.getElem?_eq_some_iff.1 hy).1
      simp [hl] at hlt
      have : j = n := by omega
      subst this
      rw [List.getElem?_append_right (by omega)] at hy
      simp [hl] at hy
      subst hy
      exact hx
theorem Rdb.slice {α : Type} {d : Kd α} {P : Program} {t e : TypeId} {ok : α → Prop} (ht : P.underlying t = some (.slice e)) (hs : P.cellsOf t = 1) (h : Rdb d P e ok) : Rdb (Kd.slice e d) P t (fun xs => xs.length ≤ 9223372036854775807 ∧ ∀ x ∈ xs, ok x) := by
  refine ⟨hs, fun {H enc w base sp held fuel cs x} hx => ?_⟩
  rcases Deep.open_slice ht hx with ⟨rfl, _⟩ | ⟨a, len, cap, m, n, D, Pl, rfl, hb, hl, hm, hmm, _, hel⟩
  · exact ⟨[], ⟨none, 0, rfl, Nat.le_refl _, rfl, by simp, fun h0 => by simp at h0⟩, by simp, fun x hx => by simp at hx⟩
  · have hmax : len ≤ 9223372036854775807 := Nat.le_trans hl hm
    have hlm : len ≤ m := by rw [hmm]; split <;> omega
    obtain ⟨xs, hlen, hxs⟩ := rdb_list (P := fun j (x : α) => ok x ∧ ∃ c, c.length = d.sz ∧ d.K w x c ∧ ∀ (i : Nat) (u : Value), c[i]? = some u → w.cell? (a.add (j * d.sz + i)) = some u) len (fun j hj => by
      obtain ⟨cs', hc, htr⟩ := hel j (by omega)
      obtain ⟨x, hK, hok⟩ := h.rd htr
      obtain ⟨_, hcl, hcc⟩ := World.cells?_some hc
      rw [h.sz] at hcl hcc
      refine ⟨x, hok, cs', hcl, hK, fun i u hu => ?_⟩
      have hi := (List.getElem?_eq_some_iff.1 hu).1
      have := hcc i (by omega)
      rw [Addr.add_add] at this
      exact this.trans hu)
    refine ⟨xs, ⟨some a, cap, by rw [hlen], by omega, rfl, by omega, fun _ => ⟨a, rfl, fun j p hj => (hxs j p hj).2⟩⟩, by omega, fun x hx => ?_⟩
    obtain ⟨j, hj⟩ := List.getElem?_of_mem hx
    exact (hxs j x hj).1
/-- The fields of a struct (types and places) from cell 'off' on. -/
structure RdbFs {α : Type} (d : Kd α) (P : Program) (fs : List (TypeId × Nat)) (off : Nat) (ok : α → Prop) : Prop where
  rd : ∀ {H : Type} {enc : TypeId × Value → H} {w : World} {base : Nat} {sp : Nat → Bool} {held : Bool} {n : Nat} {cs : List Value}, cs.length = off + d.sz →
    (∀ f ∈ fs, ∃ x, DataW.trod enc P w base sp held n f.1 ((cs.drop f.2).take (P.cellsOf f.1)) = some x) → ∃ a, d.K w a (cs.drop off) ∧ ok a
theorem RdbFs.one {α : Type} {d : Kd α} {P : Program} {t : TypeId} {off : Nat} {ok : α → Prop} (h : Rdb d P t ok) : RdbFs d P [(t, off)] off ok := by
  refine ⟨fun {H enc w base sp held n cs} hl hf => ?_⟩
  obtain ⟨x, hx⟩ := hf (t, off) (by simp)
  simp only at hx
  rw [h.sz, List.take_of_length_le (by rw [List.length_drop]; omega)] at hx
  exact h.rd hx
theorem RdbFs.cons {α β : Type} {a : Kd α} {b : Kd β} {P : Program} {t : TypeId} {fs : List (TypeId × Nat)} {off off' : Nat} {ok : α → Prop} {ok' : β → Prop} (ho : off + a.sz = off') (h : Rdb a P t ok) (hs : RdbFs b P fs off' ok') : RdbFs (Kd.pair a b) P ((t, off) :: fs) off (fun x => ok x.1 ∧ ok' x.2) := by
  subst ho
  refine ⟨fun {H enc w base sp held n cs} hl hf => ?_⟩
  have hl' : cs.length = off + a.sz + b.sz := by rw [hl]; show off + (a.sz + b.sz) = _; omega
  obtain ⟨x, hx⟩ := hf (t, off) (by simp)
  simp only at hx
  rw [h.sz] at hx
  obtain ⟨y, hy, oky⟩ := h.rd hx
  obtain ⟨z, hz, okz⟩ := hs.rd hl' (fun g hg => hf g (by simp [hg]))
  refine ⟨(y, z), ⟨(cs.drop off).take a.sz, cs.drop (off + a.sz), ?_, hy, hz⟩, oky, okz⟩
  rw [← List.drop_drop, List.take_append_drop]
theorem Rdb.struct {α : Type} {d : Kd α} {P : Program} {t : TypeId} {fs : Array Field} {ok : α → Prop} (ht : P.underlying t = some (.struct fs)) (hs : P.cellsOf t = d.sz) (tos : List (TypeId × Nat)) (htos : fs.toList.map (fun f => (f.type, f.offset)) = tos) (h : RdbFs d P tos 0 ok) : Rdb d P t ok := by
  subst htos
  refine ⟨hs, fun hx => ?_⟩
  obtain ⟨xs, n, rfl, rfl, hl, hxl, hf⟩ := DataW.trod_struct ht hx
  have := h.rd (n := n) (by rw [hl, hs, Nat.zero_add]) (fun f hfm => by
    obtain ⟨f', hf', rfl⟩ := List.mem_map.1 hfm
    obtain ⟨i, hi⟩ := List.getElem?_of_mem hf'
    rw [Array.getElem?_toList] at hi
    have h1 := hf i f' hi
    have hlt : i < xs.length := by rw [hxl]; exact (Array.getElem?_eq_some_iff.1 hi).1
    exact ⟨xs[i], by rw [h1, List.getElem?_eq_getElem hlt]⟩)
  simpa using this
theorem Rdb.iso {α β : Type} {d : Kd α} {P : Program} {t : TypeId} {ok : α → Prop} {f : β → α} (h : Rdb d P t ok) (g : α → β) (hg : ∀ y, f (g y) = y) : Rdb (Kd.iso d f) P t (fun x => ok (f x)) :=
  ⟨h.sz, fun hx => by
    obtain ⟨a, hK, hok⟩ := h.rd hx
    refine ⟨g a, ?_, by rw [hg]; exact hok⟩
    show d.K _ (f (g a)) _
    rw [hg]
    exact hK⟩
end Go.Proofs.Ytoedcnhgobbnfaa.All


/- How the laws' arguments read. Printed by gen_row.py. -/
namespace Go.Proofs.Ytoedcnhgobbnfaa.All
open Go.RowKit Go.Proofs.YtoedcnhgobbnfaaW.PrintWords
set_option linter.unusedVariables false
def ok158 (x : S158) : Prop := (Lit.int .i64 x.f0).wf = true ∧ (Lit.int .i64 x.f1).wf = true ∧ (Lit.int .i64 x.f2).wf = true ∧ (Lit.int .u64 x.f3).wf = true
set_option maxRecDepth 100000 in
theorem rdb158 : Rdb k158 Try.prog 158 ok158 := Rdb.iso (f := fun x : S158 => (x.f0, x.f1, x.f2, x.f3)) (Rdb.struct Try.underlying158 (by kernel_rfl) [(2, 0), (2, 1), (2, 2), (73, 3)] rfl (RdbFs.cons rfl (Rdb.int Try.underlying2 (by kernel_rfl)) (RdbFs.cons rfl (Rdb.int Try.underlying2 (by kernel_rfl)) (RdbFs.cons rfl (Rdb.int Try.underlying2 (by kernel_rfl)) (RdbFs.one (Rdb.int Try.underlying73 (by kernel_rfl))))))) (fun y => (⟨y.1, y.2.1, y.2.2.1, y.2.2.2⟩ : S158)) (fun _ => rfl)
def ok140 (x : S140) : Prop := (Lit.int .i64 x.f0).wf = true ∧ (Lit.int .i64 x.f1).wf = true ∧ (Lit.int .i64 x.f2).wf = true ∧ (Lit.int .i64 x.f3).wf = true ∧ (Lit.int .i64 x.f4).wf = true ∧ (Lit.int .i64 x.f5).wf = true ∧ (x.f6.length ≤ 9223372036854775807 ∧ ∀ y ∈ x.f6, ok158 y) ∧ (x.f7.length ≤ 9223372036854775807 ∧ ∀ y ∈ x.f7, (Lit.int .i64 y).wf = true) ∧ (x.f8.length ≤ 9223372036854775807 ∧ ∀ y ∈ x.f8, (Lit.int .u64 y).wf = true)
set_option maxRecDepth 100000 in
theorem rdb140 : Rdb k140 Try.prog 140 ok140 := Rdb.iso (f := fun x : S140 => (x.f0, x.f1, x.f2, x.f3, x.f4, x.f5, x.f6, x.f7, x.f8)) (Rdb.struct Try.underlying140 (by kernel_rfl) [(2, 0), (2, 1), (2, 2), (2, 3), (2, 4), (2, 5), (138, 6), (22, 7), (64, 8)] rfl (RdbFs.cons rfl (Rdb.int Try.underlying2 (by kernel_rfl)) (RdbFs.cons rfl (Rdb.int Try.underlying2 (by kernel_rfl)) (RdbFs.cons rfl (Rdb.int Try.underlying2 (by kernel_rfl)) (RdbFs.cons rfl (Rdb.int Try.underlying2 (by kernel_rfl)) (RdbFs.cons rfl (Rdb.int Try.underlying2 (by kernel_rfl)) (RdbFs.cons rfl (Rdb.int Try.underlying2 (by kernel_rfl)) (RdbFs.cons rfl (Rdb.slice Try.underlying138 (by kernel_rfl) rdb158) (RdbFs.cons rfl (Rdb.slice Try.underlying22 (by kernel_rfl) (Rdb.int Try.underlying2 (by kernel_rfl))) (RdbFs.one (Rdb.slice Try.underlying64 (by kernel_rfl) (Rdb.int Try.underlying73 (by kernel_rfl))))))))))))) (fun y => (⟨y.1, y.2.1, y.2.2.1, y.2.2.2.1, y.2.2.2.2.1, y.2.2.2.2.2.1, y.2.2.2.2.2.2.1, y.2.2.2.2.2.2.2.1, y.2.2.2.2.2.2.2.2⟩ : S140)) (fun _ => rfl)
def ok96 (x : S96) : Prop := (x.f0.length ≤ 9223372036854775807 ∧ ∀ y ∈ x.f0, ok140 y)
set_option maxRecDepth 100000 in
theorem rdb96 : Rdb k96 Try.prog 96 ok96 := Rdb.iso (f := fun x : S96 => x.f0) (Rdb.struct Try.underlying96 (by kernel_rfl) [(94, 0)] rfl (RdbFs.one (Rdb.slice Try.underlying94 (by kernel_rfl) rdb140))) (fun y => (⟨y⟩ : S96)) (fun _ => rfl)
set_option maxRecDepth 100000 in
theorem rdbTop25 : Rdb (Kd.pair Kd.string (Kd.pair (Kd.int .i64) (Kd.pair (Kd.slice 2 (Kd.int .i64)) (Kd.pair (Kd.int .i64) (Kd.slice 96 k96))))) Try.prog 25 (fun x => x.1.size ≤ 9223372036854775807 ∧ (Lit.int .i64 x.2.1).wf = true ∧ (x.2.2.1.length ≤ 9223372036854775807 ∧ ∀ y ∈ x.2.2.1, (Lit.int .i64 y).wf = true) ∧ (Lit.int .i64 x.2.2.2.1).wf = true ∧ (x.2.2.2.2.length ≤ 9223372036854775807 ∧ ∀ y ∈ x.2.2.2.2, ok96 y)) := Rdb.struct Try.underlying25 (by kernel_rfl) [(9, 0), (2, 1), (22, 2), (2, 3), (23, 4)] rfl (RdbFs.cons rfl (Rdb.string Try.underlying9 (by kernel_rfl)) (RdbFs.cons rfl (Rdb.int Try.underlying2 (by kernel_rfl)) (RdbFs.cons rfl (Rdb.slice Try.underlying22 (by kernel_rfl) (Rdb.int Try.underlying2 (by kernel_rfl))) (RdbFs.cons rfl (Rdb.int Try.underlying2 (by kernel_rfl)) (RdbFs.one (Rdb.slice Try.underlying23 (by kernel_rfl) rdb96))))))
end Go.Proofs.Ytoedcnhgobbnfaa.All


/- Plain laws of the printed functions: eventually (Ev), step by step; loops over a list. -/
namespace Go.Proofs.Ytoedcnhgobbnfaa.All
open Go.RowKit Go.Proofs.YtoedcnhgobbnfaaW.PrintWords Go.Proofs.YtoedcnhgobbnfaaW.PrintLast Go.Proofs.YtoedcnhgobbnfaaW.PrintMore
set_option linter.unusedVariables false
set_option linter.unusedSimpArgs false
theorem Ev.succ {α : Type} {g : Nat → Option α} {r : α} (h : Ev (fun k => g (k + 1)) r) : Ev g r := by
  obtain ⟨K, hK⟩ := h
  refine ⟨K + 1, fun k hk => ?_⟩
  obtain ⟨m, rfl⟩ : ∃ m, k = m + 1 := ⟨k - 1, by omega⟩
  exact hK m (by omega)
theorem Ev.pos {α : Type} {c : Prop} [Decidable c] {g h : Nat → Option α} {r : α} (hc : c) (k : Ev g r) : Ev (fun n => if c then g n else h n) r := Ev.congr (fun n => if_pos hc) k
theorem Ev.neg {α : Type} {c : Prop} [Decidable c] {g h : Nat → Option α} {r : α} (hc : ¬ c) (k : Ev h r) : Ev (fun n => if c then g n else h n) r := Ev.congr (fun n => if_neg hc) k
theorem Ev.some_bind {α β : Type} {a : α} {f : Nat → α → Option β} {r : β} (k : Ev (fun n => f n a) r) : Ev (fun n => (some a).bind (f n)) r := k
theorem Ev.eq_bind {α β : Type} {o : Option α} {a : α} {f : Nat → α → Option β} {r : β} (h : o = some a) (k : Ev (fun n => f n a) r) : Ev (fun n => o.bind (f n)) r := by subst h; exact k
theorem Ev.some {α : Type} {a r : α} (h : a = r) : Ev (fun _ => some a) r := h ▸ Ev.now a
theorem wrap64_id {x : Int} (h1 : -9223372036854775808 ≤ x) (h2 : x ≤ 9223372036854775807) : wrap64 x = x := by unfold wrap64; omega
theorem wrap64_nat {i : Nat} (h : i < 9223372036854775807) : wrap64 ((i : Int) + 1) = ((i + 1 : Nat) : Int) := by rw [wrap64_id (by omega) (by omega)]; rfl
theorem getD_eq {α : Type} {xs : List α} {i : Nat} (h : i < xs.length) (z : α) : xs.getD i z = xs[i] := by rw [List.getD_eq_getElem?_getD, List.getElem?_eq_getElem h]; rfl
/-- A loop that fills a list of the same length. -/
theorem to_gen {α β : Type} (f : α → β) (z : β) (za : α) (xs : List α) (g : Nat → List β → Int → Option (List β))
    (hstep : ∀ (i : Nat) (out : List β) (r : List β), i < xs.length → out.length = xs.length → Ev (fun k => g k (out.set i (f (xs.getD i za))) ((i + 1 : Nat) : Int)) r → Ev (fun k => g k out (i : Int)) r)
    (hend : ∀ out : List β, out.length = xs.length → Ev (fun k => g k out (xs.length : Int)) out) : Ev (fun k => g k (List.replicate xs.length z) 0) (xs.map f) := by
  have key : ∀ d i : Nat, i + d = xs.length → Ev (fun k => g k ((xs.map f).take i ++ List.replicate (xs.length - i) z) (i : Int)) (xs.map f) := by
    intro d
    induction d with
    | zero =>
      intro i hi
      obtain rfl : i = xs.length := by omega
      rw [Nat.sub_self, List.replicate_zero, List.append_nil, List.take_of_length_le (by simp)]
      exact hend _ (by simp)
    | succ d ih =>
      intro i hi
      have h1 := ih (i + 1) (by omega)
      refine hstep i _ _ (by omega) (by simp; omega) ?_
      have e : ((xs.map f).take i ++ List.replicate (xs.length - i) z).set i (f (xs.getD i za)) = (xs.map f).take (i + 1) ++ List.replicate (xs.length - (i + 1)) z := by
        have hl : ((xs.map f).take i).length = i := by simp; omega
        rw [List.set_append_right _ _ (by omega), hl, Nat.sub_self]
        obtain ⟨m, hm⟩ : ∃ m, xs.length - i = m + 1 := ⟨xs.length - i - 1, by omega⟩
        rw [hm, List.replicate_succ, List.set_cons_zero, List.take_succ_eq_append_getElem (by simp; omega), show xs.length - (i + 1) = m by omega, List.append_assoc]
        congr 1
        simp [List.getElem?_eq_getElem (show i < xs.length by omega)]
      rw [e]
      exact h1
  have h0 := key xs.length 0 (by omega)
  simpa using h0
/-- A loop whose end is r, whatever happens on the way. -/
theorem for_gen {ρ : Type} (r : ρ) (n : Nat) (g : Nat → Int → Option ρ) (hstep : ∀ i : Nat, i < n → Ev (fun k => g k ((i + 1 : Nat) : Int)) r → Ev (fun k => g k (i : Int)) r) (hend : Ev (fun k => g k (n : Int)) r) : Ev (fun k => g k 0) r := by
  have key : ∀ d i : Nat, i + d = n → Ev (fun k => g k (i : Int)) r := by
    intro d
    induction d with
    | zero => intro i hi; obtain rfl : i = n := by omega
              exact hend
    | succ d ih => intro i hi; exact hstep i (by omega) (ih (i + 1) (by omega))
  exact key n 0 (by omega)
/-- A loop that says yes at each step. -/
theorem all_gen (n : Nat) (g : Nat → Int → Option Bool) (hstep : ∀ i : Nat, i < n → Ev (fun k => g k ((i + 1 : Nat) : Int)) true → Ev (fun k => g k (i : Int)) true) (hend : Ev (fun k => g k (n : Int)) true) : Ev (fun k => g k 0) true := for_gen true n g hstep hend
/-- A loop that takes sizes off; below 0 it ends with -1. -/
theorem sz_gen {α : Type} (s : α → Nat) (za : α) (xs : List α) (g : Nat → Int → Int → Option Int)
    (hstep : ∀ (i : Nat) (a r : Int), i < xs.length → 0 ≤ a → a ≤ 1048576 → (if (s (xs.getD i za) : Int) ≤ a then Ev (fun k => g k (a - s (xs.getD i za)) ((i + 1 : Nat) : Int)) r else r = -1) → Ev (fun k => g k a (i : Int)) r)
    (hend : ∀ a : Int, Ev (fun k => g k a (xs.length : Int)) a) (a : Int) (h0 : 0 ≤ a) (h1 : a ≤ 1048576) : Ev (fun k => g k a 0) (if ((xs.map s).sum : Int) ≤ a then a - (xs.map s).sum else -1) := by
  have key : ∀ d i : Nat, i + d = xs.length → ∀ a : Int, 0 ≤ a → a ≤ 1048576 → Ev (fun k => g k a (i : Int)) (if ((((xs.drop i).map s).sum : Nat) : Int) ≤ a then a - (((xs.drop i).map s).sum : Nat) else -1) := by
    intro d
    induction d with
    | zero =>
      intro i hi a h0 h1
      obtain rfl : i = xs.length := by omega
      rw [List.drop_length]
      simp [h0]
      exact hend a
    | succ d ih =>
      intro i hi a h0 h1
      have hlt : i < xs.length := by omega
      refine hstep i a _ hlt h0 h1 ?_
      rw [List.drop_eq_getElem_cons hlt, List.map_cons, List.sum_cons, getD_eq hlt]
      split
      · rename_i hc
        have h2 := ih (i + 1) (by omega) (a - (s xs[i] : Nat)) (by omega) (by omega)
        have e : (if ((((xs.drop (i + 1)).map s).sum : Nat) : Int) ≤ a - (s xs[i] : Nat) then a - (s xs[i] : Nat) - (((xs.drop (i + 1)).map s).sum : Nat) else -1) = (if ((s xs[i] + ((xs.drop (i + 1)).map s).sum : Nat) : Int) ≤ a then a - (s xs[i] + ((xs.drop (i + 1)).map s).sum : Nat) else -1) := by
          split <;> split <;> omega
        rw [← e]
        exact h2
      · rename_i hc
        rw [if_neg (by omega)]
  have h2 := key xs.length 0 (by omega) a h0 h1
  simpa using h2
theorem sum_getD_le {α : Type} (s : α → Nat) (z : α) : ∀ (xs : List α) (i : Nat), i < xs.length → s (xs.getD i z) ≤ (xs.map s).sum
  | x :: xs, 0, _ => by simp
  | x :: xs, i + 1, h => by
    have := sum_getD_le s z xs i (by simpa using h)
    simp only [List.getD_cons_succ, List.map_cons, List.sum_cons] at this ⊢
    omega
end Go.Proofs.Ytoedcnhgobbnfaa.All


/- Plain laws of szFunc, toFunc, eqFunc over the laws' functions. -/
namespace Go.Proofs.Ytoedcnhgobbnfaa.All
open Go.RowKit Go.Proofs.YtoedcnhgobbnfaaW.PrintWords Go.Proofs.YtoedcnhgobbnfaaW.PrintLast Go.Proofs.YtoedcnhgobbnfaaW.PrintMore
set_option linter.unusedVariables false
set_option linter.unusedSimpArgs false
def iOperand (x : S158) : S75 := ⟨x.f0, x.f1, x.f2, x.f3⟩
def iInstr (x : S140) : S66 := ⟨x.f0, x.f1, x.f2, x.f3, x.f4, x.f5, x.f6.map iOperand, x.f7, x.f8⟩
def iBlock (x : S96) : S62 := ⟨x.f0.map iInstr⟩
def sInstr (x : S140) : Nat := x.f6.length + x.f7.length + x.f8.length
def sInstrS (xs : List S140) : Nat := xs.length + (xs.map sInstr).sum
def sBlock (x : S96) : Nat := sInstrS x.f0
def sBlockS (xs : List S96) : Nat := xs.length + (xs.map sBlock).sum
/-- What is known of lengths: each list's own is a machine number. -/
def lInstr (x : S140) : Prop := x.f6.length ≤ 9223372036854775807 ∧ x.f7.length ≤ 9223372036854775807 ∧ x.f8.length ≤ 9223372036854775807
def lInstrS (xs : List S140) : Prop := xs.length ≤ 9223372036854775807 ∧ ∀ x ∈ xs, lInstr x
def lBlockS (xs : List S96) : Prop := xs.length ≤ 9223372036854775807 ∧ ∀ x ∈ xs, lInstrS x.f0
theorem szInt64S_f (l : List Int) (a : Int) (h0 : 0 ≤ a) (h1 : a ≤ 1048576) (hl : l.length ≤ 9223372036854775807) : laws_szInt64S.f l a = some (if (l.length : Int) ≤ a then a - l.length else -1) := by
  unfold laws_szInt64S.f; rw [wrap64_id (by omega) (by omega)]
  by_cases h : (l.length : Int) ≤ a
  · rw [if_neg (by omega), if_pos h]
  · rw [if_pos (by omega), if_neg h]
theorem szUint64S_f (l : List Int) (a : Int) (h0 : 0 ≤ a) (h1 : a ≤ 1048576) (hl : l.length ≤ 9223372036854775807) : laws_szUint64S.f l a = some (if (l.length : Int) ≤ a then a - l.length else -1) := by
  unfold laws_szUint64S.f; rw [wrap64_id (by omega) (by omega)]
  by_cases h : (l.length : Int) ≤ a
  · rw [if_neg (by omega), if_pos h]
  · rw [if_pos (by omega), if_neg h]
theorem szOperandS_f (l : List S158) (a : Int) (h0 : 0 ≤ a) (h1 : a ≤ 1048576) (hl : l.length ≤ 9223372036854775807) : laws_szOperandS.f l a = some (if (l.length : Int) ≤ a then a - l.length else -1) := by
  unfold laws_szOperandS.f; rw [wrap64_id (by omega) (by omega)]
  by_cases h : (l.length : Int) ≤ a
  · rw [if_neg (by omega), if_pos h]
  · rw [if_pos (by omega), if_neg h]
theorem szInstr_f (x : S140) (a : Int) (h0 : 0 ≤ a) (h1 : a ≤ 1048576) (hx : lInstr x) : laws_szInstr.f x.f0 x.f1 x.f2 x.f3 x.f4 x.f5 x.f6 x.f7 x.f8 a = some (if (sInstr x : Int) ≤ a then a - sInstr x else -1) := by
  obtain ⟨l6, l7, l8⟩ := hx
  unfold laws_szInstr.f sInstr
  rw [szOperandS_f _ _ h0 h1 l6]; simp only [Option.bind_some]
  by_cases c6 : (x.f6.length : Int) ≤ a
  · rw [if_pos c6, if_neg (by omega), szInt64S_f _ _ (by omega) (by omega) l7]; simp only [Option.bind_some]
    by_cases c7 : (x.f7.length : Int) ≤ a - x.f6.length
    · rw [if_pos c7, if_neg (by omega), szUint64S_f _ _ (by omega) (by omega) l8]; simp only [Option.bind_some]
      by_cases c8 : (x.f8.length : Int) ≤ a - x.f6.length - x.f7.length
      · rw [if_pos c8, if_neg (by omega), if_pos (by omega)]; congr 1; omega
      · rw [if_neg c8, if_pos (by omega), if_neg (by omega)]
    · rw [if_neg c7, if_pos (by omega), if_neg (by omega)]
  · rw [if_neg c6, if_pos (by omega), if_neg (by omega)]
theorem szInstrS_f (xs : List S140) (a : Int) (h0 : 0 ≤ a) (h1 : a ≤ 1048576) (hx : lInstrS xs) : Ev (fun k => laws_szInstrS.f k xs a) (if (sInstrS xs : Int) ≤ a then a - sInstrS xs else -1) := by
  obtain ⟨hl, hx⟩ := hx
  unfold laws_szInstrS.f
  rw [wrap64_id (by omega) (by omega)]
  by_cases c : (xs.length : Int) ≤ a
  · refine Ev.neg (by omega) ?_
    have h := sz_gen sInstr z140 xs (fun k a i => laws_szInstrS.l0 k xs a i) (fun i a r hi h0 h1 h => by
      refine Ev.succ ?_
      simp only [laws_szInstrS.l0]
      refine Ev.pos (by omega) (Ev.pos (by omega) ?_)
      have hm : lInstr (rd_T140 xs i) := hx _ (by simp only [rd_T140, Int.toNat_natCast]; rw [getD_eq hi]; exact List.getElem_mem hi)
      refine Ev.eq_bind (szInstr_f _ a h0 h1 hm) ?_
      have e : rd_T140 xs i = xs.getD i z140 := by simp [rd_T140]
      rw [e]
      split at h
      · rename_i hc
        rw [if_pos hc, wrap64_nat (by omega)]
        exact Ev.neg (by omega) h
      · rename_i hc
        rw [if_neg hc]
        exact Ev.pos (by omega) (Ev.some h.symm)) (fun a => by
      refine Ev.succ ?_
      simp only [laws_szInstrS.l0]
      exact Ev.neg (by omega) (Ev.now _)) (a - xs.length) (by omega) (by omega)
    have e : (if ((xs.map sInstr).sum : Int) ≤ a - xs.length then a - xs.length - (xs.map sInstr).sum else -1) = (if (sInstrS xs : Int) ≤ a then a - sInstrS xs else -1) := by unfold sInstrS; split <;> split <;> omega
    rw [← e]
    exact h
  · rw [if_neg (by unfold sInstrS; omega)]
    exact Ev.pos (by omega) (Ev.now _)
theorem szBlockS_f (xs : List S96) (a : Int) (h0 : 0 ≤ a) (h1 : a ≤ 1048576) (hx : lBlockS xs) : Ev (fun k => laws_szBlockS.f k xs a) (if (sBlockS xs : Int) ≤ a then a - sBlockS xs else -1) := by
  obtain ⟨hl, hx⟩ := hx
  unfold laws_szBlockS.f
  rw [wrap64_id (by omega) (by omega)]
  by_cases c : (xs.length : Int) ≤ a
  · refine Ev.neg (by omega) ?_
    have h := sz_gen sBlock z96 xs (fun k a i => laws_szBlockS.l0 k xs a i) (fun i a r hi h0 h1 h => by
      refine Ev.succ ?_
      simp only [laws_szBlockS.l0]
      refine Ev.pos (by omega) (Ev.pos (by omega) ?_)
      have hm : lInstrS (rd_T96 xs i).f0 := hx _ (by simp only [rd_T96, Int.toNat_natCast]; rw [getD_eq hi]; exact List.getElem_mem hi)
      have e : rd_T96 xs i = xs.getD i z96 := by simp [rd_T96]
      rw [e] at hm ⊢
      have h2 := szInstrS_f _ a h0 h1 hm
      unfold laws_szBlock.f
      split at h
      · rename_i hc
        rw [if_pos (show (sInstrS (xs.getD i z96).f0 : Int) ≤ a from hc)] at h2
        refine Ev.bind (Ev.bind h2 (Ev.neg (by unfold sBlock at hc; omega) (Ev.now _))) ?_
        rw [wrap64_nat (by omega)]
        exact Ev.neg (by unfold sBlock at hc; omega) h
      · rename_i hc
        rw [if_neg (show ¬ (sInstrS (xs.getD i z96).f0 : Int) ≤ a from hc)] at h2
        refine Ev.bind (Ev.bind h2 (Ev.pos (by omega) (Ev.now _))) ?_
        exact Ev.pos (by omega) (Ev.some h.symm)) (fun a => by
      refine Ev.succ ?_
      simp only [laws_szBlockS.l0]
      exact Ev.neg (by omega) (Ev.now _)) (a - xs.length) (by omega) (by omega)
    have e : (if ((xs.map sBlock).sum : Int) ≤ a - xs.length then a - xs.length - (xs.map sBlock).sum else -1) = (if (sBlockS xs : Int) ≤ a then a - sBlockS xs else -1) := by unfold sBlockS; split <;> split <;> omega
    rw [← e]
    exact h
  · rw [if_neg (by unfold sBlockS; omega)]
    exact Ev.pos (by omega) (Ev.now _)
theorem szFunc_f (n : ByteArray) (b : Int) (ps : List Int) (c : Int) (bs : List S96) (hn : n.size ≤ 9223372036854775807) (hp : ps.length ≤ 9223372036854775807) (hb : lBlockS bs) :
    ∃ r, Ev (fun k => laws_szFunc.f k n b ps c bs 1048576) r ∧ (r < 0 ∨ n.size + ps.length + sBlockS bs ≤ 1048576) := by
  unfold laws_szFunc.f
  rw [wrap64_id (by omega) (by omega)]
  by_cases c1 : (n.size : Int) ≤ 1048576
  · by_cases c2 : (ps.length : Int) ≤ 1048576 - n.size
    · by_cases c3 : (sBlockS bs : Int) ≤ 1048576 - n.size - ps.length
      · refine ⟨1048576 - n.size - ps.length - sBlockS bs, Ev.neg (by omega) ?_, .inr (by omega)⟩
        refine Ev.eq_bind (szInt64S_f _ _ (by omega) (by omega) hp) ?_
        rw [if_pos c2]
        refine Ev.neg (by omega) ?_
        have h := szBlockS_f bs (1048576 - n.size - ps.length) (by omega) (by omega) hb
        rw [if_pos c3] at h
        exact Ev.bind h (Ev.neg (by omega) (Ev.now _))
      · refine ⟨-1, Ev.neg (by omega) ?_, .inl (by omega)⟩
        refine Ev.eq_bind (szInt64S_f _ _ (by omega) (by omega) hp) ?_
        rw [if_pos c2]
        refine Ev.neg (by omega) ?_
        have h := szBlockS_f bs (1048576 - n.size - ps.length) (by omega) (by omega) hb
        rw [if_neg c3] at h
        exact Ev.bind h (Ev.pos (by omega) (Ev.now _))
    · refine ⟨-1, Ev.neg (by omega) ?_, .inl (by omega)⟩
      refine Ev.eq_bind (szInt64S_f _ _ (by omega) (by omega) hp) ?_
      rw [if_neg c2]
      exact Ev.pos (by omega) (Ev.now _)
  · exact ⟨-1, Ev.pos (by omega) (Ev.now _), .inl (by omega)⟩

/-! ### to -/
theorem toInt64S_f (l : List Int) (hl : l.length ≤ 1048576) : Ev (fun k => laws_toInt64S.f k l) l := by
  unfold laws_toInt64S.f
  refine Ev.pos (by omega) (Ev.pos (by omega) ?_)
  have h := to_gen (fun x : Int => x) 0 0 l (fun k out i => laws_toInt64S.l0 k l out i) (fun i out r hi ho h => by
    refine Ev.succ ?_
    simp only [laws_toInt64S.l0]
    refine Ev.pos (by omega) (Ev.pos (by omega) (Ev.pos (by omega) ?_))
    rw [wrap64_nat (by omega)]
    simpa [rd] using h) (fun out _ => by
    refine Ev.succ ?_
    simp only [laws_toInt64S.l0]
    exact Ev.neg (by omega) (Ev.now _))
  simpa using h
theorem toUint64S_f (l : List Int) (hl : l.length ≤ 1048576) : Ev (fun k => laws_toUint64S.f k l) l := by
  unfold laws_toUint64S.f
  refine Ev.pos (by omega) (Ev.pos (by omega) ?_)
  have h := to_gen (fun x : Int => x) 0 0 l (fun k out i => laws_toUint64S.l0 k l out i) (fun i out r hi ho h => by
    refine Ev.succ ?_
    simp only [laws_toUint64S.l0]
    refine Ev.pos (by omega) (Ev.pos (by omega) (Ev.pos (by omega) ?_))
    rw [wrap64_nat (by omega)]
    simpa [rd] using h) (fun out _ => by
    refine Ev.succ ?_
    simp only [laws_toUint64S.l0]
    exact Ev.neg (by omega) (Ev.now _))
  simpa using h
theorem toOperandS_f (l : List S158) (hl : l.length ≤ 1048576) : Ev (fun k => laws_toOperandS.f k l) (l.map iOperand) := by
  unfold laws_toOperandS.f
  refine Ev.pos (by omega) (Ev.pos (by omega) ?_)
  have h := to_gen iOperand z75 z158 l (fun k out i => laws_toOperandS.l0 k l out i) (fun i out r hi ho h => by
    refine Ev.succ ?_
    simp only [laws_toOperandS.l0]
    refine Ev.pos (by omega) (Ev.pos (by omega) (Ev.eq_bind (by unfold laws_toOperand.f; rfl) (Ev.pos (by omega) ?_)))
    rw [wrap64_nat (by omega)]
    simpa [rd_T158, iOperand] using h) (fun out _ => by
    refine Ev.succ ?_
    simp only [laws_toOperandS.l0]
    exact Ev.neg (by omega) (Ev.now _))
  simpa using h
theorem toInstrS_f (l : List S140) (hl : sInstrS l ≤ 1048576) : Ev (fun k => laws_toInstrS.f k l) (l.map iInstr) := by
  unfold laws_toInstrS.f
  have hl1 : l.length ≤ 1048576 := by unfold sInstrS at hl; omega
  refine Ev.pos (by omega) (Ev.pos (by omega) ?_)
  have h := to_gen iInstr z66 z140 l (fun k out i => laws_toInstrS.l0 k l out i) (fun i out r hi ho h => by
    refine Ev.succ ?_
    simp only [laws_toInstrS.l0]
    have hs := sum_getD_le sInstr z140 l i hi
    have e : rd_T140 l i = l.getD i z140 := by simp [rd_T140]
    rw [e]
    have hz : sInstr (l.getD i z140) = (l.getD i z140).f6.length + (l.getD i z140).f7.length + (l.getD i z140).f8.length := rfl
    unfold sInstrS at hl
    refine Ev.pos (by omega) (Ev.pos (by omega) (Ev.bind (a := ((l.getD i z140).f0, (l.getD i z140).f1, (l.getD i z140).f2, (l.getD i z140).f3, (l.getD i z140).f4, (l.getD i z140).f5, (l.getD i z140).f6.map iOperand, (l.getD i z140).f7, (l.getD i z140).f8)) ?_ (Ev.pos (by omega) ?_)))
    · unfold laws_toInstr.f
      exact Ev.bind (toOperandS_f _ (by omega)) (Ev.bind (toInt64S_f _ (by omega)) (Ev.bind (toUint64S_f _ (by omega)) (Ev.now _)))
    · rw [wrap64_nat (by omega)]
      exact h) (fun out _ => by
    refine Ev.succ ?_
    simp only [laws_toInstrS.l0]
    exact Ev.neg (by omega) (Ev.now _))
  simpa using h
theorem toBlockS_f (l : List S96) (hl : sBlockS l ≤ 1048576) : Ev (fun k => laws_toBlockS.f k l) (l.map iBlock) := by
  unfold laws_toBlockS.f
  have hl1 : l.length ≤ 1048576 := by unfold sBlockS at hl; omega
  refine Ev.pos (by omega) (Ev.pos (by omega) ?_)
  have h := to_gen iBlock z62 z96 l (fun k out i => laws_toBlockS.l0 k l out i) (fun i out r hi ho h => by
    refine Ev.succ ?_
    simp only [laws_toBlockS.l0]
    have hs := sum_getD_le sBlock z96 l i hi
    have e : rd_T96 l i = l.getD i z96 := by simp [rd_T96]
    rw [e]
    have hz : sBlock (l.getD i z96) = sInstrS (l.getD i z96).f0 := rfl
    unfold sBlockS at hl
    refine Ev.pos (by omega) (Ev.pos (by omega) (Ev.bind (a := (l.getD i z96).f0.map iInstr) ?_ (Ev.pos (by omega) ?_)))
    · unfold laws_toBlock.f
      exact Ev.bind (toInstrS_f _ (by omega)) (Ev.now _)
    · rw [wrap64_nat (by omega)]
      exact h) (fun out _ => by
    refine Ev.succ ?_
    simp only [laws_toBlockS.l0]
    exact Ev.neg (by omega) (Ev.now _))
  simpa using h
theorem toFunc_f (n : ByteArray) (b : Int) (ps : List Int) (c : Int) (bs : List S96) (h : n.size + ps.length + sBlockS bs ≤ 1048576) : Ev (fun k => laws_toFunc.f k n b ps c bs) (n, b, ps, c, bs.map iBlock) := by
  unfold laws_toFunc.f
  exact Ev.bind (toInt64S_f _ (by omega)) (Ev.bind (toBlockS_f _ (by omega)) (Ev.now _))

/-! ### eq, of one value with itself -/
theorem eqInt64S_f (l : List Int) (hl : l.length ≤ 9223372036854775806) : Ev (fun k => laws_eqInt64S.f k l l) true := by
  unfold laws_eqInt64S.f
  refine Ev.pos rfl (all_gen l.length (fun k i => laws_eqInt64S.l0 k l l i) (fun i hi h => ?_) ?_)
  · refine Ev.succ ?_
    simp only [laws_eqInt64S.l0]
    rw [wrap64_nat (by omega)]
    exact Ev.pos (by omega) (Ev.pos (by omega) (Ev.pos (by omega) (Ev.pos trivial h)))
  · refine Ev.succ ?_
    simp only [laws_eqInt64S.l0]
    exact Ev.neg (by omega) (Ev.now _)
theorem eqUint64S_f (l : List Int) (hl : l.length ≤ 9223372036854775806) : Ev (fun k => laws_eqUint64S.f k l l) true := by
  unfold laws_eqUint64S.f
  refine Ev.pos rfl (all_gen l.length (fun k i => laws_eqUint64S.l0 k l l i) (fun i hi h => ?_) ?_)
  · refine Ev.succ ?_
    simp only [laws_eqUint64S.l0]
    rw [wrap64_nat (by omega)]
    exact Ev.pos (by omega) (Ev.pos (by omega) (Ev.pos (by omega) (Ev.pos trivial h)))
  · refine Ev.succ ?_
    simp only [laws_eqUint64S.l0]
    exact Ev.neg (by omega) (Ev.now _)
theorem eqOperandS_f (l : List S75) (hl : l.length ≤ 9223372036854775806) : Ev (fun k => laws_eqOperandS.f k l l) true := by
  unfold laws_eqOperandS.f
  refine Ev.pos rfl (all_gen l.length (fun k i => laws_eqOperandS.l0 k l l i) (fun i hi h => ?_) ?_)
  · refine Ev.succ ?_
    simp only [laws_eqOperandS.l0]
    rw [wrap64_nat (by omega)]
    exact Ev.pos (by omega) (Ev.pos (by omega) (Ev.pos (by omega) (Ev.eq_bind (a := true) (by simp [laws_eqOperand.f]) (Ev.pos rfl h))))
  · refine Ev.succ ?_
    simp only [laws_eqOperandS.l0]
    exact Ev.neg (by omega) (Ev.now _)
def bInstr (x : S66) : Prop := x.f6.length ≤ 1048576 ∧ x.f7.length ≤ 1048576 ∧ x.f8.length ≤ 1048576
def bBlock (x : S62) : Prop := x.f0.length ≤ 1048576 ∧ ∀ y ∈ x.f0, bInstr y
theorem eqInstr_f (x : S66) (h : bInstr x) : Ev (fun k => laws_eqInstr.f k x.f0 x.f1 x.f2 x.f3 x.f4 x.f5 x.f6 x.f7 x.f8 x.f0 x.f1 x.f2 x.f3 x.f4 x.f5 x.f6 x.f7 x.f8) true := by
  obtain ⟨h6, h7, h8⟩ := h
  unfold laws_eqInstr.f
  exact Ev.pos rfl (Ev.pos rfl (Ev.pos rfl (Ev.pos rfl (Ev.pos rfl (Ev.pos rfl (Ev.bind (eqOperandS_f _ (by omega)) (Ev.pos rfl (Ev.bind (eqInt64S_f _ (by omega)) (Ev.pos rfl (Ev.bind (eqUint64S_f _ (by omega)) (Ev.pos rfl (Ev.now _))))))))))))
theorem eqInstrS_f (l : List S66) (hl : l.length ≤ 1048576) (hb : ∀ y ∈ l, bInstr y) : Ev (fun k => laws_eqInstrS.f k l l) true := by
  unfold laws_eqInstrS.f
  refine Ev.pos rfl (all_gen l.length (fun k i => laws_eqInstrS.l0 k l l i) (fun i hi h => ?_) ?_)
  · refine Ev.succ ?_
    simp only [laws_eqInstrS.l0]
    rw [wrap64_nat (by omega)]
    have hm : bInstr (rd_T66 l i) := hb _ (by simp only [rd_T66, Int.toNat_natCast]; rw [getD_eq hi]; exact List.getElem_mem hi)
    exact Ev.pos (by omega) (Ev.pos (by omega) (Ev.pos (by omega) (Ev.bind (eqInstr_f _ hm) (Ev.pos rfl h))))
  · refine Ev.succ ?_
    simp only [laws_eqInstrS.l0]
    exact Ev.neg (by omega) (Ev.now _)
theorem eqBlockS_f (l : List S62) (hl : l.length ≤ 1048576) (hb : ∀ y ∈ l, bBlock y) : Ev (fun k => laws_eqBlockS.f k l l) true := by
  unfold laws_eqBlockS.f
  refine Ev.pos rfl (all_gen l.length (fun k i => laws_eqBlockS.l0 k l l i) (fun i hi h => ?_) ?_)
  · refine Ev.succ ?_
    simp only [laws_eqBlockS.l0]
    rw [wrap64_nat (by omega)]
    have hm : bBlock (rd_T62 l i) := hb _ (by simp only [rd_T62, Int.toNat_natCast]; rw [getD_eq hi]; exact List.getElem_mem hi)
    refine Ev.pos (by omega) (Ev.pos (by omega) (Ev.pos (by omega) (Ev.bind (a := true) ?_ (Ev.pos rfl h))))
    unfold laws_eqBlock.f
    exact Ev.bind (eqInstrS_f _ hm.1 hm.2) (Ev.pos rfl (Ev.now _))
  · refine Ev.succ ?_
    simp only [laws_eqBlockS.l0]
    exact Ev.neg (by omega) (Ev.now _)
theorem eqFunc_f (n : ByteArray) (b : Int) (ps : List Int) (c : Int) (bs : List S62) (hp : ps.length ≤ 1048576) (hl : bs.length ≤ 1048576) (hb : ∀ y ∈ bs, bBlock y) : Ev (fun k => laws_eqFunc.f k n b ps c bs n b ps c bs) true := by
  unfold laws_eqFunc.f
  exact Ev.pos rfl (Ev.pos rfl (Ev.bind (eqInt64S_f _ (by omega)) (Ev.pos rfl (Ev.pos rfl (Ev.bind (eqBlockS_f _ hl hb) (Ev.pos rfl (Ev.now _)))))))
theorem bBlock_of (bs : List S96) (h : sBlockS bs ≤ 1048576) : ∀ y ∈ bs.map iBlock, bBlock y := by
  intro y hy
  obtain ⟨x, hx, rfl⟩ := List.mem_map.1 hy
  obtain ⟨i, hi, rfl⟩ := List.getElem_of_mem hx
  have h1 := sum_getD_le sBlock z96 bs i hi
  rw [getD_eq hi] at h1
  have hz : sBlock bs[i] = bs[i].f0.length + (bs[i].f0.map sInstr).sum := rfl
  unfold sBlockS at h
  refine ⟨by show (bs[i].f0.map iInstr).length ≤ _; rw [List.length_map]; omega, fun z hz2 => ?_⟩
  obtain ⟨u, hu, rfl⟩ := List.mem_map.1 (show z ∈ bs[i].f0.map iInstr from hz2)
  obtain ⟨j, hj, rfl⟩ := List.getElem_of_mem hu
  have h2 := sum_getD_le sInstr z140 bs[i].f0 j hj
  rw [getD_eq hj] at h2
  have hz3 : sInstr bs[i].f0[j] = bs[i].f0[j].f6.length + bs[i].f0[j].f7.length + bs[i].f0[j].f8.length := rfl
  refine ⟨?_, ?_, ?_⟩
  · show (bs[i].f0[j].f6.map iOperand).length ≤ _; rw [List.length_map]; omega
  · show bs[i].f0[j].f7.length ≤ _; omega
  · show bs[i].f0[j].f8.length ≤ _; omega
end Go.Proofs.Ytoedcnhgobbnfaa.All


/- What reads as data has machine lengths. -/
namespace Go.Proofs.Ytoedcnhgobbnfaa.All
open Go.RowKit Go.Proofs.YtoedcnhgobbnfaaW.PrintWords Go.Proofs.YtoedcnhgobbnfaaW.PrintLast Go.Proofs.YtoedcnhgobbnfaaW.PrintMore
set_option linter.unusedVariables false
set_option linter.unusedSimpArgs false
theorem lBlockS_ok {l : List S96} (h : l.length ≤ 9223372036854775807 ∧ ∀ y ∈ l, ok96 y) : lBlockS l := by
  refine ⟨h.1, fun b hb => ?_⟩
  have h1 := h.2 b hb
  unfold ok96 at h1
  refine ⟨h1.1, fun x hx => ?_⟩
  have h2 := h1.2 x hx
  unfold ok140 at h2
  obtain ⟨_, _, _, _, _, _, h6, h7, h8⟩ := h2
  exact ⟨h6.1, h7.1, h8.1⟩
end Go.Proofs.Ytoedcnhgobbnfaa.All


/- The walks of the laws' mark functions, as what they leave. Printed by gen_mark.py. -/
namespace Go.Proofs.Ytoedcnhgobbnfaa.All
open Go.RowKit Go.Proofs.YtoedcnhgobbnfaaW.PrintWords Go.Proofs.YtoedcnhgobbnfaaW.PrintLast Go.Proofs.YtoedcnhgobbnfaaW.PrintMore
set_option linter.unusedVariables false
set_option linter.unusedSimpArgs false
end Go.Proofs.Ytoedcnhgobbnfaa.All


/- How many cells the laws mark. -/
namespace Go.Proofs.Ytoedcnhgobbnfaa.All
open Go.RowKit Go.Proofs.YtoedcnhgobbnfaaW.PrintWords Go.Proofs.YtoedcnhgobbnfaaW.PrintLast Go.Proofs.YtoedcnhgobbnfaaW.PrintMore
set_option linter.unusedVariables false
set_option linter.unusedSimpArgs false
end Go.Proofs.Ytoedcnhgobbnfaa.All


namespace Go.Proofs.Ytoedcnhgobbnfaa.All
open Go.RowKit Go.Proofs.YtoedcnhgobbnfaaW.PrintWords Go.Proofs.YtoedcnhgobbnfaaW.PrintLast Go.Proofs.YtoedcnhgobbnfaaW.PrintMore
attribute [local go_sem] max2_int min2_int max_two min_two max_three min_three max_four min_four   -- for this text's walks alone
set_option linter.unusedVariables false
set_option linter.unusedSimpArgs false

/-! ### spec_PrevBlocks: function 23 -/
end Go.Proofs.Ytoedcnhgobbnfaa.All


namespace Go.Proofs.Ytoedcnhgobbnfaa.All
open Go.RowKit Go.Proofs.YtoedcnhgobbnfaaW.PrintWords Go.Proofs.YtoedcnhgobbnfaaW.PrintLast Go.Proofs.YtoedcnhgobbnfaaW.PrintMore
attribute [local go_sem] max2_int min2_int max_two min_two max_three min_three max_four min_four   -- for this text's walks alone
set_option linter.unusedVariables false
set_option linter.unusedSimpArgs false

/-! ### impl_PrevBlocks: function 24 -/
mutual
def impl_PrevBlocks.l0 : Nat → Int → List Int → Int → Int → ByteArray → Int → List Int → Int → List (S62) → Option (List Int)
 | 0, _, _, _, _, _, _, _, _, _ => none
 | k + 1, x1, x5, x11, x12, x498000, x498001, x498002, x498003, x498004 => if x12 < x11 then ((impl_NextBlocks.f x498000 x498001 x498002 x498003 x498004 x12).bind fun t498 => (impl_PrevBlocks.l1 k x1 x5 x12 x11 x12 t498 (t498.length : Int) 0 x498000 x498001 x498002 x498003 x498004)) else (some x5)
def impl_PrevBlocks.l1 : Nat → Int → List Int → Int → Int → Int → List Int → Int → Int → ByteArray → Int → List Int → Int → List (S62) → Option (List Int)
 | 0, _, _, _, _, _, _, _, _, _, _, _, _, _ => none
 | k + 1, x1, x5, x6, x11, x12, x17, x18, x19, x498000, x498001, x498002, x498003, x498004 => if x19 < x18 then (if 0 ≤ x19 then (if x19 < (x17.length : Int) then (if (rd x17 x19) = x1 then (if x5.length < 17592186044416 then (impl_PrevBlocks.l1 k x1 (x5 ++ [x6]) x6 x11 x12 x17 x18 (wrap64 (x19 + 1)) x498000 x498001 x498002 x498003 x498004) else (none)) else (impl_PrevBlocks.l1 k x1 x5 x6 x11 x12 x17 x18 (wrap64 (x19 + 1)) x498000 x498001 x498002 x498003 x498004)) else (none)) else (none)) else (impl_PrevBlocks.l0 k x1 x5 x11 (wrap64 (x12 + 1)) x498000 x498001 x498002 x498003 x498004)
end
def impl_PrevBlocks.f (k : Nat) (a0_0 : ByteArray) (a0_1 : Int) (l0_2 : List Int) (a0_3 : Int) (l0_4 : List (S62)) (a1 : Int) : Option (List Int) := impl_PrevBlocks.l0 k a1 ([] : List Int) (l0_4.length : Int) 0 a0_0 a0_1 l0_2 a0_3 l0_4
set_option maxHeartbeats 8000000 in
set_option maxRecDepth 100000 in
theorem impl_PrevBlocks.calls (k : Nat) (a0_0 : ByteArray) (a0_1 : Int) (A0_2 : Option Addr) (c0_2 : Nat) (l0_2 : List Int) (a0_3 : Int) (A0_4 : Option Addr) (c0_4 : Nat) (l0_4 : List (S62)) (a1 : Int) (r : List Int) (w : World) (hr0_2 : Kd.C (Kd.int .i64) w A0_2 l0_2.length l0_2) (hc0_2 : l0_2.length ≤ c0_2) (hr0_4 : Kd.C k62 w A0_4 l0_4.length l0_4) (hc0_4 : l0_4.length ≤ c0_4) (h : impl_PrevBlocks.f k a0_0 a0_1 l0_2 a0_3 l0_4 a1 = some r) :
 Calls Try.prog 24 #[.agg #[.string a0_0, .int .i64 a0_1, .slice A0_2 l0_2.length c0_2, .int .i64 a0_3, .slice A0_4 l0_4.length c0_4], .int .i64 a1] w fun e w' => ∃ v0_ : Value, e = .returned (v0_) ∧ Kd.R (Kd.int .i64) 2 w' w.heap.size (fun _ => True) v0_ r ∧ Below w.heap.size w w' := by
 have hu30 := Try.underlying30
 have HR0_2 := Aside0.mk hr0_2
 have HC0_2 := Aside0.mk hc0_2
 clear hr0_2 hc0_2
 have HR0_4 := Aside0.mk hr0_4
 have HC0_4 := Aside0.mk hc0_4
 clear hr0_4 hc0_4
 have HB := Aside0.mk (Below.refl w.heap.size w)
 have H : (impl_PrevBlocks.l0 k a1 ([] : List Int) (l0_4.length : Int) 0 a0_0 a0_1 l0_2 a0_3 l0_4) = some r := h
 clear h
 have H' := Aside0.mk H
 clear H
 go_enter Try.func24, Try.ntmps24
 go_wp2_with (first | ((with_reducible refine gate_dst (N := 2) rfl ?_); refine box_event ?hg (N := 2) ?hd (cs := #[.string a0_0, .int .i64 a0_1, .slice A0_2 l0_2.length c0_2, .int .i64 a0_3, .slice A0_4 l0_4.length c0_4]) (t := 30) ?hr ?_; (case hd => rfl); (case hg => rfl); (case hr => first | (go_simp; done) | (go_simp; rfl)); intro gb497 hg w3 hbox hb; have n0_ := Aside0.mk (below_step (by repeat (first | (with_reducible first | exact HB.out | apply below_alloc | apply pw_below_drewN | apply below_drew1) | exact HB.out)) hb); have n1_ := Aside0.mk (hbox); have n2_ := Aside0.mk ((by rw [hg]; exact (below_size (by repeat (first | (with_reducible first | exact HB.out | apply below_alloc | apply pw_below_drewN | apply below_drew1) | exact HB.out))) : w.heap.size ≤ gb497)); have n3_ := Aside0.mk ((by rw [hg]; exact (below_size (by repeat (first | (with_reducible first | exact HB.out | apply below_alloc | apply pw_below_drewN | apply below_drew1) | exact HB.out))) : w.heap.size ≤ gb497)); clear HB; have HB := n0_; have BK497 := n1_; have GW497 := n2_; have GE497 := n3_; clear n0_ n1_ n2_ n3_; clear hb hbox hg; have hcz4_0 : w3.cell? ⟨gb497, 0, none⟩ = some (.string a0_0) := (blk_cell BK497.out 0).trans rfl; have hcz4_1 : w3.cell? ⟨gb497, 1, none⟩ = some (.int .i64 a0_1) := (blk_cell BK497.out 1).trans rfl; have hcz4_2 : w3.cell? ⟨gb497, 2, none⟩ = some (.slice A0_2 l0_2.length c0_2) := (blk_cell BK497.out 2).trans rfl; have hcz4_3 : w3.cell? ⟨gb497, 3, none⟩ = some (.int .i64 a0_3) := (blk_cell BK497.out 3).trans rfl; have hcz4_4 : w3.cell? ⟨gb497, 4, none⟩ = some (.slice A0_4 l0_4.length c0_4) := (blk_cell BK497.out 4).trans rfl; have hfz4_0 := blk_frozen BK497.out 0; have hfz4_1 := blk_frozen BK497.out 1; have hfz4_2 := blk_frozen BK497.out 2; have hfz4_3 := blk_frozen BK497.out 3; have hfz4_4 := blk_frozen BK497.out 4))
 go_loopg [5, 12] k (fun kq v5 v12 w' => ∃ (x5_1 : List Int) (x12_1 : Int), v12 = .int .i64 x12_1 ∧ Aside0 (impl_PrevBlocks.l0 kq a1 x5_1 (l0_4.length : Int) x12_1 a0_0 a0_1 l0_2 a0_3 l0_4 = some r) ∧ Aside0 (kq ≤ k) ∧ Aside0 (Kd.R (Kd.int .i64) 2 w' w.heap.size (fun _ => True) v5 x5_1) ∧ Aside0 (w'.heap[gb497]? = some (.cells #[.string a0_0, .int .i64 a0_1, (.slice A0_2 l0_2.length c0_2), .int .i64 a0_3, (.slice A0_4 l0_4.length c0_4)] 30 (0, 0))) ∧ Aside0 (Below w.heap.size w w'))
 case atStart => exact ⟨(([] : List Int)), (0), (by first | rfl | (simp; done) | (simp [*]; done)), H', ⟨Nat.le_refl _⟩, ⟨by first | exact Kd.R_nil _ _ _ _ _ | exact Kd.N_nil _ _ _ _ _ | exact Kd.V_nil _ _ _ _ _ | exact Kd.Q_nil _ _ _ _ _ | exact Kd.S_nil _ _ _ _ _⟩, ⟨by (with_reducible repeat (first | refine blk_drewN ?_ _ | refine blk_drew ?_ | refine blk_alloc ?_ _)); exact BK497.out⟩, ⟨by repeat (first | (with_reducible first | exact HB.out | apply below_alloc | apply pw_below_drewN | apply below_drew1 | refine below_set ?_ GE497.out) | exact HB.out)⟩⟩
 case round =>
  clear H'
  try clear c2
  try clear p2
  try clear hcz4_0
  try clear hcz4_1
  try clear hcz4_2
  try clear hcz4_3
  try clear hcz4_4
  try clear hfz4_0
  try clear hfz4_1
  try clear hfz4_2
  try clear hfz4_3
  try clear hfz4_4
  obtain ⟨x5_1, x12_1, rfl, HA, HK1, HO_5, BK497, HB⟩ := hrel
  cases gk with
  | zero => exact absurd HA.out (by simp [impl_PrevBlocks.l0])
  | succ k1 =>
   have H := HA.out
   clear HA
   simp only [impl_PrevBlocks.l0] at H
   by_cases c5 : x12_1 < (l0_4.length : Int)
   · rw [if_pos c5] at H
     have c5b0 : decide (x12_1 < (l0_4.length : Int)) = true := decide_eq_true c5
     clear c5
     replace H := Option.bind_eq_some_iff.mp H
     obtain ⟨t498, A60, H⟩ := H
     replace H : (impl_PrevBlocks.l1 k1 a1 x5_1 x12_1 (l0_4.length : Int) x12_1 t498 (t498.length : Int) 0 a0_0 a0_1 l0_2 a0_3 l0_4) = some r := H
     have A6 := Aside0.mk A60
     clear A60
     have H' := Aside0.mk H
     clear H
     have hcz7_0 : wr.cell? ⟨gb497, 0, none⟩ = some (.string a0_0) := (blk_cell BK497.out 0).trans rfl
     have hcz7_1 : wr.cell? ⟨gb497, 1, none⟩ = some (.int .i64 a0_1) := (blk_cell BK497.out 1).trans rfl
     have hcz7_2 : wr.cell? ⟨gb497, 2, none⟩ = some (.slice A0_2 l0_2.length c0_2) := (blk_cell BK497.out 2).trans rfl
     have hcz7_3 : wr.cell? ⟨gb497, 3, none⟩ = some (.int .i64 a0_3) := (blk_cell BK497.out 3).trans rfl
     have hcz7_4 : wr.cell? ⟨gb497, 4, none⟩ = some (.slice A0_4 l0_4.length c0_4) := (blk_cell BK497.out 4).trans rfl
     have hfz7_0 := blk_frozen BK497.out 0
     have hfz7_1 := blk_frozen BK497.out 1
     have hfz7_2 := blk_frozen BK497.out 2
     have hfz7_3 := blk_frozen BK497.out 3
     have hfz7_4 := blk_frozen BK497.out 4
     go_wp2_with (first | ((with_reducible refine gate_callee (f := 18) rfl ?_); refine goesL_ (some 17) rfl rfl Try.func18 (by kernel_rfl) rfl #[.agg #[.string a0_0, .int .i64 a0_1, .slice A0_2 l0_2.length c0_2, .int .i64 a0_3, .slice A0_4 l0_4.length c0_4], .int .i64 x12_1] rfl (by (try simp only [List.map_toArray, List.map_cons, List.map_nil]); first | done | rfl | (simp only [List.length_drop, List.length_take]; rfl)) ?_; (with_reducible refine (impl_NextBlocks.calls a0_0 a0_1 _ _ l0_2 a0_3 _ _ l0_4 x12_1 t498 _ ?side1 ?side2 ?side3 ?side4 A6.out).mono ?_); (case side1 => repeat (first | exact (Kd.C_below HR0_2.out HB.out) | (with_reducible refine Kd.C_alloc ?_ _) | (with_reducible refine Kd.C_drewN ?_ _) | (with_reducible refine Kd.C_drew ?_))); (case side2 => exact HC0_2.out); (case side3 => repeat (first | exact (Kd.C_below HR0_4.out HB.out) | (with_reducible refine Kd.C_alloc ?_ _) | (with_reducible refine Kd.C_drewN ?_ _) | (with_reducible refine Kd.C_drew ?_))); (case side4 => exact HC0_4.out); rintro e w8 ⟨v499, rfl, ho0, hb⟩; refine ⟨_, rfl, ?_⟩; have n0_ := Aside0.mk (Kd.R_elder' (by (with_reducible repeat (first | apply Kd.R_alloc | apply Kd.R_drewN | apply Kd.R_drew)); exact HO_5.out) (Kd.R_base ho0) hb); have n1_ := Aside0.mk (Kd.R_lower (Kd.R_new' ho0 (Kd.R_lt (by (with_reducible repeat (first | apply Kd.R_alloc | apply Kd.R_drewN | apply Kd.R_drew)); exact HO_5.out))) (below_size (by repeat (first | (with_reducible first | exact HB.out | apply below_alloc | apply pw_below_drewN | apply below_drew1 | refine below_set ?_ GE497.out) | exact HB.out)))); have n2_ := Aside0.mk (blk_below (g := gb497) (o := .cells #[.string a0_0, .int .i64 a0_1, .slice A0_2 l0_2.length c0_2, .int .i64 a0_3, .slice A0_4 l0_4.length c0_4] 30 (0, 0)) (by (with_reducible repeat (first | refine blk_drewN ?_ _ | refine blk_drew ?_ | refine blk_alloc ?_ _)); exact BK497.out) hb); have n3_ := Aside0.mk (below_step (by repeat (first | (with_reducible first | exact HB.out | apply below_alloc | apply pw_below_drewN | apply below_drew1 | refine below_set ?_ GE497.out) | exact HB.out)) hb); clear HO_5; clear BK497; clear HB; have HO_5 := n0_; have HO500 := n1_; have BK497 := n2_; have HB := n3_; clear n0_ n1_ n2_ n3_; (try clear hb); (try clear hb2); (try clear hk); (try clear hi); (try clear ho0); obtain ⟨Ao9, co9, eo9⟩ := Kd.R_slice HO500.out; subst eo9))
     go_loopg [5, 19] k1 (fun kq v5 v19 w' => ∃ (x5_2 : List Int) (x19_2 : Int), v19 = .int .i64 x19_2 ∧ Aside0 (impl_PrevBlocks.l1 kq a1 x5_2 x12_1 (l0_4.length : Int) x12_1 t498 (t498.length : Int) x19_2 a0_0 a0_1 l0_2 a0_3 l0_4 = some r) ∧ Aside0 (kq ≤ k1) ∧ Aside0 (Kd.R (Kd.int .i64) 2 w' w.heap.size (fun k_ => some k_ ≠ ((.slice Ao9 t498.length co9) : Value).ownBlock) v5 x5_2) ∧ Aside0 (Kd.R (Kd.int .i64) 2 w' w.heap.size (fun k_ => some k_ ≠ (v5 : Value).ownBlock) (.slice Ao9 t498.length co9) t498) ∧ Aside0 (w'.heap[gb497]? = some (.cells #[.string a0_0, .int .i64 a0_1, (.slice A0_2 l0_2.length c0_2), .int .i64 a0_3, (.slice A0_4 l0_4.length c0_4)] 30 (0, 0))) ∧ Aside0 (Below w.heap.size w w'))
     case atStart => exact ⟨(x5_1), (0), (by first | rfl | (simp; done) | (simp [*]; done)), H', ⟨Nat.le_refl _⟩, ⟨by (with_reducible repeat (first | apply Kd.R_alloc | apply Kd.R_drewN | apply Kd.R_drew)); exact Kd.R_mono HO_5.out (fun _ hk => hk.2)⟩, ⟨by (with_reducible repeat (first | apply Kd.R_alloc | apply Kd.R_drewN | apply Kd.R_drew)); exact Kd.R_mono HO500.out (fun _ hk => hk.2)⟩, ⟨by (with_reducible repeat (first | refine blk_drewN ?_ _ | refine blk_drew ?_ | refine blk_alloc ?_ _)); exact BK497.out⟩, ⟨by repeat (first | (with_reducible first | exact HB.out | apply below_alloc | apply pw_below_drewN | apply below_drew1 | refine below_set ?_ GE497.out) | exact HB.out)⟩⟩
     case round =>
      clear H'
      try clear c1
      try clear c2
      try clear p2
      try clear c5
      try clear c5b0
      try clear hcz4_0
      try clear hcz4_1
      try clear hcz4_2
      try clear hcz4_3
      try clear hcz4_4
      try clear hcz7_0
      try clear hcz7_1
      try clear hcz7_2
      try clear hcz7_3
      try clear hcz7_4
      try clear hfz4_0
      try clear hfz4_1
      try clear hfz4_2
      try clear hfz4_3
      try clear hfz4_4
      try clear hfz7_0
      try clear hfz7_1
      try clear hfz7_2
      try clear hfz7_3
      try clear hfz7_4
      try clear p2
      obtain ⟨x5_2, x19_2, rfl, HA, HK2, HO_5, HO_17, BK497, HB⟩ := hrel
      cases gk with
      | zero => exact absurd HA.out (by simp [impl_PrevBlocks.l1])
      | succ k2 =>
       have H := HA.out
       clear HA
       simp only [impl_PrevBlocks.l1] at H
       by_cases c10 : x19_2 < (t498.length : Int)
       · rw [if_pos c10] at H
         have c10b0 : decide (x19_2 < (t498.length : Int)) = true := decide_eq_true c10
         clear c10
         by_cases c11 : 0 ≤ x19_2
         · rw [if_pos c11] at H
           have c11b0 : decide (0 ≤ x19_2) = true := decide_eq_true c11
           clear c11
           by_cases c12 : x19_2 < (t498.length : Int)
           · rw [if_pos c12] at H
             have c12b0 : decide (x19_2 < (t498.length : Int)) = true := decide_eq_true c12
             clear c12
             by_cases c13 : (rd t498 x19_2) = a1
             · rw [if_pos c13] at H
               have c13b0 : ((rd t498 x19_2) == a1) = true := beq_iff_eq.mpr c13
               have c13b1 : ((rd t498 x19_2) != a1) = false := bne_eq_false_iff_eq.mpr c13
               clear c13
               by_cases c14 : x5_2.length < 17592186044416
               · rw [if_pos c14] at H
                 have LMc14 := Aside0.mk c14
                 clear c14
                 obtain ⟨y502, hy502⟩ : ∃ y_ : List Int, y_ = (x5_2 ++ [x12_1]) := ⟨_, rfl⟩
                 replace H : (impl_PrevBlocks.l1 k2 a1 y502 x12_1 (l0_4.length : Int) x12_1 t498 (t498.length : Int) (wrap64 (x19_2 + 1)) a0_0 a0_1 l0_2 a0_3 l0_4) = some r := by first | (rw [hy502]; with_reducible exact H) | (have H2_ := (Option.bind_some _ _).symm.trans H; rw [hy502]; with_reducible exact H2_) | (have H2_ := (Option.bind_some _ _).symm.trans H; with_reducible exact H2_) | with_reducible exact H | (rw [hy502]; exact H) | exact H
                 have Ny502 := Aside0.mk hy502
                 clear hy502
                 have H' := Aside0.mk H
                 clear H
                 have p501 : 0 ≤ (x19_2 : Int) := of_decide_eq_true (by first | (with_reducible assumption) | assumption)
                 have q501 : x19_2 < (t498.length : Int) := of_decide_eq_true (by first | (with_reducible assumption) | assumption)
                 obtain ⟨ad501, e501, hx501_0⟩ := Kd.at_int (Kd.R_reads' HO_17.out).2.2 x19_2 p501 q501
                 cases e501
                 replace p501 := eq_true p501
                 replace q501 := eq_true q501
                 go_wp2_with (first | ((with_reducible refine gate_builtin (b := .append) (xs := #[.tmp 26, .tmp 28]) rfl ?_); at_builtin; refine Kd.R_append (Kd.int .i64) (w0 := w) w.heap.size rfl (.tmp 26) (.tmp 28) 22 2 (.int .i64 0) 8 rfl Try.underlying22 info2 rfl (by decide) (by omega) u5 x5_2 x12_1 [.int .i64 x12_1] (fun k_ => some k_ ≠ (.slice (some ad501) t498.length co9 : Value).ownBlock) (fun _ => False) rfl rfl ?aP (fun _ hk => hk.elim) ?aF ?aO ?aB ?aS ?aL ?_; (case aP => exact rfl); (case aB => exact (by repeat (first | (with_reducible first | exact HB.out | apply below_alloc | apply pw_below_drewN | apply below_drew1 | refine below_set ?_ GE497.out) | exact HB.out))); (case aF => exact (fun k_ hk => Kd.fresh' (Kd.R_lt (by (with_reducible repeat (first | apply Kd.R_alloc | apply Kd.R_drewN | apply Kd.R_drew)); exact HO_17.out)) k_ hk)); (case aO => exact (by (with_reducible repeat (first | apply Kd.R_alloc | apply Kd.R_drewN | apply Kd.R_drew)); exact HO_5.out)); (case aS => exact (below_size (by repeat (first | (with_reducible first | exact HB.out | apply below_alloc | apply pw_below_drewN | apply below_drew1 | refine below_set ?_ GE497.out) | exact HB.out)))); (case aL => have := LMc14.out; omega); intro v503 w15 ho hb hg hat; rw [← Ny502.out] at ho; have n0_ := Aside0.mk (Kd.R_after (ok := (fun _ => True)) (by (with_reducible repeat (first | apply Kd.R_alloc | apply Kd.R_drewN | apply Kd.R_drew)); exact Kd.R_mono HO_17.out (fun _ hk => ⟨trivial, hk⟩)) hg hat); have n1_ := Aside0.mk (blk_grown (g := gb497) (o := .cells #[.string a0_0, .int .i64 a0_1, .slice A0_2 l0_2.length c0_2, .int .i64 a0_3, .slice A0_4 l0_4.length c0_4] 30 (0, 0)) (by (with_reducible repeat (first | refine blk_drewN ?_ _ | refine blk_drew ?_ | refine blk_alloc ?_ _)); exact BK497.out) hg (Kd.R_ne HO_5.out BK497.out (by decide))); have n2_ := Aside0.mk (hb); have n3_ := Aside0.mk (ho); clear HO_17; clear BK497; clear HB; clear HO_5; have HO_17 := n0_; have BK497 := n1_; have HB := n2_; have HO504 := n3_; clear n0_ n1_ n2_ n3_; clear ho hb hg hat))
                 go_roundg k2
                 case measure => have := HK1.out; have := HK2.out; omega
                 case rel => exact ⟨(y502), (wrap64 (x19_2 + 1)), (by first | rfl | (simp; done) | (simp [*]; done)), H', ⟨by have := HK1.out; have := HK2.out; omega⟩, ⟨by (with_reducible repeat (first | apply Kd.R_alloc | apply Kd.R_drewN | apply Kd.R_drew)); exact HO504.out⟩, ⟨by (with_reducible repeat (first | apply Kd.R_alloc | apply Kd.R_drewN | apply Kd.R_drew)); exact Kd.R_mono HO_17.out (fun _ hk => hk.2)⟩, ⟨by (with_reducible repeat (first | refine blk_drewN ?_ _ | refine blk_drew ?_ | refine blk_alloc ?_ _)); exact BK497.out⟩, ⟨by repeat (first | (with_reducible first | exact HB.out | apply below_alloc | apply pw_below_drewN | apply below_drew1 | refine below_set ?_ GE497.out) | exact HB.out)⟩⟩
               · rw [if_neg c14] at H
                 exact absurd H (by simp)
             · rw [if_neg c13] at H
               have c13b0 : ((rd t498 x19_2) == a1) = false := beq_eq_false_iff_ne.mpr c13
               have c13b1 : ((rd t498 x19_2) != a1) = true := bne_iff_ne.mpr c13
               have H' := Aside0.mk H
               clear H
               have p501 : 0 ≤ (x19_2 : Int) := of_decide_eq_true (by first | (with_reducible assumption) | assumption)
               have q501 : x19_2 < (t498.length : Int) := of_decide_eq_true (by first | (with_reducible assumption) | assumption)
               obtain ⟨ad501, e501, hx501_0⟩ := Kd.at_int (Kd.R_reads' HO_17.out).2.2 x19_2 p501 q501
               cases e501
               replace p501 := eq_true p501
               replace q501 := eq_true q501
               go_wp2
               go_roundg k2
               case measure => have := HK1.out; have := HK2.out; omega
               case rel => exact ⟨(x5_2), (wrap64 (x19_2 + 1)), (by first | rfl | (simp; done) | (simp [*]; done)), H', ⟨by have := HK1.out; have := HK2.out; omega⟩, ⟨by (with_reducible repeat (first | apply Kd.R_alloc | apply Kd.R_drewN | apply Kd.R_drew)); exact HO_5.out⟩, ⟨by (with_reducible repeat (first | apply Kd.R_alloc | apply Kd.R_drewN | apply Kd.R_drew)); exact HO_17.out⟩, ⟨by (with_reducible repeat (first | refine blk_drewN ?_ _ | refine blk_drew ?_ | refine blk_alloc ?_ _)); exact BK497.out⟩, ⟨by repeat (first | (with_reducible first | exact HB.out | apply below_alloc | apply pw_below_drewN | apply below_drew1 | refine below_set ?_ GE497.out) | exact HB.out)⟩⟩
           · rw [if_neg c12] at H
             exact absurd H (by simp)
         · rw [if_neg c11] at H
           exact absurd H (by simp)
       · rw [if_neg c10] at H
         have c10b0 : decide (x19_2 < (t498.length : Int)) = false := decide_eq_false c10
         clear c10
         have H' := Aside0.mk H
         clear H
         go_wp2
         go_roundg k2
         case measure => have := HK1.out; have := HK2.out; omega
         case rel => exact ⟨(x5_2), (wrap64 (x12_1 + 1)), (by first | rfl | (simp; done) | (simp [*]; done)), H', ⟨by have := HK1.out; have := HK2.out; omega⟩, ⟨by (with_reducible repeat (first | apply Kd.R_alloc | apply Kd.R_drewN | apply Kd.R_drew)); exact Kd.R_mono HO_5.out (fun _ hk => trivial)⟩, ⟨by (with_reducible repeat (first | refine blk_drewN ?_ _ | refine blk_drew ?_ | refine blk_alloc ?_ _)); exact BK497.out⟩, ⟨by repeat (first | (with_reducible first | exact HB.out | apply below_alloc | apply pw_below_drewN | apply below_drew1 | refine below_set ?_ GE497.out) | exact HB.out)⟩⟩
   · rw [if_neg c5] at H
     have c5b0 : decide (x12_1 < (l0_4.length : Int)) = false := decide_eq_false c5
     clear c5
     obtain rfl := Option.some.inj H
     go_wp2
     go_ret
     exact ⟨_, by first | rfl | (simp [errW_none, errW_some] <;> rfl) | (simp [*, errW_none, errW_some] <;> rfl), by (with_reducible repeat (first | apply Kd.R_alloc | apply Kd.R_drewN | apply Kd.R_drew)); exact HO_5.out, by repeat (first | (with_reducible first | exact HB.out | apply below_alloc | apply pw_below_drewN | apply below_drew1 | refine below_set ?_ GE497.out) | exact HB.out)⟩

end Go.Proofs.Ytoedcnhgobbnfaa.All


/- Next and previous blocks: the reference's and the program's lists are one. -/
namespace Go.Proofs.Ytoedcnhgobbnfaa.All
open Go.RowKit Go.Proofs.YtoedcnhgobbnfaaW.PrintWords Go.Proofs.YtoedcnhgobbnfaaW.PrintLast Go.Proofs.YtoedcnhgobbnfaaW.PrintMore
set_option linter.unusedVariables false
set_option linter.unusedSimpArgs false
def gOk (bs : List S62) : Prop := bs.length ≤ 1048576 ∧ ∀ b ∈ bs, bBlock b
def nextOf (bs : List S62) (a : Int) : List Int :=
  if a < 0 then [] else if (bs.length : Int) ≤ a then [] else if (rd_T62 bs a).f0.length = 0 then [] else nextL bs.length (rd_T66 (rd_T62 bs a).f0 (((rd_T62 bs a).f0.length : Int) - 1)).f7
theorem getD_mem {α : Type} {xs : List α} {i : Nat} (h : i < xs.length) (z : α) : xs.getD i z ∈ xs := by rw [getD_eq h]; exact List.getElem_mem h
theorem gOk_at {bs : List S62} (h : gOk bs) {a : Int} (h0 : 0 ≤ a) (h1 : a < (bs.length : Int)) : bBlock (rd_T62 bs a) := h.2 _ (getD_mem (by omega) _)
theorem gOk_last {bs : List S62} (h : gOk bs) {a : Int} (h0 : 0 ≤ a) (h1 : a < (bs.length : Int)) (h2 : (rd_T62 bs a).f0.length ≠ 0) : bInstr (rd_T66 (rd_T62 bs a).f0 (((rd_T62 bs a).f0.length : Int) - 1)) := (gOk_at h h0 h1).2 _ (getD_mem (by omega) _)
theorem nextOf_len {bs : List S62} (h : gOk bs) (a : Int) : (nextOf bs a).length ≤ 1048576 := by
  unfold nextOf
  split
  · simp
  · split
    · simp
    · split
      · simp
      · have h1 := gOk_last h (a := a) (by omega) (by omega) (by assumption)
        have h2 := nextL_len bs.length (rd_T66 (rd_T62 bs a).f0 (((rd_T62 bs a).f0.length : Int) - 1)).f7
        have := h1.2.1
        omega
theorem nextOf_range (bs : List S62) (a : Int) : ∀ x ∈ nextOf bs a, 0 ≤ x ∧ x < (bs.length : Int) := by
  unfold nextOf
  split
  · simp
  · split
    · simp
    · split
      · simp
      · exact nextL_range _ _
theorem implNext_f (n : ByteArray) (y : Int) (ps : List Int) (c : Int) (bs : List S62) (a : Int) (h : gOk bs) : impl_NextBlocks.f n y ps c bs a = some (nextOf bs a) := by
  unfold impl_NextBlocks.f nextOf
  by_cases h1 : a < 0
  · rw [if_pos h1, if_pos h1]
  rw [if_neg h1, if_neg h1]
  by_cases h2 : (bs.length : Int) ≤ a
  · rw [if_pos h2, if_pos h2]
  rw [if_neg h2, if_neg h2]
  by_cases h3 : (rd_T62 bs a).f0.length = 0
  · rw [if_pos h3, if_pos h3]
  rw [if_neg h3, if_neg h3]
  have h4 := gOk_last h (a := a) (by omega) (by omega) h3
  have h5 := gOk_at h (a := a) (by omega) (by omega)
  have := h.1
  have := h5.1
  have := h4.2.1
  rw [if_pos ⟨by omega, by omega, by omega⟩]
theorem l4Has_f (l : List Int) (v : Int) (hl : l.length ≤ 9223372036854775806) : Ev (fun k => spec_l4Has.f k l v) (l.contains v) := by
  unfold spec_l4Has.f
  have key : ∀ d i : Nat, i + d = l.length → Ev (fun k => spec_l4Has.l0 k l v (i : Int)) ((l.drop i).contains v) := by
    intro d
    induction d with
    | zero =>
      intro i hi
      obtain rfl : i = l.length := by omega
      refine Ev.succ ?_
      simp only [spec_l4Has.l0]
      rw [List.drop_length]
      exact Ev.neg (by omega) (Ev.some (by simp))
    | succ d ih =>
      intro i hi
      have hlt : i < l.length := by omega
      refine Ev.succ ?_
      simp only [spec_l4Has.l0]
      have e : rd l i = l[i] := by simp [rd, List.getElem?_eq_getElem hlt]
      rw [e, wrap64_nat (by omega), List.drop_eq_getElem_cons hlt, List.contains_cons]
      refine Ev.pos (by omega) (Ev.pos (by omega) ?_)
      by_cases c : l[i] = v
      · exact Ev.pos c (Ev.some (by simp [c]))
      · refine Ev.neg c ?_
        rw [beq_eq_false_iff_ne.2 (Ne.symm c), Bool.false_or]
        exact ih (i + 1) (by omega)
  exact key l.length 0 (by omega)
theorem specNext_f (n : ByteArray) (y : Int) (ps : List Int) (c : Int) (bs : List S62) (a : Int) (h : gOk bs) : Ev (fun k => spec_NextBlocks.f k n y ps c bs a) (nextOf bs a) := by
  unfold spec_NextBlocks.f nextOf
  refine Ev.some_bind ?_
  have done : Ev (fun k => spec_NextBlocks.j0 k a [] true n y ps c bs) [] := by
    refine Ev.succ ?_
    simp only [spec_NextBlocks.j0]
    exact Ev.pos trivial (Ev.now _)
  by_cases h1 : a < 0
  · rw [if_pos h1]
    exact Ev.pos h1 done
  rw [if_neg h1]
  refine Ev.neg h1 ?_
  by_cases h2 : (bs.length : Int) ≤ a
  · rw [if_pos h2]
    exact Ev.pos h2 done
  rw [if_neg h2]
  refine Ev.neg (by omega) (Ev.pos (by omega) (Ev.pos (by omega) ?_))
  by_cases h3 : (rd_T62 bs a).f0.length = 0
  · rw [if_pos h3]
    have e : (((rd_T62 bs a).f0.length : Int) == 0) = true := by rw [h3]; rfl
    rw [e]
    exact done
  rw [if_neg h3]
  have e : (((rd_T62 bs a).f0.length : Int) == 0) = false := by rw [beq_eq_false_iff_ne]; omega
  rw [e]
  have h4 := gOk_last h (a := a) (by omega) (by omega) h3
  have h5 := gOk_at h (a := a) (by omega) (by omega)
  have h6 := h5.1
  have h7 := h4.2.1
  have hb := h.1
  refine Ev.succ ?_
  simp only [spec_NextBlocks.j0]
  rw [wrap64_id (x := ((rd_T62 bs a).f0.length : Int) - 1) (by omega) (by omega)]
  refine Ev.neg (by simp) (Ev.pos (by omega) (Ev.pos (by omega) (Ev.pos (by omega) (Ev.pos (by omega) ?_))))
  generalize rd_T66 (rd_T62 bs a).f0 (((rd_T62 bs a).f0.length : Int) - 1) = x at h4 h7
  have key : ∀ d i : Nat, i + d = x.f7.length → Ev (fun k => spec_NextBlocks.l0 k (nextL bs.length (x.f7.take i)) (i : Int) n y ps c bs x.f0 x.f1 x.f2 x.f3 x.f4 x.f5 x.f6 x.f7 x.f8) (nextL bs.length x.f7) := by
    intro d
    induction d with
    | zero =>
      intro i hi
      obtain rfl : i = x.f7.length := by omega
      refine Ev.succ ?_
      simp only [spec_NextBlocks.l0]
      rw [List.take_length]
      exact Ev.neg (by omega) (Ev.now _)
    | succ d ih =>
      intro i hi
      have hlt : i < x.f7.length := by omega
      have h8 := ih (i + 1) (by omega)
      rw [nextL_take bs.length x.f7 i hlt] at h8
      refine Ev.succ ?_
      simp only [spec_NextBlocks.l0]
      have e1 : rd x.f7 i = x.f7[i] := by simp [rd, List.getElem?_eq_getElem hlt]
      have hlen := nextL_len bs.length (x.f7.take i)
      rw [List.length_take] at hlen
      rw [e1, wrap64_nat (by omega)]
      refine Ev.pos (by omega) (Ev.pos (by omega) ?_)
      unfold stepN at h8
      by_cases c0 : 0 ≤ x.f7[i]
      · by_cases c1 : x.f7[i] < (bs.length : Int)
        · refine Ev.pos c0 (Ev.pos c1 (Ev.bind (l4Has_f _ _ (by omega)) ?_))
          by_cases c2 : (nextL bs.length (x.f7.take i)).contains x.f7[i] = true
          · rw [if_neg (by rw [c2]; simp)] at h8
            exact Ev.pos c2 h8
          · rw [if_pos ⟨c0, c1, by simpa using c2⟩] at h8
            exact Ev.neg c2 (Ev.pos (by omega) h8)
        · rw [if_neg (fun h => c1 h.2.1)] at h8
          exact Ev.pos c0 (Ev.neg c1 h8)
      · rw [if_neg (fun h => c0 h.1)] at h8
        exact Ev.neg c0 h8
  exact key x.f7.length 0 (by omega)
end Go.Proofs.Ytoedcnhgobbnfaa.All


/- Which blocks can be come to: the reference's walk and the program's are one. -/
namespace Go.Proofs.Ytoedcnhgobbnfaa.All
open Go.RowKit Go.Proofs.YtoedcnhgobbnfaaW.PrintWords Go.Proofs.YtoedcnhgobbnfaaW.PrintLast Go.Proofs.YtoedcnhgobbnfaaW.PrintMore
set_option linter.unusedVariables false
set_option linter.unusedSimpArgs false
def rsOf (bs : List S62) : List (List Int) := (List.range bs.length).map fun (b : Nat) => nextOf bs (b : Int)
theorem rsOf_len (bs : List S62) : (rsOf bs).length = bs.length := by simp [rsOf]
theorem rsOf_getD (bs : List S62) (i : Nat) (h : i < bs.length) : (rsOf bs).getD i [] = nextOf bs (i : Int) := by
  unfold rsOf
  rw [List.getD_eq_getElem?_getD, List.getElem?_map, List.getElem?_eq_getElem (by simpa using h)]
  simp
theorem rsOf_ok {bs : List S62} (h : gOk bs) : okRows bs.length (rsOf bs) = true := by
  unfold okRows rsOf
  rw [List.all_eq_true]
  intro r hr
  obtain ⟨b, _, rfl⟩ := List.mem_map.1 hr
  rw [Bool.and_eq_true, decide_eq_true_eq, List.all_eq_true]
  have := nextOf_len h (b : Int)
  exact ⟨by omega, fun t ht => by simpa using nextOf_range bs (b : Int) t ht⟩
theorem l4Build_f (n : ByteArray) (y : Int) (ps : List Int) (c : Int) (bs : List S62) (h : gOk bs) : Ev (fun k => spec_l4Build.f k n y ps c bs) (rsOf bs, prevUp (rsOf bs) bs.length) := by
  unfold spec_l4Build.f
  have hb := h.1
  refine Ev.pos (by omega) ?_
  have key : ∀ m : Nat, Ev (fun k => rowsOf (fun b => spec_NextBlocks.f k n y ps c bs b) m) ((List.range m).map fun (b : Nat) => nextOf bs (b : Int)) := by
    intro m
    induction m with
    | zero => exact Ev.now _
    | succ m ih =>
      simp only [rowsOf]
      refine Ev.bind ih (Ev.bind (specNext_f n y ps c bs (m : Int) h) ?_)
      rw [List.range_succ, List.map_append]
      exact Ev.now _
  exact Ev.bind (key bs.length) (Ev.pos (rsOf_ok h) (Ev.now _))
/-- How many are not come to yet. -/
def fc : List Bool → Nat
  | [] => 0
  | b :: bs => (if b = true then 0 else 1) + fc bs
theorem fc_set : ∀ (s : List Bool) (i : Nat), i < s.length → s.getD i false = false → fc (s.set i true) + 1 = fc s
  | [], i, h, _ => absurd h (by simp)
  | b :: s, 0, _, h => by
    have hb : b = false := by simpa using h
    subst hb
    simp only [List.set_cons_zero, fc]
    simp
    omega
  | b :: s, i + 1, h, h2 => by
    have := fc_set s i (by simpa using h) (by simpa using h2)
    simp only [List.set_cons_succ, fc]
    omega
def reIn (wo : Int) : List Int → List Bool → List Int → List Bool × List Int
  | [], s, t => (s, t)
  | x :: xs, s, t => if x = wo ∨ s.getD x.toNat false = true then reIn wo xs s t else reIn wo xs (s.set x.toNat true) (t ++ [x])
theorem reIn_inv (wo : Int) (n : Nat) : ∀ (l : List Int) (s : List Bool) (t : List Int), s.length = n → (∀ x ∈ l, 0 ≤ x ∧ x < (n : Int)) → (∀ x ∈ t, 0 ≤ x ∧ x < (n : Int)) →
    (reIn wo l s t).1.length = n ∧ (∀ x ∈ (reIn wo l s t).2, 0 ≤ x ∧ x < (n : Int)) ∧ fc (reIn wo l s t).1 + (reIn wo l s t).2.length = fc s + t.length
  | [], s, t, hs, _, ht => ⟨hs, ht, rfl⟩
  | x :: xs, s, t, hs, hl, ht => by
    have hx := hl x (List.mem_cons_self ..)
    simp only [reIn]
    by_cases c : x = wo ∨ s.getD x.toNat false = true
    · rw [if_pos c]
      exact reIn_inv wo n xs s t hs (fun z hz => hl z (List.mem_cons_of_mem _ hz)) ht
    · rw [if_neg c]
      obtain ⟨h1, h2, h3⟩ := reIn_inv wo n xs (s.set x.toNat true) (t ++ [x]) (by rw [List.length_set]; exact hs) (fun z hz => hl z (List.mem_cons_of_mem _ hz)) (by
        intro z hz
        rcases List.mem_append.1 hz with hz | hz
        · exact ht z hz
        · rw [List.mem_singleton.1 hz]; exact hx)
      have h4 := fc_set s x.toNat (by omega) (by
        cases hg : s.getD x.toNat false with
        | false => rfl
        | true => exact absurd (Or.inr hg) c)
      refine ⟨h1, h2, ?_⟩
      rw [h3, List.length_append, List.length_singleton]
      omega
def reOut (N : Int → List Int) (wo : Int) : Nat → List Bool → List Int → List Bool
  | 0, s, _ => s
  | f + 1, s, t => match t.getLast? with
    | none => s
    | some b => reOut N wo f (reIn wo (N b) s t.dropLast).1 (reIn wo (N b) s t.dropLast).2
theorem reOut_len (bs : List S62) (wo : Int) : ∀ (f : Nat) (s : List Bool) (t : List Int), s.length = bs.length → (∀ x ∈ t, 0 ≤ x ∧ x < (bs.length : Int)) → (reOut (nextOf bs) wo f s t).length = bs.length
  | 0, s, t, hs, _ => hs
  | f + 1, s, t, hs, ht => by
    rcases List.eq_nil_or_concat t with rfl | ⟨i, b, rfl⟩
    · simpa [reOut] using hs
    · simp only [List.concat_eq_append] at ht ⊢
      simp only [reOut, List.getLast?_append, List.getLast?_singleton, Option.some_or, List.dropLast_concat]
      have h := reIn_inv wo bs.length (nextOf bs b) s i hs (nextOf_range bs b) (fun x hx => ht x (List.mem_append_left _ hx))
      exact reOut_len bs wo f _ _ h.1 h.2.1
def reachOf (bs : List S62) (wo : Int) : List Bool :=
  if bs.length = 0 ∨ wo = 0 then List.replicate bs.length false else reOut (nextOf bs) wo (bs.length + 1) ((List.replicate bs.length false).set 0 true) [0]
theorem reachOf_len (bs : List S62) (wo : Int) : (reachOf bs wo).length = bs.length := by
  unfold reachOf
  split
  · simp
  · exact reOut_len bs wo _ _ _ (by simp) (by intro x hx; rw [List.mem_singleton.1 hx]; omega)
theorem rdOf_eq (s : List Bool) (x : Int) : rdOf false s x = s.getD x.toNat false := rfl
theorem specRe_f (ps : List (List Int)) (wo : Int) (bs : List S62) (h : gOk bs) : ∀ (f : Nat) (s : List Bool) (t : List Int), fc s + t.length ≤ f → f ≤ 4194304 → s.length = bs.length → (∀ x ∈ t, 0 ≤ x ∧ x < (bs.length : Int)) → Ev (fun k => spec_l4Reach.l0 k wo s t (rsOf bs) ps) (reOut (nextOf bs) wo f s t) := by
  have hb := h.1
  have inner : ∀ (b : Int), 0 ≤ b → b < (bs.length : Int) → ∀ (r : List Bool) (d j : Nat) (s : List Bool) (t : List Int), j + d = (nextOf bs b).length → s.length = bs.length → fc s + t.length ≤ 4194304 →
      Ev (fun k => spec_l4Reach.l0 k wo (reIn wo ((nextOf bs b).drop j) s t).1 (reIn wo ((nextOf bs b).drop j) s t).2 (rsOf bs) ps) r → Ev (fun k => spec_l4Reach.l1 k wo s t b (j : Int) (rsOf bs) ps) r := by
    intro b h0 h1 r d
    have hrow : rd_L4 (rsOf bs) b = nextOf bs b := by
      have := rsOf_getD bs b.toNat (by omega)
      rw [Int.toNat_of_nonneg h0] at this
      exact this
    have hlen := nextOf_len h b
    have hrg := nextOf_range bs b
    induction d with
    | zero =>
      intro j s t hj hs hf h8
      obtain rfl : j = (nextOf bs b).length := by omega
      rw [List.drop_length] at h8
      refine Ev.succ ?_
      simp only [spec_l4Reach.l1]
      rw [hrow, rsOf_len]
      exact Ev.pos h0 (Ev.pos h1 (Ev.neg (by omega) h8))
    | succ d ih =>
      intro j s t hj hs hf h8
      have hlt : j < (nextOf bs b).length := by omega
      have e1 : rd (nextOf bs b) j = (nextOf bs b)[j] := by simp [rd, List.getElem?_eq_getElem hlt]
      have hx := hrg _ (List.getElem_mem hlt)
      rw [List.drop_eq_getElem_cons hlt] at h8
      generalize (nextOf bs b)[j] = x at e1 hx h8
      simp only [reIn] at h8
      refine Ev.succ ?_
      simp only [spec_l4Reach.l1]
      rw [hrow, rsOf_len, e1, wrap64_nat (by omega), hs, rdOf_eq]
      refine Ev.pos h0 (Ev.pos h1 (Ev.pos (by omega) (Ev.pos (by omega) ?_)))
      by_cases c1 : x = wo
      · rw [if_pos (Or.inl c1)] at h8
        exact Ev.pos c1 (ih (j + 1) s t (by omega) hs hf h8)
      · refine Ev.neg c1 (Ev.pos hx.1 (Ev.pos hx.2 ?_))
        by_cases c2 : s.getD x.toNat false = true
        · rw [if_pos (Or.inr c2)] at h8
          exact Ev.pos c2 (ih (j + 1) s t (by omega) hs hf h8)
        · rw [if_neg (fun hh => hh.elim c1 c2)] at h8
          have h4 := fc_set s x.toNat (by omega) (by simpa using c2)
          exact Ev.neg c2 (Ev.pos (by omega) (ih (j + 1) _ _ (by omega) (by rw [List.length_set]; exact hs) (by rw [List.length_append, List.length_singleton]; omega) h8))
  intro f
  induction f with
  | zero =>
    intro s t hm hf hs ht
    have : t = [] := List.length_eq_zero_iff.1 (by omega)
    subst this
    refine Ev.succ ?_
    simp only [spec_l4Reach.l0]
    exact Ev.neg (by simp) (Ev.now _)
  | succ f ih =>
    intro s t hm hf hs ht
    rcases List.eq_nil_or_concat t with rfl | ⟨i, b, rfl⟩
    · refine Ev.succ ?_
      simp only [spec_l4Reach.l0, reOut, List.getLast?_nil]
      exact Ev.neg (by simp) (Ev.now _)
    · simp only [List.concat_eq_append] at hm ht ⊢
      have hbb := ht b (by simp)
      have hinv := reIn_inv wo bs.length (nextOf bs b) s i hs (nextOf_range bs b) (fun x hx => ht x (List.mem_append_left _ hx))
      rw [List.length_append, List.length_singleton] at hm
      refine Ev.succ ?_
      simp only [spec_l4Reach.l0, reOut, List.getLast?_append, List.getLast?_singleton, Option.some_or, List.dropLast_concat, List.length_append, List.length_singleton]
      rw [wrap64_id (x := ((i.length + 1 : Nat) : Int) - 1) (by omega) (by omega)]
      have e2 : (((i.length + 1 : Nat) : Int) - 1) = (i.length : Int) := by omega
      rw [e2]
      have e3 : rd (i ++ [b]) (i.length : Int) = b := by simp [rd]
      rw [e3, Int.toNat_natCast, List.take_left]
      refine Ev.pos (by omega) (Ev.pos (by omega) (Ev.pos (by omega) (Ev.pos (by omega) ?_)))
      refine inner b hbb.1 hbb.2 _ (nextOf bs b).length 0 s i (by omega) hs (by omega) ?_
      rw [List.drop_zero]
      exact ih _ _ (by omega) (by omega) hinv.1 hinv.2.1
theorem fc_rep (n : Nat) : fc (List.replicate n false) = n := by
  induction n with
  | zero => rfl
  | succ n ih => rw [List.replicate_succ, fc, ih]; simp; omega
theorem specReach_f (ps : List (List Int)) (wo : Int) (bs : List S62) (h : gOk bs) : Ev (fun k => spec_l4Reach.f k (rsOf bs) ps 0 wo) (reachOf bs wo) := by
  have hb := h.1
  unfold spec_l4Reach.f reachOf
  rw [rsOf_len, Int.toNat_natCast]
  refine Ev.pos (by omega) (Ev.pos (by omega) (Ev.some_bind ?_))
  have done : Ev (fun k => spec_l4Reach.j0 k 0 wo (List.replicate bs.length false) true (rsOf bs) ps) (List.replicate bs.length false) := by
    refine Ev.succ ?_
    simp only [spec_l4Reach.j0]
    exact Ev.pos trivial (Ev.now _)
  by_cases c1 : 0 = wo
  · rw [if_pos (Or.inr c1.symm)]
    exact Ev.pos c1 done
  refine Ev.neg c1 (Ev.neg (by omega) ?_)
  by_cases c2 : bs.length = 0
  · rw [if_pos (Or.inl c2), decide_eq_true (by omega)]
    exact done
  rw [if_neg (fun hh => hh.elim c2 (fun e => c1 e.symm)), decide_eq_false (by omega)]
  refine Ev.succ ?_
  simp only [spec_l4Reach.j0, List.length_replicate]
  refine Ev.neg (by simp) (Ev.pos (by omega) (Ev.pos (by omega) ?_))
  have h4 := fc_set (List.replicate bs.length false) 0 (by simp; omega) (by rw [List.getD_eq_getElem?_getD, List.getElem?_replicate, if_pos (by omega)]; rfl)
  rw [fc_rep] at h4
  refine specRe_f ps wo bs h (bs.length + 1) _ _ (by simp; omega) (by omega) (by simp) (by intro x hx; rw [List.mem_singleton.1 hx]; omega)
theorem implRe_f (n : ByteArray) (y : Int) (ps : List Int) (c : Int) (wo : Int) (bs : List S62) (h : gOk bs) : ∀ (f : Nat) (s : List Bool) (t : List Int), fc s + t.length ≤ f → f ≤ 4194304 → s.length = bs.length → (∀ x ∈ t, 0 ≤ x ∧ x < (bs.length : Int)) → Ev (fun k => impl_reached.l0 k wo s t n y ps c bs) (reOut (nextOf bs) wo f s t) := by
  have hb := h.1
  have inner : ∀ (b : Int), 0 ≤ b → b < (bs.length : Int) → ∀ (r : List Bool) (d j : Nat) (s : List Bool) (t : List Int), j + d = (nextOf bs b).length → s.length = bs.length → fc s + t.length ≤ 4194304 →
      Ev (fun k => impl_reached.l0 k wo (reIn wo ((nextOf bs b).drop j) s t).1 (reIn wo ((nextOf bs b).drop j) s t).2 n y ps c bs) r → Ev (fun k => impl_reached.l1 k wo s t (nextOf bs b) ((nextOf bs b).length : Int) (j : Int) n y ps c bs) r := by
    intro b h0 h1 r d
    have hlen := nextOf_len h b
    have hrg := nextOf_range bs b
    induction d with
    | zero =>
      intro j s t hj hs hf h8
      obtain rfl : j = (nextOf bs b).length := by omega
      rw [List.drop_length] at h8
      refine Ev.succ ?_
      simp only [impl_reached.l1]
      exact Ev.neg (by omega) h8
    | succ d ih =>
      intro j s t hj hs hf h8
      have hlt : j < (nextOf bs b).length := by omega
      have e1 : rd (nextOf bs b) j = (nextOf bs b)[j] := by simp [rd, List.getElem?_eq_getElem hlt]
      have hx := hrg _ (List.getElem_mem hlt)
      rw [List.drop_eq_getElem_cons hlt] at h8
      generalize (nextOf bs b)[j] = x at e1 hx h8
      simp only [reIn] at h8
      refine Ev.succ ?_
      simp only [impl_reached.l1]
      rw [e1, wrap64_nat (by omega), hs, rdOf_eq]
      refine Ev.pos (by omega) (Ev.pos (by omega) (Ev.pos (by omega) (Ev.pos hx.1 (Ev.pos hx.2 ?_))))
      by_cases c2 : s.getD x.toNat false = true
      · rw [if_pos (Or.inr c2)] at h8
        exact Ev.pos c2 (ih (j + 1) s t (by omega) hs hf h8)
      · refine Ev.neg c2 ?_
        by_cases c1 : x = wo
        · rw [if_pos (Or.inl c1)] at h8
          exact Ev.pos c1 (ih (j + 1) s t (by omega) hs hf h8)
        · rw [if_neg (fun hh => hh.elim c1 c2)] at h8
          have h4 := fc_set s x.toNat (by omega) (by simpa using c2)
          exact Ev.neg c1 (Ev.pos (by omega) (ih (j + 1) _ _ (by omega) (by rw [List.length_set]; exact hs) (by rw [List.length_append, List.length_singleton]; omega) h8))
  intro f
  induction f with
  | zero =>
    intro s t hm hf hs ht
    have : t = [] := List.length_eq_zero_iff.1 (by omega)
    subst this
    refine Ev.succ ?_
    simp only [impl_reached.l0]
    exact Ev.neg (by simp) (Ev.now _)
  | succ f ih =>
    intro s t hm hf hs ht
    rcases List.eq_nil_or_concat t with rfl | ⟨i, b, rfl⟩
    · refine Ev.succ ?_
      simp only [impl_reached.l0, reOut, List.getLast?_nil]
      exact Ev.neg (by simp) (Ev.now _)
    · simp only [List.concat_eq_append] at hm ht ⊢
      have hbb := ht b (by simp)
      have hinv := reIn_inv wo bs.length (nextOf bs b) s i hs (nextOf_range bs b) (fun x hx => ht x (List.mem_append_left _ hx))
      rw [List.length_append, List.length_singleton] at hm
      refine Ev.succ ?_
      simp only [impl_reached.l0, reOut, List.getLast?_append, List.getLast?_singleton, Option.some_or, List.dropLast_concat, List.length_append, List.length_singleton]
      rw [wrap64_id (x := ((i.length + 1 : Nat) : Int) - 1) (by omega) (by omega)]
      have e2 : (((i.length + 1 : Nat) : Int) - 1) = (i.length : Int) := by omega
      rw [e2]
      have e3 : rd (i ++ [b]) (i.length : Int) = b := by simp [rd]
      rw [e3, Int.toNat_natCast, List.take_left]
      refine Ev.pos (by omega) (Ev.pos (by omega) (Ev.pos (by omega) (Ev.pos (by omega) (Ev.eq_bind (implNext_f n y ps c bs b h) ?_))))
      refine inner b hbb.1 hbb.2 _ (nextOf bs b).length 0 s i (by omega) hs (by omega) ?_
      rw [List.drop_zero]
      exact ih _ _ (by omega) (by omega) hinv.1 hinv.2.1
theorem implReach_f (n : ByteArray) (y : Int) (ps : List Int) (c : Int) (wo : Int) (bs : List S62) (h : gOk bs) : Ev (fun k => impl_reached.f k n y ps c bs wo) (reachOf bs wo) := by
  have hb := h.1
  unfold impl_reached.f reachOf
  rw [Int.toNat_natCast]
  refine Ev.pos (by omega) (Ev.pos (by omega) (Ev.some_bind ?_))
  have done : Ev (fun k => impl_reached.j0 k wo (List.replicate bs.length false) true n y ps c bs) (List.replicate bs.length false) := by
    refine Ev.succ ?_
    simp only [impl_reached.j0]
    exact Ev.pos trivial (Ev.now _)
  by_cases c2 : bs.length = 0
  · rw [if_pos (Or.inl c2)]
    exact Ev.pos (by omega) done
  refine Ev.neg (by omega) ?_
  by_cases c1 : wo = 0
  · rw [if_pos (Or.inr c1), show (wo == 0) = true from by rw [c1]; rfl]
    exact done
  rw [if_neg (fun hh => hh.elim c2 c1), show (wo == 0) = false from by rw [beq_eq_false_iff_ne]; exact c1]
  refine Ev.succ ?_
  simp only [impl_reached.j0, List.length_replicate]
  refine Ev.neg (by simp) (Ev.pos (by omega) ?_)
  have h4 := fc_set (List.replicate bs.length false) 0 (by simp; omega) (by rw [List.getD_eq_getElem?_getD, List.getElem?_replicate, if_pos (by omega)]; rfl)
  rw [fc_rep] at h4
  refine implRe_f n y ps c wo bs h (bs.length + 1) _ _ (by simp; omega) (by omega) (by simp) (by intro x hx; rw [List.mem_singleton.1 hx]; omega)
end Go.Proofs.Ytoedcnhgobbnfaa.All


/- Dominates: the reference's answer and the program's are one. -/
namespace Go.Proofs.Ytoedcnhgobbnfaa.All
open Go.RowKit Go.Proofs.YtoedcnhgobbnfaaW.PrintWords Go.Proofs.YtoedcnhgobbnfaaW.PrintLast Go.Proofs.YtoedcnhgobbnfaaW.PrintMore
set_option linter.unusedVariables false
set_option linter.unusedSimpArgs false
def domOf (bs : List S62) (a b : Int) : Bool :=
  if a < 0 ∨ b < 0 ∨ a ≥ (bs.length : Int) ∨ b ≥ (bs.length : Int) then false else (reachOf bs (-1)).getD b.toNat false && !(reachOf bs a).getD b.toNat false
theorem specDominates_f (n : ByteArray) (y : Int) (ps : List Int) (c : Int) (bs : List S62) (a b : Int) (h : gOk bs) : Ev (fun k => spec_Dominates.f k n y ps c bs a b) (domOf bs a b) := by
  unfold spec_Dominates.f domOf
  have done : Ev (fun k => spec_Dominates.j0 k a b true n y ps c bs) false := by
    refine Ev.succ ?_
    simp only [spec_Dominates.j0]
    exact Ev.pos trivial (Ev.now _)
  by_cases h1 : a < 0
  · rw [if_pos (Or.inl h1)]; exact Ev.pos h1 done
  refine Ev.neg h1 ?_
  by_cases h2 : b < 0
  · rw [if_pos (Or.inr (Or.inl h2))]; exact Ev.pos h2 done
  refine Ev.neg h2 ?_
  by_cases h3 : a ≥ (bs.length : Int)
  · rw [if_pos (Or.inr (Or.inr (Or.inl h3)))]; exact Ev.pos h3 done
  refine Ev.neg h3 ?_
  by_cases h4 : b ≥ (bs.length : Int)
  · rw [if_pos (Or.inr (Or.inr (Or.inr h4))), decide_eq_true h4]; exact done
  rw [if_neg (by omega), decide_eq_false h4]
  refine Ev.succ ?_
  simp only [spec_Dominates.j0]
  have l1 := reachOf_len bs (-1)
  have l2 := reachOf_len bs a
  refine Ev.neg (by simp) (Ev.bind (l4Build_f n y ps c bs h) (Ev.bind (specReach_f _ (-1) bs h) (Ev.pos (by omega) (Ev.pos (by omega) ?_))))
  rw [rdOf_eq]
  by_cases h5 : (reachOf bs (-1)).getD b.toNat false = true
  · rw [h5, Bool.true_and]
    exact Ev.pos rfl (Ev.bind (specReach_f _ a bs h) (Ev.pos (by omega) (Ev.now _)))
  · rw [Bool.eq_false_iff.2 h5, Bool.false_and]
    exact Ev.neg (by simp) (Ev.now _)
theorem implDominates_f (n : ByteArray) (y : Int) (ps : List Int) (c : Int) (bs : List S62) (a b : Int) (h : gOk bs) : Ev (fun k => impl_Dominates.f k n y ps c bs a b) (domOf bs a b) := by
  unfold impl_Dominates.f domOf
  have done : Ev (fun k => impl_Dominates.j0 k a b true n y ps c bs) false := by
    refine Ev.succ ?_
    simp only [impl_Dominates.j0]
    exact Ev.pos trivial (Ev.now _)
  by_cases h1 : a < 0
  · rw [if_pos (Or.inl h1)]; exact Ev.pos h1 done
  refine Ev.neg h1 ?_
  by_cases h3 : a ≥ (bs.length : Int)
  · rw [if_pos (Or.inr (Or.inr (Or.inl h3)))]; exact Ev.pos h3 done
  refine Ev.neg h3 ?_
  by_cases h2 : b < 0
  · rw [if_pos (Or.inr (Or.inl h2))]; exact Ev.pos h2 done
  refine Ev.neg h2 ?_
  by_cases h4 : b ≥ (bs.length : Int)
  · rw [if_pos (Or.inr (Or.inr (Or.inr h4))), decide_eq_true h4]; exact done
  rw [if_neg (by omega), decide_eq_false h4]
  refine Ev.succ ?_
  simp only [impl_Dominates.j0]
  have l1 := reachOf_len bs (-1)
  have l2 := reachOf_len bs a
  refine Ev.neg (by simp) (Ev.bind (implReach_f n y ps c (-1) bs h) (Ev.pos (by omega) (Ev.pos (by omega) ?_)))
  rw [rdOf_eq]
  by_cases h5 : (reachOf bs (-1)).getD b.toNat false = true
  · rw [h5, Bool.true_and]
    exact Ev.pos rfl (Ev.bind (implReach_f n y ps c a bs h) (Ev.pos (by omega) (Ev.now _)))
  · rw [Bool.eq_false_iff.2 h5, Bool.false_and]
    exact Ev.neg (by simp) (Ev.now _)
end Go.Proofs.Ytoedcnhgobbnfaa.All


/- FnExactDominates: the printed law is true of all arguments. -/
namespace Go.Proofs.Ytoedcnhgobbnfaa.Pure
open Go.Proofs.Ytoedcnhgobbnfaa.All
open Go.RowKit Go.Proofs.YtoedcnhgobbnfaaW.PrintWords Go.Proofs.YtoedcnhgobbnfaaW.PrintLast Go.Proofs.YtoedcnhgobbnfaaW.PrintMore
set_option linter.unusedVariables false
set_option linter.unusedSimpArgs false
theorem FnExactDominates (a0_0 : ByteArray) (a0_1 : Int) (l0_2 : List Int) (a0_3 : Int) (l0_4 : List S96) (a1 : Int) (a2 : Int) (h0 : a0_0.size ≤ 9223372036854775807) (_ : (Lit.int .i64 a0_1).wf = true) (h2 : l0_2.length ≤ 9223372036854775807 ∧ ∀ y ∈ l0_2, (Lit.int .i64 y).wf = true) (_ : (Lit.int .i64 a0_3).wf = true) (h4 : l0_4.length ≤ 9223372036854775807 ∧ ∀ y ∈ l0_4, ok96 y) (_ : (Lit.int .i64 a1).wf = true) (_ : (Lit.int .i64 a2).wf = true) :
    ∃ k, laws_FnExactDominates.f k a0_0 a0_1 l0_2 a0_3 l0_4 a1 a2 = some true := by
  refine Ev.rounds ?_
  obtain ⟨r, hr, hc⟩ := szFunc_f a0_0 a0_1 l0_2 a0_3 l0_4 h0 h2.1 (lBlockS_ok h4)
  unfold laws_FnExactDominates.f
  refine Ev.bind hr ?_
  by_cases hneg : r < 0
  · exact Ev.pos hneg (Ev.now _)
  refine Ev.neg hneg ?_
  have hs : a0_0.size + l0_2.length + sBlockS l0_4 ≤ 1048576 := by omega
  have ht := toFunc_f a0_0 a0_1 l0_2 a0_3 l0_4 hs
  have hb := bBlock_of l0_4 (by omega)
  have hl : (l0_4.map iBlock).length ≤ 1048576 := by rw [List.length_map]; unfold sBlockS at hs; omega
  have hg : gOk (l0_4.map iBlock) := ⟨hl, hb⟩
  have hS := specDominates_f a0_0 a0_1 l0_2 a0_3 (l0_4.map iBlock) a1 a2 hg
  have hI := implDominates_f a0_0 a0_1 l0_2 a0_3 (l0_4.map iBlock) a1 a2 hg
  have hF := eqFunc_f a0_0 a0_1 l0_2 a0_3 (l0_4.map iBlock) (by omega) hl hb
  refine Ev.bind ht (Ev.bind hS (Ev.bind ht (Ev.bind hI (Ev.neg (by simp) (Ev.bind ht (Ev.bind hF (Ev.pos rfl (Ev.now _))))))))
end Go.Proofs.Ytoedcnhgobbnfaa.Pure

