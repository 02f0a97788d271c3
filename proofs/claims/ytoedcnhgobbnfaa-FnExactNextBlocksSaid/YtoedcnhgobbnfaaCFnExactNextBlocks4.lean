/- Part 4 of the proof of FnExactNextBlocks: functions of the translation with what they return, and plain laws of these. Written by programs of this session over the kit's print, and by hand. -/
import Derived.Test.YtoedcnhgobbnfaaProg
import Derived.Test.YtoedcnhgobbnfaaWApart
import Derived.Test.YtoedcnhgobbnfaaWArr
import Derived.Test.YtoedcnhgobbnfaaWFoot
import Derived.Test.YtoedcnhgobbnfaaWGuard
import Derived.Test.YtoedcnhgobbnfaaWKept
import Derived.Test.YtoedcnhgobbnfaaWLast
import Derived.Test.YtoedcnhgobbnfaaWMore
import Derived.Test.YtoedcnhgobbnfaaWN
import Derived.Test.YtoedcnhgobbnfaaWNEv
import Derived.Test.YtoedcnhgobbnfaaWQPut
import Derived.Test.YtoedcnhgobbnfaaWRepsOne
import Derived.Test.YtoedcnhgobbnfaaWShare
import Derived.Test.YtoedcnhgobbnfaaWTab
import Derived.Test.YtoedcnhgobbnfaaWWords
import Derived.Test.YtoedcnhgobbnfaaWZeros
import Derived.Below
import Derived.Deep.Draws
import Derived.Deep.AppendLies
import Derived.Maps.AppendAt
import Derived.OwnWalk
import Derived.Laws.BytesArg
import Derived.Laws.MakeOwn
import Derived.Laws.OwnMore
import Derived.Deep.OwnRows
import Derived.Tactics
import Derived.Lib.ConvBytes
import Derived.Laws.Slices
import Derived.WalkKit
import Derived.KernelRfl
import Derived.RowKit3
import Derived.Deep.LoopGhost
import Derived.Deep.QuietTactic
import Derived.BigQuiet
import Derived.WideLaws
import Derived.Deep.DeepCutAuto
import Derived.Deep.CutBlock
import Derived.Deep.RegionHeld3
import Derived.Laws.Rows
import Derived.Lib.AppendStr
import Derived.ArgAppend
import Derived.Laws.IdiomCopy
import Derived.OrdersHeld
import Derived.Laws.BitsLemmas
import Derived.RowKit
import Derived.Maps.OwnSet
import Derived.Maps.OwnOps
import Derived.Deep.Slices
import Derived.ChangeArms
import Derived.ProofKit
import Derived.OpenShut
import Derived.ShutString
import Derived.ChangeOld
import Derived.SizedLaws
import Derived.Test.YtoedcnhgobbnfaaCFnExactNextBlocks1
import Derived.Test.YtoedcnhgobbnfaaCFnExactNextBlocks2
import Derived.Test.YtoedcnhgobbnfaaCFnExactNextBlocks3
namespace Go.Proofs.Ytoedcnhgobbnfaa.All
open Go.RowKit Go.Proofs.YtoedcnhgobbnfaaW.PrintWords Go.Proofs.YtoedcnhgobbnfaaW.PrintLast Go.Proofs.YtoedcnhgobbnfaaW.PrintMore
attribute [local go_sem] max2_int min2_int max_two min_two max_three min_three max_four min_four   -- for this text's walks alone
set_option linter.unusedVariables false
set_option linter.unusedSimpArgs false

/-! ### laws_FnExactNextBlocks: function 4 -/
def laws_FnExactNextBlocks.j0 : Nat → Int → List Int → List Int → Bool → ByteArray → Int → List Int → Int → List (S96) → Option (Bool)
  | 0, _, _, _, _, _, _, _, _, _ => none
  | k + 1, x1, x6, x8, x46, x901000, x901001, x901002, x901003, x901004 => if x46 = true then (some false) else ((laws_markInt64S.f k x8 1).bind fun bt940 => ((laws_heldInt64S.f k bt940.2 1).bind fun t942 => (if t942 < 0 then (some false) else (if t942 = bt940.1 then ((laws_toFunc.f k x901000 x901001 x901002 x901003 x901004).bind fun bt943 => ((impl_NextBlocks.f bt943.1 bt943.2.1 bt943.2.2.1 bt943.2.2.2.1 bt943.2.2.2.2 x1).bind fun t952 => ((laws_eqInt64S.f k t952 x6).bind fun t955 => (if t955 = true then ((laws_heldInt64S.f k bt940.2 1).bind fun t956 => (if t956 < 0 then (some false) else (if t956 = bt940.1 then (some true) else (some false)))) else (some false))))) else (some false)))))
def laws_FnExactNextBlocks.f (k : Nat) (a0_0 : ByteArray) (a0_1 : Int) (l0_2 : List Int) (a0_3 : Int) (l0_4 : List (S96)) (a1 : Int) : Option (Bool) := (laws_szFunc.f k a0_0 a0_1 l0_2 a0_3 l0_4 1048576).bind fun t901 => (if t901 < 0 then (some true) else ((laws_toFunc.f k a0_0 a0_1 l0_2 a0_3 l0_4).bind fun bt902 => ((spec_NextBlocks.f k bt902.1 bt902.2.1 bt902.2.2.1 bt902.2.2.2.1 bt902.2.2.2.2 a1).bind fun t911 => ((laws_toFunc.f k a0_0 a0_1 l0_2 a0_3 l0_4).bind fun bt914 => ((impl_NextBlocks.f bt914.1 bt914.2.1 bt914.2.2.1 bt914.2.2.2.1 bt914.2.2.2.2 a1).bind fun t924 => ((laws_eqInt64S.f k t924 t911).bind fun t927 => (if t927 = true then ((laws_toFunc.f k a0_0 a0_1 l0_2 a0_3 l0_4).bind fun bt928 => ((laws_eqFunc.f k bt914.1 bt914.2.1 bt914.2.2.1 bt914.2.2.2.1 bt914.2.2.2.2 bt928.1 bt928.2.1 bt928.2.2.1 bt928.2.2.2.1 bt928.2.2.2.2).bind fun t937 => (if t937 = true then ((laws_markFunc.f bt914.1 bt914.2.1 bt914.2.2.1 bt914.2.2.2.1 bt914.2.2.2.2 1).bind fun t938 => (if t938 < 0 then (laws_FnExactNextBlocks.j0 k a1 t911 t924 true a0_0 a0_1 l0_2 a0_3 l0_4) else ((laws_eqInt64S.f k t924 t911).bind fun t939 => (laws_FnExactNextBlocks.j0 k a1 t911 t924 (!t939) a0_0 a0_1 l0_2 a0_3 l0_4)))) else (some false)))) else (some false))))))))
set_option maxHeartbeats 8000000 in
set_option maxRecDepth 100000 in
theorem laws_FnExactNextBlocks.calls (k : Nat) (a0_0 : ByteArray) (a0_1 : Int) (A0_2 : Option Addr) (c0_2 : Nat) (l0_2 : List Int) (a0_3 : Int) (A0_4 : Option Addr) (c0_4 : Nat) (l0_4 : List (S96)) (a1 : Int) (r : Bool) (w : World) (hr0_2 : Kd.C (Kd.int .i64) w A0_2 l0_2.length l0_2) (hc0_2 : l0_2.length ≤ c0_2) (hr0_4 : Kd.C k96 w A0_4 l0_4.length l0_4) (hc0_4 : l0_4.length ≤ c0_4) (h : laws_FnExactNextBlocks.f k a0_0 a0_1 l0_2 a0_3 l0_4 a1 = some r) :
    Calls Try.prog 4 #[.agg #[.string a0_0, .int .i64 a0_1, .slice A0_2 l0_2.length c0_2, .int .i64 a0_3, .slice A0_4 l0_4.length c0_4], .int .i64 a1] w fun e w' => e = .returned (.bool r) ∧ Below w.heap.size w w' := by
  have hu25 := Try.underlying25
  have hu30 := Try.underlying30
  have HR0_2 := Aside0.mk hr0_2
  have HC0_2 := Aside0.mk hc0_2
  clear hr0_2 hc0_2
  have HR0_4 := Aside0.mk hr0_4
  have HC0_4 := Aside0.mk hc0_4
  clear hr0_4 hc0_4
  have HB := Aside0.mk (Below.refl w.heap.size w)
  have H : ((laws_szFunc.f k a0_0 a0_1 l0_2 a0_3 l0_4 1048576).bind fun t901 => (if t901 < 0 then (some true) else ((laws_toFunc.f k a0_0 a0_1 l0_2 a0_3 l0_4).bind fun bt902 => ((spec_NextBlocks.f k bt902.1 bt902.2.1 bt902.2.2.1 bt902.2.2.2.1 bt902.2.2.2.2 a1).bind fun t911 => ((laws_toFunc.f k a0_0 a0_1 l0_2 a0_3 l0_4).bind fun bt914 => ((impl_NextBlocks.f bt914.1 bt914.2.1 bt914.2.2.1 bt914.2.2.2.1 bt914.2.2.2.2 a1).bind fun t924 => ((laws_eqInt64S.f k t924 t911).bind fun t927 => (if t927 = true then ((laws_toFunc.f k a0_0 a0_1 l0_2 a0_3 l0_4).bind fun bt928 => ((laws_eqFunc.f k bt914.1 bt914.2.1 bt914.2.2.1 bt914.2.2.2.1 bt914.2.2.2.2 bt928.1 bt928.2.1 bt928.2.2.1 bt928.2.2.2.1 bt928.2.2.2.2).bind fun t937 => (if t937 = true then ((laws_markFunc.f bt914.1 bt914.2.1 bt914.2.2.1 bt914.2.2.2.1 bt914.2.2.2.2 1).bind fun t938 => (if t938 < 0 then (laws_FnExactNextBlocks.j0 k a1 t911 t924 true a0_0 a0_1 l0_2 a0_3 l0_4) else ((laws_eqInt64S.f k t924 t911).bind fun t939 => (laws_FnExactNextBlocks.j0 k a1 t911 t924 (!t939) a0_0 a0_1 l0_2 a0_3 l0_4)))) else (some false)))) else (some false))))))))) = some r := h
  clear h
  replace H := Option.bind_eq_some_iff.mp H
  obtain ⟨t901, A30, H⟩ := H
  replace H : (if t901 < 0 then (some true) else ((laws_toFunc.f k a0_0 a0_1 l0_2 a0_3 l0_4).bind fun bt902 => ((spec_NextBlocks.f k bt902.1 bt902.2.1 bt902.2.2.1 bt902.2.2.2.1 bt902.2.2.2.2 a1).bind fun t911 => ((laws_toFunc.f k a0_0 a0_1 l0_2 a0_3 l0_4).bind fun bt914 => ((impl_NextBlocks.f bt914.1 bt914.2.1 bt914.2.2.1 bt914.2.2.2.1 bt914.2.2.2.2 a1).bind fun t924 => ((laws_eqInt64S.f k t924 t911).bind fun t927 => (if t927 = true then ((laws_toFunc.f k a0_0 a0_1 l0_2 a0_3 l0_4).bind fun bt928 => ((laws_eqFunc.f k bt914.1 bt914.2.1 bt914.2.2.1 bt914.2.2.2.1 bt914.2.2.2.2 bt928.1 bt928.2.1 bt928.2.2.1 bt928.2.2.2.1 bt928.2.2.2.2).bind fun t937 => (if t937 = true then ((laws_markFunc.f bt914.1 bt914.2.1 bt914.2.2.1 bt914.2.2.2.1 bt914.2.2.2.2 1).bind fun t938 => (if t938 < 0 then (laws_FnExactNextBlocks.j0 k a1 t911 t924 true a0_0 a0_1 l0_2 a0_3 l0_4) else ((laws_eqInt64S.f k t924 t911).bind fun t939 => (laws_FnExactNextBlocks.j0 k a1 t911 t924 (!t939) a0_0 a0_1 l0_2 a0_3 l0_4)))) else (some false)))) else (some false)))))))) = some r := H
  have A3 := Aside0.mk A30
  clear A30
  by_cases c4 : t901 < 0
  · rw [if_pos c4] at H
    have c4b0 : decide (t901 < 0) = true := decide_eq_true c4
    clear c4
    obtain rfl := Option.some.inj H
    go_enter Try.func4, Try.ntmps4
    go_wp2_with (first | ((with_reducible refine gate_dst (N := 2) rfl ?_); refine box_event ?hg (N := 2) ?hd (cs := #[.string a0_0, .int .i64 a0_1, .slice A0_2 l0_2.length c0_2, .int .i64 a0_3, .slice A0_4 l0_4.length c0_4]) (t := 25) ?hr ?_; (case hd => rfl); (case hg => rfl); (case hr => first | (go_simp; done) | (go_simp; rfl)); intro gb900 hg w5 hbox hb; have n0_ := Aside0.mk (below_step (by repeat (first | (with_reducible first | exact HB.out | apply below_alloc | apply pw_below_drewN | apply below_drew1) | exact HB.out)) hb); have n1_ := Aside0.mk (hbox); have n2_ := Aside0.mk ((by rw [hg]; exact (below_size (by repeat (first | (with_reducible first | exact HB.out | apply below_alloc | apply pw_below_drewN | apply below_drew1) | exact HB.out))) : w.heap.size ≤ gb900)); have n3_ := Aside0.mk ((by rw [hg]; exact (below_size (by repeat (first | (with_reducible first | exact HB.out | apply below_alloc | apply pw_below_drewN | apply below_drew1) | exact HB.out))) : w.heap.size ≤ gb900)); clear HB; have HB := n0_; have BK900 := n1_; have GW900 := n2_; have GE900 := n3_; clear n0_ n1_ n2_ n3_; clear hb hbox hg; have hcz6_0 : w5.cell? ⟨gb900, 0, none⟩ = some (.string a0_0) := (blk_cell BK900.out 0).trans rfl; have hcz6_1 : w5.cell? ⟨gb900, 1, none⟩ = some (.int .i64 a0_1) := (blk_cell BK900.out 1).trans rfl; have hcz6_2 : w5.cell? ⟨gb900, 2, none⟩ = some (.slice A0_2 l0_2.length c0_2) := (blk_cell BK900.out 2).trans rfl; have hcz6_3 : w5.cell? ⟨gb900, 3, none⟩ = some (.int .i64 a0_3) := (blk_cell BK900.out 3).trans rfl; have hcz6_4 : w5.cell? ⟨gb900, 4, none⟩ = some (.slice A0_4 l0_4.length c0_4) := (blk_cell BK900.out 4).trans rfl; have hfz6_0 := blk_frozen BK900.out 0; have hfz6_1 := blk_frozen BK900.out 1; have hfz6_2 := blk_frozen BK900.out 2; have hfz6_3 := blk_frozen BK900.out 3; have hfz6_4 := blk_frozen BK900.out 4) | ((with_reducible refine gate_callee (f := 12) rfl ?_); refine goesL_ (some 15) rfl rfl Try.func12 (by kernel_rfl) rfl #[.agg #[.string a0_0, .int .i64 a0_1, .slice A0_2 l0_2.length c0_2, .int .i64 a0_3, .slice A0_4 l0_4.length c0_4], .int .i64 1048576] rfl (by (try simp only [List.map_toArray, List.map_cons, List.map_nil]); first | done | rfl | (simp only [List.length_drop, List.length_take]; rfl)) ?_; (with_reducible refine (laws_szFunc.calls k a0_0 a0_1 _ _ l0_2 a0_3 _ _ l0_4 1048576 t901 _ ?side1 ?side2 ?side3 ?side4 A3.out).mono ?_); (case side1 => repeat (first | exact (Kd.C_below HR0_2.out HB.out) | (with_reducible refine Kd.C_alloc ?_ _) | (with_reducible refine Kd.C_drewN ?_ _) | (with_reducible refine Kd.C_drew ?_))); (case side2 => exact HC0_2.out); (case side3 => repeat (first | exact (Kd.C_below HR0_4.out HB.out) | (with_reducible refine Kd.C_alloc ?_ _) | (with_reducible refine Kd.C_drewN ?_ _) | (with_reducible refine Kd.C_drew ?_))); (case side4 => exact HC0_4.out); rintro e w7 ⟨rfl, hb⟩; refine ⟨_, rfl, ?_⟩; have n0_ := Aside0.mk (blk_below (g := gb900) (o := .cells #[.string a0_0, .int .i64 a0_1, .slice A0_2 l0_2.length c0_2, .int .i64 a0_3, .slice A0_4 l0_4.length c0_4] 25 (0, 0)) (by (with_reducible repeat (first | refine blk_drewN ?_ _ | refine blk_drew ?_ | refine blk_alloc ?_ _)); exact BK900.out) hb); have n1_ := Aside0.mk (below_step (by repeat (first | (with_reducible first | exact HB.out | apply below_alloc | apply pw_below_drewN | apply below_drew1 | refine below_set ?_ GE900.out) | exact HB.out)) hb); clear BK900; clear HB; have BK900 := n0_; have HB := n1_; clear n0_ n1_; (try clear hb); (try clear hb2); (try clear hk); (try clear hi)))
    go_ret
    exact ⟨by first | rfl | (simp [errW_none, errW_some] <;> rfl) | (simp [*, errW_none, errW_some] <;> rfl), by repeat (first | (with_reducible first | exact HB.out | apply below_alloc | apply pw_below_drewN | apply below_drew1 | refine below_set ?_ GE900.out) | exact HB.out)⟩
  · rw [if_neg c4] at H
    have c4b0 : decide (t901 < 0) = false := decide_eq_false c4
    clear c4
    replace H := Option.bind_eq_some_iff.mp H
    obtain ⟨⟨t902, t903, t904, t907, t908⟩, A80, H⟩ := H
    replace H : ((spec_NextBlocks.f k t902 t903 t904 t907 t908 a1).bind fun t911 => ((laws_toFunc.f k a0_0 a0_1 l0_2 a0_3 l0_4).bind fun bt914 => ((impl_NextBlocks.f bt914.1 bt914.2.1 bt914.2.2.1 bt914.2.2.2.1 bt914.2.2.2.2 a1).bind fun t924 => ((laws_eqInt64S.f k t924 t911).bind fun t927 => (if t927 = true then ((laws_toFunc.f k a0_0 a0_1 l0_2 a0_3 l0_4).bind fun bt928 => ((laws_eqFunc.f k bt914.1 bt914.2.1 bt914.2.2.1 bt914.2.2.2.1 bt914.2.2.2.2 bt928.1 bt928.2.1 bt928.2.2.1 bt928.2.2.2.1 bt928.2.2.2.2).bind fun t937 => (if t937 = true then ((laws_markFunc.f bt914.1 bt914.2.1 bt914.2.2.1 bt914.2.2.2.1 bt914.2.2.2.2 1).bind fun t938 => (if t938 < 0 then (laws_FnExactNextBlocks.j0 k a1 t911 t924 true a0_0 a0_1 l0_2 a0_3 l0_4) else ((laws_eqInt64S.f k t924 t911).bind fun t939 => (laws_FnExactNextBlocks.j0 k a1 t911 t924 (!t939) a0_0 a0_1 l0_2 a0_3 l0_4)))) else (some false)))) else (some false)))))) = some r := H
    have A8 := Aside0.mk A80
    clear A80
    replace H := Option.bind_eq_some_iff.mp H
    obtain ⟨t911, A90, H⟩ := H
    replace H : ((laws_toFunc.f k a0_0 a0_1 l0_2 a0_3 l0_4).bind fun bt914 => ((impl_NextBlocks.f bt914.1 bt914.2.1 bt914.2.2.1 bt914.2.2.2.1 bt914.2.2.2.2 a1).bind fun t924 => ((laws_eqInt64S.f k t924 t911).bind fun t927 => (if t927 = true then ((laws_toFunc.f k a0_0 a0_1 l0_2 a0_3 l0_4).bind fun bt928 => ((laws_eqFunc.f k bt914.1 bt914.2.1 bt914.2.2.1 bt914.2.2.2.1 bt914.2.2.2.2 bt928.1 bt928.2.1 bt928.2.2.1 bt928.2.2.2.1 bt928.2.2.2.2).bind fun t937 => (if t937 = true then ((laws_markFunc.f bt914.1 bt914.2.1 bt914.2.2.1 bt914.2.2.2.1 bt914.2.2.2.2 1).bind fun t938 => (if t938 < 0 then (laws_FnExactNextBlocks.j0 k a1 t911 t924 true a0_0 a0_1 l0_2 a0_3 l0_4) else ((laws_eqInt64S.f k t924 t911).bind fun t939 => (laws_FnExactNextBlocks.j0 k a1 t911 t924 (!t939) a0_0 a0_1 l0_2 a0_3 l0_4)))) else (some false)))) else (some false))))) = some r := H
    have A9 := Aside0.mk A90
    clear A90
    replace H := Option.bind_eq_some_iff.mp H
    obtain ⟨⟨t914, t915, t916, t919, t920⟩, A100, H⟩ := H
    replace H : ((impl_NextBlocks.f t914 t915 t916 t919 t920 a1).bind fun t924 => ((laws_eqInt64S.f k t924 t911).bind fun t927 => (if t927 = true then ((laws_toFunc.f k a0_0 a0_1 l0_2 a0_3 l0_4).bind fun bt928 => ((laws_eqFunc.f k t914 t915 t916 t919 t920 bt928.1 bt928.2.1 bt928.2.2.1 bt928.2.2.2.1 bt928.2.2.2.2).bind fun t937 => (if t937 = true then ((laws_markFunc.f t914 t915 t916 t919 t920 1).bind fun t938 => (if t938 < 0 then (laws_FnExactNextBlocks.j0 k a1 t911 t924 true a0_0 a0_1 l0_2 a0_3 l0_4) else ((laws_eqInt64S.f k t924 t911).bind fun t939 => (laws_FnExactNextBlocks.j0 k a1 t911 t924 (!t939) a0_0 a0_1 l0_2 a0_3 l0_4)))) else (some false)))) else (some false)))) = some r := H
    have A10 := Aside0.mk A100
    clear A100
    replace H := Option.bind_eq_some_iff.mp H
    obtain ⟨t924, A110, H⟩ := H
    replace H : ((laws_eqInt64S.f k t924 t911).bind fun t927 => (if t927 = true then ((laws_toFunc.f k a0_0 a0_1 l0_2 a0_3 l0_4).bind fun bt928 => ((laws_eqFunc.f k t914 t915 t916 t919 t920 bt928.1 bt928.2.1 bt928.2.2.1 bt928.2.2.2.1 bt928.2.2.2.2).bind fun t937 => (if t937 = true then ((laws_markFunc.f t914 t915 t916 t919 t920 1).bind fun t938 => (if t938 < 0 then (laws_FnExactNextBlocks.j0 k a1 t911 t924 true a0_0 a0_1 l0_2 a0_3 l0_4) else ((laws_eqInt64S.f k t924 t911).bind fun t939 => (laws_FnExactNextBlocks.j0 k a1 t911 t924 (!t939) a0_0 a0_1 l0_2 a0_3 l0_4)))) else (some false)))) else (some false))) = some r := H
    have A11 := Aside0.mk A110
    clear A110
    replace H := Option.bind_eq_some_iff.mp H
    obtain ⟨t927, A120, H⟩ := H
    replace H : (if t927 = true then ((laws_toFunc.f k a0_0 a0_1 l0_2 a0_3 l0_4).bind fun bt928 => ((laws_eqFunc.f k t914 t915 t916 t919 t920 bt928.1 bt928.2.1 bt928.2.2.1 bt928.2.2.2.1 bt928.2.2.2.2).bind fun t937 => (if t937 = true then ((laws_markFunc.f t914 t915 t916 t919 t920 1).bind fun t938 => (if t938 < 0 then (laws_FnExactNextBlocks.j0 k a1 t911 t924 true a0_0 a0_1 l0_2 a0_3 l0_4) else ((laws_eqInt64S.f k t924 t911).bind fun t939 => (laws_FnExactNextBlocks.j0 k a1 t911 t924 (!t939) a0_0 a0_1 l0_2 a0_3 l0_4)))) else (some false)))) else (some false)) = some r := H
    have A12 := Aside0.mk A120
    clear A120
    by_cases c13 : t927 = true
    · subst c13
      have H1 : ((laws_toFunc.f k a0_0 a0_1 l0_2 a0_3 l0_4).bind fun bt928 => ((laws_eqFunc.f k t914 t915 t916 t919 t920 bt928.1 bt928.2.1 bt928.2.2.1 bt928.2.2.2.1 bt928.2.2.2.2).bind fun t937 => (if t937 = true then ((laws_markFunc.f t914 t915 t916 t919 t920 1).bind fun t938 => (if t938 < 0 then (laws_FnExactNextBlocks.j0 k a1 t911 t924 true a0_0 a0_1 l0_2 a0_3 l0_4) else ((laws_eqInt64S.f k t924 t911).bind fun t939 => (laws_FnExactNextBlocks.j0 k a1 t911 t924 (!t939) a0_0 a0_1 l0_2 a0_3 l0_4)))) else (some false)))) = some r := by rw [if_pos rfl] at H; exact H
      clear H
      have H := H1
      clear H1
      replace H := Option.bind_eq_some_iff.mp H
      obtain ⟨⟨t928, t929, t930, t933, t934⟩, A140, H⟩ := H
      replace H : ((laws_eqFunc.f k t914 t915 t916 t919 t920 t928 t929 t930 t933 t934).bind fun t937 => (if t937 = true then ((laws_markFunc.f t914 t915 t916 t919 t920 1).bind fun t938 => (if t938 < 0 then (laws_FnExactNextBlocks.j0 k a1 t911 t924 true a0_0 a0_1 l0_2 a0_3 l0_4) else ((laws_eqInt64S.f k t924 t911).bind fun t939 => (laws_FnExactNextBlocks.j0 k a1 t911 t924 (!t939) a0_0 a0_1 l0_2 a0_3 l0_4)))) else (some false))) = some r := H
      have A14 := Aside0.mk A140
      clear A140
      replace H := Option.bind_eq_some_iff.mp H
      obtain ⟨t937, A150, H⟩ := H
      replace H : (if t937 = true then ((laws_markFunc.f t914 t915 t916 t919 t920 1).bind fun t938 => (if t938 < 0 then (laws_FnExactNextBlocks.j0 k a1 t911 t924 true a0_0 a0_1 l0_2 a0_3 l0_4) else ((laws_eqInt64S.f k t924 t911).bind fun t939 => (laws_FnExactNextBlocks.j0 k a1 t911 t924 (!t939) a0_0 a0_1 l0_2 a0_3 l0_4)))) else (some false)) = some r := H
      have A15 := Aside0.mk A150
      clear A150
      by_cases c16 : t937 = true
      · subst c16
        have H1 : ((laws_markFunc.f t914 t915 t916 t919 t920 1).bind fun t938 => (if t938 < 0 then (laws_FnExactNextBlocks.j0 k a1 t911 t924 true a0_0 a0_1 l0_2 a0_3 l0_4) else ((laws_eqInt64S.f k t924 t911).bind fun t939 => (laws_FnExactNextBlocks.j0 k a1 t911 t924 (!t939) a0_0 a0_1 l0_2 a0_3 l0_4)))) = some r := by rw [if_pos rfl] at H; exact H
        clear H
        have H := H1
        clear H1
        replace H := Option.bind_eq_some_iff.mp H
        obtain ⟨t938, A170, H⟩ := H
        replace H : (if t938 < 0 then (laws_FnExactNextBlocks.j0 k a1 t911 t924 true a0_0 a0_1 l0_2 a0_3 l0_4) else ((laws_eqInt64S.f k t924 t911).bind fun t939 => (laws_FnExactNextBlocks.j0 k a1 t911 t924 (!t939) a0_0 a0_1 l0_2 a0_3 l0_4))) = some r := H
        have A17 := Aside0.mk A170
        clear A170
        have HC18 := Aside0.mk H
        clear H
        go_enter Try.func4, Try.ntmps4
        try go_wp2_with (first | ((with_reducible refine gate_dst (N := 2) rfl ?_); refine box_event ?hg (N := 2) ?hd (cs := #[.string a0_0, .int .i64 a0_1, .slice A0_2 l0_2.length c0_2, .int .i64 a0_3, .slice A0_4 l0_4.length c0_4]) (t := 25) ?hr ?_; (case hd => rfl); (case hg => rfl); (case hr => first | (go_simp; done) | (go_simp; rfl)); intro gb900 hg w19 hbox hb; have n0_ := Aside0.mk (below_step (by repeat (first | (with_reducible first | exact HB.out | apply below_alloc | apply pw_below_drewN | apply below_drew1) | exact HB.out)) hb); have n1_ := Aside0.mk (hbox); have n2_ := Aside0.mk ((by rw [hg]; exact (below_size (by repeat (first | (with_reducible first | exact HB.out | apply below_alloc | apply pw_below_drewN | apply below_drew1) | exact HB.out))) : w.heap.size ≤ gb900)); have n3_ := Aside0.mk ((by rw [hg]; exact (below_size (by repeat (first | (with_reducible first | exact HB.out | apply below_alloc | apply pw_below_drewN | apply below_drew1) | exact HB.out))) : w.heap.size ≤ gb900)); clear HB; have HB := n0_; have BK900 := n1_; have GW900 := n2_; have GE900 := n3_; clear n0_ n1_ n2_ n3_; clear hb hbox hg; have hcz20_0 : w19.cell? ⟨gb900, 0, none⟩ = some (.string a0_0) := (blk_cell BK900.out 0).trans rfl; have hcz20_1 : w19.cell? ⟨gb900, 1, none⟩ = some (.int .i64 a0_1) := (blk_cell BK900.out 1).trans rfl; have hcz20_2 : w19.cell? ⟨gb900, 2, none⟩ = some (.slice A0_2 l0_2.length c0_2) := (blk_cell BK900.out 2).trans rfl; have hcz20_3 : w19.cell? ⟨gb900, 3, none⟩ = some (.int .i64 a0_3) := (blk_cell BK900.out 3).trans rfl; have hcz20_4 : w19.cell? ⟨gb900, 4, none⟩ = some (.slice A0_4 l0_4.length c0_4) := (blk_cell BK900.out 4).trans rfl; have hfz20_0 := blk_frozen BK900.out 0; have hfz20_1 := blk_frozen BK900.out 1; have hfz20_2 := blk_frozen BK900.out 2; have hfz20_3 := blk_frozen BK900.out 3; have hfz20_4 := blk_frozen BK900.out 4) | ((with_reducible refine gate_callee (f := 12) rfl ?_); refine goesL_ (some 15) rfl rfl Try.func12 (by kernel_rfl) rfl #[.agg #[.string a0_0, .int .i64 a0_1, .slice A0_2 l0_2.length c0_2, .int .i64 a0_3, .slice A0_4 l0_4.length c0_4], .int .i64 1048576] rfl (by (try simp only [List.map_toArray, List.map_cons, List.map_nil]); first | done | rfl | (simp only [List.length_drop, List.length_take]; rfl)) ?_; (with_reducible refine (laws_szFunc.calls k a0_0 a0_1 _ _ l0_2 a0_3 _ _ l0_4 1048576 t901 _ ?side1 ?side2 ?side3 ?side4 A3.out).mono ?_); (case side1 => repeat (first | exact (Kd.C_below HR0_2.out HB.out) | (with_reducible refine Kd.C_alloc ?_ _) | (with_reducible refine Kd.C_drewN ?_ _) | (with_reducible refine Kd.C_drew ?_))); (case side2 => exact HC0_2.out); (case side3 => repeat (first | exact (Kd.C_below HR0_4.out HB.out) | (with_reducible refine Kd.C_alloc ?_ _) | (with_reducible refine Kd.C_drewN ?_ _) | (with_reducible refine Kd.C_drew ?_))); (case side4 => exact HC0_4.out); rintro e w21 ⟨rfl, hb⟩; refine ⟨_, rfl, ?_⟩; have n0_ := Aside0.mk (blk_below (g := gb900) (o := .cells #[.string a0_0, .int .i64 a0_1, .slice A0_2 l0_2.length c0_2, .int .i64 a0_3, .slice A0_4 l0_4.length c0_4] 25 (0, 0)) (by (with_reducible repeat (first | refine blk_drewN ?_ _ | refine blk_drew ?_ | refine blk_alloc ?_ _)); exact BK900.out) hb); have n1_ := Aside0.mk (below_step (by repeat (first | (with_reducible first | exact HB.out | apply below_alloc | apply pw_below_drewN | apply below_drew1 | refine below_set ?_ GE900.out) | exact HB.out)) hb); clear BK900; clear HB; have BK900 := n0_; have HB := n1_; clear n0_ n1_; (try clear hb); (try clear hb2); (try clear hk); (try clear hi); have hcz22_0 : w21.cell? ⟨gb900, 0, none⟩ = some (.string a0_0) := (blk_cell BK900.out 0).trans rfl; have hcz22_1 : w21.cell? ⟨gb900, 1, none⟩ = some (.int .i64 a0_1) := (blk_cell BK900.out 1).trans rfl; have hcz22_2 : w21.cell? ⟨gb900, 2, none⟩ = some (.slice A0_2 l0_2.length c0_2) := (blk_cell BK900.out 2).trans rfl; have hcz22_3 : w21.cell? ⟨gb900, 3, none⟩ = some (.int .i64 a0_3) := (blk_cell BK900.out 3).trans rfl; have hcz22_4 : w21.cell? ⟨gb900, 4, none⟩ = some (.slice A0_4 l0_4.length c0_4) := (blk_cell BK900.out 4).trans rfl; have hfz22_0 := blk_frozen BK900.out 0; have hfz22_1 := blk_frozen BK900.out 1; have hfz22_2 := blk_frozen BK900.out 2; have hfz22_3 := blk_frozen BK900.out 3; have hfz22_4 := blk_frozen BK900.out 4) | ((with_reducible refine gate_callee (f := 14) rfl ?_); refine goesL_ (some 19) rfl rfl Try.func14 (by kernel_rfl) rfl #[.agg #[.string a0_0, .int .i64 a0_1, .slice A0_2 l0_2.length c0_2, .int .i64 a0_3, .slice A0_4 l0_4.length c0_4]] rfl (by (try simp only [List.map_toArray, List.map_cons, List.map_nil]); first | done | rfl | (simp only [List.length_drop, List.length_take]; rfl)) ?_; (with_reducible refine (laws_toFunc.calls k a0_0 a0_1 _ _ l0_2 a0_3 _ _ l0_4 t902 t903 t904 t907 t908 _ ?side1 ?side2 ?side3 ?side4 A8.out).mono ?_); (case side1 => repeat (first | exact (Kd.C_below HR0_2.out HB.out) | (with_reducible refine Kd.C_alloc ?_ _) | (with_reducible refine Kd.C_drewN ?_ _) | (with_reducible refine Kd.C_drew ?_))); (case side2 => exact HC0_2.out); (case side3 => repeat (first | exact (Kd.C_below HR0_4.out HB.out) | (with_reducible refine Kd.C_alloc ?_ _) | (with_reducible refine Kd.C_drewN ?_ _) | (with_reducible refine Kd.C_drew ?_))); (case side4 => exact HC0_4.out); rintro e w23 ⟨v905, v909, rfl, ho0, ho1, hb⟩; refine ⟨_, rfl, ?_⟩; have n0_ := Aside0.mk (Kd.R_lower ho0 (below_size (by repeat (first | (with_reducible first | exact HB.out | apply below_alloc | apply pw_below_drewN | apply below_drew1 | refine below_set ?_ GE900.out) | exact HB.out)))); have n1_ := Aside0.mk (Kd.R_lower ho1 (below_size (by repeat (first | (with_reducible first | exact HB.out | apply below_alloc | apply pw_below_drewN | apply below_drew1 | refine below_set ?_ GE900.out) | exact HB.out)))); have n2_ := Aside0.mk (blk_below (g := gb900) (o := .cells #[.string a0_0, .int .i64 a0_1, .slice A0_2 l0_2.length c0_2, .int .i64 a0_3, .slice A0_4 l0_4.length c0_4] 25 (0, 0)) (by (with_reducible repeat (first | refine blk_drewN ?_ _ | refine blk_drew ?_ | refine blk_alloc ?_ _)); exact BK900.out) hb); have n3_ := Aside0.mk (below_step (by repeat (first | (with_reducible first | exact HB.out | apply below_alloc | apply pw_below_drewN | apply below_drew1 | refine below_set ?_ GE900.out) | exact HB.out)) hb); clear BK900; clear HB; have HO906 := n0_; have HO910 := n1_; have BK900 := n2_; have HB := n3_; clear n0_ n1_ n2_ n3_; (try clear hb); (try clear hb2); (try clear hk); (try clear hi); (try clear ho0); (try clear ho1); obtain ⟨Ao24, co24, eo24⟩ := Kd.R_slice HO906.out; subst eo24; obtain ⟨Ao25, co25, eo25⟩ := Kd.R_slice HO910.out; subst eo25) | ((with_reducible refine gate_callee (f := 17) rfl ?_); refine goesL_ (some 21) rfl rfl Try.func17 (by kernel_rfl) rfl #[.agg #[.string t902, .int .i64 t903, .slice Ao24 t904.length co24, .int .i64 t907, .slice Ao25 t908.length co25], .int .i64 a1] rfl (by (try simp only [List.map_toArray, List.map_cons, List.map_nil]); first | done | rfl | (simp only [List.length_drop, List.length_take]; rfl)) ?_; (with_reducible refine (spec_NextBlocks.calls k t902 t903 _ _ t904 t907 _ _ t908 a1 t911 _ ?side1 ?side2 ?side3 ?side4 A9.out).mono ?_); (case side1 => repeat (first | exact (Kd.R_reads' HO906.out).2.2 | (with_reducible refine Kd.C_alloc ?_ _) | (with_reducible refine Kd.C_drewN ?_ _) | (with_reducible refine Kd.C_drew ?_))); (case side2 => exact (Kd.R_reads' HO906.out).2.1); (case side3 => repeat (first | exact (Kd.R_reads' HO910.out).2.2 | (with_reducible refine Kd.C_alloc ?_ _) | (with_reducible refine Kd.C_drewN ?_ _) | (with_reducible refine Kd.C_drew ?_))); (case side4 => exact (Kd.R_reads' HO910.out).2.1); rintro e w26 ⟨v912, rfl, ho0, hb⟩; refine ⟨_, rfl, ?_⟩; have n0_ := Aside0.mk (Kd.R_elder' (by (with_reducible repeat (first | apply Kd.R_alloc | apply Kd.R_drewN | apply Kd.R_drew)); exact HO906.out) (Kd.R_base ho0) hb); have n1_ := Aside0.mk (Kd.R_elder' (by (with_reducible repeat (first | apply Kd.R_alloc | apply Kd.R_drewN | apply Kd.R_drew)); exact HO910.out) (Kd.R_base ho0) hb); have n2_ := Aside0.mk (Kd.R_lower (Kd.R_new' ho0 (Kd.R_lt (by (with_reducible repeat (first | apply Kd.R_alloc | apply Kd.R_drewN | apply Kd.R_drew)); exact HO906.out))) (below_size (by repeat (first | (with_reducible first | exact HB.out | apply below_alloc | apply pw_below_drewN | apply below_drew1 | refine below_set ?_ GE900.out) | exact HB.out)))); have n3_ := Aside0.mk (blk_below (g := gb900) (o := .cells #[.string a0_0, .int .i64 a0_1, .slice A0_2 l0_2.length c0_2, .int .i64 a0_3, .slice A0_4 l0_4.length c0_4] 25 (0, 0)) (by (with_reducible repeat (first | refine blk_drewN ?_ _ | refine blk_drew ?_ | refine blk_alloc ?_ _)); exact BK900.out) hb); have n4_ := Aside0.mk (below_step (by repeat (first | (with_reducible first | exact HB.out | apply below_alloc | apply pw_below_drewN | apply below_drew1 | refine below_set ?_ GE900.out) | exact HB.out)) hb); clear HO906; clear HO910; clear BK900; clear HB; have HO906 := n0_; have HO910 := n1_; have HO913 := n2_; have BK900 := n3_; have HB := n4_; clear n0_ n1_ n2_ n3_ n4_; (try clear hb); (try clear hb2); (try clear hk); (try clear hi); (try clear ho0); have hcz27_0 : w26.cell? ⟨gb900, 0, none⟩ = some (.string a0_0) := (blk_cell BK900.out 0).trans rfl; have hcz27_1 : w26.cell? ⟨gb900, 1, none⟩ = some (.int .i64 a0_1) := (blk_cell BK900.out 1).trans rfl; have hcz27_2 : w26.cell? ⟨gb900, 2, none⟩ = some (.slice A0_2 l0_2.length c0_2) := (blk_cell BK900.out 2).trans rfl; have hcz27_3 : w26.cell? ⟨gb900, 3, none⟩ = some (.int .i64 a0_3) := (blk_cell BK900.out 3).trans rfl; have hcz27_4 : w26.cell? ⟨gb900, 4, none⟩ = some (.slice A0_4 l0_4.length c0_4) := (blk_cell BK900.out 4).trans rfl; have hfz27_0 := blk_frozen BK900.out 0; have hfz27_1 := blk_frozen BK900.out 1; have hfz27_2 := blk_frozen BK900.out 2; have hfz27_3 := blk_frozen BK900.out 3; have hfz27_4 := blk_frozen BK900.out 4) | ((with_reducible refine gate_callee (f := 14) rfl ?_); refine goesL_ (some 23) rfl rfl Try.func14 (by kernel_rfl) rfl #[.agg #[.string a0_0, .int .i64 a0_1, .slice A0_2 l0_2.length c0_2, .int .i64 a0_3, .slice A0_4 l0_4.length c0_4]] rfl (by (try simp only [List.map_toArray, List.map_cons, List.map_nil]); first | done | rfl | (simp only [List.length_drop, List.length_take]; rfl)) ?_; (with_reducible refine (laws_toFunc.calls k a0_0 a0_1 _ _ l0_2 a0_3 _ _ l0_4 t914 t915 t916 t919 t920 _ ?side1 ?side2 ?side3 ?side4 A10.out).mono ?_); (case side1 => repeat (first | exact (Kd.C_below HR0_2.out HB.out) | (with_reducible refine Kd.C_alloc ?_ _) | (with_reducible refine Kd.C_drewN ?_ _) | (with_reducible refine Kd.C_drew ?_))); (case side2 => exact HC0_2.out); (case side3 => repeat (first | exact (Kd.C_below HR0_4.out HB.out) | (with_reducible refine Kd.C_alloc ?_ _) | (with_reducible refine Kd.C_drewN ?_ _) | (with_reducible refine Kd.C_drew ?_))); (case side4 => exact HC0_4.out); rintro e w28 ⟨v917, v921, rfl, ho0, ho1, hb⟩; refine ⟨_, rfl, ?_⟩; have n0_ := Aside0.mk (Kd.R_elder' (by (with_reducible repeat (first | apply Kd.R_alloc | apply Kd.R_drewN | apply Kd.R_drew)); exact HO906.out) (Kd.R_base ho0) hb); have n1_ := Aside0.mk (Kd.R_mono (Kd.R_told (Kd.R_told (Kd.R_old (by (with_reducible repeat (first | apply Kd.R_alloc | apply Kd.R_drewN | apply Kd.R_drew)); exact HO910.out) hb) (Kd.R_base ho0)) (Kd.R_base ho1)) (fun _ h_ => h_.1)); have n2_ := Aside0.mk (Kd.R_elder' (by (with_reducible repeat (first | apply Kd.R_alloc | apply Kd.R_drewN | apply Kd.R_drew)); exact HO913.out) (Kd.R_base ho0) hb); have n3_ := Aside0.mk (Kd.R_lower (Kd.R_new' (Kd.R_new' ho0 (Kd.R_lt (by (with_reducible repeat (first | apply Kd.R_alloc | apply Kd.R_drewN | apply Kd.R_drew)); exact HO906.out))) (Kd.R_lt (by (with_reducible repeat (first | apply Kd.R_alloc | apply Kd.R_drewN | apply Kd.R_drew)); exact HO913.out))) (below_size (by repeat (first | (with_reducible first | exact HB.out | apply below_alloc | apply pw_below_drewN | apply below_drew1 | refine below_set ?_ GE900.out) | exact HB.out)))); have n4_ := Aside0.mk (Kd.R_lower (Kd.R_new' (Kd.R_new' (Kd.R_new' ho1 (Kd.R_lt (by (with_reducible repeat (first | apply Kd.R_alloc | apply Kd.R_drewN | apply Kd.R_drew)); exact HO906.out))) (Kd.R_lt (by (with_reducible repeat (first | apply Kd.R_alloc | apply Kd.R_drewN | apply Kd.R_drew)); exact HO910.out))) (Kd.R_lt (by (with_reducible repeat (first | apply Kd.R_alloc | apply Kd.R_drewN | apply Kd.R_drew)); exact HO913.out))) (below_size (by repeat (first | (with_reducible first | exact HB.out | apply below_alloc | apply pw_below_drewN | apply below_drew1 | refine below_set ?_ GE900.out) | exact HB.out)))); have n5_ := Aside0.mk (blk_below (g := gb900) (o := .cells #[.string a0_0, .int .i64 a0_1, .slice A0_2 l0_2.length c0_2, .int .i64 a0_3, .slice A0_4 l0_4.length c0_4] 25 (0, 0)) (by (with_reducible repeat (first | refine blk_drewN ?_ _ | refine blk_drew ?_ | refine blk_alloc ?_ _)); exact BK900.out) hb); have n6_ := Aside0.mk (below_step (by repeat (first | (with_reducible first | exact HB.out | apply below_alloc | apply pw_below_drewN | apply below_drew1 | refine below_set ?_ GE900.out) | exact HB.out)) hb); clear HO906; clear HO910; clear HO913; clear BK900; clear HB; have HO906 := n0_; have HO910 := n1_; have HO913 := n2_; have HO918 := n3_; have HO922 := n4_; have BK900 := n5_; have HB := n6_; clear n0_ n1_ n2_ n3_ n4_ n5_ n6_; (try clear hb); (try clear hb2); (try clear hk); (try clear hi); (try clear ho0); (try clear ho1)) | ((with_reducible refine gate_dst (N := 7) rfl ?_); refine box_event ?hg (N := 7) ?hd (cs := #[.string (⟨#[]⟩ : ByteArray), .int .i64 0, .slice none 0 0, .int .i64 0, .slice none 0 0]) (t := 30) ?hr ?_; (case hd => rfl); (case hg => rfl); (case hr => first | (go_simp; done) | (go_simp; rfl)); intro gb923 hg w29 hbox hb; have n0_ := Aside0.mk (Kd.R_below (by (with_reducible repeat (first | apply Kd.R_alloc | apply Kd.R_drewN | apply Kd.R_drew)); exact HO906.out) hb); have n1_ := Aside0.mk (Kd.R_below (by (with_reducible repeat (first | apply Kd.R_alloc | apply Kd.R_drewN | apply Kd.R_drew)); exact HO910.out) hb); have n2_ := Aside0.mk (Kd.R_below (by (with_reducible repeat (first | apply Kd.R_alloc | apply Kd.R_drewN | apply Kd.R_drew)); exact HO913.out) hb); have n3_ := Aside0.mk (Kd.R_below (by (with_reducible repeat (first | apply Kd.R_alloc | apply Kd.R_drewN | apply Kd.R_drew)); exact HO918.out) hb); have n4_ := Aside0.mk (Kd.R_below (by (with_reducible repeat (first | apply Kd.R_alloc | apply Kd.R_drewN | apply Kd.R_drew)); exact HO922.out) hb); have n5_ := Aside0.mk (blk_below (g := gb900) (o := .cells #[.string a0_0, .int .i64 a0_1, .slice A0_2 l0_2.length c0_2, .int .i64 a0_3, .slice A0_4 l0_4.length c0_4] 25 (0, 0)) (by (with_reducible repeat (first | refine blk_drewN ?_ _ | refine blk_drew ?_ | refine blk_alloc ?_ _)); exact BK900.out) hb); have n6_ := Aside0.mk (below_step (by repeat (first | (with_reducible first | exact HB.out | apply below_alloc | apply pw_below_drewN | apply below_drew1 | refine below_set ?_ GE900.out) | exact HB.out)) hb); have n7_ := Aside0.mk (hbox); have n8_ := Aside0.mk ((by rw [hg]; exact (below_size (by repeat (first | (with_reducible first | exact HB.out | apply below_alloc | apply pw_below_drewN | apply below_drew1 | refine below_set ?_ GE900.out) | exact HB.out))) : w.heap.size ≤ gb923)); have n9_ := Aside0.mk ((by rw [hg]; exact (below_size (by repeat (first | (with_reducible first | exact HB.out | apply below_alloc | apply pw_below_drewN | apply below_drew1 | refine below_set ?_ GE900.out) | exact HB.out))) : w.heap.size ≤ gb923)); have n10_ := Aside0.mk ((by rw [hg]; exact Nat.ne_of_lt (blk_lt (g := gb900) (o := .cells #[.string a0_0, .int .i64 a0_1, .slice A0_2 l0_2.length c0_2, .int .i64 a0_3, .slice A0_4 l0_4.length c0_4] 25 (0, 0)) (by (with_reducible repeat (first | refine blk_drewN ?_ _ | refine blk_drew ?_ | refine blk_alloc ?_ _)); exact BK900.out)) : gb900 ≠ gb923)); have n11_ := Aside0.mk ((by rw [hg]; exact Nat.ne_of_gt (blk_lt (g := gb900) (o := .cells #[.string a0_0, .int .i64 a0_1, .slice A0_2 l0_2.length c0_2, .int .i64 a0_3, .slice A0_4 l0_4.length c0_4] 25 (0, 0)) (by (with_reducible repeat (first | refine blk_drewN ?_ _ | refine blk_drew ?_ | refine blk_alloc ?_ _)); exact BK900.out)) : gb923 ≠ gb900)); clear HO906; clear HO910; clear HO913; clear HO918; clear HO922; clear BK900; clear HB; have HO906 := n0_; have HO910 := n1_; have HO913 := n2_; have HO918 := n3_; have HO922 := n4_; have BK900 := n5_; have HB := n6_; have BK923 := n7_; have GW923 := n8_; have GE923 := n9_; have NB900_923 := n10_; have NB923_900 := n11_; clear n0_ n1_ n2_ n3_ n4_ n5_ n6_ n7_ n8_ n9_ n10_ n11_; clear hb hbox hg; have hnb30 := NB923_900.out; have hnc30 := NB900_923.out; have hcz31_0 : w29.cell? ⟨gb923, 0, none⟩ = some (.string (⟨#[]⟩ : ByteArray)) := (blk_cell BK923.out 0).trans rfl; have hcz31_1 : w29.cell? ⟨gb923, 1, none⟩ = some (.int .i64 0) := (blk_cell BK923.out 1).trans rfl; have hcz31_2 : w29.cell? ⟨gb923, 2, none⟩ = some (.slice none 0 0) := (blk_cell BK923.out 2).trans rfl; have hcz31_3 : w29.cell? ⟨gb923, 3, none⟩ = some (.int .i64 0) := (blk_cell BK923.out 3).trans rfl; have hcz31_4 : w29.cell? ⟨gb923, 4, none⟩ = some (.slice none 0 0) := (blk_cell BK923.out 4).trans rfl; have hfz31_0 := blk_frozen BK923.out 0; have hfz31_1 := blk_frozen BK923.out 1; have hfz31_2 := blk_frozen BK923.out 2; have hfz31_3 := blk_frozen BK923.out 3; have hfz31_4 := blk_frozen BK923.out 4; obtain ⟨Ao32, co32, eo32⟩ := Kd.R_slice HO918.out; subst eo32; obtain ⟨Ao33, co33, eo33⟩ := Kd.R_slice HO922.out; subst eo33) | ((with_reducible refine gate_callee (f := 18) rfl ?_); refine goesL_ (some 26) rfl rfl Try.func18 (by kernel_rfl) rfl #[.agg #[.string t914, .int .i64 t915, .slice Ao32 t916.length co32, .int .i64 t919, .slice Ao33 t920.length co33], .int .i64 a1] rfl (by (try simp only [List.map_toArray, List.map_cons, List.map_nil]); first | done | rfl | (simp only [List.length_drop, List.length_take]; rfl)) ?_; (with_reducible refine (impl_NextBlocks.calls t914 t915 _ _ t916 t919 _ _ t920 a1 t924 _ ?side1 ?side2 ?side3 ?side4 A11.out).mono ?_); (case side1 => refine (Kd.R_reads' (e := 2) (base := w.heap.size) (ok := fun k_ => ((True ∧ some k_ ≠ (.slice Ao24 t904.length co24 : Value).ownBlock) ∧ some k_ ≠ (v912 : Value).ownBlock)) (n := t916.length) (c := co32) ?_).2.2; exact (by (with_reducible repeat (first | apply Kd.R_alloc | apply Kd.R_drewN | apply Kd.R_drew)); exact (Kd.R_mono (Kd.R_far (p := ⟨gb923, 4, none⟩) (Kd.R_far (p := ⟨gb923, 3, none⟩) (Kd.R_far (p := ⟨gb923, 2, none⟩) (Kd.R_far (p := ⟨gb923, 1, none⟩) (Kd.R_far (p := ⟨gb923, 0, none⟩) (Kd.R_types HO918.out BK923.out (by decide)) (fun _ hk => hk.2) (.string t914)) (fun _ hk => hk.2) (.int .i64 t915)) (fun _ hk => hk.2) (.slice Ao32 t916.length co32)) (fun _ hk => hk.2) (.int .i64 t919)) (fun _ hk => hk.2) (.slice Ao33 t920.length co33)) (fun _ h_ => h_.1)))); (case side2 => exact (Kd.R_reads' HO918.out).2.1); (case side3 => refine (Kd.R_reads' (e := 62) (base := w.heap.size) (ok := fun k_ => (((some k_ ≠ (.slice Ao32 t916.length co32 : Value).ownBlock ∧ some k_ ≠ (.slice Ao24 t904.length co24 : Value).ownBlock) ∧ some k_ ≠ (.slice Ao25 t908.length co25 : Value).ownBlock) ∧ some k_ ≠ (v912 : Value).ownBlock)) (n := t920.length) (c := co33) ?_).2.2; exact (by (with_reducible repeat (first | apply Kd.R_alloc | apply Kd.R_drewN | apply Kd.R_drew)); exact (Kd.R_mono (Kd.R_far (p := ⟨gb923, 4, none⟩) (Kd.R_far (p := ⟨gb923, 3, none⟩) (Kd.R_far (p := ⟨gb923, 2, none⟩) (Kd.R_far (p := ⟨gb923, 1, none⟩) (Kd.R_far (p := ⟨gb923, 0, none⟩) (Kd.R_types HO922.out BK923.out (by decide)) (fun _ hk => hk.2) (.string t914)) (fun _ hk => hk.2) (.int .i64 t915)) (fun _ hk => hk.2) (.slice Ao32 t916.length co32)) (fun _ hk => hk.2) (.int .i64 t919)) (fun _ hk => hk.2) (.slice Ao33 t920.length co33)) (fun _ h_ => h_.1)))); (case side4 => exact (Kd.R_reads' HO922.out).2.1); rintro e w34 ⟨v925, rfl, ho0, hb⟩; refine ⟨_, rfl, ?_⟩; have n0_ := Aside0.mk (Kd.R_elder' (by (with_reducible repeat (first | apply Kd.R_alloc | apply Kd.R_drewN | apply Kd.R_drew)); exact (Kd.R_mono (Kd.R_far (p := ⟨gb923, 4, none⟩) (Kd.R_far (p := ⟨gb923, 3, none⟩) (Kd.R_far (p := ⟨gb923, 2, none⟩) (Kd.R_far (p := ⟨gb923, 1, none⟩) (Kd.R_far (p := ⟨gb923, 0, none⟩) (Kd.R_types HO906.out BK923.out (by decide)) (fun _ hk => hk.2) (.string t914)) (fun _ hk => hk.2) (.int .i64 t915)) (fun _ hk => hk.2) (.slice Ao32 t916.length co32)) (fun _ hk => hk.2) (.int .i64 t919)) (fun _ hk => hk.2) (.slice Ao33 t920.length co33)) (fun _ h_ => h_.1))) (Kd.R_base ho0) hb); have n1_ := Aside0.mk (Kd.R_elder' (by (with_reducible repeat (first | apply Kd.R_alloc | apply Kd.R_drewN | apply Kd.R_drew)); exact (Kd.R_mono (Kd.R_far (p := ⟨gb923, 4, none⟩) (Kd.R_far (p := ⟨gb923, 3, none⟩) (Kd.R_far (p := ⟨gb923, 2, none⟩) (Kd.R_far (p := ⟨gb923, 1, none⟩) (Kd.R_far (p := ⟨gb923, 0, none⟩) (Kd.R_types HO910.out BK923.out (by decide)) (fun _ hk => hk.2) (.string t914)) (fun _ hk => hk.2) (.int .i64 t915)) (fun _ hk => hk.2) (.slice Ao32 t916.length co32)) (fun _ hk => hk.2) (.int .i64 t919)) (fun _ hk => hk.2) (.slice Ao33 t920.length co33)) (fun _ h_ => h_.1))) (Kd.R_base ho0) hb); have n2_ := Aside0.mk (Kd.R_elder' (by (with_reducible repeat (first | apply Kd.R_alloc | apply Kd.R_drewN | apply Kd.R_drew)); exact (Kd.R_mono (Kd.R_far (p := ⟨gb923, 4, none⟩) (Kd.R_far (p := ⟨gb923, 3, none⟩) (Kd.R_far (p := ⟨gb923, 2, none⟩) (Kd.R_far (p := ⟨gb923, 1, none⟩) (Kd.R_far (p := ⟨gb923, 0, none⟩) (Kd.R_types HO913.out BK923.out (by decide)) (fun _ hk => hk.2) (.string t914)) (fun _ hk => hk.2) (.int .i64 t915)) (fun _ hk => hk.2) (.slice Ao32 t916.length co32)) (fun _ hk => hk.2) (.int .i64 t919)) (fun _ hk => hk.2) (.slice Ao33 t920.length co33)) (fun _ h_ => h_.1))) (Kd.R_base ho0) hb); have n3_ := Aside0.mk (Kd.R_elder' (by (with_reducible repeat (first | apply Kd.R_alloc | apply Kd.R_drewN | apply Kd.R_drew)); exact (Kd.R_mono (Kd.R_far (p := ⟨gb923, 4, none⟩) (Kd.R_far (p := ⟨gb923, 3, none⟩) (Kd.R_far (p := ⟨gb923, 2, none⟩) (Kd.R_far (p := ⟨gb923, 1, none⟩) (Kd.R_far (p := ⟨gb923, 0, none⟩) (Kd.R_types HO918.out BK923.out (by decide)) (fun _ hk => hk.2) (.string t914)) (fun _ hk => hk.2) (.int .i64 t915)) (fun _ hk => hk.2) (.slice Ao32 t916.length co32)) (fun _ hk => hk.2) (.int .i64 t919)) (fun _ hk => hk.2) (.slice Ao33 t920.length co33)) (fun _ h_ => h_.1))) (Kd.R_base ho0) hb); have n4_ := Aside0.mk (Kd.R_elder' (by (with_reducible repeat (first | apply Kd.R_alloc | apply Kd.R_drewN | apply Kd.R_drew)); exact (Kd.R_mono (Kd.R_far (p := ⟨gb923, 4, none⟩) (Kd.R_far (p := ⟨gb923, 3, none⟩) (Kd.R_far (p := ⟨gb923, 2, none⟩) (Kd.R_far (p := ⟨gb923, 1, none⟩) (Kd.R_far (p := ⟨gb923, 0, none⟩) (Kd.R_types HO922.out BK923.out (by decide)) (fun _ hk => hk.2) (.string t914)) (fun _ hk => hk.2) (.int .i64 t915)) (fun _ hk => hk.2) (.slice Ao32 t916.length co32)) (fun _ hk => hk.2) (.int .i64 t919)) (fun _ hk => hk.2) (.slice Ao33 t920.length co33)) (fun _ h_ => h_.1))) (Kd.R_base ho0) hb); have n5_ := Aside0.mk (Kd.R_lower (Kd.R_new' (Kd.R_new' (Kd.R_new' ho0 (Kd.R_lt (by (with_reducible repeat (first | apply Kd.R_alloc | apply Kd.R_drewN | apply Kd.R_drew)); exact (Kd.R_mono (Kd.R_far (p := ⟨gb923, 4, none⟩) (Kd.R_far (p := ⟨gb923, 3, none⟩) (Kd.R_far (p := ⟨gb923, 2, none⟩) (Kd.R_far (p := ⟨gb923, 1, none⟩) (Kd.R_far (p := ⟨gb923, 0, none⟩) (Kd.R_types HO906.out BK923.out (by decide)) (fun _ hk => hk.2) (.string t914)) (fun _ hk => hk.2) (.int .i64 t915)) (fun _ hk => hk.2) (.slice Ao32 t916.length co32)) (fun _ hk => hk.2) (.int .i64 t919)) (fun _ hk => hk.2) (.slice Ao33 t920.length co33)) (fun _ h_ => h_.1))))) (Kd.R_lt (by (with_reducible repeat (first | apply Kd.R_alloc | apply Kd.R_drewN | apply Kd.R_drew)); exact (Kd.R_mono (Kd.R_far (p := ⟨gb923, 4, none⟩) (Kd.R_far (p := ⟨gb923, 3, none⟩) (Kd.R_far (p := ⟨gb923, 2, none⟩) (Kd.R_far (p := ⟨gb923, 1, none⟩) (Kd.R_far (p := ⟨gb923, 0, none⟩) (Kd.R_types HO913.out BK923.out (by decide)) (fun _ hk => hk.2) (.string t914)) (fun _ hk => hk.2) (.int .i64 t915)) (fun _ hk => hk.2) (.slice Ao32 t916.length co32)) (fun _ hk => hk.2) (.int .i64 t919)) (fun _ hk => hk.2) (.slice Ao33 t920.length co33)) (fun _ h_ => h_.1))))) (Kd.R_lt (by (with_reducible repeat (first | apply Kd.R_alloc | apply Kd.R_drewN | apply Kd.R_drew)); exact (Kd.R_mono (Kd.R_far (p := ⟨gb923, 4, none⟩) (Kd.R_far (p := ⟨gb923, 3, none⟩) (Kd.R_far (p := ⟨gb923, 2, none⟩) (Kd.R_far (p := ⟨gb923, 1, none⟩) (Kd.R_far (p := ⟨gb923, 0, none⟩) (Kd.R_types HO918.out BK923.out (by decide)) (fun _ hk => hk.2) (.string t914)) (fun _ hk => hk.2) (.int .i64 t915)) (fun _ hk => hk.2) (.slice Ao32 t916.length co32)) (fun _ hk => hk.2) (.int .i64 t919)) (fun _ hk => hk.2) (.slice Ao33 t920.length co33)) (fun _ h_ => h_.1))))) (below_size (by repeat (first | (with_reducible first | exact HB.out | apply below_alloc | apply pw_below_drewN | apply below_drew1 | refine below_set ?_ GE900.out | refine below_set ?_ GE923.out) | exact HB.out)))); have n6_ := Aside0.mk (blk_below (g := gb900) (o := .cells #[.string a0_0, .int .i64 a0_1, .slice A0_2 l0_2.length c0_2, .int .i64 a0_3, .slice A0_4 l0_4.length c0_4] 25 (0, 0)) (by (with_reducible repeat (first | refine blk_drewN ?_ _ | refine blk_drew ?_ | refine blk_alloc ?_ _)); refine blk_far ?_ NB900_923.out _; (with_reducible repeat (first | refine blk_drewN ?_ _ | refine blk_drew ?_ | refine blk_alloc ?_ _)); refine blk_far ?_ NB900_923.out _; (with_reducible repeat (first | refine blk_drewN ?_ _ | refine blk_drew ?_ | refine blk_alloc ?_ _)); refine blk_far ?_ NB900_923.out _; (with_reducible repeat (first | refine blk_drewN ?_ _ | refine blk_drew ?_ | refine blk_alloc ?_ _)); refine blk_far ?_ NB900_923.out _; (with_reducible repeat (first | refine blk_drewN ?_ _ | refine blk_drew ?_ | refine blk_alloc ?_ _)); refine blk_far ?_ NB900_923.out _; (with_reducible repeat (first | refine blk_drewN ?_ _ | refine blk_drew ?_ | refine blk_alloc ?_ _)); exact BK900.out) hb); have n7_ := Aside0.mk (blk_below (g := gb923) (o := .cells #[.string t914, .int .i64 t915, .slice Ao32 t916.length co32, .int .i64 t919, .slice Ao33 t920.length co33] 30 (0, 0)) (by (with_reducible repeat (first | refine blk_drewN ?_ _ | refine blk_drew ?_ | refine blk_alloc ?_ _)); refine blk_put (cs := #[.string t914, .int .i64 t915, .slice Ao32 t916.length co32, .int .i64 t919, .slice none 0 0]) ?_ 4 _ rfl; (with_reducible repeat (first | refine blk_drewN ?_ _ | refine blk_drew ?_ | refine blk_alloc ?_ _)); refine blk_put (cs := #[.string t914, .int .i64 t915, .slice Ao32 t916.length co32, .int .i64 0, .slice none 0 0]) ?_ 3 _ rfl; (with_reducible repeat (first | refine blk_drewN ?_ _ | refine blk_drew ?_ | refine blk_alloc ?_ _)); refine blk_put (cs := #[.string t914, .int .i64 t915, .slice none 0 0, .int .i64 0, .slice none 0 0]) ?_ 2 _ rfl; (with_reducible repeat (first | refine blk_drewN ?_ _ | refine blk_drew ?_ | refine blk_alloc ?_ _)); refine blk_put (cs := #[.string t914, .int .i64 0, .slice none 0 0, .int .i64 0, .slice none 0 0]) ?_ 1 _ rfl; (with_reducible repeat (first | refine blk_drewN ?_ _ | refine blk_drew ?_ | refine blk_alloc ?_ _)); refine blk_put (cs := #[.string (⟨#[]⟩ : ByteArray), .int .i64 0, .slice none 0 0, .int .i64 0, .slice none 0 0]) ?_ 0 _ rfl; (with_reducible repeat (first | refine blk_drewN ?_ _ | refine blk_drew ?_ | refine blk_alloc ?_ _)); exact BK923.out) hb); have n8_ := Aside0.mk (below_step (by repeat (first | (with_reducible first | exact HB.out | apply below_alloc | apply pw_below_drewN | apply below_drew1 | refine below_set ?_ GE900.out | refine below_set ?_ GE923.out) | exact HB.out)) hb); clear HO906; clear HO910; clear HO913; clear HO918; clear HO922; clear BK900; clear BK923; clear HB; have HO906 := n0_; have HO910 := n1_; have HO913 := n2_; have HO918 := n3_; have HO922 := n4_; have HO926 := n5_; have BK900 := n6_; have BK923 := n7_; have HB := n8_; clear n0_ n1_ n2_ n3_ n4_ n5_ n6_ n7_ n8_; (try clear hb); (try clear hb2); (try clear hk); (try clear hi); (try clear ho0); obtain ⟨Ao35, co35, eo35⟩ := Kd.R_slice HO926.out; subst eo35; obtain ⟨Ao36, co36, eo36⟩ := Kd.R_slice HO913.out; subst eo36) | ((with_reducible refine gate_callee (f := 19) rfl ?_); refine goesL_ (some 29) rfl rfl Try.func19 (by kernel_rfl) rfl #[.slice Ao35 t924.length co35, .slice Ao36 t911.length co36] rfl (by (try simp only [List.map_toArray, List.map_cons, List.map_nil]); first | done | rfl | (simp only [List.length_drop, List.length_take]; rfl)) ?_; (with_reducible refine (laws_eqInt64S.calls k _ _ t924 _ _ t911 true _ ?side1 ?side2 ?side3 ?side4 A12.out).mono ?_); (case side1 => repeat (first | exact (Kd.R_reads' HO926.out).2.2 | (with_reducible refine Kd.C_alloc ?_ _) | (with_reducible refine Kd.C_drewN ?_ _) | (with_reducible refine Kd.C_drew ?_))); (case side2 => exact (Kd.R_reads' HO926.out).2.1); (case side3 => repeat (first | exact (Kd.R_reads' HO913.out).2.2 | (with_reducible refine Kd.C_alloc ?_ _) | (with_reducible refine Kd.C_drewN ?_ _) | (with_reducible refine Kd.C_drew ?_))); (case side4 => exact (Kd.R_reads' HO913.out).2.1); rintro e w' ⟨rfl, ⟨nd, rfl⟩⟩; refine ⟨_, rfl, ?_⟩))
        (try (rw [drewN_self w34]; generalize hq_ : World.drewN w34 _ = w34; have n0_ : Aside0 (Kd.R (Kd.int .i64) 2 w34 w.heap.size (fun k_ => (((True ∧ some k_ ≠ (.slice Ao36 t911.length co36 : Value).ownBlock) ∧ some k_ ≠ (.slice Ao32 t916.length co32 : Value).ownBlock) ∧ some k_ ≠ (.slice Ao35 t924.length co35 : Value).ownBlock)) (.slice Ao24 t904.length co24) t904) := ⟨by rw [← hq_]; exact (by (with_reducible repeat (first | apply Kd.R_alloc | apply Kd.R_drewN | apply Kd.R_drew)); exact HO906.out)⟩; have n1_ : Aside0 (Kd.R k62 62 w34 w.heap.size (fun k_ => ((((some k_ ≠ (.slice Ao24 t904.length co24 : Value).ownBlock ∧ some k_ ≠ (.slice Ao36 t911.length co36 : Value).ownBlock) ∧ some k_ ≠ (.slice Ao32 t916.length co32 : Value).ownBlock) ∧ some k_ ≠ (.slice Ao33 t920.length co33 : Value).ownBlock) ∧ some k_ ≠ (.slice Ao35 t924.length co35 : Value).ownBlock)) (.slice Ao25 t908.length co25) t908) := ⟨by rw [← hq_]; exact (by (with_reducible repeat (first | apply Kd.R_alloc | apply Kd.R_drewN | apply Kd.R_drew)); exact HO910.out)⟩; have n2_ : Aside0 (Kd.R (Kd.int .i64) 2 w34 w.heap.size (fun k_ => (((True ∧ some k_ ≠ (.slice Ao24 t904.length co24 : Value).ownBlock) ∧ some k_ ≠ (.slice Ao32 t916.length co32 : Value).ownBlock) ∧ some k_ ≠ (.slice Ao35 t924.length co35 : Value).ownBlock)) (.slice Ao36 t911.length co36) t911) := ⟨by rw [← hq_]; exact (by (with_reducible repeat (first | apply Kd.R_alloc | apply Kd.R_drewN | apply Kd.R_drew)); exact HO913.out)⟩; have n3_ : Aside0 (Kd.R (Kd.int .i64) 2 w34 w.heap.size (fun k_ => (((True ∧ some k_ ≠ (.slice Ao24 t904.length co24 : Value).ownBlock) ∧ some k_ ≠ (.slice Ao36 t911.length co36 : Value).ownBlock) ∧ some k_ ≠ (.slice Ao35 t924.length co35 : Value).ownBlock)) (.slice Ao32 t916.length co32) t916) := ⟨by rw [← hq_]; exact (by (with_reducible repeat (first | apply Kd.R_alloc | apply Kd.R_drewN | apply Kd.R_drew)); exact HO918.out)⟩; have n4_ : Aside0 (Kd.R k62 62 w34 w.heap.size (fun k_ => ((((some k_ ≠ (.slice Ao32 t916.length co32 : Value).ownBlock ∧ some k_ ≠ (.slice Ao24 t904.length co24 : Value).ownBlock) ∧ some k_ ≠ (.slice Ao25 t908.length co25 : Value).ownBlock) ∧ some k_ ≠ (.slice Ao36 t911.length co36 : Value).ownBlock) ∧ some k_ ≠ (.slice Ao35 t924.length co35 : Value).ownBlock)) (.slice Ao33 t920.length co33) t920) := ⟨by rw [← hq_]; exact (by (with_reducible repeat (first | apply Kd.R_alloc | apply Kd.R_drewN | apply Kd.R_drew)); exact HO922.out)⟩; have n5_ : Aside0 (Kd.R (Kd.int .i64) 2 w34 w.heap.size (fun k_ => (((True ∧ some k_ ≠ (.slice Ao24 t904.length co24 : Value).ownBlock) ∧ some k_ ≠ (.slice Ao36 t911.length co36 : Value).ownBlock) ∧ some k_ ≠ (.slice Ao32 t916.length co32 : Value).ownBlock)) (.slice Ao35 t924.length co35) t924) := ⟨by rw [← hq_]; exact (by (with_reducible repeat (first | apply Kd.R_alloc | apply Kd.R_drewN | apply Kd.R_drew)); exact HO926.out)⟩; have n6_ : Aside0 (w34.heap[gb900]? = some (.cells #[.string a0_0, .int .i64 a0_1, .slice A0_2 l0_2.length c0_2, .int .i64 a0_3, .slice A0_4 l0_4.length c0_4] 25 (0, 0))) := ⟨by rw [← hq_]; exact (by (with_reducible repeat (first | refine blk_drewN ?_ _ | refine blk_drew ?_ | refine blk_alloc ?_ _)); exact BK900.out)⟩; have n7_ : Aside0 (w34.heap[gb923]? = some (.cells #[.string t914, .int .i64 t915, .slice Ao32 t916.length co32, .int .i64 t919, .slice Ao33 t920.length co33] 30 (0, 0))) := ⟨by rw [← hq_]; exact (by (with_reducible repeat (first | refine blk_drewN ?_ _ | refine blk_drew ?_ | refine blk_alloc ?_ _)); exact BK923.out)⟩; have n8_ : Aside0 (Below w.heap.size w w34) := ⟨by rw [← hq_]; exact (by repeat (first | (with_reducible first | exact HB.out | apply below_alloc | apply pw_below_drewN | apply below_drew1 | refine below_set ?_ GE900.out | refine below_set ?_ GE923.out) | exact HB.out))⟩; clear HO906 HO910 HO913 HO918 HO922 HO926 BK900 BK923 HB hq_; have HO906 := n0_; have HO910 := n1_; have HO913 := n2_; have HO918 := n3_; have HO922 := n4_; have HO926 := n5_; have BK900 := n6_; have BK923 := n7_; have HB := n8_; clear n0_ n1_ n2_ n3_ n4_ n5_ n6_ n7_ n8_))
        have n0_ := Aside0.mk (Kd.R_drew HO906.out)
        have n1_ := Aside0.mk (Kd.R_drew HO910.out)
        have n2_ := Aside0.mk (Kd.R_drew HO913.out)
        have n3_ := Aside0.mk (Kd.R_drew HO918.out)
        have n4_ := Aside0.mk (Kd.R_drew HO922.out)
        have n5_ := Aside0.mk (Kd.R_drew HO926.out)
        have n6_ := Aside0.mk (blk_drew BK900.out)
        have n7_ := Aside0.mk (blk_drew BK923.out)
        have n8_ := Aside0.mk (below_drew1 HB.out)
        clear HO906
        clear HO910
        clear HO913
        clear HO918
        clear HO922
        clear HO926
        clear BK900
        clear BK923
        clear HB
        have HO906 := n0_
        have HO910 := n1_
        have HO913 := n2_
        have HO918 := n3_
        have HO922 := n4_
        have HO926 := n5_
        have BK900 := n6_
        have BK923 := n7_
        have HB := n8_
        clear n0_ n1_ n2_ n3_ n4_ n5_ n6_ n7_ n8_
        refine start_ (n := 5) (S := fun w' => w'.cell? ⟨gb923, 0, none⟩ = some (.string t914) ∧ w'.cell? ⟨gb923, 1, none⟩ = some (.int .i64 t915) ∧ w'.cell? ⟨gb923, 2, none⟩ = some (.slice Ao32 t916.length co32) ∧ w'.cell? ⟨gb923, 3, none⟩ = some (.int .i64 t919) ∧ w'.cell? ⟨gb923, 4, none⟩ = some (.slice Ao33 t920.length co33) ∧ w'.cell? ⟨gb900, 0, none⟩ = some (.string a0_0) ∧ w'.cell? ⟨gb900, 1, none⟩ = some (.int .i64 a0_1) ∧ w'.cell? ⟨gb900, 2, none⟩ = some (.slice A0_2 l0_2.length c0_2) ∧ w'.cell? ⟨gb900, 3, none⟩ = some (.int .i64 a0_3) ∧ w'.cell? ⟨gb900, 4, none⟩ = some (.slice A0_4 l0_4.length c0_4)) (ds := []) #[false, false, false, false, false] (by kernel_rfl) rfl rfl ⟨(blk_cell BK923.out 0).trans rfl, (blk_cell BK923.out 1).trans rfl, (blk_cell BK923.out 2).trans rfl, (blk_cell BK923.out 3).trans rfl, (blk_cell BK923.out 4).trans rfl, (blk_cell BK900.out 0).trans rfl, (blk_cell BK900.out 1).trans rfl, (blk_cell BK900.out 2).trans rfl, (blk_cell BK900.out 3).trans rfl, (blk_cell BK900.out 4).trans rfl⟩ (fun hHeld => ?_)
        generalize w34.drew = w37 at HO906 HO910 HO913 HO918 HO922 HO926 BK900 BK923 HB hHeld ⊢
        refine take_ (i := 0) (N := some 31) (v := ?_) (a' := ?_) #[true, false, false, false, false] rfl rfl (by kernel_rfl) (fun _ _ _ h => h) (Or.inl ⟨by rfl, ?_⟩) hHeld ?_ ?_
        rotate_left
        · rintro w' ⟨s0, s1, s2, s3, s4, s5, s6, s7, s8, s9⟩
          go_simp
          with_reducible rfl
        rotate_left
        · simp only [Act.put, List.setIfInBounds_toArray, List.set_cons_zero, List.set_cons_succ, i64_w, i32_w]
          rfl
        refine take_ (i := 1) (N := some 32) (v := ?_) (a' := ?_) #[true, true, false, false, false] rfl rfl (by kernel_rfl) (fun _ _ _ h => h) (Or.inl ⟨by rfl, ?_⟩) hHeld ?_ ?_
        rotate_left
        · rintro w' ⟨s0, s1, s2, s3, s4, s5, s6, s7, s8, s9⟩
          go_simp
          with_reducible rfl
        rotate_left
        · simp only [Act.put, List.setIfInBounds_toArray, List.set_cons_zero, List.set_cons_succ, i64_w, i32_w]
          rfl
        refine one_ (i := 2) (N := some 33) #[true, true, true, false, false] rfl rfl (by kernel_rfl) (by decide) (fun K hK => ?_)
        refine goes_ Try.func14 (by kernel_rfl) rfl #[.agg #[.string a0_0, .int .i64 a0_1, .slice A0_2 l0_2.length c0_2, .int .i64 a0_3, .slice A0_4 l0_4.length c0_4]] (by rfl) rfl rfl (by (try simp only [List.map_toArray, List.map_cons, List.map_nil]); first | done | rfl | (simp only [List.length_drop, List.length_take]; rfl)) ?_
        with_reducible refine (laws_toFunc.calls k a0_0 a0_1 _ _ l0_2 a0_3 _ _ l0_4 t928 t929 t930 t933 t934 _ ?side1 ?side2 ?side3 ?side4 A14.out).mono ?_
        (case side1 => repeat (first | exact (Kd.C_below HR0_2.out HB.out) | (with_reducible refine Kd.C_alloc ?_ _) | (with_reducible refine Kd.C_drewN ?_ _) | (with_reducible refine Kd.C_drew ?_)))
        (case side2 => exact HC0_2.out)
        (case side3 => repeat (first | exact (Kd.C_below HR0_4.out HB.out) | (with_reducible refine Kd.C_alloc ?_ _) | (with_reducible refine Kd.C_drewN ?_ _) | (with_reducible refine Kd.C_drew ?_)))
        (case side4 => exact HC0_4.out)
        rintro e w38 ⟨v931, v935, rfl, ho0, ho1, hb⟩
        refine ⟨_, rfl, ?_⟩
        have n0_ := Aside0.mk (Kd.R_elder' (by (with_reducible repeat (first | apply Kd.R_alloc | apply Kd.R_drewN | apply Kd.R_drew)); exact HO906.out) (Kd.R_base ho0) hb)
        have n1_ := Aside0.mk (Kd.R_mono (Kd.R_told (Kd.R_told (Kd.R_old (by (with_reducible repeat (first | apply Kd.R_alloc | apply Kd.R_drewN | apply Kd.R_drew)); exact HO910.out) hb) (Kd.R_base ho0)) (Kd.R_base ho1)) (fun _ h_ => h_.1))
        have n2_ := Aside0.mk (Kd.R_elder' (by (with_reducible repeat (first | apply Kd.R_alloc | apply Kd.R_drewN | apply Kd.R_drew)); exact HO913.out) (Kd.R_base ho0) hb)
        have n3_ := Aside0.mk (Kd.R_elder' (by (with_reducible repeat (first | apply Kd.R_alloc | apply Kd.R_drewN | apply Kd.R_drew)); exact HO918.out) (Kd.R_base ho0) hb)
        have n4_ := Aside0.mk (Kd.R_mono (Kd.R_told (Kd.R_told (Kd.R_old (by (with_reducible repeat (first | apply Kd.R_alloc | apply Kd.R_drewN | apply Kd.R_drew)); exact HO922.out) hb) (Kd.R_base ho0)) (Kd.R_base ho1)) (fun _ h_ => h_.1))
        have n5_ := Aside0.mk (Kd.R_elder' (by (with_reducible repeat (first | apply Kd.R_alloc | apply Kd.R_drewN | apply Kd.R_drew)); exact HO926.out) (Kd.R_base ho0) hb)
        have n6_ := Aside0.mk (Kd.R_lower (Kd.R_new' (Kd.R_new' (Kd.R_new' (Kd.R_new' ho0 (Kd.R_lt (by (with_reducible repeat (first | apply Kd.R_alloc | apply Kd.R_drewN | apply Kd.R_drew)); exact HO906.out))) (Kd.R_lt (by (with_reducible repeat (first | apply Kd.R_alloc | apply Kd.R_drewN | apply Kd.R_drew)); exact HO913.out))) (Kd.R_lt (by (with_reducible repeat (first | apply Kd.R_alloc | apply Kd.R_drewN | apply Kd.R_drew)); exact HO918.out))) (Kd.R_lt (by (with_reducible repeat (first | apply Kd.R_alloc | apply Kd.R_drewN | apply Kd.R_drew)); exact HO926.out))) (below_size (by repeat (first | (with_reducible first | exact HB.out | apply below_alloc | apply pw_below_drewN | apply below_drew1 | refine below_set ?_ GE900.out | refine below_set ?_ GE923.out) | exact HB.out))))
        have n7_ := Aside0.mk (Kd.R_lower (Kd.R_new' (Kd.R_new' (Kd.R_new' (Kd.R_new' (Kd.R_new' (Kd.R_new' ho1 (Kd.R_lt (by (with_reducible repeat (first | apply Kd.R_alloc | apply Kd.R_drewN | apply Kd.R_drew)); exact HO906.out))) (Kd.R_lt (by (with_reducible repeat (first | apply Kd.R_alloc | apply Kd.R_drewN | apply Kd.R_drew)); exact HO910.out))) (Kd.R_lt (by (with_reducible repeat (first | apply Kd.R_alloc | apply Kd.R_drewN | apply Kd.R_drew)); exact HO913.out))) (Kd.R_lt (by (with_reducible repeat (first | apply Kd.R_alloc | apply Kd.R_drewN | apply Kd.R_drew)); exact HO918.out))) (Kd.R_lt (by (with_reducible repeat (first | apply Kd.R_alloc | apply Kd.R_drewN | apply Kd.R_drew)); exact HO922.out))) (Kd.R_lt (by (with_reducible repeat (first | apply Kd.R_alloc | apply Kd.R_drewN | apply Kd.R_drew)); exact HO926.out))) (below_size (by repeat (first | (with_reducible first | exact HB.out | apply below_alloc | apply pw_below_drewN | apply below_drew1 | refine below_set ?_ GE900.out | refine below_set ?_ GE923.out) | exact HB.out))))
        have n8_ := Aside0.mk (blk_below (g := gb900) (o := .cells #[.string a0_0, .int .i64 a0_1, .slice A0_2 l0_2.length c0_2, .int .i64 a0_3, .slice A0_4 l0_4.length c0_4] 25 (0, 0)) (by (with_reducible repeat (first | refine blk_drewN ?_ _ | refine blk_drew ?_ | refine blk_alloc ?_ _)); exact BK900.out) hb)
        have n9_ := Aside0.mk (blk_below (g := gb923) (o := .cells #[.string t914, .int .i64 t915, .slice Ao32 t916.length co32, .int .i64 t919, .slice Ao33 t920.length co33] 30 (0, 0)) (by (with_reducible repeat (first | refine blk_drewN ?_ _ | refine blk_drew ?_ | refine blk_alloc ?_ _)); exact BK923.out) hb)
        have n10_ := Aside0.mk (below_step (by repeat (first | (with_reducible first | exact HB.out | apply below_alloc | apply pw_below_drewN | apply below_drew1 | refine below_set ?_ GE900.out | refine below_set ?_ GE923.out) | exact HB.out)) hb)
        clear HO906
        clear HO910
        clear HO913
        clear HO918
        clear HO922
        clear HO926
        clear BK900
        clear BK923
        clear HB
        have HO906 := n0_
        have HO910 := n1_
        have HO913 := n2_
        have HO918 := n3_
        have HO922 := n4_
        have HO926 := n5_
        have HO932 := n6_
        have HO936 := n7_
        have BK900 := n8_
        have BK923 := n9_
        have HB := n10_
        clear n0_ n1_ n2_ n3_ n4_ n5_ n6_ n7_ n8_ n9_ n10_
        (try clear hb)
        (try clear hb2)
        (try clear hk)
        (try clear hi)
        (try clear ho0)
        (try clear ho1)
        obtain ⟨Ao39, co39, eo39⟩ := Kd.R_slice HO932.out
        (first | subst eo39 | (injection eo39 with f1_ f2_ f3_; have f4_ := f1_.symm; have f5_ := f3_.symm; clear f1_ f2_ f3_; subst f4_; subst f5_))
        obtain ⟨Ao40, co40, eo40⟩ := Kd.R_slice HO936.out
        (first | subst eo40 | (injection eo40 with f1_ f2_ f3_; have f4_ := f1_.symm; have f5_ := f3_.symm; clear f1_ f2_ f3_; subst f4_; subst f5_))
        refine hK.out _ _ ⟨(blk_cell BK923.out 0).trans rfl, (blk_cell BK923.out 1).trans rfl, (blk_cell BK923.out 2).trans rfl, (blk_cell BK923.out 3).trans rfl, (blk_cell BK923.out 4).trans rfl, (blk_cell BK900.out 0).trans rfl, (blk_cell BK900.out 1).trans rfl, (blk_cell BK900.out 2).trans rfl, (blk_cell BK900.out 3).trans rfl, (blk_cell BK900.out 4).trans rfl⟩ (fun hHeld => ?_)
        clear hK K
        refine norm_ (a' := ?_) ?_ ?_
        rotate_left
        · show Act.put _ (some 33) _ = _
          simp only [Act.put, List.setIfInBounds_toArray, List.set_cons_zero, List.set_cons_succ, i64_w, i32_w]
          rfl
        refine one_ (i := 3) (N := some 34) #[true, true, true, true, false] rfl rfl (by kernel_rfl) (by decide) (fun K hK => ?_)
        refine goes_ Try.func16 (by kernel_rfl) rfl #[.agg #[.string t914, .int .i64 t915, .slice Ao32 t916.length co32, .int .i64 t919, .slice Ao33 t920.length co33], .agg #[.string t928, .int .i64 t929, .slice Ao39 t930.length co39, .int .i64 t933, .slice Ao40 t934.length co40]] (by rfl) rfl rfl (by (try simp only [List.map_toArray, List.map_cons, List.map_nil]); first | done | rfl | (simp only [List.length_drop, List.length_take]; rfl)) ?_
        with_reducible refine (laws_eqFunc.calls k t914 t915 _ _ t916 t919 _ _ t920 t928 t929 _ _ t930 t933 _ _ t934 true _ ?side1 ?side2 ?side3 ?side4 ?side5 ?side6 ?side7 ?side8 A15.out).mono ?_
        (case side1 => repeat (first | exact (Kd.R_reads' HO918.out).2.2 | (with_reducible refine Kd.C_alloc ?_ _) | (with_reducible refine Kd.C_drewN ?_ _) | (with_reducible refine Kd.C_drew ?_)))
        (case side2 => exact (Kd.R_reads' HO918.out).2.1)
        (case side3 => repeat (first | exact (Kd.R_reads' HO922.out).2.2 | (with_reducible refine Kd.C_alloc ?_ _) | (with_reducible refine Kd.C_drewN ?_ _) | (with_reducible refine Kd.C_drew ?_)))
        (case side4 => exact (Kd.R_reads' HO922.out).2.1)
        (case side5 => repeat (first | exact (Kd.R_reads' HO932.out).2.2 | (with_reducible refine Kd.C_alloc ?_ _) | (with_reducible refine Kd.C_drewN ?_ _) | (with_reducible refine Kd.C_drew ?_)))
        (case side6 => exact (Kd.R_reads' HO932.out).2.1)
        (case side7 => repeat (first | exact (Kd.R_reads' HO936.out).2.2 | (with_reducible refine Kd.C_alloc ?_ _) | (with_reducible refine Kd.C_drewN ?_ _) | (with_reducible refine Kd.C_drew ?_)))
        (case side8 => exact (Kd.R_reads' HO936.out).2.1)
        rintro e w41 ⟨rfl, hb⟩
        refine ⟨_, rfl, ?_⟩
        have n0_ := Aside0.mk (Kd.R_below (by (with_reducible repeat (first | apply Kd.R_alloc | apply Kd.R_drewN | apply Kd.R_drew)); exact HO906.out) hb)
        have n1_ := Aside0.mk (Kd.R_below (by (with_reducible repeat (first | apply Kd.R_alloc | apply Kd.R_drewN | apply Kd.R_drew)); exact HO910.out) hb)
        have n2_ := Aside0.mk (Kd.R_below (by (with_reducible repeat (first | apply Kd.R_alloc | apply Kd.R_drewN | apply Kd.R_drew)); exact HO913.out) hb)
        have n3_ := Aside0.mk (Kd.R_below (by (with_reducible repeat (first | apply Kd.R_alloc | apply Kd.R_drewN | apply Kd.R_drew)); exact HO918.out) hb)
        have n4_ := Aside0.mk (Kd.R_below (by (with_reducible repeat (first | apply Kd.R_alloc | apply Kd.R_drewN | apply Kd.R_drew)); exact HO922.out) hb)
        have n5_ := Aside0.mk (Kd.R_below (by (with_reducible repeat (first | apply Kd.R_alloc | apply Kd.R_drewN | apply Kd.R_drew)); exact HO926.out) hb)
        have n6_ := Aside0.mk (Kd.R_below (by (with_reducible repeat (first | apply Kd.R_alloc | apply Kd.R_drewN | apply Kd.R_drew)); exact HO932.out) hb)
        have n7_ := Aside0.mk (Kd.R_below (by (with_reducible repeat (first | apply Kd.R_alloc | apply Kd.R_drewN | apply Kd.R_drew)); exact HO936.out) hb)
        have n8_ := Aside0.mk (blk_below (g := gb900) (o := .cells #[.string a0_0, .int .i64 a0_1, .slice A0_2 l0_2.length c0_2, .int .i64 a0_3, .slice A0_4 l0_4.length c0_4] 25 (0, 0)) (by (with_reducible repeat (first | refine blk_drewN ?_ _ | refine blk_drew ?_ | refine blk_alloc ?_ _)); exact BK900.out) hb)
        have n9_ := Aside0.mk (blk_below (g := gb923) (o := .cells #[.string t914, .int .i64 t915, .slice Ao32 t916.length co32, .int .i64 t919, .slice Ao33 t920.length co33] 30 (0, 0)) (by (with_reducible repeat (first | refine blk_drewN ?_ _ | refine blk_drew ?_ | refine blk_alloc ?_ _)); exact BK923.out) hb)
        have n10_ := Aside0.mk (below_step (by repeat (first | (with_reducible first | exact HB.out | apply below_alloc | apply pw_below_drewN | apply below_drew1 | refine below_set ?_ GE900.out | refine below_set ?_ GE923.out) | exact HB.out)) hb)
        clear HO906
        clear HO910
        clear HO913
        clear HO918
        clear HO922
        clear HO926
        clear HO932
        clear HO936
        clear BK900
        clear BK923
        clear HB
        have HO906 := n0_
        have HO910 := n1_
        have HO913 := n2_
        have HO918 := n3_
        have HO922 := n4_
        have HO926 := n5_
        have HO932 := n6_
        have HO936 := n7_
        have BK900 := n8_
        have BK923 := n9_
        have HB := n10_
        clear n0_ n1_ n2_ n3_ n4_ n5_ n6_ n7_ n8_ n9_ n10_
        (try clear hb)
        (try clear hb2)
        (try clear hk)
        (try clear hi)
        refine hK.out _ _ ⟨(blk_cell BK923.out 0).trans rfl, (blk_cell BK923.out 1).trans rfl, (blk_cell BK923.out 2).trans rfl, (blk_cell BK923.out 3).trans rfl, (blk_cell BK923.out 4).trans rfl, (blk_cell BK900.out 0).trans rfl, (blk_cell BK900.out 1).trans rfl, (blk_cell BK900.out 2).trans rfl, (blk_cell BK900.out 3).trans rfl, (blk_cell BK900.out 4).trans rfl⟩ (fun hHeld => ?_)
        clear hK K
        refine norm_ (a' := ?_) ?_ ?_
        rotate_left
        · show Act.put _ (some 34) _ = _
          simp only [Act.put, List.setIfInBounds_toArray, List.set_cons_zero, List.set_cons_succ, i64_w, i32_w]
          rfl
        refine pure_ (i := 4) (N := some 35) (v := ?_) (a' := ?_) #[true, true, true, true, true] rfl rfl (by kernel_rfl) (fun _ _ _ h => h) (Or.inl ⟨by rfl, ?_⟩) ?_ ?_
        rotate_left
        · intro w'
          go_simp
          with_reducible rfl
        rotate_left
        · simp only [Act.put, List.setIfInBounds_toArray, List.set_cons_zero, List.set_cons_succ, i64_w, i32_w]
          rfl
        refine done_ (by kernel_rfl) ?_
        have hcz42_0 : w41.cell? ⟨gb923, 0, none⟩ = some (.string t914) := (blk_cell BK923.out 0).trans rfl
        have hcz42_1 : w41.cell? ⟨gb923, 1, none⟩ = some (.int .i64 t915) := (blk_cell BK923.out 1).trans rfl
        have hcz42_2 : w41.cell? ⟨gb923, 2, none⟩ = some (.slice Ao32 t916.length co32) := (blk_cell BK923.out 2).trans rfl
        have hcz42_3 : w41.cell? ⟨gb923, 3, none⟩ = some (.int .i64 t919) := (blk_cell BK923.out 3).trans rfl
        have hcz42_4 : w41.cell? ⟨gb923, 4, none⟩ = some (.slice Ao33 t920.length co33) := (blk_cell BK923.out 4).trans rfl
        have hfz42_0 := blk_frozen BK923.out 0
        have hfz42_1 := blk_frozen BK923.out 1
        have hfz42_2 := blk_frozen BK923.out 2
        have hfz42_3 := blk_frozen BK923.out 3
        have hfz42_4 := blk_frozen BK923.out 4
        go_upto_region 14 with (first | ((with_reducible refine gate_callee (f := 20) rfl ?_); refine goesL_ (some 38) rfl rfl Try.func20 (by kernel_rfl) rfl #[.agg #[.string t914, .int .i64 t915, .slice Ao32 t916.length co32, .int .i64 t919, .slice Ao33 t920.length co33], .int .i64 1] rfl (by (try simp only [List.map_toArray, List.map_cons, List.map_nil]); first | done | rfl | (simp only [List.length_drop, List.length_take]; rfl)) ?_; (with_reducible refine (laws_markFunc.calls t914 t915 (fun k_ => some k_ = (.slice Ao32 t916.length co32 : Value).ownBlock) (.slice Ao32 t916.length co32) t916 t919 (fun k_ => ((((((((some k_ ≠ (.slice Ao32 t916.length co32 : Value).ownBlock ∧ some k_ ≠ (.slice Ao24 t904.length co24 : Value).ownBlock) ∧ some k_ ≠ (.slice Ao25 t908.length co25 : Value).ownBlock) ∧ some k_ ≠ (.slice Ao36 t911.length co36 : Value).ownBlock) ∧ some k_ ≠ (.slice Ao35 t924.length co35 : Value).ownBlock) ∧ some k_ ≠ (.slice Ao39 t930.length co39 : Value).ownBlock) ∧ some k_ ≠ (.slice Ao40 t934.length co40 : Value).ownBlock) ∧ k_ ≠ gb900) ∧ k_ ≠ gb923) ∧ w.heap.size ≤ k_) (.slice Ao33 t920.length co33) t920 1 t938 w _ ?side1 ?side2 ?side3 A17.out).mono ?_); (case side1 => repeat (first | (with_reducible first | exact HB.out | apply below_alloc | apply pw_below_drewN | apply below_drew1 | refine below_set ?_ GE900.out | refine below_set ?_ GE923.out) | exact HB.out)); (case side2 => exact Kd.R_tight rfl HO918.out); (case side3 => exact Kd.R_mono (Kd.R_bound (Kd.R_types (Kd.R_types (HO922.out) BK900.out (by decide)) BK923.out (by decide))) (fun _ h_ => ⟨h_.1, h_.2.1⟩)); rintro e w43 ⟨rfl, hb, hkp⟩; refine ⟨_, rfl, ?_⟩; have n0_ := Aside0.mk (blk_kept (by (with_reducible repeat (first | refine blk_drewN ?_ _ | refine blk_drew ?_ | refine blk_alloc ?_ _)); exact BK900.out) hkp (fun hs_ => Or.elim hs_ (fun e_ => (fun e_ => (Kd.R_ne HO918.out BK900.out (by decide)) e_) e_) (fun e_ => (fun p_ => (p_.1.1.2) rfl) e_))); have n1_ := Aside0.mk (Kd.R_mono (ok' := fun k_ => some k_ ≠ (.slice Ao36 t911.length co36 : Value).ownBlock ∧ some k_ ≠ (.slice Ao35 t924.length co35 : Value).ownBlock ∧ some k_ ≠ (.slice Ao39 t930.length co39 : Value).ownBlock) (Kd.R_keptB ((Kd.R_mono (Kd.R_tight2 rfl HO906.out) (fun k_ hk => (⟨hk.2, fun p_ => (p_.1.1.1.1.1.1.1.1.2) hk.1⟩ : _ ∧ ¬ ((fun k_ => ((((((((some k_ ≠ (.slice Ao32 t916.length co32 : Value).ownBlock ∧ some k_ ≠ (.slice Ao24 t904.length co24 : Value).ownBlock) ∧ some k_ ≠ (.slice Ao25 t908.length co25 : Value).ownBlock) ∧ some k_ ≠ (.slice Ao36 t911.length co36 : Value).ownBlock) ∧ some k_ ≠ (.slice Ao35 t924.length co35 : Value).ownBlock) ∧ some k_ ≠ (.slice Ao39 t930.length co39 : Value).ownBlock) ∧ some k_ ≠ (.slice Ao40 t934.length co40 : Value).ownBlock) ∧ k_ ≠ gb900) ∧ k_ ≠ gb923) ∧ w.heap.size ≤ k_)) k_)))) hkp (fun k_ hk_ hs_ => Or.elim hs_ (fun e_ => (hk_.1.1.1.2) e_) (fun e_ => (hk_.2) e_))) (fun k_ hk_ => ⟨hk_.1.1.1.1.1.2, hk_.1.1.1.2, hk_.1.1.2⟩)); have n2_ := Aside0.mk (Kd.R_mono (ok' := fun k_ => some k_ ≠ (.slice Ao24 t904.length co24 : Value).ownBlock ∧ some k_ ≠ (.slice Ao35 t924.length co35 : Value).ownBlock ∧ some k_ ≠ (.slice Ao39 t930.length co39 : Value).ownBlock) (Kd.R_keptB ((Kd.R_mono (Kd.R_tight2 rfl HO913.out) (fun k_ hk => (⟨hk.2, fun p_ => (p_.1.1.1.1.1.1.2) hk.1⟩ : _ ∧ ¬ ((fun k_ => ((((((((some k_ ≠ (.slice Ao32 t916.length co32 : Value).ownBlock ∧ some k_ ≠ (.slice Ao24 t904.length co24 : Value).ownBlock) ∧ some k_ ≠ (.slice Ao25 t908.length co25 : Value).ownBlock) ∧ some k_ ≠ (.slice Ao36 t911.length co36 : Value).ownBlock) ∧ some k_ ≠ (.slice Ao35 t924.length co35 : Value).ownBlock) ∧ some k_ ≠ (.slice Ao39 t930.length co39 : Value).ownBlock) ∧ some k_ ≠ (.slice Ao40 t934.length co40 : Value).ownBlock) ∧ k_ ≠ gb900) ∧ k_ ≠ gb923) ∧ w.heap.size ≤ k_)) k_)))) hkp (fun k_ hk_ hs_ => Or.elim hs_ (fun e_ => (hk_.1.1.1.2) e_) (fun e_ => (hk_.2) e_))) (fun k_ hk_ => ⟨hk_.1.1.1.1.1.2, hk_.1.1.1.2, hk_.1.1.2⟩)); have n3_ := Aside0.mk (blk_kept (by (with_reducible repeat (first | refine blk_drewN ?_ _ | refine blk_drew ?_ | refine blk_alloc ?_ _)); exact BK923.out) hkp (fun hs_ => Or.elim hs_ (fun e_ => (fun e_ => (Kd.R_ne HO918.out BK923.out (by decide)) e_) e_) (fun e_ => (fun p_ => (p_.1.2) rfl) e_))); have n4_ := Aside0.mk (Kd.R_mono (ok' := fun k_ => some k_ ≠ (.slice Ao24 t904.length co24 : Value).ownBlock ∧ some k_ ≠ (.slice Ao36 t911.length co36 : Value).ownBlock ∧ some k_ ≠ (.slice Ao39 t930.length co39 : Value).ownBlock) (Kd.R_keptB ((Kd.R_mono (Kd.R_tight2 rfl HO926.out) (fun k_ hk => (⟨hk.2, fun p_ => (p_.1.1.1.1.1.2) hk.1⟩ : _ ∧ ¬ ((fun k_ => ((((((((some k_ ≠ (.slice Ao32 t916.length co32 : Value).ownBlock ∧ some k_ ≠ (.slice Ao24 t904.length co24 : Value).ownBlock) ∧ some k_ ≠ (.slice Ao25 t908.length co25 : Value).ownBlock) ∧ some k_ ≠ (.slice Ao36 t911.length co36 : Value).ownBlock) ∧ some k_ ≠ (.slice Ao35 t924.length co35 : Value).ownBlock) ∧ some k_ ≠ (.slice Ao39 t930.length co39 : Value).ownBlock) ∧ some k_ ≠ (.slice Ao40 t934.length co40 : Value).ownBlock) ∧ k_ ≠ gb900) ∧ k_ ≠ gb923) ∧ w.heap.size ≤ k_)) k_)))) hkp (fun k_ hk_ hs_ => Or.elim hs_ (fun e_ => (hk_.1.1.2) e_) (fun e_ => (hk_.2) e_))) (fun k_ hk_ => ⟨hk_.1.1.1.1.1.2, hk_.1.1.1.1.2, hk_.1.1.2⟩)); have n5_ := Aside0.mk (Kd.R_mono (ok' := fun k_ => some k_ ≠ (.slice Ao24 t904.length co24 : Value).ownBlock ∧ some k_ ≠ (.slice Ao36 t911.length co36 : Value).ownBlock ∧ some k_ ≠ (.slice Ao35 t924.length co35 : Value).ownBlock) (Kd.R_keptB ((Kd.R_mono (Kd.R_tight2 rfl HO932.out) (fun k_ hk => (⟨hk.2, fun p_ => (p_.1.1.1.1.2) hk.1⟩ : _ ∧ ¬ ((fun k_ => ((((((((some k_ ≠ (.slice Ao32 t916.length co32 : Value).ownBlock ∧ some k_ ≠ (.slice Ao24 t904.length co24 : Value).ownBlock) ∧ some k_ ≠ (.slice Ao25 t908.length co25 : Value).ownBlock) ∧ some k_ ≠ (.slice Ao36 t911.length co36 : Value).ownBlock) ∧ some k_ ≠ (.slice Ao35 t924.length co35 : Value).ownBlock) ∧ some k_ ≠ (.slice Ao39 t930.length co39 : Value).ownBlock) ∧ some k_ ≠ (.slice Ao40 t934.length co40 : Value).ownBlock) ∧ k_ ≠ gb900) ∧ k_ ≠ gb923) ∧ w.heap.size ≤ k_)) k_)))) hkp (fun k_ hk_ hs_ => Or.elim hs_ (fun e_ => (hk_.1.1.2) e_) (fun e_ => (hk_.2) e_))) (fun k_ hk_ => ⟨hk_.1.1.1.1.1.2, hk_.1.1.1.1.2, hk_.1.1.2⟩)); have n6_ := Aside0.mk (hb); clear BK900; clear HO906; clear HO913; clear BK923; clear HO926; clear HO932; clear HB; clear HO918; clear HO922; clear HO910; clear HO936; have BK900 := n0_; have HO906 := n1_; have HO913 := n2_; have BK923 := n3_; have HO926 := n4_; have HO932 := n5_; have HB := n6_; clear n0_ n1_ n2_ n3_ n4_ n5_ n6_; (try clear hb); (try clear hkp)))
        (try simp only [Act.put, List.setIfInBounds_toArray, List.set_cons_zero, List.set_cons_succ])
        go_cut [46] (fun v46 wc => ∃ (kq : Nat) (x46_17 : Bool), v46 = .bool x46_17 ∧ Aside0 (laws_FnExactNextBlocks.j0 kq a1 t911 t924 x46_17 a0_0 a0_1 l0_2 a0_3 l0_4 = some r) ∧ Aside0 (kq ≤ k) ∧ Aside0 (Kd.R (Kd.int .i64) 2 wc w.heap.size (fun k_ => some k_ ≠ ((.slice Ao35 t924.length co35) : Value).ownBlock) (.slice Ao36 t911.length co36) t911) ∧ Aside0 (Kd.R (Kd.int .i64) 2 wc w.heap.size (fun k_ => some k_ ≠ ((.slice Ao36 t911.length co36) : Value).ownBlock) (.slice Ao35 t924.length co35) t924) ∧ Aside0 (wc.heap[gb900]? = some (.cells #[.string a0_0, .int .i64 a0_1, (.slice A0_2 l0_2.length c0_2), .int .i64 a0_3, (.slice A0_4 l0_4.length c0_4)] 25 (0, 0))) ∧ Aside0 (Below w.heap.size w wc))
        case first =>
          have H := HC18.out
          clear HC18
          by_cases c44 : t938 < 0
          · rw [if_pos c44] at H
            have c44b0 : decide (t938 < 0) = true := decide_eq_true c44
            clear c44
            (first | rw [c44b0] | (simp only [i64_w, i32_w]; rw [c44b0]) | skip)
            have H' := Aside0.mk H
            clear H
            go_wp2
            go_meet
            case rel => exact ⟨_, (true), (by first | rfl | (simp; done) | (simp [*]; done)), H', ⟨by first | omega | exact Nat.le_refl _⟩, ⟨by (with_reducible repeat (first | apply Kd.R_alloc | apply Kd.R_drewN | apply Kd.R_drew)); exact Kd.R_mono HO913.out (fun _ hk => hk.2.1)⟩, ⟨by (with_reducible repeat (first | apply Kd.R_alloc | apply Kd.R_drewN | apply Kd.R_drew)); exact Kd.R_mono HO926.out (fun _ hk => hk.2.1)⟩, ⟨by (with_reducible repeat (first | refine blk_drewN ?_ _ | refine blk_drew ?_ | refine blk_alloc ?_ _)); exact BK900.out⟩, ⟨by repeat (first | (with_reducible first | exact HB.out | apply below_alloc | apply pw_below_drewN | apply below_drew1 | refine below_set ?_ GE900.out | refine below_set ?_ GE923.out) | exact HB.out)⟩⟩
          · rw [if_neg c44] at H
            have c44b0 : decide (t938 < 0) = false := decide_eq_false c44
            clear c44
            (first | rw [c44b0] | (simp only [i64_w, i32_w]; rw [c44b0]) | skip)
            replace H := Option.bind_eq_some_iff.mp H
            obtain ⟨t939, A450, H⟩ := H
            replace H : (laws_FnExactNextBlocks.j0 k a1 t911 t924 (!t939) a0_0 a0_1 l0_2 a0_3 l0_4) = some r := H
            have A45 := Aside0.mk A450
            clear A450
            have H' := Aside0.mk H
            clear H
            go_wp2_with (first | (go_at_call 19; (with_reducible refine (laws_eqInt64S.calls k _ _ t924 _ _ t911 t939 _ ?side1 ?side2 ?side3 ?side4 A45.out).mono ?_); (case side1 => repeat (first | exact (Kd.R_reads' HO926.out).2.2 | (with_reducible refine Kd.C_alloc ?_ _) | (with_reducible refine Kd.C_drewN ?_ _) | (with_reducible refine Kd.C_drew ?_))); (case side2 => exact (Kd.R_reads' HO926.out).2.1); (case side3 => repeat (first | exact (Kd.R_reads' HO913.out).2.2 | (with_reducible refine Kd.C_alloc ?_ _) | (with_reducible refine Kd.C_drewN ?_ _) | (with_reducible refine Kd.C_drew ?_))); (case side4 => exact (Kd.R_reads' HO913.out).2.1); rintro e w' ⟨rfl, ⟨nd, rfl⟩⟩))
            go_meet
            case rel => exact ⟨_, (!t939), (by first | rfl | (simp; done) | (simp [*]; done)), H', ⟨by first | omega | exact Nat.le_refl _⟩, ⟨by (with_reducible repeat (first | apply Kd.R_alloc | apply Kd.R_drewN | apply Kd.R_drew)); exact Kd.R_mono HO913.out (fun _ hk => hk.2.1)⟩, ⟨by (with_reducible repeat (first | apply Kd.R_alloc | apply Kd.R_drewN | apply Kd.R_drew)); exact Kd.R_mono HO926.out (fun _ hk => hk.2.1)⟩, ⟨by (with_reducible repeat (first | refine blk_drewN ?_ _ | refine blk_drew ?_ | refine blk_alloc ?_ _)); exact BK900.out⟩, ⟨by repeat (first | (with_reducible first | exact HB.out | apply below_alloc | apply pw_below_drewN | apply below_drew1 | refine below_set ?_ GE900.out | refine below_set ?_ GE923.out) | exact HB.out)⟩⟩
        case rest =>
          clear HC18
          try clear c1
          try clear c2
          try clear p2
          try clear c3
          try clear c4
          try clear c4b0
          try clear c12
          try clear c13
          try clear c14
          try clear c16
          try clear c17
          try clear c18
          try clear c19
          try clear c20
          try clear c30
          try clear c44
          try clear c44b0
          try clear hcz20_0
          try clear hcz20_1
          try clear hcz20_2
          try clear hcz20_3
          try clear hcz20_4
          try clear hcz22_0
          try clear hcz22_1
          try clear hcz22_2
          try clear hcz22_3
          try clear hcz22_4
          try clear hcz27_0
          try clear hcz27_1
          try clear hcz27_2
          try clear hcz27_3
          try clear hcz27_4
          try clear hcz31_0
          try clear hcz31_1
          try clear hcz31_2
          try clear hcz31_3
          try clear hcz31_4
          try clear hcz42_0
          try clear hcz42_1
          try clear hcz42_2
          try clear hcz42_3
          try clear hcz42_4
          try clear hcz6_0
          try clear hcz6_1
          try clear hcz6_2
          try clear hcz6_3
          try clear hcz6_4
          try clear hfz20_0
          try clear hfz20_1
          try clear hfz20_2
          try clear hfz20_3
          try clear hfz20_4
          try clear hfz22_0
          try clear hfz22_1
          try clear hfz22_2
          try clear hfz22_3
          try clear hfz22_4
          try clear hfz27_0
          try clear hfz27_1
          try clear hfz27_2
          try clear hfz27_3
          try clear hfz27_4
          try clear hfz31_0
          try clear hfz31_1
          try clear hfz31_2
          try clear hfz31_3
          try clear hfz31_4
          try clear hfz42_0
          try clear hfz42_1
          try clear hfz42_2
          try clear hfz42_3
          try clear hfz42_4
          try clear hfz6_0
          try clear hfz6_1
          try clear hfz6_2
          try clear hfz6_3
          try clear hfz6_4
          obtain ⟨kq, x46_17, rfl, HA, HJ17, HO_6, HO_8, BK900, HB⟩ := hcut
          cases kq with
          | zero => exact absurd HA.out (by simp [laws_FnExactNextBlocks.j0])
          | succ kj17 =>
            have H := HA.out
            clear HA
            simp only [laws_FnExactNextBlocks.j0] at H
            by_cases c46 : x46_17 = true
            · subst c46
              have H1 : (some false) = some r := by rw [if_pos rfl] at H; exact H
              clear H
              have H := H1
              clear H1
              obtain rfl := Option.some.inj H
              go_wp2
              go_ret
              exact ⟨by first | rfl | (simp [errW_none, errW_some] <;> rfl) | (simp [*, errW_none, errW_some] <;> rfl), by repeat (first | (with_reducible first | exact HB.out | apply below_alloc | apply pw_below_drewN | apply below_drew1 | refine below_set ?_ GE900.out) | exact HB.out)⟩
            · replace c46 := Bool.eq_false_iff.mpr c46
              subst c46
              have H1 : ((laws_markInt64S.f kj17 t924 1).bind fun bt940 => ((laws_heldInt64S.f kj17 bt940.2 1).bind fun t942 => (if t942 < 0 then (some false) else (if t942 = bt940.1 then ((laws_toFunc.f kj17 a0_0 a0_1 l0_2 a0_3 l0_4).bind fun bt943 => ((impl_NextBlocks.f bt943.1 bt943.2.1 bt943.2.2.1 bt943.2.2.2.1 bt943.2.2.2.2 a1).bind fun t952 => ((laws_eqInt64S.f kj17 t952 t911).bind fun t955 => (if t955 = true then ((laws_heldInt64S.f kj17 bt940.2 1).bind fun t956 => (if t956 < 0 then (some false) else (if t956 = bt940.1 then (some true) else (some false)))) else (some false))))) else (some false))))) = some r := by rw [if_neg (show ¬ (false = true) by decide)] at H; exact H
              clear H
              have H := H1
              clear H1
              replace H := Option.bind_eq_some_iff.mp H
              obtain ⟨⟨t940, t941⟩, A470, H⟩ := H
              replace H : ((laws_heldInt64S.f kj17 t941 1).bind fun t942 => (if t942 < 0 then (some false) else (if t942 = t940 then ((laws_toFunc.f kj17 a0_0 a0_1 l0_2 a0_3 l0_4).bind fun bt943 => ((impl_NextBlocks.f bt943.1 bt943.2.1 bt943.2.2.1 bt943.2.2.2.1 bt943.2.2.2.2 a1).bind fun t952 => ((laws_eqInt64S.f kj17 t952 t911).bind fun t955 => (if t955 = true then ((laws_heldInt64S.f kj17 t941 1).bind fun t956 => (if t956 < 0 then (some false) else (if t956 = t940 then (some true) else (some false)))) else (some false))))) else (some false)))) = some r := H
              have A47 := Aside0.mk A470
              clear A470
              replace H := Option.bind_eq_some_iff.mp H
              obtain ⟨t942, A480, H⟩ := H
              replace H : (if t942 < 0 then (some false) else (if t942 = t940 then ((laws_toFunc.f kj17 a0_0 a0_1 l0_2 a0_3 l0_4).bind fun bt943 => ((impl_NextBlocks.f bt943.1 bt943.2.1 bt943.2.2.1 bt943.2.2.2.1 bt943.2.2.2.2 a1).bind fun t952 => ((laws_eqInt64S.f kj17 t952 t911).bind fun t955 => (if t955 = true then ((laws_heldInt64S.f kj17 t941 1).bind fun t956 => (if t956 < 0 then (some false) else (if t956 = t940 then (some true) else (some false)))) else (some false))))) else (some false))) = some r := H
              have A48 := Aside0.mk A480
              clear A480
              by_cases c49 : t942 < 0
              · rw [if_pos c49] at H
                have c49b0 : decide (t942 < 0) = true := decide_eq_true c49
                clear c49
                obtain rfl := Option.some.inj H
                go_wp2_with (first | ((with_reducible refine gate_callee (f := 21) rfl ?_); refine goesL_ (some 49) rfl rfl Try.func21 (by kernel_rfl) rfl #[.slice Ao35 t924.length co35, .int .i64 1] rfl (by (try simp only [List.map_toArray, List.map_cons, List.map_nil]); first | done | rfl | (simp only [List.length_drop, List.length_take]; rfl)) ?_; (with_reducible refine (laws_markInt64S.calls kj17 (fun k_ => some k_ = (.slice Ao35 t924.length co35 : Value).ownBlock) (.slice Ao35 t924.length co35) t924 1 t940 t941 w _ ?side1 ?side2 A47.out).mono ?_); (case side1 => repeat (first | (with_reducible first | exact HB.out | apply below_alloc | apply pw_below_drewN | apply below_drew1 | refine below_set ?_ GE900.out) | exact HB.out)); (case side2 => exact Kd.R_tight rfl HO_8.out); rintro e w50 ⟨rfl, hy0, hb, hkp⟩; refine ⟨_, rfl, ?_⟩; have n0_ := Aside0.mk (Kd.R_mono (ok' := fun k_ => some k_ ≠ (.slice Ao35 t924.length co35 : Value).ownBlock) (Kd.R_keptB (HO_6.out) hkp (fun k_ hk_ hs_ => (hk_) hs_)) (fun k_ hk_ => hk_.1)); have n1_ := Aside0.mk (Kd.R_reok rfl hy0 (fun k_ e_ => HO_8.out.1 k_ e_)); have n2_ := Aside0.mk (blk_kept (by (with_reducible repeat (first | refine blk_drewN ?_ _ | refine blk_drew ?_ | refine blk_alloc ?_ _)); exact BK900.out) hkp (fun hs_ => (fun e_ => (Kd.R_ne HO_8.out BK900.out (by decide)) e_) hs_)); have n3_ := Aside0.mk (hb); clear HO_6; clear HO_8; clear BK900; clear HB; have HO_6 := n0_; have HO_8 := n1_; have BK900 := n2_; have HB := n3_; clear n0_ n1_ n2_ n3_; (try clear hb); (try clear hkp); (try clear hy0)) | ((with_reducible refine gate_callee (f := 22) rfl ?_); refine goesL_ (some 52) rfl rfl Try.func22 (by kernel_rfl) rfl #[.slice Ao35 t941.length co35, .int .i64 1] rfl (by (try simp only [List.map_toArray, List.map_cons, List.map_nil]); first | done | (rw [show t941.length = t924.length from (Kd.R_reads' HO_8.out).1.symm] <;> rfl) | rfl | (simp only [List.length_drop, List.length_take]; rfl)) ?_; (with_reducible refine (laws_heldInt64S.calls kj17 _ _ t941 1 t942 _ ?side1 ?side2 A48.out).mono ?_); (case side1 => repeat (first | exact (Kd.R_reads' HO_8.out).2.2 | (with_reducible refine Kd.C_alloc ?_ _) | (with_reducible refine Kd.C_drewN ?_ _) | (with_reducible refine Kd.C_drew ?_))); (case side2 => rw [show t941.length = t924.length from (Kd.R_reads' HO_8.out).1.symm]; exact (Kd.R_reads' HO_8.out).2.1); rintro e w' ⟨rfl, ⟨nd, rfl⟩⟩; refine ⟨_, rfl, ?_⟩))
                go_ret
                exact ⟨by first | rfl | (simp [errW_none, errW_some] <;> rfl) | (simp [*, errW_none, errW_some] <;> rfl), by repeat (first | (with_reducible first | exact HB.out | apply below_alloc | apply pw_below_drewN | apply below_drew1 | refine below_set ?_ GE900.out) | exact HB.out)⟩
              · rw [if_neg c49] at H
                have c49b0 : decide (t942 < 0) = false := decide_eq_false c49
                clear c49
                by_cases c51 : t942 = t940
                · rw [if_pos c51] at H
                  have c51b0 : (t942 == t940) = true := beq_iff_eq.mpr c51
                  have c51b1 : (t942 != t940) = false := bne_eq_false_iff_eq.mpr c51
                  clear c51
                  replace H := Option.bind_eq_some_iff.mp H
                  obtain ⟨⟨t943, t944, t945, t948, t949⟩, A520, H⟩ := H
                  replace H : ((impl_NextBlocks.f t943 t944 t945 t948 t949 a1).bind fun t952 => ((laws_eqInt64S.f kj17 t952 t911).bind fun t955 => (if t955 = true then ((laws_heldInt64S.f kj17 t941 1).bind fun t956 => (if t956 < 0 then (some false) else (if t956 = t940 then (some true) else (some false)))) else (some false)))) = some r := H
                  have A52 := Aside0.mk A520
                  clear A520
                  replace H := Option.bind_eq_some_iff.mp H
                  obtain ⟨t952, A530, H⟩ := H
                  replace H : ((laws_eqInt64S.f kj17 t952 t911).bind fun t955 => (if t955 = true then ((laws_heldInt64S.f kj17 t941 1).bind fun t956 => (if t956 < 0 then (some false) else (if t956 = t940 then (some true) else (some false)))) else (some false))) = some r := H
                  have A53 := Aside0.mk A530
                  clear A530
                  replace H := Option.bind_eq_some_iff.mp H
                  obtain ⟨t955, A540, H⟩ := H
                  replace H : (if t955 = true then ((laws_heldInt64S.f kj17 t941 1).bind fun t956 => (if t956 < 0 then (some false) else (if t956 = t940 then (some true) else (some false)))) else (some false)) = some r := H
                  have A54 := Aside0.mk A540
                  clear A540
                  by_cases c55 : t955 = true
                  · subst c55
                    have H1 : ((laws_heldInt64S.f kj17 t941 1).bind fun t956 => (if t956 < 0 then (some false) else (if t956 = t940 then (some true) else (some false)))) = some r := by rw [if_pos rfl] at H; exact H
                    clear H
                    have H := H1
                    clear H1
                    replace H := Option.bind_eq_some_iff.mp H
                    obtain ⟨t956, A560, H⟩ := H
                    replace H : (if t956 < 0 then (some false) else (if t956 = t940 then (some true) else (some false))) = some r := H
                    have A56 := Aside0.mk A560
                    clear A560
                    by_cases c57 : t956 < 0
                    · rw [if_pos c57] at H
                      have c57b0 : decide (t956 < 0) = true := decide_eq_true c57
                      clear c57
                      obtain rfl := Option.some.inj H
                      go_wp2_with (first | ((with_reducible refine gate_callee (f := 21) rfl ?_); refine goesL_ (some 49) rfl rfl Try.func21 (by kernel_rfl) rfl #[.slice Ao35 t924.length co35, .int .i64 1] rfl (by (try simp only [List.map_toArray, List.map_cons, List.map_nil]); first | done | rfl | (simp only [List.length_drop, List.length_take]; rfl)) ?_; (with_reducible refine (laws_markInt64S.calls kj17 (fun k_ => some k_ = (.slice Ao35 t924.length co35 : Value).ownBlock) (.slice Ao35 t924.length co35) t924 1 t940 t941 w _ ?side1 ?side2 A47.out).mono ?_); (case side1 => repeat (first | (with_reducible first | exact HB.out | apply below_alloc | apply pw_below_drewN | apply below_drew1 | refine below_set ?_ GE900.out) | exact HB.out)); (case side2 => exact Kd.R_tight rfl HO_8.out); rintro e w58 ⟨rfl, hy0, hb, hkp⟩; refine ⟨_, rfl, ?_⟩; have n0_ := Aside0.mk (Kd.R_mono (ok' := fun k_ => some k_ ≠ (.slice Ao35 t924.length co35 : Value).ownBlock) (Kd.R_keptB (HO_6.out) hkp (fun k_ hk_ hs_ => (hk_) hs_)) (fun k_ hk_ => hk_.1)); have n1_ := Aside0.mk (Kd.R_reok rfl hy0 (fun k_ e_ => HO_8.out.1 k_ e_)); have n2_ := Aside0.mk (blk_kept (by (with_reducible repeat (first | refine blk_drewN ?_ _ | refine blk_drew ?_ | refine blk_alloc ?_ _)); exact BK900.out) hkp (fun hs_ => (fun e_ => (Kd.R_ne HO_8.out BK900.out (by decide)) e_) hs_)); have n3_ := Aside0.mk (hb); clear HO_6; clear HO_8; clear BK900; clear HB; have HO_6 := n0_; have HO_8 := n1_; have BK900 := n2_; have HB := n3_; clear n0_ n1_ n2_ n3_; (try clear hb); (try clear hkp); (try clear hy0)) | ((with_reducible refine gate_callee (f := 22) rfl ?_); refine goesL_ (some 52) rfl rfl Try.func22 (by kernel_rfl) rfl #[.slice Ao35 t941.length co35, .int .i64 1] rfl (by (try simp only [List.map_toArray, List.map_cons, List.map_nil]); first | done | (rw [show t941.length = t924.length from (Kd.R_reads' HO_8.out).1.symm] <;> rfl) | rfl | (simp only [List.length_drop, List.length_take]; rfl)) ?_; (with_reducible refine (laws_heldInt64S.calls kj17 _ _ t941 1 t942 _ ?side1 ?side2 A48.out).mono ?_); (case side1 => repeat (first | exact (Kd.R_reads' HO_8.out).2.2 | (with_reducible refine Kd.C_alloc ?_ _) | (with_reducible refine Kd.C_drewN ?_ _) | (with_reducible refine Kd.C_drew ?_))); (case side2 => rw [show t941.length = t924.length from (Kd.R_reads' HO_8.out).1.symm]; exact (Kd.R_reads' HO_8.out).2.1); rintro e w' ⟨rfl, ⟨nd, rfl⟩⟩; refine ⟨_, rfl, ?_⟩; have hcz59_0 : w58.cell? ⟨gb900, 0, none⟩ = some (.string a0_0) := (blk_cell BK900.out 0).trans rfl; have hcz59_1 : w58.cell? ⟨gb900, 1, none⟩ = some (.int .i64 a0_1) := (blk_cell BK900.out 1).trans rfl; have hcz59_2 : w58.cell? ⟨gb900, 2, none⟩ = some (.slice A0_2 l0_2.length c0_2) := (blk_cell BK900.out 2).trans rfl; have hcz59_3 : w58.cell? ⟨gb900, 3, none⟩ = some (.int .i64 a0_3) := (blk_cell BK900.out 3).trans rfl; have hcz59_4 : w58.cell? ⟨gb900, 4, none⟩ = some (.slice A0_4 l0_4.length c0_4) := (blk_cell BK900.out 4).trans rfl; have hfz59_0 := blk_frozen BK900.out 0; have hfz59_1 := blk_frozen BK900.out 1; have hfz59_2 := blk_frozen BK900.out 2; have hfz59_3 := blk_frozen BK900.out 3; have hfz59_4 := blk_frozen BK900.out 4) | ((with_reducible refine gate_callee (f := 14) rfl ?_); refine goesL_ (some 59) rfl rfl Try.func14 (by kernel_rfl) rfl #[.agg #[.string a0_0, .int .i64 a0_1, .slice A0_2 l0_2.length c0_2, .int .i64 a0_3, .slice A0_4 l0_4.length c0_4]] rfl (by (try simp only [List.map_toArray, List.map_cons, List.map_nil]); first | done | rfl | (simp only [List.length_drop, List.length_take]; rfl)) ?_; (with_reducible refine (laws_toFunc.calls kj17 a0_0 a0_1 _ _ l0_2 a0_3 _ _ l0_4 t943 t944 t945 t948 t949 _ ?side1 ?side2 ?side3 ?side4 A52.out).mono ?_); (case side1 => repeat (first | exact (Kd.C_below HR0_2.out (by repeat (first | (with_reducible first | exact HB.out | apply below_alloc | apply pw_below_drewN | apply below_drew1 | refine below_set ?_ GE900.out) | exact HB.out))) | (with_reducible refine Kd.C_alloc ?_ _) | (with_reducible refine Kd.C_drewN ?_ _) | (with_reducible refine Kd.C_drew ?_))); (case side2 => exact HC0_2.out); (case side3 => repeat (first | exact (Kd.C_below HR0_4.out (by repeat (first | (with_reducible first | exact HB.out | apply below_alloc | apply pw_below_drewN | apply below_drew1 | refine below_set ?_ GE900.out) | exact HB.out))) | (with_reducible refine Kd.C_alloc ?_ _) | (with_reducible refine Kd.C_drewN ?_ _) | (with_reducible refine Kd.C_drew ?_))); (case side4 => exact HC0_4.out); rintro e w60 ⟨v946, v950, rfl, ho0, ho1, hb⟩; refine ⟨_, rfl, ?_⟩; have n0_ := Aside0.mk (Kd.R_elder' (by (with_reducible repeat (first | apply Kd.R_alloc | apply Kd.R_drewN | apply Kd.R_drew)); exact HO_6.out) (Kd.R_base ho0) hb); have n1_ := Aside0.mk (Kd.R_elder' (by (with_reducible repeat (first | apply Kd.R_alloc | apply Kd.R_drewN | apply Kd.R_drew)); exact HO_8.out) (Kd.R_base ho0) hb); have n2_ := Aside0.mk (Kd.R_lower (Kd.R_new' (Kd.R_new' ho0 (Kd.R_lt (by (with_reducible repeat (first | apply Kd.R_alloc | apply Kd.R_drewN | apply Kd.R_drew)); exact HO_6.out))) (Kd.R_lt (by (with_reducible repeat (first | apply Kd.R_alloc | apply Kd.R_drewN | apply Kd.R_drew)); exact HO_8.out))) (below_size (by repeat (first | (with_reducible first | exact HB.out | apply below_alloc | apply pw_below_drewN | apply below_drew1 | refine below_set ?_ GE900.out) | exact HB.out)))); have n3_ := Aside0.mk (Kd.R_lower (Kd.R_new' (Kd.R_new' ho1 (Kd.R_lt (by (with_reducible repeat (first | apply Kd.R_alloc | apply Kd.R_drewN | apply Kd.R_drew)); exact HO_6.out))) (Kd.R_lt (by (with_reducible repeat (first | apply Kd.R_alloc | apply Kd.R_drewN | apply Kd.R_drew)); exact HO_8.out))) (below_size (by repeat (first | (with_reducible first | exact HB.out | apply below_alloc | apply pw_below_drewN | apply below_drew1 | refine below_set ?_ GE900.out) | exact HB.out)))); have n4_ := Aside0.mk (blk_below (g := gb900) (o := .cells #[.string a0_0, .int .i64 a0_1, .slice A0_2 l0_2.length c0_2, .int .i64 a0_3, .slice A0_4 l0_4.length c0_4] 25 (0, 0)) (by (with_reducible repeat (first | refine blk_drewN ?_ _ | refine blk_drew ?_ | refine blk_alloc ?_ _)); exact BK900.out) hb); have n5_ := Aside0.mk (below_step (by repeat (first | (with_reducible first | exact HB.out | apply below_alloc | apply pw_below_drewN | apply below_drew1 | refine below_set ?_ GE900.out) | exact HB.out)) hb); clear HO_6; clear HO_8; clear BK900; clear HB; have HO_6 := n0_; have HO_8 := n1_; have HO947 := n2_; have HO951 := n3_; have BK900 := n4_; have HB := n5_; clear n0_ n1_ n2_ n3_ n4_ n5_; (try clear hb); (try clear hb2); (try clear hk); (try clear hi); (try clear ho0); (try clear ho1); obtain ⟨Ao61, co61, eo61⟩ := Kd.R_slice HO947.out; subst eo61; obtain ⟨Ao62, co62, eo62⟩ := Kd.R_slice HO951.out; subst eo62) | ((with_reducible refine gate_callee (f := 18) rfl ?_); refine goesL_ (some 61) rfl rfl Try.func18 (by kernel_rfl) rfl #[.agg #[.string t943, .int .i64 t944, .slice Ao61 t945.length co61, .int .i64 t948, .slice Ao62 t949.length co62], .int .i64 a1] rfl (by (try simp only [List.map_toArray, List.map_cons, List.map_nil]); first | done | rfl | (simp only [List.length_drop, List.length_take]; rfl)) ?_; (with_reducible refine (impl_NextBlocks.calls t943 t944 _ _ t945 t948 _ _ t949 a1 t952 _ ?side1 ?side2 ?side3 ?side4 A53.out).mono ?_); (case side1 => repeat (first | exact (Kd.R_reads' HO947.out).2.2 | (with_reducible refine Kd.C_alloc ?_ _) | (with_reducible refine Kd.C_drewN ?_ _) | (with_reducible refine Kd.C_drew ?_))); (case side2 => exact (Kd.R_reads' HO947.out).2.1); (case side3 => repeat (first | exact (Kd.R_reads' HO951.out).2.2 | (with_reducible refine Kd.C_alloc ?_ _) | (with_reducible refine Kd.C_drewN ?_ _) | (with_reducible refine Kd.C_drew ?_))); (case side4 => exact (Kd.R_reads' HO951.out).2.1); rintro e w63 ⟨v953, rfl, ho0, hb⟩; refine ⟨_, rfl, ?_⟩; have n0_ := Aside0.mk (Kd.R_elder' (by (with_reducible repeat (first | apply Kd.R_alloc | apply Kd.R_drewN | apply Kd.R_drew)); exact HO_6.out) (Kd.R_base ho0) hb); have n1_ := Aside0.mk (Kd.R_elder' (by (with_reducible repeat (first | apply Kd.R_alloc | apply Kd.R_drewN | apply Kd.R_drew)); exact HO_8.out) (Kd.R_base ho0) hb); have n2_ := Aside0.mk (Kd.R_elder' (by (with_reducible repeat (first | apply Kd.R_alloc | apply Kd.R_drewN | apply Kd.R_drew)); exact HO947.out) (Kd.R_base ho0) hb); have n3_ := Aside0.mk (Kd.R_elder' (by (with_reducible repeat (first | apply Kd.R_alloc | apply Kd.R_drewN | apply Kd.R_drew)); exact HO951.out) (Kd.R_base ho0) hb); have n4_ := Aside0.mk (Kd.R_lower (Kd.R_new' (Kd.R_new' (Kd.R_new' ho0 (Kd.R_lt (by (with_reducible repeat (first | apply Kd.R_alloc | apply Kd.R_drewN | apply Kd.R_drew)); exact HO_6.out))) (Kd.R_lt (by (with_reducible repeat (first | apply Kd.R_alloc | apply Kd.R_drewN | apply Kd.R_drew)); exact HO_8.out))) (Kd.R_lt (by (with_reducible repeat (first | apply Kd.R_alloc | apply Kd.R_drewN | apply Kd.R_drew)); exact HO947.out))) (below_size (by repeat (first | (with_reducible first | exact HB.out | apply below_alloc | apply pw_below_drewN | apply below_drew1 | refine below_set ?_ GE900.out) | exact HB.out)))); have n5_ := Aside0.mk (blk_below (g := gb900) (o := .cells #[.string a0_0, .int .i64 a0_1, .slice A0_2 l0_2.length c0_2, .int .i64 a0_3, .slice A0_4 l0_4.length c0_4] 25 (0, 0)) (by (with_reducible repeat (first | refine blk_drewN ?_ _ | refine blk_drew ?_ | refine blk_alloc ?_ _)); exact BK900.out) hb); have n6_ := Aside0.mk (below_step (by repeat (first | (with_reducible first | exact HB.out | apply below_alloc | apply pw_below_drewN | apply below_drew1 | refine below_set ?_ GE900.out) | exact HB.out)) hb); clear HO_6; clear HO_8; clear HO947; clear HO951; clear BK900; clear HB; have HO_6 := n0_; have HO_8 := n1_; have HO947 := n2_; have HO951 := n3_; have HO954 := n4_; have BK900 := n5_; have HB := n6_; clear n0_ n1_ n2_ n3_ n4_ n5_ n6_; (try clear hb); (try clear hb2); (try clear hk); (try clear hi); (try clear ho0); obtain ⟨Ao64, co64, eo64⟩ := Kd.R_slice HO954.out; subst eo64) | ((with_reducible refine gate_callee (f := 19) rfl ?_); refine goesL_ (some 64) rfl rfl Try.func19 (by kernel_rfl) rfl #[.slice Ao64 t952.length co64, .slice Ao36 t911.length co36] rfl (by (try simp only [List.map_toArray, List.map_cons, List.map_nil]); first | done | rfl | (simp only [List.length_drop, List.length_take]; rfl)) ?_; (with_reducible refine (laws_eqInt64S.calls kj17 _ _ t952 _ _ t911 true _ ?side1 ?side2 ?side3 ?side4 A54.out).mono ?_); (case side1 => repeat (first | exact (Kd.R_reads' HO954.out).2.2 | (with_reducible refine Kd.C_alloc ?_ _) | (with_reducible refine Kd.C_drewN ?_ _) | (with_reducible refine Kd.C_drew ?_))); (case side2 => exact (Kd.R_reads' HO954.out).2.1); (case side3 => repeat (first | exact (Kd.R_reads' HO_6.out).2.2 | (with_reducible refine Kd.C_alloc ?_ _) | (with_reducible refine Kd.C_drewN ?_ _) | (with_reducible refine Kd.C_drew ?_))); (case side4 => exact (Kd.R_reads' HO_6.out).2.1); rintro e w' ⟨rfl, ⟨nd, rfl⟩⟩; refine ⟨_, rfl, ?_⟩) | ((with_reducible refine gate_callee (f := 22) rfl ?_); refine goesL_ (some 68) rfl rfl Try.func22 (by kernel_rfl) rfl #[.slice Ao35 t941.length co35, .int .i64 1] rfl (by (try simp only [List.map_toArray, List.map_cons, List.map_nil]); first | done | (rw [show t941.length = t924.length from (Kd.R_reads' HO_8.out).1.symm] <;> rfl) | rfl | (simp only [List.length_drop, List.length_take]; rfl)) ?_; (with_reducible refine (laws_heldInt64S.calls kj17 _ _ t941 1 t956 _ ?side1 ?side2 A56.out).mono ?_); (case side1 => repeat (first | exact (Kd.R_reads' HO_8.out).2.2 | (with_reducible refine Kd.C_alloc ?_ _) | (with_reducible refine Kd.C_drewN ?_ _) | (with_reducible refine Kd.C_drew ?_))); (case side2 => rw [show t941.length = t924.length from (Kd.R_reads' HO_8.out).1.symm]; exact (Kd.R_reads' HO_8.out).2.1); rintro e w' ⟨rfl, ⟨nd, rfl⟩⟩; refine ⟨_, rfl, ?_⟩))
                      go_ret
                      exact ⟨by first | rfl | (simp [errW_none, errW_some] <;> rfl) | (simp [*, errW_none, errW_some] <;> rfl), by repeat (first | (with_reducible first | exact HB.out | apply below_alloc | apply pw_below_drewN | apply below_drew1 | refine below_set ?_ GE900.out) | exact HB.out)⟩
                    · rw [if_neg c57] at H
                      have c57b0 : decide (t956 < 0) = false := decide_eq_false c57
                      clear c57
                      by_cases c65 : t956 = t940
                      · rw [if_pos c65] at H
                        have c65b0 : (t956 == t940) = true := beq_iff_eq.mpr c65
                        have c65b1 : (t956 != t940) = false := bne_eq_false_iff_eq.mpr c65
                        clear c65
                        obtain rfl := Option.some.inj H
                        go_wp2_with (first | ((with_reducible refine gate_callee (f := 21) rfl ?_); refine goesL_ (some 49) rfl rfl Try.func21 (by kernel_rfl) rfl #[.slice Ao35 t924.length co35, .int .i64 1] rfl (by (try simp only [List.map_toArray, List.map_cons, List.map_nil]); first | done | rfl | (simp only [List.length_drop, List.length_take]; rfl)) ?_; (with_reducible refine (laws_markInt64S.calls kj17 (fun k_ => some k_ = (.slice Ao35 t924.length co35 : Value).ownBlock) (.slice Ao35 t924.length co35) t924 1 t940 t941 w _ ?side1 ?side2 A47.out).mono ?_); (case side1 => repeat (first | (with_reducible first | exact HB.out | apply below_alloc | apply pw_below_drewN | apply below_drew1 | refine below_set ?_ GE900.out) | exact HB.out)); (case side2 => exact Kd.R_tight rfl HO_8.out); rintro e w66 ⟨rfl, hy0, hb, hkp⟩; refine ⟨_, rfl, ?_⟩; have n0_ := Aside0.mk (Kd.R_mono (ok' := fun k_ => some k_ ≠ (.slice Ao35 t924.length co35 : Value).ownBlock) (Kd.R_keptB (HO_6.out) hkp (fun k_ hk_ hs_ => (hk_) hs_)) (fun k_ hk_ => hk_.1)); have n1_ := Aside0.mk (Kd.R_reok rfl hy0 (fun k_ e_ => HO_8.out.1 k_ e_)); have n2_ := Aside0.mk (blk_kept (by (with_reducible repeat (first | refine blk_drewN ?_ _ | refine blk_drew ?_ | refine blk_alloc ?_ _)); exact BK900.out) hkp (fun hs_ => (fun e_ => (Kd.R_ne HO_8.out BK900.out (by decide)) e_) hs_)); have n3_ := Aside0.mk (hb); clear HO_6; clear HO_8; clear BK900; clear HB; have HO_6 := n0_; have HO_8 := n1_; have BK900 := n2_; have HB := n3_; clear n0_ n1_ n2_ n3_; (try clear hb); (try clear hkp); (try clear hy0)) | ((with_reducible refine gate_callee (f := 22) rfl ?_); refine goesL_ (some 52) rfl rfl Try.func22 (by kernel_rfl) rfl #[.slice Ao35 t941.length co35, .int .i64 1] rfl (by (try simp only [List.map_toArray, List.map_cons, List.map_nil]); first | done | (rw [show t941.length = t924.length from (Kd.R_reads' HO_8.out).1.symm] <;> rfl) | rfl | (simp only [List.length_drop, List.length_take]; rfl)) ?_; (with_reducible refine (laws_heldInt64S.calls kj17 _ _ t941 1 t942 _ ?side1 ?side2 A48.out).mono ?_); (case side1 => repeat (first | exact (Kd.R_reads' HO_8.out).2.2 | (with_reducible refine Kd.C_alloc ?_ _) | (with_reducible refine Kd.C_drewN ?_ _) | (with_reducible refine Kd.C_drew ?_))); (case side2 => rw [show t941.length = t924.length from (Kd.R_reads' HO_8.out).1.symm]; exact (Kd.R_reads' HO_8.out).2.1); rintro e w' ⟨rfl, ⟨nd, rfl⟩⟩; refine ⟨_, rfl, ?_⟩; have hcz67_0 : w66.cell? ⟨gb900, 0, none⟩ = some (.string a0_0) := (blk_cell BK900.out 0).trans rfl; have hcz67_1 : w66.cell? ⟨gb900, 1, none⟩ = some (.int .i64 a0_1) := (blk_cell BK900.out 1).trans rfl; have hcz67_2 : w66.cell? ⟨gb900, 2, none⟩ = some (.slice A0_2 l0_2.length c0_2) := (blk_cell BK900.out 2).trans rfl; have hcz67_3 : w66.cell? ⟨gb900, 3, none⟩ = some (.int .i64 a0_3) := (blk_cell BK900.out 3).trans rfl; have hcz67_4 : w66.cell? ⟨gb900, 4, none⟩ = some (.slice A0_4 l0_4.length c0_4) := (blk_cell BK900.out 4).trans rfl; have hfz67_0 := blk_frozen BK900.out 0; have hfz67_1 := blk_frozen BK900.out 1; have hfz67_2 := blk_frozen BK900.out 2; have hfz67_3 := blk_frozen BK900.out 3; have hfz67_4 := blk_frozen BK900.out 4) | ((with_reducible refine gate_callee (f := 14) rfl ?_); refine goesL_ (some 59) rfl rfl Try.func14 (by kernel_rfl) rfl #[.agg #[.string a0_0, .int .i64 a0_1, .slice A0_2 l0_2.length c0_2, .int .i64 a0_3, .slice A0_4 l0_4.length c0_4]] rfl (by (try simp only [List.map_toArray, List.map_cons, List.map_nil]); first | done | rfl | (simp only [List.length_drop, List.length_take]; rfl)) ?_; (with_reducible refine (laws_toFunc.calls kj17 a0_0 a0_1 _ _ l0_2 a0_3 _ _ l0_4 t943 t944 t945 t948 t949 _ ?side1 ?side2 ?side3 ?side4 A52.out).mono ?_); (case side1 => repeat (first | exact (Kd.C_below HR0_2.out (by repeat (first | (with_reducible first | exact HB.out | apply below_alloc | apply pw_below_drewN | apply below_drew1 | refine below_set ?_ GE900.out) | exact HB.out))) | (with_reducible refine Kd.C_alloc ?_ _) | (with_reducible refine Kd.C_drewN ?_ _) | (with_reducible refine Kd.C_drew ?_))); (case side2 => exact HC0_2.out); (case side3 => repeat (first | exact (Kd.C_below HR0_4.out (by repeat (first | (with_reducible first | exact HB.out | apply below_alloc | apply pw_below_drewN | apply below_drew1 | refine below_set ?_ GE900.out) | exact HB.out))) | (with_reducible refine Kd.C_alloc ?_ _) | (with_reducible refine Kd.C_drewN ?_ _) | (with_reducible refine Kd.C_drew ?_))); (case side4 => exact HC0_4.out); rintro e w68 ⟨v946, v950, rfl, ho0, ho1, hb⟩; refine ⟨_, rfl, ?_⟩; have n0_ := Aside0.mk (Kd.R_elder' (by (with_reducible repeat (first | apply Kd.R_alloc | apply Kd.R_drewN | apply Kd.R_drew)); exact HO_6.out) (Kd.R_base ho0) hb); have n1_ := Aside0.mk (Kd.R_elder' (by (with_reducible repeat (first | apply Kd.R_alloc | apply Kd.R_drewN | apply Kd.R_drew)); exact HO_8.out) (Kd.R_base ho0) hb); have n2_ := Aside0.mk (Kd.R_lower (Kd.R_new' (Kd.R_new' ho0 (Kd.R_lt (by (with_reducible repeat (first | apply Kd.R_alloc | apply Kd.R_drewN | apply Kd.R_drew)); exact HO_6.out))) (Kd.R_lt (by (with_reducible repeat (first | apply Kd.R_alloc | apply Kd.R_drewN | apply Kd.R_drew)); exact HO_8.out))) (below_size (by repeat (first | (with_reducible first | exact HB.out | apply below_alloc | apply pw_below_drewN | apply below_drew1 | refine below_set ?_ GE900.out) | exact HB.out)))); have n3_ := Aside0.mk (Kd.R_lower (Kd.R_new' (Kd.R_new' ho1 (Kd.R_lt (by (with_reducible repeat (first | apply Kd.R_alloc | apply Kd.R_drewN | apply Kd.R_drew)); exact HO_6.out))) (Kd.R_lt (by (with_reducible repeat (first | apply Kd.R_alloc | apply Kd.R_drewN | apply Kd.R_drew)); exact HO_8.out))) (below_size (by repeat (first | (with_reducible first | exact HB.out | apply below_alloc | apply pw_below_drewN | apply below_drew1 | refine below_set ?_ GE900.out) | exact HB.out)))); have n4_ := Aside0.mk (blk_below (g := gb900) (o := .cells #[.string a0_0, .int .i64 a0_1, .slice A0_2 l0_2.length c0_2, .int .i64 a0_3, .slice A0_4 l0_4.length c0_4] 25 (0, 0)) (by (with_reducible repeat (first | refine blk_drewN ?_ _ | refine blk_drew ?_ | refine blk_alloc ?_ _)); exact BK900.out) hb); have n5_ := Aside0.mk (below_step (by repeat (first | (with_reducible first | exact HB.out | apply below_alloc | apply pw_below_drewN | apply below_drew1 | refine below_set ?_ GE900.out) | exact HB.out)) hb); clear HO_6; clear HO_8; clear BK900; clear HB; have HO_6 := n0_; have HO_8 := n1_; have HO947 := n2_; have HO951 := n3_; have BK900 := n4_; have HB := n5_; clear n0_ n1_ n2_ n3_ n4_ n5_; (try clear hb); (try clear hb2); (try clear hk); (try clear hi); (try clear ho0); (try clear ho1); obtain ⟨Ao69, co69, eo69⟩ := Kd.R_slice HO947.out; subst eo69; obtain ⟨Ao70, co70, eo70⟩ := Kd.R_slice HO951.out; subst eo70) | ((with_reducible refine gate_callee (f := 18) rfl ?_); refine goesL_ (some 61) rfl rfl Try.func18 (by kernel_rfl) rfl #[.agg #[.string t943, .int .i64 t944, .slice Ao69 t945.length co69, .int .i64 t948, .slice Ao70 t949.length co70], .int .i64 a1] rfl (by (try simp only [List.map_toArray, List.map_cons, List.map_nil]); first | done | rfl | (simp only [List.length_drop, List.length_take]; rfl)) ?_; (with_reducible refine (impl_NextBlocks.calls t943 t944 _ _ t945 t948 _ _ t949 a1 t952 _ ?side1 ?side2 ?side3 ?side4 A53.out).mono ?_); (case side1 => repeat (first | exact (Kd.R_reads' HO947.out).2.2 | (with_reducible refine Kd.C_alloc ?_ _) | (with_reducible refine Kd.C_drewN ?_ _) | (with_reducible refine Kd.C_drew ?_))); (case side2 => exact (Kd.R_reads' HO947.out).2.1); (case side3 => repeat (first | exact (Kd.R_reads' HO951.out).2.2 | (with_reducible refine Kd.C_alloc ?_ _) | (with_reducible refine Kd.C_drewN ?_ _) | (with_reducible refine Kd.C_drew ?_))); (case side4 => exact (Kd.R_reads' HO951.out).2.1); rintro e w71 ⟨v953, rfl, ho0, hb⟩; refine ⟨_, rfl, ?_⟩; have n0_ := Aside0.mk (Kd.R_elder' (by (with_reducible repeat (first | apply Kd.R_alloc | apply Kd.R_drewN | apply Kd.R_drew)); exact HO_6.out) (Kd.R_base ho0) hb); have n1_ := Aside0.mk (Kd.R_elder' (by (with_reducible repeat (first | apply Kd.R_alloc | apply Kd.R_drewN | apply Kd.R_drew)); exact HO_8.out) (Kd.R_base ho0) hb); have n2_ := Aside0.mk (Kd.R_elder' (by (with_reducible repeat (first | apply Kd.R_alloc | apply Kd.R_drewN | apply Kd.R_drew)); exact HO947.out) (Kd.R_base ho0) hb); have n3_ := Aside0.mk (Kd.R_elder' (by (with_reducible repeat (first | apply Kd.R_alloc | apply Kd.R_drewN | apply Kd.R_drew)); exact HO951.out) (Kd.R_base ho0) hb); have n4_ := Aside0.mk (Kd.R_lower (Kd.R_new' (Kd.R_new' (Kd.R_new' ho0 (Kd.R_lt (by (with_reducible repeat (first | apply Kd.R_alloc | apply Kd.R_drewN | apply Kd.R_drew)); exact HO_6.out))) (Kd.R_lt (by (with_reducible repeat (first | apply Kd.R_alloc | apply Kd.R_drewN | apply Kd.R_drew)); exact HO_8.out))) (Kd.R_lt (by (with_reducible repeat (first | apply Kd.R_alloc | apply Kd.R_drewN | apply Kd.R_drew)); exact HO947.out))) (below_size (by repeat (first | (with_reducible first | exact HB.out | apply below_alloc | apply pw_below_drewN | apply below_drew1 | refine below_set ?_ GE900.out) | exact HB.out)))); have n5_ := Aside0.mk (blk_below (g := gb900) (o := .cells #[.string a0_0, .int .i64 a0_1, .slice A0_2 l0_2.length c0_2, .int .i64 a0_3, .slice A0_4 l0_4.length c0_4] 25 (0, 0)) (by (with_reducible repeat (first | refine blk_drewN ?_ _ | refine blk_drew ?_ | refine blk_alloc ?_ _)); exact BK900.out) hb); have n6_ := Aside0.mk (below_step (by repeat (first | (with_reducible first | exact HB.out | apply below_alloc | apply pw_below_drewN | apply below_drew1 | refine below_set ?_ GE900.out) | exact HB.out)) hb); clear HO_6; clear HO_8; clear HO947; clear HO951; clear BK900; clear HB; have HO_6 := n0_; have HO_8 := n1_; have HO947 := n2_; have HO951 := n3_; have HO954 := n4_; have BK900 := n5_; have HB := n6_; clear n0_ n1_ n2_ n3_ n4_ n5_ n6_; (try clear hb); (try clear hb2); (try clear hk); (try clear hi); (try clear ho0); obtain ⟨Ao72, co72, eo72⟩ := Kd.R_slice HO954.out; subst eo72) | ((with_reducible refine gate_callee (f := 19) rfl ?_); refine goesL_ (some 64) rfl rfl Try.func19 (by kernel_rfl) rfl #[.slice Ao72 t952.length co72, .slice Ao36 t911.length co36] rfl (by (try simp only [List.map_toArray, List.map_cons, List.map_nil]); first | done | rfl | (simp only [List.length_drop, List.length_take]; rfl)) ?_; (with_reducible refine (laws_eqInt64S.calls kj17 _ _ t952 _ _ t911 true _ ?side1 ?side2 ?side3 ?side4 A54.out).mono ?_); (case side1 => repeat (first | exact (Kd.R_reads' HO954.out).2.2 | (with_reducible refine Kd.C_alloc ?_ _) | (with_reducible refine Kd.C_drewN ?_ _) | (with_reducible refine Kd.C_drew ?_))); (case side2 => exact (Kd.R_reads' HO954.out).2.1); (case side3 => repeat (first | exact (Kd.R_reads' HO_6.out).2.2 | (with_reducible refine Kd.C_alloc ?_ _) | (with_reducible refine Kd.C_drewN ?_ _) | (with_reducible refine Kd.C_drew ?_))); (case side4 => exact (Kd.R_reads' HO_6.out).2.1); rintro e w' ⟨rfl, ⟨nd, rfl⟩⟩; refine ⟨_, rfl, ?_⟩) | ((with_reducible refine gate_callee (f := 22) rfl ?_); refine goesL_ (some 68) rfl rfl Try.func22 (by kernel_rfl) rfl #[.slice Ao35 t941.length co35, .int .i64 1] rfl (by (try simp only [List.map_toArray, List.map_cons, List.map_nil]); first | done | (rw [show t941.length = t924.length from (Kd.R_reads' HO_8.out).1.symm] <;> rfl) | rfl | (simp only [List.length_drop, List.length_take]; rfl)) ?_; (with_reducible refine (laws_heldInt64S.calls kj17 _ _ t941 1 t956 _ ?side1 ?side2 A56.out).mono ?_); (case side1 => repeat (first | exact (Kd.R_reads' HO_8.out).2.2 | (with_reducible refine Kd.C_alloc ?_ _) | (with_reducible refine Kd.C_drewN ?_ _) | (with_reducible refine Kd.C_drew ?_))); (case side2 => rw [show t941.length = t924.length from (Kd.R_reads' HO_8.out).1.symm]; exact (Kd.R_reads' HO_8.out).2.1); rintro e w' ⟨rfl, ⟨nd, rfl⟩⟩; refine ⟨_, rfl, ?_⟩))
                        go_ret
                        exact ⟨by first | rfl | (simp [errW_none, errW_some] <;> rfl) | (simp [*, errW_none, errW_some] <;> rfl), by repeat (first | (with_reducible first | exact HB.out | apply below_alloc | apply pw_below_drewN | apply below_drew1 | refine below_set ?_ GE900.out) | exact HB.out)⟩
                      · rw [if_neg c65] at H
                        have c65b0 : (t956 == t940) = false := beq_eq_false_iff_ne.mpr c65
                        have c65b1 : (t956 != t940) = true := bne_iff_ne.mpr c65
                        obtain rfl := Option.some.inj H
                        go_wp2_with (first | ((with_reducible refine gate_callee (f := 21) rfl ?_); refine goesL_ (some 49) rfl rfl Try.func21 (by kernel_rfl) rfl #[.slice Ao35 t924.length co35, .int .i64 1] rfl (by (try simp only [List.map_toArray, List.map_cons, List.map_nil]); first | done | rfl | (simp only [List.length_drop, List.length_take]; rfl)) ?_; (with_reducible refine (laws_markInt64S.calls kj17 (fun k_ => some k_ = (.slice Ao35 t924.length co35 : Value).ownBlock) (.slice Ao35 t924.length co35) t924 1 t940 t941 w _ ?side1 ?side2 A47.out).mono ?_); (case side1 => repeat (first | (with_reducible first | exact HB.out | apply below_alloc | apply pw_below_drewN | apply below_drew1 | refine below_set ?_ GE900.out) | exact HB.out)); (case side2 => exact Kd.R_tight rfl HO_8.out); rintro e w73 ⟨rfl, hy0, hb, hkp⟩; refine ⟨_, rfl, ?_⟩; have n0_ := Aside0.mk (Kd.R_mono (ok' := fun k_ => some k_ ≠ (.slice Ao35 t924.length co35 : Value).ownBlock) (Kd.R_keptB (HO_6.out) hkp (fun k_ hk_ hs_ => (hk_) hs_)) (fun k_ hk_ => hk_.1)); have n1_ := Aside0.mk (Kd.R_reok rfl hy0 (fun k_ e_ => HO_8.out.1 k_ e_)); have n2_ := Aside0.mk (blk_kept (by (with_reducible repeat (first | refine blk_drewN ?_ _ | refine blk_drew ?_ | refine blk_alloc ?_ _)); exact BK900.out) hkp (fun hs_ => (fun e_ => (Kd.R_ne HO_8.out BK900.out (by decide)) e_) hs_)); have n3_ := Aside0.mk (hb); clear HO_6; clear HO_8; clear BK900; clear HB; have HO_6 := n0_; have HO_8 := n1_; have BK900 := n2_; have HB := n3_; clear n0_ n1_ n2_ n3_; (try clear hb); (try clear hkp); (try clear hy0)) | ((with_reducible refine gate_callee (f := 22) rfl ?_); refine goesL_ (some 52) rfl rfl Try.func22 (by kernel_rfl) rfl #[.slice Ao35 t941.length co35, .int .i64 1] rfl (by (try simp only [List.map_toArray, List.map_cons, List.map_nil]); first | done | (rw [show t941.length = t924.length from (Kd.R_reads' HO_8.out).1.symm] <;> rfl) | rfl | (simp only [List.length_drop, List.length_take]; rfl)) ?_; (with_reducible refine (laws_heldInt64S.calls kj17 _ _ t941 1 t942 _ ?side1 ?side2 A48.out).mono ?_); (case side1 => repeat (first | exact (Kd.R_reads' HO_8.out).2.2 | (with_reducible refine Kd.C_alloc ?_ _) | (with_reducible refine Kd.C_drewN ?_ _) | (with_reducible refine Kd.C_drew ?_))); (case side2 => rw [show t941.length = t924.length from (Kd.R_reads' HO_8.out).1.symm]; exact (Kd.R_reads' HO_8.out).2.1); rintro e w' ⟨rfl, ⟨nd, rfl⟩⟩; refine ⟨_, rfl, ?_⟩; have hcz74_0 : w73.cell? ⟨gb900, 0, none⟩ = some (.string a0_0) := (blk_cell BK900.out 0).trans rfl; have hcz74_1 : w73.cell? ⟨gb900, 1, none⟩ = some (.int .i64 a0_1) := (blk_cell BK900.out 1).trans rfl; have hcz74_2 : w73.cell? ⟨gb900, 2, none⟩ = some (.slice A0_2 l0_2.length c0_2) := (blk_cell BK900.out 2).trans rfl; have hcz74_3 : w73.cell? ⟨gb900, 3, none⟩ = some (.int .i64 a0_3) := (blk_cell BK900.out 3).trans rfl; have hcz74_4 : w73.cell? ⟨gb900, 4, none⟩ = some (.slice A0_4 l0_4.length c0_4) := (blk_cell BK900.out 4).trans rfl; have hfz74_0 := blk_frozen BK900.out 0; have hfz74_1 := blk_frozen BK900.out 1; have hfz74_2 := blk_frozen BK900.out 2; have hfz74_3 := blk_frozen BK900.out 3; have hfz74_4 := blk_frozen BK900.out 4) | ((with_reducible refine gate_callee (f := 14) rfl ?_); refine goesL_ (some 59) rfl rfl Try.func14 (by kernel_rfl) rfl #[.agg #[.string a0_0, .int .i64 a0_1, .slice A0_2 l0_2.length c0_2, .int .i64 a0_3, .slice A0_4 l0_4.length c0_4]] rfl (by (try simp only [List.map_toArray, List.map_cons, List.map_nil]); first | done | rfl | (simp only [List.length_drop, List.length_take]; rfl)) ?_; (with_reducible refine (laws_toFunc.calls kj17 a0_0 a0_1 _ _ l0_2 a0_3 _ _ l0_4 t943 t944 t945 t948 t949 _ ?side1 ?side2 ?side3 ?side4 A52.out).mono ?_); (case side1 => repeat (first | exact (Kd.C_below HR0_2.out (by repeat (first | (with_reducible first | exact HB.out | apply below_alloc | apply pw_below_drewN | apply below_drew1 | refine below_set ?_ GE900.out) | exact HB.out))) | (with_reducible refine Kd.C_alloc ?_ _) | (with_reducible refine Kd.C_drewN ?_ _) | (with_reducible refine Kd.C_drew ?_))); (case side2 => exact HC0_2.out); (case side3 => repeat (first | exact (Kd.C_below HR0_4.out (by repeat (first | (with_reducible first | exact HB.out | apply below_alloc | apply pw_below_drewN | apply below_drew1 | refine below_set ?_ GE900.out) | exact HB.out))) | (with_reducible refine Kd.C_alloc ?_ _) | (with_reducible refine Kd.C_drewN ?_ _) | (with_reducible refine Kd.C_drew ?_))); (case side4 => exact HC0_4.out); rintro e w75 ⟨v946, v950, rfl, ho0, ho1, hb⟩; refine ⟨_, rfl, ?_⟩; have n0_ := Aside0.mk (Kd.R_elder' (by (with_reducible repeat (first | apply Kd.R_alloc | apply Kd.R_drewN | apply Kd.R_drew)); exact HO_6.out) (Kd.R_base ho0) hb); have n1_ := Aside0.mk (Kd.R_elder' (by (with_reducible repeat (first | apply Kd.R_alloc | apply Kd.R_drewN | apply Kd.R_drew)); exact HO_8.out) (Kd.R_base ho0) hb); have n2_ := Aside0.mk (Kd.R_lower (Kd.R_new' (Kd.R_new' ho0 (Kd.R_lt (by (with_reducible repeat (first | apply Kd.R_alloc | apply Kd.R_drewN | apply Kd.R_drew)); exact HO_6.out))) (Kd.R_lt (by (with_reducible repeat (first | apply Kd.R_alloc | apply Kd.R_drewN | apply Kd.R_drew)); exact HO_8.out))) (below_size (by repeat (first | (with_reducible first | exact HB.out | apply below_alloc | apply pw_below_drewN | apply below_drew1 | refine below_set ?_ GE900.out) | exact HB.out)))); have n3_ := Aside0.mk (Kd.R_lower (Kd.R_new' (Kd.R_new' ho1 (Kd.R_lt (by (with_reducible repeat (first | apply Kd.R_alloc | apply Kd.R_drewN | apply Kd.R_drew)); exact HO_6.out))) (Kd.R_lt (by (with_reducible repeat (first | apply Kd.R_alloc | apply Kd.R_drewN | apply Kd.R_drew)); exact HO_8.out))) (below_size (by repeat (first | (with_reducible first | exact HB.out | apply below_alloc | apply pw_below_drewN | apply below_drew1 | refine below_set ?_ GE900.out) | exact HB.out)))); have n4_ := Aside0.mk (blk_below (g := gb900) (o := .cells #[.string a0_0, .int .i64 a0_1, .slice A0_2 l0_2.length c0_2, .int .i64 a0_3, .slice A0_4 l0_4.length c0_4] 25 (0, 0)) (by (with_reducible repeat (first | refine blk_drewN ?_ _ | refine blk_drew ?_ | refine blk_alloc ?_ _)); exact BK900.out) hb); have n5_ := Aside0.mk (below_step (by repeat (first | (with_reducible first | exact HB.out | apply below_alloc | apply pw_below_drewN | apply below_drew1 | refine below_set ?_ GE900.out) | exact HB.out)) hb); clear HO_6; clear HO_8; clear BK900; clear HB; have HO_6 := n0_; have HO_8 := n1_; have HO947 := n2_; have HO951 := n3_; have BK900 := n4_; have HB := n5_; clear n0_ n1_ n2_ n3_ n4_ n5_; (try clear hb); (try clear hb2); (try clear hk); (try clear hi); (try clear ho0); (try clear ho1); obtain ⟨Ao76, co76, eo76⟩ := Kd.R_slice HO947.out; subst eo76; obtain ⟨Ao77, co77, eo77⟩ := Kd.R_slice HO951.out; subst eo77) | ((with_reducible refine gate_callee (f := 18) rfl ?_); refine goesL_ (some 61) rfl rfl Try.func18 (by kernel_rfl) rfl #[.agg #[.string t943, .int .i64 t944, .slice Ao76 t945.length co76, .int .i64 t948, .slice Ao77 t949.length co77], .int .i64 a1] rfl (by (try simp only [List.map_toArray, List.map_cons, List.map_nil]); first | done | rfl | (simp only [List.length_drop, List.length_take]; rfl)) ?_; (with_reducible refine (impl_NextBlocks.calls t943 t944 _ _ t945 t948 _ _ t949 a1 t952 _ ?side1 ?side2 ?side3 ?side4 A53.out).mono ?_); (case side1 => repeat (first | exact (Kd.R_reads' HO947.out).2.2 | (with_reducible refine Kd.C_alloc ?_ _) | (with_reducible refine Kd.C_drewN ?_ _) | (with_reducible refine Kd.C_drew ?_))); (case side2 => exact (Kd.R_reads' HO947.out).2.1); (case side3 => repeat (first | exact (Kd.R_reads' HO951.out).2.2 | (with_reducible refine Kd.C_alloc ?_ _) | (with_reducible refine Kd.C_drewN ?_ _) | (with_reducible refine Kd.C_drew ?_))); (case side4 => exact (Kd.R_reads' HO951.out).2.1); rintro e w78 ⟨v953, rfl, ho0, hb⟩; refine ⟨_, rfl, ?_⟩; have n0_ := Aside0.mk (Kd.R_elder' (by (with_reducible repeat (first | apply Kd.R_alloc | apply Kd.R_drewN | apply Kd.R_drew)); exact HO_6.out) (Kd.R_base ho0) hb); have n1_ := Aside0.mk (Kd.R_elder' (by (with_reducible repeat (first | apply Kd.R_alloc | apply Kd.R_drewN | apply Kd.R_drew)); exact HO_8.out) (Kd.R_base ho0) hb); have n2_ := Aside0.mk (Kd.R_elder' (by (with_reducible repeat (first | apply Kd.R_alloc | apply Kd.R_drewN | apply Kd.R_drew)); exact HO947.out) (Kd.R_base ho0) hb); have n3_ := Aside0.mk (Kd.R_elder' (by (with_reducible repeat (first | apply Kd.R_alloc | apply Kd.R_drewN | apply Kd.R_drew)); exact HO951.out) (Kd.R_base ho0) hb); have n4_ := Aside0.mk (Kd.R_lower (Kd.R_new' (Kd.R_new' (Kd.R_new' ho0 (Kd.R_lt (by (with_reducible repeat (first | apply Kd.R_alloc | apply Kd.R_drewN | apply Kd.R_drew)); exact HO_6.out))) (Kd.R_lt (by (with_reducible repeat (first | apply Kd.R_alloc | apply Kd.R_drewN | apply Kd.R_drew)); exact HO_8.out))) (Kd.R_lt (by (with_reducible repeat (first | apply Kd.R_alloc | apply Kd.R_drewN | apply Kd.R_drew)); exact HO947.out))) (below_size (by repeat (first | (with_reducible first | exact HB.out | apply below_alloc | apply pw_below_drewN | apply below_drew1 | refine below_set ?_ GE900.out) | exact HB.out)))); have n5_ := Aside0.mk (blk_below (g := gb900) (o := .cells #[.string a0_0, .int .i64 a0_1, .slice A0_2 l0_2.length c0_2, .int .i64 a0_3, .slice A0_4 l0_4.length c0_4] 25 (0, 0)) (by (with_reducible repeat (first | refine blk_drewN ?_ _ | refine blk_drew ?_ | refine blk_alloc ?_ _)); exact BK900.out) hb); have n6_ := Aside0.mk (below_step (by repeat (first | (with_reducible first | exact HB.out | apply below_alloc | apply pw_below_drewN | apply below_drew1 | refine below_set ?_ GE900.out) | exact HB.out)) hb); clear HO_6; clear HO_8; clear HO947; clear HO951; clear BK900; clear HB; have HO_6 := n0_; have HO_8 := n1_; have HO947 := n2_; have HO951 := n3_; have HO954 := n4_; have BK900 := n5_; have HB := n6_; clear n0_ n1_ n2_ n3_ n4_ n5_ n6_; (try clear hb); (try clear hb2); (try clear hk); (try clear hi); (try clear ho0); obtain ⟨Ao79, co79, eo79⟩ := Kd.R_slice HO954.out; subst eo79) | ((with_reducible refine gate_callee (f := 19) rfl ?_); refine goesL_ (some 64) rfl rfl Try.func19 (by kernel_rfl) rfl #[.slice Ao79 t952.length co79, .slice Ao36 t911.length co36] rfl (by (try simp only [List.map_toArray, List.map_cons, List.map_nil]); first | done | rfl | (simp only [List.length_drop, List.length_take]; rfl)) ?_; (with_reducible refine (laws_eqInt64S.calls kj17 _ _ t952 _ _ t911 true _ ?side1 ?side2 ?side3 ?side4 A54.out).mono ?_); (case side1 => repeat (first | exact (Kd.R_reads' HO954.out).2.2 | (with_reducible refine Kd.C_alloc ?_ _) | (with_reducible refine Kd.C_drewN ?_ _) | (with_reducible refine Kd.C_drew ?_))); (case side2 => exact (Kd.R_reads' HO954.out).2.1); (case side3 => repeat (first | exact (Kd.R_reads' HO_6.out).2.2 | (with_reducible refine Kd.C_alloc ?_ _) | (with_reducible refine Kd.C_drewN ?_ _) | (with_reducible refine Kd.C_drew ?_))); (case side4 => exact (Kd.R_reads' HO_6.out).2.1); rintro e w' ⟨rfl, ⟨nd, rfl⟩⟩; refine ⟨_, rfl, ?_⟩) | ((with_reducible refine gate_callee (f := 22) rfl ?_); refine goesL_ (some 68) rfl rfl Try.func22 (by kernel_rfl) rfl #[.slice Ao35 t941.length co35, .int .i64 1] rfl (by (try simp only [List.map_toArray, List.map_cons, List.map_nil]); first | done | (rw [show t941.length = t924.length from (Kd.R_reads' HO_8.out).1.symm] <;> rfl) | rfl | (simp only [List.length_drop, List.length_take]; rfl)) ?_; (with_reducible refine (laws_heldInt64S.calls kj17 _ _ t941 1 t956 _ ?side1 ?side2 A56.out).mono ?_); (case side1 => repeat (first | exact (Kd.R_reads' HO_8.out).2.2 | (with_reducible refine Kd.C_alloc ?_ _) | (with_reducible refine Kd.C_drewN ?_ _) | (with_reducible refine Kd.C_drew ?_))); (case side2 => rw [show t941.length = t924.length from (Kd.R_reads' HO_8.out).1.symm]; exact (Kd.R_reads' HO_8.out).2.1); rintro e w' ⟨rfl, ⟨nd, rfl⟩⟩; refine ⟨_, rfl, ?_⟩))
                        go_ret
                        exact ⟨by first | rfl | (simp [errW_none, errW_some] <;> rfl) | (simp [*, errW_none, errW_some] <;> rfl), by repeat (first | (with_reducible first | exact HB.out | apply below_alloc | apply pw_below_drewN | apply below_drew1 | refine below_set ?_ GE900.out) | exact HB.out)⟩
                  · replace c55 := Bool.eq_false_iff.mpr c55
                    subst c55
                    have H1 : (some false) = some r := by rw [if_neg (show ¬ (false = true) by decide)] at H; exact H
                    clear H
                    have H := H1
                    clear H1
                    obtain rfl := Option.some.inj H
                    go_wp2_with (first | ((with_reducible refine gate_callee (f := 21) rfl ?_); refine goesL_ (some 49) rfl rfl Try.func21 (by kernel_rfl) rfl #[.slice Ao35 t924.length co35, .int .i64 1] rfl (by (try simp only [List.map_toArray, List.map_cons, List.map_nil]); first | done | rfl | (simp only [List.length_drop, List.length_take]; rfl)) ?_; (with_reducible refine (laws_markInt64S.calls kj17 (fun k_ => some k_ = (.slice Ao35 t924.length co35 : Value).ownBlock) (.slice Ao35 t924.length co35) t924 1 t940 t941 w _ ?side1 ?side2 A47.out).mono ?_); (case side1 => repeat (first | (with_reducible first | exact HB.out | apply below_alloc | apply pw_below_drewN | apply below_drew1 | refine below_set ?_ GE900.out) | exact HB.out)); (case side2 => exact Kd.R_tight rfl HO_8.out); rintro e w80 ⟨rfl, hy0, hb, hkp⟩; refine ⟨_, rfl, ?_⟩; have n0_ := Aside0.mk (Kd.R_mono (ok' := fun k_ => some k_ ≠ (.slice Ao35 t924.length co35 : Value).ownBlock) (Kd.R_keptB (HO_6.out) hkp (fun k_ hk_ hs_ => (hk_) hs_)) (fun k_ hk_ => hk_.1)); have n1_ := Aside0.mk (Kd.R_reok rfl hy0 (fun k_ e_ => HO_8.out.1 k_ e_)); have n2_ := Aside0.mk (blk_kept (by (with_reducible repeat (first | refine blk_drewN ?_ _ | refine blk_drew ?_ | refine blk_alloc ?_ _)); exact BK900.out) hkp (fun hs_ => (fun e_ => (Kd.R_ne HO_8.out BK900.out (by decide)) e_) hs_)); have n3_ := Aside0.mk (hb); clear HO_6; clear HO_8; clear BK900; clear HB; have HO_6 := n0_; have HO_8 := n1_; have BK900 := n2_; have HB := n3_; clear n0_ n1_ n2_ n3_; (try clear hb); (try clear hkp); (try clear hy0)) | ((with_reducible refine gate_callee (f := 22) rfl ?_); refine goesL_ (some 52) rfl rfl Try.func22 (by kernel_rfl) rfl #[.slice Ao35 t941.length co35, .int .i64 1] rfl (by (try simp only [List.map_toArray, List.map_cons, List.map_nil]); first | done | (rw [show t941.length = t924.length from (Kd.R_reads' HO_8.out).1.symm] <;> rfl) | rfl | (simp only [List.length_drop, List.length_take]; rfl)) ?_; (with_reducible refine (laws_heldInt64S.calls kj17 _ _ t941 1 t942 _ ?side1 ?side2 A48.out).mono ?_); (case side1 => repeat (first | exact (Kd.R_reads' HO_8.out).2.2 | (with_reducible refine Kd.C_alloc ?_ _) | (with_reducible refine Kd.C_drewN ?_ _) | (with_reducible refine Kd.C_drew ?_))); (case side2 => rw [show t941.length = t924.length from (Kd.R_reads' HO_8.out).1.symm]; exact (Kd.R_reads' HO_8.out).2.1); rintro e w' ⟨rfl, ⟨nd, rfl⟩⟩; refine ⟨_, rfl, ?_⟩; have hcz81_0 : w80.cell? ⟨gb900, 0, none⟩ = some (.string a0_0) := (blk_cell BK900.out 0).trans rfl; have hcz81_1 : w80.cell? ⟨gb900, 1, none⟩ = some (.int .i64 a0_1) := (blk_cell BK900.out 1).trans rfl; have hcz81_2 : w80.cell? ⟨gb900, 2, none⟩ = some (.slice A0_2 l0_2.length c0_2) := (blk_cell BK900.out 2).trans rfl; have hcz81_3 : w80.cell? ⟨gb900, 3, none⟩ = some (.int .i64 a0_3) := (blk_cell BK900.out 3).trans rfl; have hcz81_4 : w80.cell? ⟨gb900, 4, none⟩ = some (.slice A0_4 l0_4.length c0_4) := (blk_cell BK900.out 4).trans rfl; have hfz81_0 := blk_frozen BK900.out 0; have hfz81_1 := blk_frozen BK900.out 1; have hfz81_2 := blk_frozen BK900.out 2; have hfz81_3 := blk_frozen BK900.out 3; have hfz81_4 := blk_frozen BK900.out 4) | ((with_reducible refine gate_callee (f := 14) rfl ?_); refine goesL_ (some 59) rfl rfl Try.func14 (by kernel_rfl) rfl #[.agg #[.string a0_0, .int .i64 a0_1, .slice A0_2 l0_2.length c0_2, .int .i64 a0_3, .slice A0_4 l0_4.length c0_4]] rfl (by (try simp only [List.map_toArray, List.map_cons, List.map_nil]); first | done | rfl | (simp only [List.length_drop, List.length_take]; rfl)) ?_; (with_reducible refine (laws_toFunc.calls kj17 a0_0 a0_1 _ _ l0_2 a0_3 _ _ l0_4 t943 t944 t945 t948 t949 _ ?side1 ?side2 ?side3 ?side4 A52.out).mono ?_); (case side1 => repeat (first | exact (Kd.C_below HR0_2.out (by repeat (first | (with_reducible first | exact HB.out | apply below_alloc | apply pw_below_drewN | apply below_drew1 | refine below_set ?_ GE900.out) | exact HB.out))) | (with_reducible refine Kd.C_alloc ?_ _) | (with_reducible refine Kd.C_drewN ?_ _) | (with_reducible refine Kd.C_drew ?_))); (case side2 => exact HC0_2.out); (case side3 => repeat (first | exact (Kd.C_below HR0_4.out (by repeat (first | (with_reducible first | exact HB.out | apply below_alloc | apply pw_below_drewN | apply below_drew1 | refine below_set ?_ GE900.out) | exact HB.out))) | (with_reducible refine Kd.C_alloc ?_ _) | (with_reducible refine Kd.C_drewN ?_ _) | (with_reducible refine Kd.C_drew ?_))); (case side4 => exact HC0_4.out); rintro e w82 ⟨v946, v950, rfl, ho0, ho1, hb⟩; refine ⟨_, rfl, ?_⟩; have n0_ := Aside0.mk (Kd.R_elder' (by (with_reducible repeat (first | apply Kd.R_alloc | apply Kd.R_drewN | apply Kd.R_drew)); exact HO_6.out) (Kd.R_base ho0) hb); have n1_ := Aside0.mk (Kd.R_elder' (by (with_reducible repeat (first | apply Kd.R_alloc | apply Kd.R_drewN | apply Kd.R_drew)); exact HO_8.out) (Kd.R_base ho0) hb); have n2_ := Aside0.mk (Kd.R_lower (Kd.R_new' (Kd.R_new' ho0 (Kd.R_lt (by (with_reducible repeat (first | apply Kd.R_alloc | apply Kd.R_drewN | apply Kd.R_drew)); exact HO_6.out))) (Kd.R_lt (by (with_reducible repeat (first | apply Kd.R_alloc | apply Kd.R_drewN | apply Kd.R_drew)); exact HO_8.out))) (below_size (by repeat (first | (with_reducible first | exact HB.out | apply below_alloc | apply pw_below_drewN | apply below_drew1 | refine below_set ?_ GE900.out) | exact HB.out)))); have n3_ := Aside0.mk (Kd.R_lower (Kd.R_new' (Kd.R_new' ho1 (Kd.R_lt (by (with_reducible repeat (first | apply Kd.R_alloc | apply Kd.R_drewN | apply Kd.R_drew)); exact HO_6.out))) (Kd.R_lt (by (with_reducible repeat (first | apply Kd.R_alloc | apply Kd.R_drewN | apply Kd.R_drew)); exact HO_8.out))) (below_size (by repeat (first | (with_reducible first | exact HB.out | apply below_alloc | apply pw_below_drewN | apply below_drew1 | refine below_set ?_ GE900.out) | exact HB.out)))); have n4_ := Aside0.mk (blk_below (g := gb900) (o := .cells #[.string a0_0, .int .i64 a0_1, .slice A0_2 l0_2.length c0_2, .int .i64 a0_3, .slice A0_4 l0_4.length c0_4] 25 (0, 0)) (by (with_reducible repeat (first | refine blk_drewN ?_ _ | refine blk_drew ?_ | refine blk_alloc ?_ _)); exact BK900.out) hb); have n5_ := Aside0.mk (below_step (by repeat (first | (with_reducible first | exact HB.out | apply below_alloc | apply pw_below_drewN | apply below_drew1 | refine below_set ?_ GE900.out) | exact HB.out)) hb); clear HO_6; clear HO_8; clear BK900; clear HB; have HO_6 := n0_; have HO_8 := n1_; have HO947 := n2_; have HO951 := n3_; have BK900 := n4_; have HB := n5_; clear n0_ n1_ n2_ n3_ n4_ n5_; (try clear hb); (try clear hb2); (try clear hk); (try clear hi); (try clear ho0); (try clear ho1); obtain ⟨Ao83, co83, eo83⟩ := Kd.R_slice HO947.out; subst eo83; obtain ⟨Ao84, co84, eo84⟩ := Kd.R_slice HO951.out; subst eo84) | ((with_reducible refine gate_callee (f := 18) rfl ?_); refine goesL_ (some 61) rfl rfl Try.func18 (by kernel_rfl) rfl #[.agg #[.string t943, .int .i64 t944, .slice Ao83 t945.length co83, .int .i64 t948, .slice Ao84 t949.length co84], .int .i64 a1] rfl (by (try simp only [List.map_toArray, List.map_cons, List.map_nil]); first | done | rfl | (simp only [List.length_drop, List.length_take]; rfl)) ?_; (with_reducible refine (impl_NextBlocks.calls t943 t944 _ _ t945 t948 _ _ t949 a1 t952 _ ?side1 ?side2 ?side3 ?side4 A53.out).mono ?_); (case side1 => repeat (first | exact (Kd.R_reads' HO947.out).2.2 | (with_reducible refine Kd.C_alloc ?_ _) | (with_reducible refine Kd.C_drewN ?_ _) | (with_reducible refine Kd.C_drew ?_))); (case side2 => exact (Kd.R_reads' HO947.out).2.1); (case side3 => repeat (first | exact (Kd.R_reads' HO951.out).2.2 | (with_reducible refine Kd.C_alloc ?_ _) | (with_reducible refine Kd.C_drewN ?_ _) | (with_reducible refine Kd.C_drew ?_))); (case side4 => exact (Kd.R_reads' HO951.out).2.1); rintro e w85 ⟨v953, rfl, ho0, hb⟩; refine ⟨_, rfl, ?_⟩; have n0_ := Aside0.mk (Kd.R_elder' (by (with_reducible repeat (first | apply Kd.R_alloc | apply Kd.R_drewN | apply Kd.R_drew)); exact HO_6.out) (Kd.R_base ho0) hb); have n1_ := Aside0.mk (Kd.R_elder' (by (with_reducible repeat (first | apply Kd.R_alloc | apply Kd.R_drewN | apply Kd.R_drew)); exact HO_8.out) (Kd.R_base ho0) hb); have n2_ := Aside0.mk (Kd.R_elder' (by (with_reducible repeat (first | apply Kd.R_alloc | apply Kd.R_drewN | apply Kd.R_drew)); exact HO947.out) (Kd.R_base ho0) hb); have n3_ := Aside0.mk (Kd.R_elder' (by (with_reducible repeat (first | apply Kd.R_alloc | apply Kd.R_drewN | apply Kd.R_drew)); exact HO951.out) (Kd.R_base ho0) hb); have n4_ := Aside0.mk (Kd.R_lower (Kd.R_new' (Kd.R_new' (Kd.R_new' ho0 (Kd.R_lt (by (with_reducible repeat (first | apply Kd.R_alloc | apply Kd.R_drewN | apply Kd.R_drew)); exact HO_6.out))) (Kd.R_lt (by (with_reducible repeat (first | apply Kd.R_alloc | apply Kd.R_drewN | apply Kd.R_drew)); exact HO_8.out))) (Kd.R_lt (by (with_reducible repeat (first | apply Kd.R_alloc | apply Kd.R_drewN | apply Kd.R_drew)); exact HO947.out))) (below_size (by repeat (first | (with_reducible first | exact HB.out | apply below_alloc | apply pw_below_drewN | apply below_drew1 | refine below_set ?_ GE900.out) | exact HB.out)))); have n5_ := Aside0.mk (blk_below (g := gb900) (o := .cells #[.string a0_0, .int .i64 a0_1, .slice A0_2 l0_2.length c0_2, .int .i64 a0_3, .slice A0_4 l0_4.length c0_4] 25 (0, 0)) (by (with_reducible repeat (first | refine blk_drewN ?_ _ | refine blk_drew ?_ | refine blk_alloc ?_ _)); exact BK900.out) hb); have n6_ := Aside0.mk (below_step (by repeat (first | (with_reducible first | exact HB.out | apply below_alloc | apply pw_below_drewN | apply below_drew1 | refine below_set ?_ GE900.out) | exact HB.out)) hb); clear HO_6; clear HO_8; clear HO947; clear HO951; clear BK900; clear HB; have HO_6 := n0_; have HO_8 := n1_; have HO947 := n2_; have HO951 := n3_; have HO954 := n4_; have BK900 := n5_; have HB := n6_; clear n0_ n1_ n2_ n3_ n4_ n5_ n6_; (try clear hb); (try clear hb2); (try clear hk); (try clear hi); (try clear ho0); obtain ⟨Ao86, co86, eo86⟩ := Kd.R_slice HO954.out; subst eo86) | ((with_reducible refine gate_callee (f := 19) rfl ?_); refine goesL_ (some 64) rfl rfl Try.func19 (by kernel_rfl) rfl #[.slice Ao86 t952.length co86, .slice Ao36 t911.length co36] rfl (by (try simp only [List.map_toArray, List.map_cons, List.map_nil]); first | done | rfl | (simp only [List.length_drop, List.length_take]; rfl)) ?_; (with_reducible refine (laws_eqInt64S.calls kj17 _ _ t952 _ _ t911 false _ ?side1 ?side2 ?side3 ?side4 A54.out).mono ?_); (case side1 => repeat (first | exact (Kd.R_reads' HO954.out).2.2 | (with_reducible refine Kd.C_alloc ?_ _) | (with_reducible refine Kd.C_drewN ?_ _) | (with_reducible refine Kd.C_drew ?_))); (case side2 => exact (Kd.R_reads' HO954.out).2.1); (case side3 => repeat (first | exact (Kd.R_reads' HO_6.out).2.2 | (with_reducible refine Kd.C_alloc ?_ _) | (with_reducible refine Kd.C_drewN ?_ _) | (with_reducible refine Kd.C_drew ?_))); (case side4 => exact (Kd.R_reads' HO_6.out).2.1); rintro e w' ⟨rfl, ⟨nd, rfl⟩⟩; refine ⟨_, rfl, ?_⟩))
                    go_ret
                    exact ⟨by first | rfl | (simp [errW_none, errW_some] <;> rfl) | (simp [*, errW_none, errW_some] <;> rfl), by repeat (first | (with_reducible first | exact HB.out | apply below_alloc | apply pw_below_drewN | apply below_drew1 | refine below_set ?_ GE900.out) | exact HB.out)⟩
                · rw [if_neg c51] at H
                  have c51b0 : (t942 == t940) = false := beq_eq_false_iff_ne.mpr c51
                  have c51b1 : (t942 != t940) = true := bne_iff_ne.mpr c51
                  obtain rfl := Option.some.inj H
                  go_wp2_with (first | ((with_reducible refine gate_callee (f := 21) rfl ?_); refine goesL_ (some 49) rfl rfl Try.func21 (by kernel_rfl) rfl #[.slice Ao35 t924.length co35, .int .i64 1] rfl (by (try simp only [List.map_toArray, List.map_cons, List.map_nil]); first | done | rfl | (simp only [List.length_drop, List.length_take]; rfl)) ?_; (with_reducible refine (laws_markInt64S.calls kj17 (fun k_ => some k_ = (.slice Ao35 t924.length co35 : Value).ownBlock) (.slice Ao35 t924.length co35) t924 1 t940 t941 w _ ?side1 ?side2 A47.out).mono ?_); (case side1 => repeat (first | (with_reducible first | exact HB.out | apply below_alloc | apply pw_below_drewN | apply below_drew1 | refine below_set ?_ GE900.out) | exact HB.out)); (case side2 => exact Kd.R_tight rfl HO_8.out); rintro e w87 ⟨rfl, hy0, hb, hkp⟩; refine ⟨_, rfl, ?_⟩; have n0_ := Aside0.mk (Kd.R_mono (ok' := fun k_ => some k_ ≠ (.slice Ao35 t924.length co35 : Value).ownBlock) (Kd.R_keptB (HO_6.out) hkp (fun k_ hk_ hs_ => (hk_) hs_)) (fun k_ hk_ => hk_.1)); have n1_ := Aside0.mk (Kd.R_reok rfl hy0 (fun k_ e_ => HO_8.out.1 k_ e_)); have n2_ := Aside0.mk (blk_kept (by (with_reducible repeat (first | refine blk_drewN ?_ _ | refine blk_drew ?_ | refine blk_alloc ?_ _)); exact BK900.out) hkp (fun hs_ => (fun e_ => (Kd.R_ne HO_8.out BK900.out (by decide)) e_) hs_)); have n3_ := Aside0.mk (hb); clear HO_6; clear HO_8; clear BK900; clear HB; have HO_6 := n0_; have HO_8 := n1_; have BK900 := n2_; have HB := n3_; clear n0_ n1_ n2_ n3_; (try clear hb); (try clear hkp); (try clear hy0)) | ((with_reducible refine gate_callee (f := 22) rfl ?_); refine goesL_ (some 52) rfl rfl Try.func22 (by kernel_rfl) rfl #[.slice Ao35 t941.length co35, .int .i64 1] rfl (by (try simp only [List.map_toArray, List.map_cons, List.map_nil]); first | done | (rw [show t941.length = t924.length from (Kd.R_reads' HO_8.out).1.symm] <;> rfl) | rfl | (simp only [List.length_drop, List.length_take]; rfl)) ?_; (with_reducible refine (laws_heldInt64S.calls kj17 _ _ t941 1 t942 _ ?side1 ?side2 A48.out).mono ?_); (case side1 => repeat (first | exact (Kd.R_reads' HO_8.out).2.2 | (with_reducible refine Kd.C_alloc ?_ _) | (with_reducible refine Kd.C_drewN ?_ _) | (with_reducible refine Kd.C_drew ?_))); (case side2 => rw [show t941.length = t924.length from (Kd.R_reads' HO_8.out).1.symm]; exact (Kd.R_reads' HO_8.out).2.1); rintro e w' ⟨rfl, ⟨nd, rfl⟩⟩; refine ⟨_, rfl, ?_⟩))
                  go_ret
                  exact ⟨by first | rfl | (simp [errW_none, errW_some] <;> rfl) | (simp [*, errW_none, errW_some] <;> rfl), by repeat (first | (with_reducible first | exact HB.out | apply below_alloc | apply pw_below_drewN | apply below_drew1 | refine below_set ?_ GE900.out) | exact HB.out)⟩
      · replace c16 := Bool.eq_false_iff.mpr c16
        subst c16
        have H1 : (some false) = some r := by rw [if_neg (show ¬ (false = true) by decide)] at H; exact H
        clear H
        have H := H1
        clear H1
        obtain rfl := Option.some.inj H
        go_enter Try.func4, Try.ntmps4
        try go_wp2_with (first | ((with_reducible refine gate_dst (N := 2) rfl ?_); refine box_event ?hg (N := 2) ?hd (cs := #[.string a0_0, .int .i64 a0_1, .slice A0_2 l0_2.length c0_2, .int .i64 a0_3, .slice A0_4 l0_4.length c0_4]) (t := 25) ?hr ?_; (case hd => rfl); (case hg => rfl); (case hr => first | (go_simp; done) | (go_simp; rfl)); intro gb900 hg w88 hbox hb; have n0_ := Aside0.mk (below_step (by repeat (first | (with_reducible first | exact HB.out | apply below_alloc | apply pw_below_drewN | apply below_drew1) | exact HB.out)) hb); have n1_ := Aside0.mk (hbox); have n2_ := Aside0.mk ((by rw [hg]; exact (below_size (by repeat (first | (with_reducible first | exact HB.out | apply below_alloc | apply pw_below_drewN | apply below_drew1) | exact HB.out))) : w.heap.size ≤ gb900)); have n3_ := Aside0.mk ((by rw [hg]; exact (below_size (by repeat (first | (with_reducible first | exact HB.out | apply below_alloc | apply pw_below_drewN | apply below_drew1) | exact HB.out))) : w.heap.size ≤ gb900)); clear HB; have HB := n0_; have BK900 := n1_; have GW900 := n2_; have GE900 := n3_; clear n0_ n1_ n2_ n3_; clear hb hbox hg; have hcz89_0 : w88.cell? ⟨gb900, 0, none⟩ = some (.string a0_0) := (blk_cell BK900.out 0).trans rfl; have hcz89_1 : w88.cell? ⟨gb900, 1, none⟩ = some (.int .i64 a0_1) := (blk_cell BK900.out 1).trans rfl; have hcz89_2 : w88.cell? ⟨gb900, 2, none⟩ = some (.slice A0_2 l0_2.length c0_2) := (blk_cell BK900.out 2).trans rfl; have hcz89_3 : w88.cell? ⟨gb900, 3, none⟩ = some (.int .i64 a0_3) := (blk_cell BK900.out 3).trans rfl; have hcz89_4 : w88.cell? ⟨gb900, 4, none⟩ = some (.slice A0_4 l0_4.length c0_4) := (blk_cell BK900.out 4).trans rfl; have hfz89_0 := blk_frozen BK900.out 0; have hfz89_1 := blk_frozen BK900.out 1; have hfz89_2 := blk_frozen BK900.out 2; have hfz89_3 := blk_frozen BK900.out 3; have hfz89_4 := blk_frozen BK900.out 4) | ((with_reducible refine gate_callee (f := 12) rfl ?_); refine goesL_ (some 15) rfl rfl Try.func12 (by kernel_rfl) rfl #[.agg #[.string a0_0, .int .i64 a0_1, .slice A0_2 l0_2.length c0_2, .int .i64 a0_3, .slice A0_4 l0_4.length c0_4], .int .i64 1048576] rfl (by (try simp only [List.map_toArray, List.map_cons, List.map_nil]); first | done | rfl | (simp only [List.length_drop, List.length_take]; rfl)) ?_; (with_reducible refine (laws_szFunc.calls k a0_0 a0_1 _ _ l0_2 a0_3 _ _ l0_4 1048576 t901 _ ?side1 ?side2 ?side3 ?side4 A3.out).mono ?_); (case side1 => repeat (first | exact (Kd.C_below HR0_2.out HB.out) | (with_reducible refine Kd.C_alloc ?_ _) | (with_reducible refine Kd.C_drewN ?_ _) | (with_reducible refine Kd.C_drew ?_))); (case side2 => exact HC0_2.out); (case side3 => repeat (first | exact (Kd.C_below HR0_4.out HB.out) | (with_reducible refine Kd.C_alloc ?_ _) | (with_reducible refine Kd.C_drewN ?_ _) | (with_reducible refine Kd.C_drew ?_))); (case side4 => exact HC0_4.out); rintro e w90 ⟨rfl, hb⟩; refine ⟨_, rfl, ?_⟩; have n0_ := Aside0.mk (blk_below (g := gb900) (o := .cells #[.string a0_0, .int .i64 a0_1, .slice A0_2 l0_2.length c0_2, .int .i64 a0_3, .slice A0_4 l0_4.length c0_4] 25 (0, 0)) (by (with_reducible repeat (first | refine blk_drewN ?_ _ | refine blk_drew ?_ | refine blk_alloc ?_ _)); exact BK900.out) hb); have n1_ := Aside0.mk (below_step (by repeat (first | (with_reducible first | exact HB.out | apply below_alloc | apply pw_below_drewN | apply below_drew1 | refine below_set ?_ GE900.out) | exact HB.out)) hb); clear BK900; clear HB; have BK900 := n0_; have HB := n1_; clear n0_ n1_; (try clear hb); (try clear hb2); (try clear hk); (try clear hi); have hcz91_0 : w90.cell? ⟨gb900, 0, none⟩ = some (.string a0_0) := (blk_cell BK900.out 0).trans rfl; have hcz91_1 : w90.cell? ⟨gb900, 1, none⟩ = some (.int .i64 a0_1) := (blk_cell BK900.out 1).trans rfl; have hcz91_2 : w90.cell? ⟨gb900, 2, none⟩ = some (.slice A0_2 l0_2.length c0_2) := (blk_cell BK900.out 2).trans rfl; have hcz91_3 : w90.cell? ⟨gb900, 3, none⟩ = some (.int .i64 a0_3) := (blk_cell BK900.out 3).trans rfl; have hcz91_4 : w90.cell? ⟨gb900, 4, none⟩ = some (.slice A0_4 l0_4.length c0_4) := (blk_cell BK900.out 4).trans rfl; have hfz91_0 := blk_frozen BK900.out 0; have hfz91_1 := blk_frozen BK900.out 1; have hfz91_2 := blk_frozen BK900.out 2; have hfz91_3 := blk_frozen BK900.out 3; have hfz91_4 := blk_frozen BK900.out 4) | ((with_reducible refine gate_callee (f := 14) rfl ?_); refine goesL_ (some 19) rfl rfl Try.func14 (by kernel_rfl) rfl #[.agg #[.string a0_0, .int .i64 a0_1, .slice A0_2 l0_2.length c0_2, .int .i64 a0_3, .slice A0_4 l0_4.length c0_4]] rfl (by (try simp only [List.map_toArray, List.map_cons, List.map_nil]); first | done | rfl | (simp only [List.length_drop, List.length_take]; rfl)) ?_; (with_reducible refine (laws_toFunc.calls k a0_0 a0_1 _ _ l0_2 a0_3 _ _ l0_4 t902 t903 t904 t907 t908 _ ?side1 ?side2 ?side3 ?side4 A8.out).mono ?_); (case side1 => repeat (first | exact (Kd.C_below HR0_2.out HB.out) | (with_reducible refine Kd.C_alloc ?_ _) | (with_reducible refine Kd.C_drewN ?_ _) | (with_reducible refine Kd.C_drew ?_))); (case side2 => exact HC0_2.out); (case side3 => repeat (first | exact (Kd.C_below HR0_4.out HB.out) | (with_reducible refine Kd.C_alloc ?_ _) | (with_reducible refine Kd.C_drewN ?_ _) | (with_reducible refine Kd.C_drew ?_))); (case side4 => exact HC0_4.out); rintro e w92 ⟨v905, v909, rfl, ho0, ho1, hb⟩; refine ⟨_, rfl, ?_⟩; have n0_ := Aside0.mk (Kd.R_lower ho0 (below_size (by repeat (first | (with_reducible first | exact HB.out | apply below_alloc | apply pw_below_drewN | apply below_drew1 | refine below_set ?_ GE900.out) | exact HB.out)))); have n1_ := Aside0.mk (Kd.R_lower ho1 (below_size (by repeat (first | (with_reducible first | exact HB.out | apply below_alloc | apply pw_below_drewN | apply below_drew1 | refine below_set ?_ GE900.out) | exact HB.out)))); have n2_ := Aside0.mk (blk_below (g := gb900) (o := .cells #[.string a0_0, .int .i64 a0_1, .slice A0_2 l0_2.length c0_2, .int .i64 a0_3, .slice A0_4 l0_4.length c0_4] 25 (0, 0)) (by (with_reducible repeat (first | refine blk_drewN ?_ _ | refine blk_drew ?_ | refine blk_alloc ?_ _)); exact BK900.out) hb); have n3_ := Aside0.mk (below_step (by repeat (first | (with_reducible first | exact HB.out | apply below_alloc | apply pw_below_drewN | apply below_drew1 | refine below_set ?_ GE900.out) | exact HB.out)) hb); clear BK900; clear HB; have HO906 := n0_; have HO910 := n1_; have BK900 := n2_; have HB := n3_; clear n0_ n1_ n2_ n3_; (try clear hb); (try clear hb2); (try clear hk); (try clear hi); (try clear ho0); (try clear ho1); obtain ⟨Ao93, co93, eo93⟩ := Kd.R_slice HO906.out; subst eo93; obtain ⟨Ao94, co94, eo94⟩ := Kd.R_slice HO910.out; subst eo94) | ((with_reducible refine gate_callee (f := 17) rfl ?_); refine goesL_ (some 21) rfl rfl Try.func17 (by kernel_rfl) rfl #[.agg #[.string t902, .int .i64 t903, .slice Ao93 t904.length co93, .int .i64 t907, .slice Ao94 t908.length co94], .int .i64 a1] rfl (by (try simp only [List.map_toArray, List.map_cons, List.map_nil]); first | done | rfl | (simp only [List.length_drop, List.length_take]; rfl)) ?_; (with_reducible refine (spec_NextBlocks.calls k t902 t903 _ _ t904 t907 _ _ t908 a1 t911 _ ?side1 ?side2 ?side3 ?side4 A9.out).mono ?_); (case side1 => repeat (first | exact (Kd.R_reads' HO906.out).2.2 | (with_reducible refine Kd.C_alloc ?_ _) | (with_reducible refine Kd.C_drewN ?_ _) | (with_reducible refine Kd.C_drew ?_))); (case side2 => exact (Kd.R_reads' HO906.out).2.1); (case side3 => repeat (first | exact (Kd.R_reads' HO910.out).2.2 | (with_reducible refine Kd.C_alloc ?_ _) | (with_reducible refine Kd.C_drewN ?_ _) | (with_reducible refine Kd.C_drew ?_))); (case side4 => exact (Kd.R_reads' HO910.out).2.1); rintro e w95 ⟨v912, rfl, ho0, hb⟩; refine ⟨_, rfl, ?_⟩; have n0_ := Aside0.mk (Kd.R_elder' (by (with_reducible repeat (first | apply Kd.R_alloc | apply Kd.R_drewN | apply Kd.R_drew)); exact HO906.out) (Kd.R_base ho0) hb); have n1_ := Aside0.mk (Kd.R_elder' (by (with_reducible repeat (first | apply Kd.R_alloc | apply Kd.R_drewN | apply Kd.R_drew)); exact HO910.out) (Kd.R_base ho0) hb); have n2_ := Aside0.mk (Kd.R_lower (Kd.R_new' ho0 (Kd.R_lt (by (with_reducible repeat (first | apply Kd.R_alloc | apply Kd.R_drewN | apply Kd.R_drew)); exact HO906.out))) (below_size (by repeat (first | (with_reducible first | exact HB.out | apply below_alloc | apply pw_below_drewN | apply below_drew1 | refine below_set ?_ GE900.out) | exact HB.out)))); have n3_ := Aside0.mk (blk_below (g := gb900) (o := .cells #[.string a0_0, .int .i64 a0_1, .slice A0_2 l0_2.length c0_2, .int .i64 a0_3, .slice A0_4 l0_4.length c0_4] 25 (0, 0)) (by (with_reducible repeat (first | refine blk_drewN ?_ _ | refine blk_drew ?_ | refine blk_alloc ?_ _)); exact BK900.out) hb); have n4_ := Aside0.mk (below_step (by repeat (first | (with_reducible first | exact HB.out | apply below_alloc | apply pw_below_drewN | apply below_drew1 | refine below_set ?_ GE900.out) | exact HB.out)) hb); clear HO906; clear HO910; clear BK900; clear HB; have HO906 := n0_; have HO910 := n1_; have HO913 := n2_; have BK900 := n3_; have HB := n4_; clear n0_ n1_ n2_ n3_ n4_; (try clear hb); (try clear hb2); (try clear hk); (try clear hi); (try clear ho0); have hcz96_0 : w95.cell? ⟨gb900, 0, none⟩ = some (.string a0_0) := (blk_cell BK900.out 0).trans rfl; have hcz96_1 : w95.cell? ⟨gb900, 1, none⟩ = some (.int .i64 a0_1) := (blk_cell BK900.out 1).trans rfl; have hcz96_2 : w95.cell? ⟨gb900, 2, none⟩ = some (.slice A0_2 l0_2.length c0_2) := (blk_cell BK900.out 2).trans rfl; have hcz96_3 : w95.cell? ⟨gb900, 3, none⟩ = some (.int .i64 a0_3) := (blk_cell BK900.out 3).trans rfl; have hcz96_4 : w95.cell? ⟨gb900, 4, none⟩ = some (.slice A0_4 l0_4.length c0_4) := (blk_cell BK900.out 4).trans rfl; have hfz96_0 := blk_frozen BK900.out 0; have hfz96_1 := blk_frozen BK900.out 1; have hfz96_2 := blk_frozen BK900.out 2; have hfz96_3 := blk_frozen BK900.out 3; have hfz96_4 := blk_frozen BK900.out 4) | ((with_reducible refine gate_callee (f := 14) rfl ?_); refine goesL_ (some 23) rfl rfl Try.func14 (by kernel_rfl) rfl #[.agg #[.string a0_0, .int .i64 a0_1, .slice A0_2 l0_2.length c0_2, .int .i64 a0_3, .slice A0_4 l0_4.length c0_4]] rfl (by (try simp only [List.map_toArray, List.map_cons, List.map_nil]); first | done | rfl | (simp only [List.length_drop, List.length_take]; rfl)) ?_; (with_reducible refine (laws_toFunc.calls k a0_0 a0_1 _ _ l0_2 a0_3 _ _ l0_4 t914 t915 t916 t919 t920 _ ?side1 ?side2 ?side3 ?side4 A10.out).mono ?_); (case side1 => repeat (first | exact (Kd.C_below HR0_2.out HB.out) | (with_reducible refine Kd.C_alloc ?_ _) | (with_reducible refine Kd.C_drewN ?_ _) | (with_reducible refine Kd.C_drew ?_))); (case side2 => exact HC0_2.out); (case side3 => repeat (first | exact (Kd.C_below HR0_4.out HB.out) | (with_reducible refine Kd.C_alloc ?_ _) | (with_reducible refine Kd.C_drewN ?_ _) | (with_reducible refine Kd.C_drew ?_))); (case side4 => exact HC0_4.out); rintro e w97 ⟨v917, v921, rfl, ho0, ho1, hb⟩; refine ⟨_, rfl, ?_⟩; have n0_ := Aside0.mk (Kd.R_elder' (by (with_reducible repeat (first | apply Kd.R_alloc | apply Kd.R_drewN | apply Kd.R_drew)); exact HO906.out) (Kd.R_base ho0) hb); have n1_ := Aside0.mk (Kd.R_mono (Kd.R_told (Kd.R_told (Kd.R_old (by (with_reducible repeat (first | apply Kd.R_alloc | apply Kd.R_drewN | apply Kd.R_drew)); exact HO910.out) hb) (Kd.R_base ho0)) (Kd.R_base ho1)) (fun _ h_ => h_.1)); have n2_ := Aside0.mk (Kd.R_elder' (by (with_reducible repeat (first | apply Kd.R_alloc | apply Kd.R_drewN | apply Kd.R_drew)); exact HO913.out) (Kd.R_base ho0) hb); have n3_ := Aside0.mk (Kd.R_lower (Kd.R_new' (Kd.R_new' ho0 (Kd.R_lt (by (with_reducible repeat (first | apply Kd.R_alloc | apply Kd.R_drewN | apply Kd.R_drew)); exact HO906.out))) (Kd.R_lt (by (with_reducible repeat (first | apply Kd.R_alloc | apply Kd.R_drewN | apply Kd.R_drew)); exact HO913.out))) (below_size (by repeat (first | (with_reducible first | exact HB.out | apply below_alloc | apply pw_below_drewN | apply below_drew1 | refine below_set ?_ GE900.out) | exact HB.out)))); have n4_ := Aside0.mk (Kd.R_lower (Kd.R_new' (Kd.R_new' (Kd.R_new' ho1 (Kd.R_lt (by (with_reducible repeat (first | apply Kd.R_alloc | apply Kd.R_drewN | apply Kd.R_drew)); exact HO906.out))) (Kd.R_lt (by (with_reducible repeat (first | apply Kd.R_alloc | apply Kd.R_drewN | apply Kd.R_drew)); exact HO910.out))) (Kd.R_lt (by (with_reducible repeat (first | apply Kd.R_alloc | apply Kd.R_drewN | apply Kd.R_drew)); exact HO913.out))) (below_size (by repeat (first | (with_reducible first | exact HB.out | apply below_alloc | apply pw_below_drewN | apply below_drew1 | refine below_set ?_ GE900.out) | exact HB.out)))); have n5_ := Aside0.mk (blk_below (g := gb900) (o := .cells #[.string a0_0, .int .i64 a0_1, .slice A0_2 l0_2.length c0_2, .int .i64 a0_3, .slice A0_4 l0_4.length c0_4] 25 (0, 0)) (by (with_reducible repeat (first | refine blk_drewN ?_ _ | refine blk_drew ?_ | refine blk_alloc ?_ _)); exact BK900.out) hb); have n6_ := Aside0.mk (below_step (by repeat (first | (with_reducible first | exact HB.out | apply below_alloc | apply pw_below_drewN | apply below_drew1 | refine below_set ?_ GE900.out) | exact HB.out)) hb); clear HO906; clear HO910; clear HO913; clear BK900; clear HB; have HO906 := n0_; have HO910 := n1_; have HO913 := n2_; have HO918 := n3_; have HO922 := n4_; have BK900 := n5_; have HB := n6_; clear n0_ n1_ n2_ n3_ n4_ n5_ n6_; (try clear hb); (try clear hb2); (try clear hk); (try clear hi); (try clear ho0); (try clear ho1)) | ((with_reducible refine gate_dst (N := 7) rfl ?_); refine box_event ?hg (N := 7) ?hd (cs := #[.string (⟨#[]⟩ : ByteArray), .int .i64 0, .slice none 0 0, .int .i64 0, .slice none 0 0]) (t := 30) ?hr ?_; (case hd => rfl); (case hg => rfl); (case hr => first | (go_simp; done) | (go_simp; rfl)); intro gb923 hg w98 hbox hb; have n0_ := Aside0.mk (Kd.R_below (by (with_reducible repeat (first | apply Kd.R_alloc | apply Kd.R_drewN | apply Kd.R_drew)); exact HO906.out) hb); have n1_ := Aside0.mk (Kd.R_below (by (with_reducible repeat (first | apply Kd.R_alloc | apply Kd.R_drewN | apply Kd.R_drew)); exact HO910.out) hb); have n2_ := Aside0.mk (Kd.R_below (by (with_reducible repeat (first | apply Kd.R_alloc | apply Kd.R_drewN | apply Kd.R_drew)); exact HO913.out) hb); have n3_ := Aside0.mk (Kd.R_below (by (with_reducible repeat (first | apply Kd.R_alloc | apply Kd.R_drewN | apply Kd.R_drew)); exact HO918.out) hb); have n4_ := Aside0.mk (Kd.R_below (by (with_reducible repeat (first | apply Kd.R_alloc | apply Kd.R_drewN | apply Kd.R_drew)); exact HO922.out) hb); have n5_ := Aside0.mk (blk_below (g := gb900) (o := .cells #[.string a0_0, .int .i64 a0_1, .slice A0_2 l0_2.length c0_2, .int .i64 a0_3, .slice A0_4 l0_4.length c0_4] 25 (0, 0)) (by (with_reducible repeat (first | refine blk_drewN ?_ _ | refine blk_drew ?_ | refine blk_alloc ?_ _)); exact BK900.out) hb); have n6_ := Aside0.mk (below_step (by repeat (first | (with_reducible first | exact HB.out | apply below_alloc | apply pw_below_drewN | apply below_drew1 | refine below_set ?_ GE900.out) | exact HB.out)) hb); have n7_ := Aside0.mk (hbox); have n8_ := Aside0.mk ((by rw [hg]; exact (below_size (by repeat (first | (with_reducible first | exact HB.out | apply below_alloc | apply pw_below_drewN | apply below_drew1 | refine below_set ?_ GE900.out) | exact HB.out))) : w.heap.size ≤ gb923)); have n9_ := Aside0.mk ((by rw [hg]; exact (below_size (by repeat (first | (with_reducible first | exact HB.out | apply below_alloc | apply pw_below_drewN | apply below_drew1 | refine below_set ?_ GE900.out) | exact HB.out))) : w.heap.size ≤ gb923)); have n10_ := Aside0.mk ((by rw [hg]; exact Nat.ne_of_lt (blk_lt (g := gb900) (o := .cells #[.string a0_0, .int .i64 a0_1, .slice A0_2 l0_2.length c0_2, .int .i64 a0_3, .slice A0_4 l0_4.length c0_4] 25 (0, 0)) (by (with_reducible repeat (first | refine blk_drewN ?_ _ | refine blk_drew ?_ | refine blk_alloc ?_ _)); exact BK900.out)) : gb900 ≠ gb923)); have n11_ := Aside0.mk ((by rw [hg]; exact Nat.ne_of_gt (blk_lt (g := gb900) (o := .cells #[.string a0_0, .int .i64 a0_1, .slice A0_2 l0_2.length c0_2, .int .i64 a0_3, .slice A0_4 l0_4.length c0_4] 25 (0, 0)) (by (with_reducible repeat (first | refine blk_drewN ?_ _ | refine blk_drew ?_ | refine blk_alloc ?_ _)); exact BK900.out)) : gb923 ≠ gb900)); clear HO906; clear HO910; clear HO913; clear HO918; clear HO922; clear BK900; clear HB; have HO906 := n0_; have HO910 := n1_; have HO913 := n2_; have HO918 := n3_; have HO922 := n4_; have BK900 := n5_; have HB := n6_; have BK923 := n7_; have GW923 := n8_; have GE923 := n9_; have NB900_923 := n10_; have NB923_900 := n11_; clear n0_ n1_ n2_ n3_ n4_ n5_ n6_ n7_ n8_ n9_ n10_ n11_; clear hb hbox hg; have hnb99 := NB923_900.out; have hnc99 := NB900_923.out; have hcz100_0 : w98.cell? ⟨gb923, 0, none⟩ = some (.string (⟨#[]⟩ : ByteArray)) := (blk_cell BK923.out 0).trans rfl; have hcz100_1 : w98.cell? ⟨gb923, 1, none⟩ = some (.int .i64 0) := (blk_cell BK923.out 1).trans rfl; have hcz100_2 : w98.cell? ⟨gb923, 2, none⟩ = some (.slice none 0 0) := (blk_cell BK923.out 2).trans rfl; have hcz100_3 : w98.cell? ⟨gb923, 3, none⟩ = some (.int .i64 0) := (blk_cell BK923.out 3).trans rfl; have hcz100_4 : w98.cell? ⟨gb923, 4, none⟩ = some (.slice none 0 0) := (blk_cell BK923.out 4).trans rfl; have hfz100_0 := blk_frozen BK923.out 0; have hfz100_1 := blk_frozen BK923.out 1; have hfz100_2 := blk_frozen BK923.out 2; have hfz100_3 := blk_frozen BK923.out 3; have hfz100_4 := blk_frozen BK923.out 4; obtain ⟨Ao101, co101, eo101⟩ := Kd.R_slice HO918.out; subst eo101; obtain ⟨Ao102, co102, eo102⟩ := Kd.R_slice HO922.out; subst eo102) | ((with_reducible refine gate_callee (f := 18) rfl ?_); refine goesL_ (some 26) rfl rfl Try.func18 (by kernel_rfl) rfl #[.agg #[.string t914, .int .i64 t915, .slice Ao101 t916.length co101, .int .i64 t919, .slice Ao102 t920.length co102], .int .i64 a1] rfl (by (try simp only [List.map_toArray, List.map_cons, List.map_nil]); first | done | rfl | (simp only [List.length_drop, List.length_take]; rfl)) ?_; (with_reducible refine (impl_NextBlocks.calls t914 t915 _ _ t916 t919 _ _ t920 a1 t924 _ ?side1 ?side2 ?side3 ?side4 A11.out).mono ?_); (case side1 => refine (Kd.R_reads' (e := 2) (base := w.heap.size) (ok := fun k_ => ((True ∧ some k_ ≠ (.slice Ao93 t904.length co93 : Value).ownBlock) ∧ some k_ ≠ (v912 : Value).ownBlock)) (n := t916.length) (c := co101) ?_).2.2; exact (by (with_reducible repeat (first | apply Kd.R_alloc | apply Kd.R_drewN | apply Kd.R_drew)); exact (Kd.R_mono (Kd.R_far (p := ⟨gb923, 4, none⟩) (Kd.R_far (p := ⟨gb923, 3, none⟩) (Kd.R_far (p := ⟨gb923, 2, none⟩) (Kd.R_far (p := ⟨gb923, 1, none⟩) (Kd.R_far (p := ⟨gb923, 0, none⟩) (Kd.R_types HO918.out BK923.out (by decide)) (fun _ hk => hk.2) (.string t914)) (fun _ hk => hk.2) (.int .i64 t915)) (fun _ hk => hk.2) (.slice Ao101 t916.length co101)) (fun _ hk => hk.2) (.int .i64 t919)) (fun _ hk => hk.2) (.slice Ao102 t920.length co102)) (fun _ h_ => h_.1)))); (case side2 => exact (Kd.R_reads' HO918.out).2.1); (case side3 => refine (Kd.R_reads' (e := 62) (base := w.heap.size) (ok := fun k_ => (((some k_ ≠ (.slice Ao101 t916.length co101 : Value).ownBlock ∧ some k_ ≠ (.slice Ao93 t904.length co93 : Value).ownBlock) ∧ some k_ ≠ (.slice Ao94 t908.length co94 : Value).ownBlock) ∧ some k_ ≠ (v912 : Value).ownBlock)) (n := t920.length) (c := co102) ?_).2.2; exact (by (with_reducible repeat (first | apply Kd.R_alloc | apply Kd.R_drewN | apply Kd.R_drew)); exact (Kd.R_mono (Kd.R_far (p := ⟨gb923, 4, none⟩) (Kd.R_far (p := ⟨gb923, 3, none⟩) (Kd.R_far (p := ⟨gb923, 2, none⟩) (Kd.R_far (p := ⟨gb923, 1, none⟩) (Kd.R_far (p := ⟨gb923, 0, none⟩) (Kd.R_types HO922.out BK923.out (by decide)) (fun _ hk => hk.2) (.string t914)) (fun _ hk => hk.2) (.int .i64 t915)) (fun _ hk => hk.2) (.slice Ao101 t916.length co101)) (fun _ hk => hk.2) (.int .i64 t919)) (fun _ hk => hk.2) (.slice Ao102 t920.length co102)) (fun _ h_ => h_.1)))); (case side4 => exact (Kd.R_reads' HO922.out).2.1); rintro e w103 ⟨v925, rfl, ho0, hb⟩; refine ⟨_, rfl, ?_⟩; have n0_ := Aside0.mk (Kd.R_elder' (by (with_reducible repeat (first | apply Kd.R_alloc | apply Kd.R_drewN | apply Kd.R_drew)); exact (Kd.R_mono (Kd.R_far (p := ⟨gb923, 4, none⟩) (Kd.R_far (p := ⟨gb923, 3, none⟩) (Kd.R_far (p := ⟨gb923, 2, none⟩) (Kd.R_far (p := ⟨gb923, 1, none⟩) (Kd.R_far (p := ⟨gb923, 0, none⟩) (Kd.R_types HO906.out BK923.out (by decide)) (fun _ hk => hk.2) (.string t914)) (fun _ hk => hk.2) (.int .i64 t915)) (fun _ hk => hk.2) (.slice Ao101 t916.length co101)) (fun _ hk => hk.2) (.int .i64 t919)) (fun _ hk => hk.2) (.slice Ao102 t920.length co102)) (fun _ h_ => h_.1))) (Kd.R_base ho0) hb); have n1_ := Aside0.mk (Kd.R_elder' (by (with_reducible repeat (first | apply Kd.R_alloc | apply Kd.R_drewN | apply Kd.R_drew)); exact (Kd.R_mono (Kd.R_far (p := ⟨gb923, 4, none⟩) (Kd.R_far (p := ⟨gb923, 3, none⟩) (Kd.R_far (p := ⟨gb923, 2, none⟩) (Kd.R_far (p := ⟨gb923, 1, none⟩) (Kd.R_far (p := ⟨gb923, 0, none⟩) (Kd.R_types HO910.out BK923.out (by decide)) (fun _ hk => hk.2) (.string t914)) (fun _ hk => hk.2) (.int .i64 t915)) (fun _ hk => hk.2) (.slice Ao101 t916.length co101)) (fun _ hk => hk.2) (.int .i64 t919)) (fun _ hk => hk.2) (.slice Ao102 t920.length co102)) (fun _ h_ => h_.1))) (Kd.R_base ho0) hb); have n2_ := Aside0.mk (Kd.R_elder' (by (with_reducible repeat (first | apply Kd.R_alloc | apply Kd.R_drewN | apply Kd.R_drew)); exact (Kd.R_mono (Kd.R_far (p := ⟨gb923, 4, none⟩) (Kd.R_far (p := ⟨gb923, 3, none⟩) (Kd.R_far (p := ⟨gb923, 2, none⟩) (Kd.R_far (p := ⟨gb923, 1, none⟩) (Kd.R_far (p := ⟨gb923, 0, none⟩) (Kd.R_types HO913.out BK923.out (by decide)) (fun _ hk => hk.2) (.string t914)) (fun _ hk => hk.2) (.int .i64 t915)) (fun _ hk => hk.2) (.slice Ao101 t916.length co101)) (fun _ hk => hk.2) (.int .i64 t919)) (fun _ hk => hk.2) (.slice Ao102 t920.length co102)) (fun _ h_ => h_.1))) (Kd.R_base ho0) hb); have n3_ := Aside0.mk (Kd.R_elder' (by (with_reducible repeat (first | apply Kd.R_alloc | apply Kd.R_drewN | apply Kd.R_drew)); exact (Kd.R_mono (Kd.R_far (p := ⟨gb923, 4, none⟩) (Kd.R_far (p := ⟨gb923, 3, none⟩) (Kd.R_far (p := ⟨gb923, 2, none⟩) (Kd.R_far (p := ⟨gb923, 1, none⟩) (Kd.R_far (p := ⟨gb923, 0, none⟩) (Kd.R_types HO918.out BK923.out (by decide)) (fun _ hk => hk.2) (.string t914)) (fun _ hk => hk.2) (.int .i64 t915)) (fun _ hk => hk.2) (.slice Ao101 t916.length co101)) (fun _ hk => hk.2) (.int .i64 t919)) (fun _ hk => hk.2) (.slice Ao102 t920.length co102)) (fun _ h_ => h_.1))) (Kd.R_base ho0) hb); have n4_ := Aside0.mk (Kd.R_elder' (by (with_reducible repeat (first | apply Kd.R_alloc | apply Kd.R_drewN | apply Kd.R_drew)); exact (Kd.R_mono (Kd.R_far (p := ⟨gb923, 4, none⟩) (Kd.R_far (p := ⟨gb923, 3, none⟩) (Kd.R_far (p := ⟨gb923, 2, none⟩) (Kd.R_far (p := ⟨gb923, 1, none⟩) (Kd.R_far (p := ⟨gb923, 0, none⟩) (Kd.R_types HO922.out BK923.out (by decide)) (fun _ hk => hk.2) (.string t914)) (fun _ hk => hk.2) (.int .i64 t915)) (fun _ hk => hk.2) (.slice Ao101 t916.length co101)) (fun _ hk => hk.2) (.int .i64 t919)) (fun _ hk => hk.2) (.slice Ao102 t920.length co102)) (fun _ h_ => h_.1))) (Kd.R_base ho0) hb); have n5_ := Aside0.mk (Kd.R_lower (Kd.R_new' (Kd.R_new' (Kd.R_new' ho0 (Kd.R_lt (by (with_reducible repeat (first | apply Kd.R_alloc | apply Kd.R_drewN | apply Kd.R_drew)); exact (Kd.R_mono (Kd.R_far (p := ⟨gb923, 4, none⟩) (Kd.R_far (p := ⟨gb923, 3, none⟩) (Kd.R_far (p := ⟨gb923, 2, none⟩) (Kd.R_far (p := ⟨gb923, 1, none⟩) (Kd.R_far (p := ⟨gb923, 0, none⟩) (Kd.R_types HO906.out BK923.out (by decide)) (fun _ hk => hk.2) (.string t914)) (fun _ hk => hk.2) (.int .i64 t915)) (fun _ hk => hk.2) (.slice Ao101 t916.length co101)) (fun _ hk => hk.2) (.int .i64 t919)) (fun _ hk => hk.2) (.slice Ao102 t920.length co102)) (fun _ h_ => h_.1))))) (Kd.R_lt (by (with_reducible repeat (first | apply Kd.R_alloc | apply Kd.R_drewN | apply Kd.R_drew)); exact (Kd.R_mono (Kd.R_far (p := ⟨gb923, 4, none⟩) (Kd.R_far (p := ⟨gb923, 3, none⟩) (Kd.R_far (p := ⟨gb923, 2, none⟩) (Kd.R_far (p := ⟨gb923, 1, none⟩) (Kd.R_far (p := ⟨gb923, 0, none⟩) (Kd.R_types HO913.out BK923.out (by decide)) (fun _ hk => hk.2) (.string t914)) (fun _ hk => hk.2) (.int .i64 t915)) (fun _ hk => hk.2) (.slice Ao101 t916.length co101)) (fun _ hk => hk.2) (.int .i64 t919)) (fun _ hk => hk.2) (.slice Ao102 t920.length co102)) (fun _ h_ => h_.1))))) (Kd.R_lt (by (with_reducible repeat (first | apply Kd.R_alloc | apply Kd.R_drewN | apply Kd.R_drew)); exact (Kd.R_mono (Kd.R_far (p := ⟨gb923, 4, none⟩) (Kd.R_far (p := ⟨gb923, 3, none⟩) (Kd.R_far (p := ⟨gb923, 2, none⟩) (Kd.R_far (p := ⟨gb923, 1, none⟩) (Kd.R_far (p := ⟨gb923, 0, none⟩) (Kd.R_types HO918.out BK923.out (by decide)) (fun _ hk => hk.2) (.string t914)) (fun _ hk => hk.2) (.int .i64 t915)) (fun _ hk => hk.2) (.slice Ao101 t916.length co101)) (fun _ hk => hk.2) (.int .i64 t919)) (fun _ hk => hk.2) (.slice Ao102 t920.length co102)) (fun _ h_ => h_.1))))) (below_size (by repeat (first | (with_reducible first | exact HB.out | apply below_alloc | apply pw_below_drewN | apply below_drew1 | refine below_set ?_ GE900.out | refine below_set ?_ GE923.out) | exact HB.out)))); have n6_ := Aside0.mk (blk_below (g := gb900) (o := .cells #[.string a0_0, .int .i64 a0_1, .slice A0_2 l0_2.length c0_2, .int .i64 a0_3, .slice A0_4 l0_4.length c0_4] 25 (0, 0)) (by (with_reducible repeat (first | refine blk_drewN ?_ _ | refine blk_drew ?_ | refine blk_alloc ?_ _)); refine blk_far ?_ NB900_923.out _; (with_reducible repeat (first | refine blk_drewN ?_ _ | refine blk_drew ?_ | refine blk_alloc ?_ _)); refine blk_far ?_ NB900_923.out _; (with_reducible repeat (first | refine blk_drewN ?_ _ | refine blk_drew ?_ | refine blk_alloc ?_ _)); refine blk_far ?_ NB900_923.out _; (with_reducible repeat (first | refine blk_drewN ?_ _ | refine blk_drew ?_ | refine blk_alloc ?_ _)); refine blk_far ?_ NB900_923.out _; (with_reducible repeat (first | refine blk_drewN ?_ _ | refine blk_drew ?_ | refine blk_alloc ?_ _)); refine blk_far ?_ NB900_923.out _; (with_reducible repeat (first | refine blk_drewN ?_ _ | refine blk_drew ?_ | refine blk_alloc ?_ _)); exact BK900.out) hb); have n7_ := Aside0.mk (blk_below (g := gb923) (o := .cells #[.string t914, .int .i64 t915, .slice Ao101 t916.length co101, .int .i64 t919, .slice Ao102 t920.length co102] 30 (0, 0)) (by (with_reducible repeat (first | refine blk_drewN ?_ _ | refine blk_drew ?_ | refine blk_alloc ?_ _)); refine blk_put (cs := #[.string t914, .int .i64 t915, .slice Ao101 t916.length co101, .int .i64 t919, .slice none 0 0]) ?_ 4 _ rfl; (with_reducible repeat (first | refine blk_drewN ?_ _ | refine blk_drew ?_ | refine blk_alloc ?_ _)); refine blk_put (cs := #[.string t914, .int .i64 t915, .slice Ao101 t916.length co101, .int .i64 0, .slice none 0 0]) ?_ 3 _ rfl; (with_reducible repeat (first | refine blk_drewN ?_ _ | refine blk_drew ?_ | refine blk_alloc ?_ _)); refine blk_put (cs := #[.string t914, .int .i64 t915, .slice none 0 0, .int .i64 0, .slice none 0 0]) ?_ 2 _ rfl; (with_reducible repeat (first | refine blk_drewN ?_ _ | refine blk_drew ?_ | refine blk_alloc ?_ _)); refine blk_put (cs := #[.string t914, .int .i64 0, .slice none 0 0, .int .i64 0, .slice none 0 0]) ?_ 1 _ rfl; (with_reducible repeat (first | refine blk_drewN ?_ _ | refine blk_drew ?_ | refine blk_alloc ?_ _)); refine blk_put (cs := #[.string (⟨#[]⟩ : ByteArray), .int .i64 0, .slice none 0 0, .int .i64 0, .slice none 0 0]) ?_ 0 _ rfl; (with_reducible repeat (first | refine blk_drewN ?_ _ | refine blk_drew ?_ | refine blk_alloc ?_ _)); exact BK923.out) hb); have n8_ := Aside0.mk (below_step (by repeat (first | (with_reducible first | exact HB.out | apply below_alloc | apply pw_below_drewN | apply below_drew1 | refine below_set ?_ GE900.out | refine below_set ?_ GE923.out) | exact HB.out)) hb); clear HO906; clear HO910; clear HO913; clear HO918; clear HO922; clear BK900; clear BK923; clear HB; have HO906 := n0_; have HO910 := n1_; have HO913 := n2_; have HO918 := n3_; have HO922 := n4_; have HO926 := n5_; have BK900 := n6_; have BK923 := n7_; have HB := n8_; clear n0_ n1_ n2_ n3_ n4_ n5_ n6_ n7_ n8_; (try clear hb); (try clear hb2); (try clear hk); (try clear hi); (try clear ho0); obtain ⟨Ao104, co104, eo104⟩ := Kd.R_slice HO926.out; subst eo104; obtain ⟨Ao105, co105, eo105⟩ := Kd.R_slice HO913.out; subst eo105) | ((with_reducible refine gate_callee (f := 19) rfl ?_); refine goesL_ (some 29) rfl rfl Try.func19 (by kernel_rfl) rfl #[.slice Ao104 t924.length co104, .slice Ao105 t911.length co105] rfl (by (try simp only [List.map_toArray, List.map_cons, List.map_nil]); first | done | rfl | (simp only [List.length_drop, List.length_take]; rfl)) ?_; (with_reducible refine (laws_eqInt64S.calls k _ _ t924 _ _ t911 true _ ?side1 ?side2 ?side3 ?side4 A12.out).mono ?_); (case side1 => repeat (first | exact (Kd.R_reads' HO926.out).2.2 | (with_reducible refine Kd.C_alloc ?_ _) | (with_reducible refine Kd.C_drewN ?_ _) | (with_reducible refine Kd.C_drew ?_))); (case side2 => exact (Kd.R_reads' HO926.out).2.1); (case side3 => repeat (first | exact (Kd.R_reads' HO913.out).2.2 | (with_reducible refine Kd.C_alloc ?_ _) | (with_reducible refine Kd.C_drewN ?_ _) | (with_reducible refine Kd.C_drew ?_))); (case side4 => exact (Kd.R_reads' HO913.out).2.1); rintro e w' ⟨rfl, ⟨nd, rfl⟩⟩; refine ⟨_, rfl, ?_⟩))
        (try (rw [drewN_self w103]; generalize hq_ : World.drewN w103 _ = w103; have n0_ : Aside0 (Kd.R (Kd.int .i64) 2 w103 w.heap.size (fun k_ => (((True ∧ some k_ ≠ (.slice Ao105 t911.length co105 : Value).ownBlock) ∧ some k_ ≠ (.slice Ao101 t916.length co101 : Value).ownBlock) ∧ some k_ ≠ (.slice Ao104 t924.length co104 : Value).ownBlock)) (.slice Ao93 t904.length co93) t904) := ⟨by rw [← hq_]; exact (by (with_reducible repeat (first | apply Kd.R_alloc | apply Kd.R_drewN | apply Kd.R_drew)); exact HO906.out)⟩; have n1_ : Aside0 (Kd.R k62 62 w103 w.heap.size (fun k_ => ((((some k_ ≠ (.slice Ao93 t904.length co93 : Value).ownBlock ∧ some k_ ≠ (.slice Ao105 t911.length co105 : Value).ownBlock) ∧ some k_ ≠ (.slice Ao101 t916.length co101 : Value).ownBlock) ∧ some k_ ≠ (.slice Ao102 t920.length co102 : Value).ownBlock) ∧ some k_ ≠ (.slice Ao104 t924.length co104 : Value).ownBlock)) (.slice Ao94 t908.length co94) t908) := ⟨by rw [← hq_]; exact (by (with_reducible repeat (first | apply Kd.R_alloc | apply Kd.R_drewN | apply Kd.R_drew)); exact HO910.out)⟩; have n2_ : Aside0 (Kd.R (Kd.int .i64) 2 w103 w.heap.size (fun k_ => (((True ∧ some k_ ≠ (.slice Ao93 t904.length co93 : Value).ownBlock) ∧ some k_ ≠ (.slice Ao101 t916.length co101 : Value).ownBlock) ∧ some k_ ≠ (.slice Ao104 t924.length co104 : Value).ownBlock)) (.slice Ao105 t911.length co105) t911) := ⟨by rw [← hq_]; exact (by (with_reducible repeat (first | apply Kd.R_alloc | apply Kd.R_drewN | apply Kd.R_drew)); exact HO913.out)⟩; have n3_ : Aside0 (Kd.R (Kd.int .i64) 2 w103 w.heap.size (fun k_ => (((True ∧ some k_ ≠ (.slice Ao93 t904.length co93 : Value).ownBlock) ∧ some k_ ≠ (.slice Ao105 t911.length co105 : Value).ownBlock) ∧ some k_ ≠ (.slice Ao104 t924.length co104 : Value).ownBlock)) (.slice Ao101 t916.length co101) t916) := ⟨by rw [← hq_]; exact (by (with_reducible repeat (first | apply Kd.R_alloc | apply Kd.R_drewN | apply Kd.R_drew)); exact HO918.out)⟩; have n4_ : Aside0 (Kd.R k62 62 w103 w.heap.size (fun k_ => ((((some k_ ≠ (.slice Ao101 t916.length co101 : Value).ownBlock ∧ some k_ ≠ (.slice Ao93 t904.length co93 : Value).ownBlock) ∧ some k_ ≠ (.slice Ao94 t908.length co94 : Value).ownBlock) ∧ some k_ ≠ (.slice Ao105 t911.length co105 : Value).ownBlock) ∧ some k_ ≠ (.slice Ao104 t924.length co104 : Value).ownBlock)) (.slice Ao102 t920.length co102) t920) := ⟨by rw [← hq_]; exact (by (with_reducible repeat (first | apply Kd.R_alloc | apply Kd.R_drewN | apply Kd.R_drew)); exact HO922.out)⟩; have n5_ : Aside0 (Kd.R (Kd.int .i64) 2 w103 w.heap.size (fun k_ => (((True ∧ some k_ ≠ (.slice Ao93 t904.length co93 : Value).ownBlock) ∧ some k_ ≠ (.slice Ao105 t911.length co105 : Value).ownBlock) ∧ some k_ ≠ (.slice Ao101 t916.length co101 : Value).ownBlock)) (.slice Ao104 t924.length co104) t924) := ⟨by rw [← hq_]; exact (by (with_reducible repeat (first | apply Kd.R_alloc | apply Kd.R_drewN | apply Kd.R_drew)); exact HO926.out)⟩; have n6_ : Aside0 (w103.heap[gb900]? = some (.cells #[.string a0_0, .int .i64 a0_1, .slice A0_2 l0_2.length c0_2, .int .i64 a0_3, .slice A0_4 l0_4.length c0_4] 25 (0, 0))) := ⟨by rw [← hq_]; exact (by (with_reducible repeat (first | refine blk_drewN ?_ _ | refine blk_drew ?_ | refine blk_alloc ?_ _)); exact BK900.out)⟩; have n7_ : Aside0 (w103.heap[gb923]? = some (.cells #[.string t914, .int .i64 t915, .slice Ao101 t916.length co101, .int .i64 t919, .slice Ao102 t920.length co102] 30 (0, 0))) := ⟨by rw [← hq_]; exact (by (with_reducible repeat (first | refine blk_drewN ?_ _ | refine blk_drew ?_ | refine blk_alloc ?_ _)); exact BK923.out)⟩; have n8_ : Aside0 (Below w.heap.size w w103) := ⟨by rw [← hq_]; exact (by repeat (first | (with_reducible first | exact HB.out | apply below_alloc | apply pw_below_drewN | apply below_drew1 | refine below_set ?_ GE900.out | refine below_set ?_ GE923.out) | exact HB.out))⟩; clear HO906 HO910 HO913 HO918 HO922 HO926 BK900 BK923 HB hq_; have HO906 := n0_; have HO910 := n1_; have HO913 := n2_; have HO918 := n3_; have HO922 := n4_; have HO926 := n5_; have BK900 := n6_; have BK923 := n7_; have HB := n8_; clear n0_ n1_ n2_ n3_ n4_ n5_ n6_ n7_ n8_))
        have n0_ := Aside0.mk (Kd.R_drew HO906.out)
        have n1_ := Aside0.mk (Kd.R_drew HO910.out)
        have n2_ := Aside0.mk (Kd.R_drew HO913.out)
        have n3_ := Aside0.mk (Kd.R_drew HO918.out)
        have n4_ := Aside0.mk (Kd.R_drew HO922.out)
        have n5_ := Aside0.mk (Kd.R_drew HO926.out)
        have n6_ := Aside0.mk (blk_drew BK900.out)
        have n7_ := Aside0.mk (blk_drew BK923.out)
        have n8_ := Aside0.mk (below_drew1 HB.out)
        clear HO906
        clear HO910
        clear HO913
        clear HO918
        clear HO922
        clear HO926
        clear BK900
        clear BK923
        clear HB
        have HO906 := n0_
        have HO910 := n1_
        have HO913 := n2_
        have HO918 := n3_
        have HO922 := n4_
        have HO926 := n5_
        have BK900 := n6_
        have BK923 := n7_
        have HB := n8_
        clear n0_ n1_ n2_ n3_ n4_ n5_ n6_ n7_ n8_
        refine start_ (n := 5) (S := fun w' => w'.cell? ⟨gb923, 0, none⟩ = some (.string t914) ∧ w'.cell? ⟨gb923, 1, none⟩ = some (.int .i64 t915) ∧ w'.cell? ⟨gb923, 2, none⟩ = some (.slice Ao101 t916.length co101) ∧ w'.cell? ⟨gb923, 3, none⟩ = some (.int .i64 t919) ∧ w'.cell? ⟨gb923, 4, none⟩ = some (.slice Ao102 t920.length co102) ∧ w'.cell? ⟨gb900, 0, none⟩ = some (.string a0_0) ∧ w'.cell? ⟨gb900, 1, none⟩ = some (.int .i64 a0_1) ∧ w'.cell? ⟨gb900, 2, none⟩ = some (.slice A0_2 l0_2.length c0_2) ∧ w'.cell? ⟨gb900, 3, none⟩ = some (.int .i64 a0_3) ∧ w'.cell? ⟨gb900, 4, none⟩ = some (.slice A0_4 l0_4.length c0_4)) (ds := []) #[false, false, false, false, false] (by kernel_rfl) rfl rfl ⟨(blk_cell BK923.out 0).trans rfl, (blk_cell BK923.out 1).trans rfl, (blk_cell BK923.out 2).trans rfl, (blk_cell BK923.out 3).trans rfl, (blk_cell BK923.out 4).trans rfl, (blk_cell BK900.out 0).trans rfl, (blk_cell BK900.out 1).trans rfl, (blk_cell BK900.out 2).trans rfl, (blk_cell BK900.out 3).trans rfl, (blk_cell BK900.out 4).trans rfl⟩ (fun hHeld => ?_)
        generalize w103.drew = w106 at HO906 HO910 HO913 HO918 HO922 HO926 BK900 BK923 HB hHeld ⊢
        refine take_ (i := 0) (N := some 31) (v := ?_) (a' := ?_) #[true, false, false, false, false] rfl rfl (by kernel_rfl) (fun _ _ _ h => h) (Or.inl ⟨by rfl, ?_⟩) hHeld ?_ ?_
        rotate_left
        · rintro w' ⟨s0, s1, s2, s3, s4, s5, s6, s7, s8, s9⟩
          go_simp
          with_reducible rfl
        rotate_left
        · simp only [Act.put, List.setIfInBounds_toArray, List.set_cons_zero, List.set_cons_succ, i64_w, i32_w]
          rfl
        refine take_ (i := 1) (N := some 32) (v := ?_) (a' := ?_) #[true, true, false, false, false] rfl rfl (by kernel_rfl) (fun _ _ _ h => h) (Or.inl ⟨by rfl, ?_⟩) hHeld ?_ ?_
        rotate_left
        · rintro w' ⟨s0, s1, s2, s3, s4, s5, s6, s7, s8, s9⟩
          go_simp
          with_reducible rfl
        rotate_left
        · simp only [Act.put, List.setIfInBounds_toArray, List.set_cons_zero, List.set_cons_succ, i64_w, i32_w]
          rfl
        refine one_ (i := 2) (N := some 33) #[true, true, true, false, false] rfl rfl (by kernel_rfl) (by decide) (fun K hK => ?_)
        refine goes_ Try.func14 (by kernel_rfl) rfl #[.agg #[.string a0_0, .int .i64 a0_1, .slice A0_2 l0_2.length c0_2, .int .i64 a0_3, .slice A0_4 l0_4.length c0_4]] (by rfl) rfl rfl (by (try simp only [List.map_toArray, List.map_cons, List.map_nil]); first | done | rfl | (simp only [List.length_drop, List.length_take]; rfl)) ?_
        with_reducible refine (laws_toFunc.calls k a0_0 a0_1 _ _ l0_2 a0_3 _ _ l0_4 t928 t929 t930 t933 t934 _ ?side1 ?side2 ?side3 ?side4 A14.out).mono ?_
        (case side1 => repeat (first | exact (Kd.C_below HR0_2.out HB.out) | (with_reducible refine Kd.C_alloc ?_ _) | (with_reducible refine Kd.C_drewN ?_ _) | (with_reducible refine Kd.C_drew ?_)))
        (case side2 => exact HC0_2.out)
        (case side3 => repeat (first | exact (Kd.C_below HR0_4.out HB.out) | (with_reducible refine Kd.C_alloc ?_ _) | (with_reducible refine Kd.C_drewN ?_ _) | (with_reducible refine Kd.C_drew ?_)))
        (case side4 => exact HC0_4.out)
        rintro e w107 ⟨v931, v935, rfl, ho0, ho1, hb⟩
        refine ⟨_, rfl, ?_⟩
        have n0_ := Aside0.mk (Kd.R_elder' (by (with_reducible repeat (first | apply Kd.R_alloc | apply Kd.R_drewN | apply Kd.R_drew)); exact HO906.out) (Kd.R_base ho0) hb)
        have n1_ := Aside0.mk (Kd.R_mono (Kd.R_told (Kd.R_told (Kd.R_old (by (with_reducible repeat (first | apply Kd.R_alloc | apply Kd.R_drewN | apply Kd.R_drew)); exact HO910.out) hb) (Kd.R_base ho0)) (Kd.R_base ho1)) (fun _ h_ => h_.1))
        have n2_ := Aside0.mk (Kd.R_elder' (by (with_reducible repeat (first | apply Kd.R_alloc | apply Kd.R_drewN | apply Kd.R_drew)); exact HO913.out) (Kd.R_base ho0) hb)
        have n3_ := Aside0.mk (Kd.R_elder' (by (with_reducible repeat (first | apply Kd.R_alloc | apply Kd.R_drewN | apply Kd.R_drew)); exact HO918.out) (Kd.R_base ho0) hb)
        have n4_ := Aside0.mk (Kd.R_mono (Kd.R_told (Kd.R_told (Kd.R_old (by (with_reducible repeat (first | apply Kd.R_alloc | apply Kd.R_drewN | apply Kd.R_drew)); exact HO922.out) hb) (Kd.R_base ho0)) (Kd.R_base ho1)) (fun _ h_ => h_.1))
        have n5_ := Aside0.mk (Kd.R_elder' (by (with_reducible repeat (first | apply Kd.R_alloc | apply Kd.R_drewN | apply Kd.R_drew)); exact HO926.out) (Kd.R_base ho0) hb)
        have n6_ := Aside0.mk (Kd.R_lower (Kd.R_new' (Kd.R_new' (Kd.R_new' (Kd.R_new' ho0 (Kd.R_lt (by (with_reducible repeat (first | apply Kd.R_alloc | apply Kd.R_drewN | apply Kd.R_drew)); exact HO906.out))) (Kd.R_lt (by (with_reducible repeat (first | apply Kd.R_alloc | apply Kd.R_drewN | apply Kd.R_drew)); exact HO913.out))) (Kd.R_lt (by (with_reducible repeat (first | apply Kd.R_alloc | apply Kd.R_drewN | apply Kd.R_drew)); exact HO918.out))) (Kd.R_lt (by (with_reducible repeat (first | apply Kd.R_alloc | apply Kd.R_drewN | apply Kd.R_drew)); exact HO926.out))) (below_size (by repeat (first | (with_reducible first | exact HB.out | apply below_alloc | apply pw_below_drewN | apply below_drew1 | refine below_set ?_ GE900.out | refine below_set ?_ GE923.out) | exact HB.out))))
        have n7_ := Aside0.mk (Kd.R_lower (Kd.R_new' (Kd.R_new' (Kd.R_new' (Kd.R_new' (Kd.R_new' (Kd.R_new' ho1 (Kd.R_lt (by (with_reducible repeat (first | apply Kd.R_alloc | apply Kd.R_drewN | apply Kd.R_drew)); exact HO906.out))) (Kd.R_lt (by (with_reducible repeat (first | apply Kd.R_alloc | apply Kd.R_drewN | apply Kd.R_drew)); exact HO910.out))) (Kd.R_lt (by (with_reducible repeat (first | apply Kd.R_alloc | apply Kd.R_drewN | apply Kd.R_drew)); exact HO913.out))) (Kd.R_lt (by (with_reducible repeat (first | apply Kd.R_alloc | apply Kd.R_drewN | apply Kd.R_drew)); exact HO918.out))) (Kd.R_lt (by (with_reducible repeat (first | apply Kd.R_alloc | apply Kd.R_drewN | apply Kd.R_drew)); exact HO922.out))) (Kd.R_lt (by (with_reducible repeat (first | apply Kd.R_alloc | apply Kd.R_drewN | apply Kd.R_drew)); exact HO926.out))) (below_size (by repeat (first | (with_reducible first | exact HB.out | apply below_alloc | apply pw_below_drewN | apply below_drew1 | refine below_set ?_ GE900.out | refine below_set ?_ GE923.out) | exact HB.out))))
        have n8_ := Aside0.mk (blk_below (g := gb900) (o := .cells #[.string a0_0, .int .i64 a0_1, .slice A0_2 l0_2.length c0_2, .int .i64 a0_3, .slice A0_4 l0_4.length c0_4] 25 (0, 0)) (by (with_reducible repeat (first | refine blk_drewN ?_ _ | refine blk_drew ?_ | refine blk_alloc ?_ _)); exact BK900.out) hb)
        have n9_ := Aside0.mk (blk_below (g := gb923) (o := .cells #[.string t914, .int .i64 t915, .slice Ao101 t916.length co101, .int .i64 t919, .slice Ao102 t920.length co102] 30 (0, 0)) (by (with_reducible repeat (first | refine blk_drewN ?_ _ | refine blk_drew ?_ | refine blk_alloc ?_ _)); exact BK923.out) hb)
        have n10_ := Aside0.mk (below_step (by repeat (first | (with_reducible first | exact HB.out | apply below_alloc | apply pw_below_drewN | apply below_drew1 | refine below_set ?_ GE900.out | refine below_set ?_ GE923.out) | exact HB.out)) hb)
        clear HO906
        clear HO910
        clear HO913
        clear HO918
        clear HO922
        clear HO926
        clear BK900
        clear BK923
        clear HB
        have HO906 := n0_
        have HO910 := n1_
        have HO913 := n2_
        have HO918 := n3_
        have HO922 := n4_
        have HO926 := n5_
        have HO932 := n6_
        have HO936 := n7_
        have BK900 := n8_
        have BK923 := n9_
        have HB := n10_
        clear n0_ n1_ n2_ n3_ n4_ n5_ n6_ n7_ n8_ n9_ n10_
        (try clear hb)
        (try clear hb2)
        (try clear hk)
        (try clear hi)
        (try clear ho0)
        (try clear ho1)
        obtain ⟨Ao108, co108, eo108⟩ := Kd.R_slice HO932.out
        (first | subst eo108 | (injection eo108 with f1_ f2_ f3_; have f4_ := f1_.symm; have f5_ := f3_.symm; clear f1_ f2_ f3_; subst f4_; subst f5_))
        obtain ⟨Ao109, co109, eo109⟩ := Kd.R_slice HO936.out
        (first | subst eo109 | (injection eo109 with f1_ f2_ f3_; have f4_ := f1_.symm; have f5_ := f3_.symm; clear f1_ f2_ f3_; subst f4_; subst f5_))
        refine hK.out _ _ ⟨(blk_cell BK923.out 0).trans rfl, (blk_cell BK923.out 1).trans rfl, (blk_cell BK923.out 2).trans rfl, (blk_cell BK923.out 3).trans rfl, (blk_cell BK923.out 4).trans rfl, (blk_cell BK900.out 0).trans rfl, (blk_cell BK900.out 1).trans rfl, (blk_cell BK900.out 2).trans rfl, (blk_cell BK900.out 3).trans rfl, (blk_cell BK900.out 4).trans rfl⟩ (fun hHeld => ?_)
        clear hK K
        refine norm_ (a' := ?_) ?_ ?_
        rotate_left
        · show Act.put _ (some 33) _ = _
          simp only [Act.put, List.setIfInBounds_toArray, List.set_cons_zero, List.set_cons_succ, i64_w, i32_w]
          rfl
        refine one_ (i := 3) (N := some 34) #[true, true, true, true, false] rfl rfl (by kernel_rfl) (by decide) (fun K hK => ?_)
        refine goes_ Try.func16 (by kernel_rfl) rfl #[.agg #[.string t914, .int .i64 t915, .slice Ao101 t916.length co101, .int .i64 t919, .slice Ao102 t920.length co102], .agg #[.string t928, .int .i64 t929, .slice Ao108 t930.length co108, .int .i64 t933, .slice Ao109 t934.length co109]] (by rfl) rfl rfl (by (try simp only [List.map_toArray, List.map_cons, List.map_nil]); first | done | rfl | (simp only [List.length_drop, List.length_take]; rfl)) ?_
        with_reducible refine (laws_eqFunc.calls k t914 t915 _ _ t916 t919 _ _ t920 t928 t929 _ _ t930 t933 _ _ t934 false _ ?side1 ?side2 ?side3 ?side4 ?side5 ?side6 ?side7 ?side8 A15.out).mono ?_
        (case side1 => repeat (first | exact (Kd.R_reads' HO918.out).2.2 | (with_reducible refine Kd.C_alloc ?_ _) | (with_reducible refine Kd.C_drewN ?_ _) | (with_reducible refine Kd.C_drew ?_)))
        (case side2 => exact (Kd.R_reads' HO918.out).2.1)
        (case side3 => repeat (first | exact (Kd.R_reads' HO922.out).2.2 | (with_reducible refine Kd.C_alloc ?_ _) | (with_reducible refine Kd.C_drewN ?_ _) | (with_reducible refine Kd.C_drew ?_)))
        (case side4 => exact (Kd.R_reads' HO922.out).2.1)
        (case side5 => repeat (first | exact (Kd.R_reads' HO932.out).2.2 | (with_reducible refine Kd.C_alloc ?_ _) | (with_reducible refine Kd.C_drewN ?_ _) | (with_reducible refine Kd.C_drew ?_)))
        (case side6 => exact (Kd.R_reads' HO932.out).2.1)
        (case side7 => repeat (first | exact (Kd.R_reads' HO936.out).2.2 | (with_reducible refine Kd.C_alloc ?_ _) | (with_reducible refine Kd.C_drewN ?_ _) | (with_reducible refine Kd.C_drew ?_)))
        (case side8 => exact (Kd.R_reads' HO936.out).2.1)
        rintro e w110 ⟨rfl, hb⟩
        refine ⟨_, rfl, ?_⟩
        have n0_ := Aside0.mk (Kd.R_below (by (with_reducible repeat (first | apply Kd.R_alloc | apply Kd.R_drewN | apply Kd.R_drew)); exact HO906.out) hb)
        have n1_ := Aside0.mk (Kd.R_below (by (with_reducible repeat (first | apply Kd.R_alloc | apply Kd.R_drewN | apply Kd.R_drew)); exact HO910.out) hb)
        have n2_ := Aside0.mk (Kd.R_below (by (with_reducible repeat (first | apply Kd.R_alloc | apply Kd.R_drewN | apply Kd.R_drew)); exact HO913.out) hb)
        have n3_ := Aside0.mk (Kd.R_below (by (with_reducible repeat (first | apply Kd.R_alloc | apply Kd.R_drewN | apply Kd.R_drew)); exact HO918.out) hb)
        have n4_ := Aside0.mk (Kd.R_below (by (with_reducible repeat (first | apply Kd.R_alloc | apply Kd.R_drewN | apply Kd.R_drew)); exact HO922.out) hb)
        have n5_ := Aside0.mk (Kd.R_below (by (with_reducible repeat (first | apply Kd.R_alloc | apply Kd.R_drewN | apply Kd.R_drew)); exact HO926.out) hb)
        have n6_ := Aside0.mk (Kd.R_below (by (with_reducible repeat (first | apply Kd.R_alloc | apply Kd.R_drewN | apply Kd.R_drew)); exact HO932.out) hb)
        have n7_ := Aside0.mk (Kd.R_below (by (with_reducible repeat (first | apply Kd.R_alloc | apply Kd.R_drewN | apply Kd.R_drew)); exact HO936.out) hb)
        have n8_ := Aside0.mk (blk_below (g := gb900) (o := .cells #[.string a0_0, .int .i64 a0_1, .slice A0_2 l0_2.length c0_2, .int .i64 a0_3, .slice A0_4 l0_4.length c0_4] 25 (0, 0)) (by (with_reducible repeat (first | refine blk_drewN ?_ _ | refine blk_drew ?_ | refine blk_alloc ?_ _)); exact BK900.out) hb)
        have n9_ := Aside0.mk (blk_below (g := gb923) (o := .cells #[.string t914, .int .i64 t915, .slice Ao101 t916.length co101, .int .i64 t919, .slice Ao102 t920.length co102] 30 (0, 0)) (by (with_reducible repeat (first | refine blk_drewN ?_ _ | refine blk_drew ?_ | refine blk_alloc ?_ _)); exact BK923.out) hb)
        have n10_ := Aside0.mk (below_step (by repeat (first | (with_reducible first | exact HB.out | apply below_alloc | apply pw_below_drewN | apply below_drew1 | refine below_set ?_ GE900.out | refine below_set ?_ GE923.out) | exact HB.out)) hb)
        clear HO906
        clear HO910
        clear HO913
        clear HO918
        clear HO922
        clear HO926
        clear HO932
        clear HO936
        clear BK900
        clear BK923
        clear HB
        have HO906 := n0_
        have HO910 := n1_
        have HO913 := n2_
        have HO918 := n3_
        have HO922 := n4_
        have HO926 := n5_
        have HO932 := n6_
        have HO936 := n7_
        have BK900 := n8_
        have BK923 := n9_
        have HB := n10_
        clear n0_ n1_ n2_ n3_ n4_ n5_ n6_ n7_ n8_ n9_ n10_
        (try clear hb)
        (try clear hb2)
        (try clear hk)
        (try clear hi)
        refine hK.out _ _ ⟨(blk_cell BK923.out 0).trans rfl, (blk_cell BK923.out 1).trans rfl, (blk_cell BK923.out 2).trans rfl, (blk_cell BK923.out 3).trans rfl, (blk_cell BK923.out 4).trans rfl, (blk_cell BK900.out 0).trans rfl, (blk_cell BK900.out 1).trans rfl, (blk_cell BK900.out 2).trans rfl, (blk_cell BK900.out 3).trans rfl, (blk_cell BK900.out 4).trans rfl⟩ (fun hHeld => ?_)
        clear hK K
        refine norm_ (a' := ?_) ?_ ?_
        rotate_left
        · show Act.put _ (some 34) _ = _
          simp only [Act.put, List.setIfInBounds_toArray, List.set_cons_zero, List.set_cons_succ, i64_w, i32_w]
          rfl
        refine pure_ (i := 4) (N := some 35) (v := ?_) (a' := ?_) #[true, true, true, true, true] rfl rfl (by kernel_rfl) (fun _ _ _ h => h) (Or.inl ⟨by rfl, ?_⟩) ?_ ?_
        rotate_left
        · intro w'
          go_simp
          with_reducible rfl
        rotate_left
        · simp only [Act.put, List.setIfInBounds_toArray, List.set_cons_zero, List.set_cons_succ, i64_w, i32_w]
          rfl
        refine done_ (by kernel_rfl) ?_
        try go_wp2
        go_ret
        exact ⟨by first | rfl | (simp [errW_none, errW_some] <;> rfl) | (simp [*, errW_none, errW_some] <;> rfl), by repeat (first | (with_reducible first | exact HB.out | apply below_alloc | apply pw_below_drewN | apply below_drew1 | refine below_set ?_ GE900.out | refine below_set ?_ GE923.out) | exact HB.out)⟩
    · replace c13 := Bool.eq_false_iff.mpr c13
      subst c13
      have H1 : (some false) = some r := by rw [if_neg (show ¬ (false = true) by decide)] at H; exact H
      clear H
      have H := H1
      clear H1
      obtain rfl := Option.some.inj H
      go_enter Try.func4, Try.ntmps4
      go_wp2_with (first | ((with_reducible refine gate_dst (N := 2) rfl ?_); refine box_event ?hg (N := 2) ?hd (cs := #[.string a0_0, .int .i64 a0_1, .slice A0_2 l0_2.length c0_2, .int .i64 a0_3, .slice A0_4 l0_4.length c0_4]) (t := 25) ?hr ?_; (case hd => rfl); (case hg => rfl); (case hr => first | (go_simp; done) | (go_simp; rfl)); intro gb900 hg w111 hbox hb; have n0_ := Aside0.mk (below_step (by repeat (first | (with_reducible first | exact HB.out | apply below_alloc | apply pw_below_drewN | apply below_drew1) | exact HB.out)) hb); have n1_ := Aside0.mk (hbox); have n2_ := Aside0.mk ((by rw [hg]; exact (below_size (by repeat (first | (with_reducible first | exact HB.out | apply below_alloc | apply pw_below_drewN | apply below_drew1) | exact HB.out))) : w.heap.size ≤ gb900)); have n3_ := Aside0.mk ((by rw [hg]; exact (below_size (by repeat (first | (with_reducible first | exact HB.out | apply below_alloc | apply pw_below_drewN | apply below_drew1) | exact HB.out))) : w.heap.size ≤ gb900)); clear HB; have HB := n0_; have BK900 := n1_; have GW900 := n2_; have GE900 := n3_; clear n0_ n1_ n2_ n3_; clear hb hbox hg; have hcz112_0 : w111.cell? ⟨gb900, 0, none⟩ = some (.string a0_0) := (blk_cell BK900.out 0).trans rfl; have hcz112_1 : w111.cell? ⟨gb900, 1, none⟩ = some (.int .i64 a0_1) := (blk_cell BK900.out 1).trans rfl; have hcz112_2 : w111.cell? ⟨gb900, 2, none⟩ = some (.slice A0_2 l0_2.length c0_2) := (blk_cell BK900.out 2).trans rfl; have hcz112_3 : w111.cell? ⟨gb900, 3, none⟩ = some (.int .i64 a0_3) := (blk_cell BK900.out 3).trans rfl; have hcz112_4 : w111.cell? ⟨gb900, 4, none⟩ = some (.slice A0_4 l0_4.length c0_4) := (blk_cell BK900.out 4).trans rfl; have hfz112_0 := blk_frozen BK900.out 0; have hfz112_1 := blk_frozen BK900.out 1; have hfz112_2 := blk_frozen BK900.out 2; have hfz112_3 := blk_frozen BK900.out 3; have hfz112_4 := blk_frozen BK900.out 4) | ((with_reducible refine gate_callee (f := 12) rfl ?_); refine goesL_ (some 15) rfl rfl Try.func12 (by kernel_rfl) rfl #[.agg #[.string a0_0, .int .i64 a0_1, .slice A0_2 l0_2.length c0_2, .int .i64 a0_3, .slice A0_4 l0_4.length c0_4], .int .i64 1048576] rfl (by (try simp only [List.map_toArray, List.map_cons, List.map_nil]); first | done | rfl | (simp only [List.length_drop, List.length_take]; rfl)) ?_; (with_reducible refine (laws_szFunc.calls k a0_0 a0_1 _ _ l0_2 a0_3 _ _ l0_4 1048576 t901 _ ?side1 ?side2 ?side3 ?side4 A3.out).mono ?_); (case side1 => repeat (first | exact (Kd.C_below HR0_2.out HB.out) | (with_reducible refine Kd.C_alloc ?_ _) | (with_reducible refine Kd.C_drewN ?_ _) | (with_reducible refine Kd.C_drew ?_))); (case side2 => exact HC0_2.out); (case side3 => repeat (first | exact (Kd.C_below HR0_4.out HB.out) | (with_reducible refine Kd.C_alloc ?_ _) | (with_reducible refine Kd.C_drewN ?_ _) | (with_reducible refine Kd.C_drew ?_))); (case side4 => exact HC0_4.out); rintro e w113 ⟨rfl, hb⟩; refine ⟨_, rfl, ?_⟩; have n0_ := Aside0.mk (blk_below (g := gb900) (o := .cells #[.string a0_0, .int .i64 a0_1, .slice A0_2 l0_2.length c0_2, .int .i64 a0_3, .slice A0_4 l0_4.length c0_4] 25 (0, 0)) (by (with_reducible repeat (first | refine blk_drewN ?_ _ | refine blk_drew ?_ | refine blk_alloc ?_ _)); exact BK900.out) hb); have n1_ := Aside0.mk (below_step (by repeat (first | (with_reducible first | exact HB.out | apply below_alloc | apply pw_below_drewN | apply below_drew1 | refine below_set ?_ GE900.out) | exact HB.out)) hb); clear BK900; clear HB; have BK900 := n0_; have HB := n1_; clear n0_ n1_; (try clear hb); (try clear hb2); (try clear hk); (try clear hi); have hcz114_0 : w113.cell? ⟨gb900, 0, none⟩ = some (.string a0_0) := (blk_cell BK900.out 0).trans rfl; have hcz114_1 : w113.cell? ⟨gb900, 1, none⟩ = some (.int .i64 a0_1) := (blk_cell BK900.out 1).trans rfl; have hcz114_2 : w113.cell? ⟨gb900, 2, none⟩ = some (.slice A0_2 l0_2.length c0_2) := (blk_cell BK900.out 2).trans rfl; have hcz114_3 : w113.cell? ⟨gb900, 3, none⟩ = some (.int .i64 a0_3) := (blk_cell BK900.out 3).trans rfl; have hcz114_4 : w113.cell? ⟨gb900, 4, none⟩ = some (.slice A0_4 l0_4.length c0_4) := (blk_cell BK900.out 4).trans rfl; have hfz114_0 := blk_frozen BK900.out 0; have hfz114_1 := blk_frozen BK900.out 1; have hfz114_2 := blk_frozen BK900.out 2; have hfz114_3 := blk_frozen BK900.out 3; have hfz114_4 := blk_frozen BK900.out 4) | ((with_reducible refine gate_callee (f := 14) rfl ?_); refine goesL_ (some 19) rfl rfl Try.func14 (by kernel_rfl) rfl #[.agg #[.string a0_0, .int .i64 a0_1, .slice A0_2 l0_2.length c0_2, .int .i64 a0_3, .slice A0_4 l0_4.length c0_4]] rfl (by (try simp only [List.map_toArray, List.map_cons, List.map_nil]); first | done | rfl | (simp only [List.length_drop, List.length_take]; rfl)) ?_; (with_reducible refine (laws_toFunc.calls k a0_0 a0_1 _ _ l0_2 a0_3 _ _ l0_4 t902 t903 t904 t907 t908 _ ?side1 ?side2 ?side3 ?side4 A8.out).mono ?_); (case side1 => repeat (first | exact (Kd.C_below HR0_2.out HB.out) | (with_reducible refine Kd.C_alloc ?_ _) | (with_reducible refine Kd.C_drewN ?_ _) | (with_reducible refine Kd.C_drew ?_))); (case side2 => exact HC0_2.out); (case side3 => repeat (first | exact (Kd.C_below HR0_4.out HB.out) | (with_reducible refine Kd.C_alloc ?_ _) | (with_reducible refine Kd.C_drewN ?_ _) | (with_reducible refine Kd.C_drew ?_))); (case side4 => exact HC0_4.out); rintro e w115 ⟨v905, v909, rfl, ho0, ho1, hb⟩; refine ⟨_, rfl, ?_⟩; have n0_ := Aside0.mk (Kd.R_lower ho0 (below_size (by repeat (first | (with_reducible first | exact HB.out | apply below_alloc | apply pw_below_drewN | apply below_drew1 | refine below_set ?_ GE900.out) | exact HB.out)))); have n1_ := Aside0.mk (Kd.R_lower ho1 (below_size (by repeat (first | (with_reducible first | exact HB.out | apply below_alloc | apply pw_below_drewN | apply below_drew1 | refine below_set ?_ GE900.out) | exact HB.out)))); have n2_ := Aside0.mk (blk_below (g := gb900) (o := .cells #[.string a0_0, .int .i64 a0_1, .slice A0_2 l0_2.length c0_2, .int .i64 a0_3, .slice A0_4 l0_4.length c0_4] 25 (0, 0)) (by (with_reducible repeat (first | refine blk_drewN ?_ _ | refine blk_drew ?_ | refine blk_alloc ?_ _)); exact BK900.out) hb); have n3_ := Aside0.mk (below_step (by repeat (first | (with_reducible first | exact HB.out | apply below_alloc | apply pw_below_drewN | apply below_drew1 | refine below_set ?_ GE900.out) | exact HB.out)) hb); clear BK900; clear HB; have HO906 := n0_; have HO910 := n1_; have BK900 := n2_; have HB := n3_; clear n0_ n1_ n2_ n3_; (try clear hb); (try clear hb2); (try clear hk); (try clear hi); (try clear ho0); (try clear ho1); obtain ⟨Ao116, co116, eo116⟩ := Kd.R_slice HO906.out; subst eo116; obtain ⟨Ao117, co117, eo117⟩ := Kd.R_slice HO910.out; subst eo117) | ((with_reducible refine gate_callee (f := 17) rfl ?_); refine goesL_ (some 21) rfl rfl Try.func17 (by kernel_rfl) rfl #[.agg #[.string t902, .int .i64 t903, .slice Ao116 t904.length co116, .int .i64 t907, .slice Ao117 t908.length co117], .int .i64 a1] rfl (by (try simp only [List.map_toArray, List.map_cons, List.map_nil]); first | done | rfl | (simp only [List.length_drop, List.length_take]; rfl)) ?_; (with_reducible refine (spec_NextBlocks.calls k t902 t903 _ _ t904 t907 _ _ t908 a1 t911 _ ?side1 ?side2 ?side3 ?side4 A9.out).mono ?_); (case side1 => repeat (first | exact (Kd.R_reads' HO906.out).2.2 | (with_reducible refine Kd.C_alloc ?_ _) | (with_reducible refine Kd.C_drewN ?_ _) | (with_reducible refine Kd.C_drew ?_))); (case side2 => exact (Kd.R_reads' HO906.out).2.1); (case side3 => repeat (first | exact (Kd.R_reads' HO910.out).2.2 | (with_reducible refine Kd.C_alloc ?_ _) | (with_reducible refine Kd.C_drewN ?_ _) | (with_reducible refine Kd.C_drew ?_))); (case side4 => exact (Kd.R_reads' HO910.out).2.1); rintro e w118 ⟨v912, rfl, ho0, hb⟩; refine ⟨_, rfl, ?_⟩; have n0_ := Aside0.mk (Kd.R_elder' (by (with_reducible repeat (first | apply Kd.R_alloc | apply Kd.R_drewN | apply Kd.R_drew)); exact HO906.out) (Kd.R_base ho0) hb); have n1_ := Aside0.mk (Kd.R_elder' (by (with_reducible repeat (first | apply Kd.R_alloc | apply Kd.R_drewN | apply Kd.R_drew)); exact HO910.out) (Kd.R_base ho0) hb); have n2_ := Aside0.mk (Kd.R_lower (Kd.R_new' ho0 (Kd.R_lt (by (with_reducible repeat (first | apply Kd.R_alloc | apply Kd.R_drewN | apply Kd.R_drew)); exact HO906.out))) (below_size (by repeat (first | (with_reducible first | exact HB.out | apply below_alloc | apply pw_below_drewN | apply below_drew1 | refine below_set ?_ GE900.out) | exact HB.out)))); have n3_ := Aside0.mk (blk_below (g := gb900) (o := .cells #[.string a0_0, .int .i64 a0_1, .slice A0_2 l0_2.length c0_2, .int .i64 a0_3, .slice A0_4 l0_4.length c0_4] 25 (0, 0)) (by (with_reducible repeat (first | refine blk_drewN ?_ _ | refine blk_drew ?_ | refine blk_alloc ?_ _)); exact BK900.out) hb); have n4_ := Aside0.mk (below_step (by repeat (first | (with_reducible first | exact HB.out | apply below_alloc | apply pw_below_drewN | apply below_drew1 | refine below_set ?_ GE900.out) | exact HB.out)) hb); clear HO906; clear HO910; clear BK900; clear HB; have HO906 := n0_; have HO910 := n1_; have HO913 := n2_; have BK900 := n3_; have HB := n4_; clear n0_ n1_ n2_ n3_ n4_; (try clear hb); (try clear hb2); (try clear hk); (try clear hi); (try clear ho0); have hcz119_0 : w118.cell? ⟨gb900, 0, none⟩ = some (.string a0_0) := (blk_cell BK900.out 0).trans rfl; have hcz119_1 : w118.cell? ⟨gb900, 1, none⟩ = some (.int .i64 a0_1) := (blk_cell BK900.out 1).trans rfl; have hcz119_2 : w118.cell? ⟨gb900, 2, none⟩ = some (.slice A0_2 l0_2.length c0_2) := (blk_cell BK900.out 2).trans rfl; have hcz119_3 : w118.cell? ⟨gb900, 3, none⟩ = some (.int .i64 a0_3) := (blk_cell BK900.out 3).trans rfl; have hcz119_4 : w118.cell? ⟨gb900, 4, none⟩ = some (.slice A0_4 l0_4.length c0_4) := (blk_cell BK900.out 4).trans rfl; have hfz119_0 := blk_frozen BK900.out 0; have hfz119_1 := blk_frozen BK900.out 1; have hfz119_2 := blk_frozen BK900.out 2; have hfz119_3 := blk_frozen BK900.out 3; have hfz119_4 := blk_frozen BK900.out 4) | ((with_reducible refine gate_callee (f := 14) rfl ?_); refine goesL_ (some 23) rfl rfl Try.func14 (by kernel_rfl) rfl #[.agg #[.string a0_0, .int .i64 a0_1, .slice A0_2 l0_2.length c0_2, .int .i64 a0_3, .slice A0_4 l0_4.length c0_4]] rfl (by (try simp only [List.map_toArray, List.map_cons, List.map_nil]); first | done | rfl | (simp only [List.length_drop, List.length_take]; rfl)) ?_; (with_reducible refine (laws_toFunc.calls k a0_0 a0_1 _ _ l0_2 a0_3 _ _ l0_4 t914 t915 t916 t919 t920 _ ?side1 ?side2 ?side3 ?side4 A10.out).mono ?_); (case side1 => repeat (first | exact (Kd.C_below HR0_2.out HB.out) | (with_reducible refine Kd.C_alloc ?_ _) | (with_reducible refine Kd.C_drewN ?_ _) | (with_reducible refine Kd.C_drew ?_))); (case side2 => exact HC0_2.out); (case side3 => repeat (first | exact (Kd.C_below HR0_4.out HB.out) | (with_reducible refine Kd.C_alloc ?_ _) | (with_reducible refine Kd.C_drewN ?_ _) | (with_reducible refine Kd.C_drew ?_))); (case side4 => exact HC0_4.out); rintro e w120 ⟨v917, v921, rfl, ho0, ho1, hb⟩; refine ⟨_, rfl, ?_⟩; have n0_ := Aside0.mk (Kd.R_elder' (by (with_reducible repeat (first | apply Kd.R_alloc | apply Kd.R_drewN | apply Kd.R_drew)); exact HO906.out) (Kd.R_base ho0) hb); have n1_ := Aside0.mk (Kd.R_mono (Kd.R_told (Kd.R_told (Kd.R_old (by (with_reducible repeat (first | apply Kd.R_alloc | apply Kd.R_drewN | apply Kd.R_drew)); exact HO910.out) hb) (Kd.R_base ho0)) (Kd.R_base ho1)) (fun _ h_ => h_.1)); have n2_ := Aside0.mk (Kd.R_elder' (by (with_reducible repeat (first | apply Kd.R_alloc | apply Kd.R_drewN | apply Kd.R_drew)); exact HO913.out) (Kd.R_base ho0) hb); have n3_ := Aside0.mk (Kd.R_lower (Kd.R_new' (Kd.R_new' ho0 (Kd.R_lt (by (with_reducible repeat (first | apply Kd.R_alloc | apply Kd.R_drewN | apply Kd.R_drew)); exact HO906.out))) (Kd.R_lt (by (with_reducible repeat (first | apply Kd.R_alloc | apply Kd.R_drewN | apply Kd.R_drew)); exact HO913.out))) (below_size (by repeat (first | (with_reducible first | exact HB.out | apply below_alloc | apply pw_below_drewN | apply below_drew1 | refine below_set ?_ GE900.out) | exact HB.out)))); have n4_ := Aside0.mk (Kd.R_lower (Kd.R_new' (Kd.R_new' (Kd.R_new' ho1 (Kd.R_lt (by (with_reducible repeat (first | apply Kd.R_alloc | apply Kd.R_drewN | apply Kd.R_drew)); exact HO906.out))) (Kd.R_lt (by (with_reducible repeat (first | apply Kd.R_alloc | apply Kd.R_drewN | apply Kd.R_drew)); exact HO910.out))) (Kd.R_lt (by (with_reducible repeat (first | apply Kd.R_alloc | apply Kd.R_drewN | apply Kd.R_drew)); exact HO913.out))) (below_size (by repeat (first | (with_reducible first | exact HB.out | apply below_alloc | apply pw_below_drewN | apply below_drew1 | refine below_set ?_ GE900.out) | exact HB.out)))); have n5_ := Aside0.mk (blk_below (g := gb900) (o := .cells #[.string a0_0, .int .i64 a0_1, .slice A0_2 l0_2.length c0_2, .int .i64 a0_3, .slice A0_4 l0_4.length c0_4] 25 (0, 0)) (by (with_reducible repeat (first | refine blk_drewN ?_ _ | refine blk_drew ?_ | refine blk_alloc ?_ _)); exact BK900.out) hb); have n6_ := Aside0.mk (below_step (by repeat (first | (with_reducible first | exact HB.out | apply below_alloc | apply pw_below_drewN | apply below_drew1 | refine below_set ?_ GE900.out) | exact HB.out)) hb); clear HO906; clear HO910; clear HO913; clear BK900; clear HB; have HO906 := n0_; have HO910 := n1_; have HO913 := n2_; have HO918 := n3_; have HO922 := n4_; have BK900 := n5_; have HB := n6_; clear n0_ n1_ n2_ n3_ n4_ n5_ n6_; (try clear hb); (try clear hb2); (try clear hk); (try clear hi); (try clear ho0); (try clear ho1)) | ((with_reducible refine gate_dst (N := 7) rfl ?_); refine box_event ?hg (N := 7) ?hd (cs := #[.string (⟨#[]⟩ : ByteArray), .int .i64 0, .slice none 0 0, .int .i64 0, .slice none 0 0]) (t := 30) ?hr ?_; (case hd => rfl); (case hg => rfl); (case hr => first | (go_simp; done) | (go_simp; rfl)); intro gb923 hg w121 hbox hb; have n0_ := Aside0.mk (Kd.R_below (by (with_reducible repeat (first | apply Kd.R_alloc | apply Kd.R_drewN | apply Kd.R_drew)); exact HO906.out) hb); have n1_ := Aside0.mk (Kd.R_below (by (with_reducible repeat (first | apply Kd.R_alloc | apply Kd.R_drewN | apply Kd.R_drew)); exact HO910.out) hb); have n2_ := Aside0.mk (Kd.R_below (by (with_reducible repeat (first | apply Kd.R_alloc | apply Kd.R_drewN | apply Kd.R_drew)); exact HO913.out) hb); have n3_ := Aside0.mk (Kd.R_below (by (with_reducible repeat (first | apply Kd.R_alloc | apply Kd.R_drewN | apply Kd.R_drew)); exact HO918.out) hb); have n4_ := Aside0.mk (Kd.R_below (by (with_reducible repeat (first | apply Kd.R_alloc | apply Kd.R_drewN | apply Kd.R_drew)); exact HO922.out) hb); have n5_ := Aside0.mk (blk_below (g := gb900) (o := .cells #[.string a0_0, .int .i64 a0_1, .slice A0_2 l0_2.length c0_2, .int .i64 a0_3, .slice A0_4 l0_4.length c0_4] 25 (0, 0)) (by (with_reducible repeat (first | refine blk_drewN ?_ _ | refine blk_drew ?_ | refine blk_alloc ?_ _)); exact BK900.out) hb); have n6_ := Aside0.mk (below_step (by repeat (first | (with_reducible first | exact HB.out | apply below_alloc | apply pw_below_drewN | apply below_drew1 | refine below_set ?_ GE900.out) | exact HB.out)) hb); have n7_ := Aside0.mk (hbox); have n8_ := Aside0.mk ((by rw [hg]; exact (below_size (by repeat (first | (with_reducible first | exact HB.out | apply below_alloc | apply pw_below_drewN | apply below_drew1 | refine below_set ?_ GE900.out) | exact HB.out))) : w.heap.size ≤ gb923)); have n9_ := Aside0.mk ((by rw [hg]; exact (below_size (by repeat (first | (with_reducible first | exact HB.out | apply below_alloc | apply pw_below_drewN | apply below_drew1 | refine below_set ?_ GE900.out) | exact HB.out))) : w.heap.size ≤ gb923)); have n10_ := Aside0.mk ((by rw [hg]; exact Nat.ne_of_lt (blk_lt (g := gb900) (o := .cells #[.string a0_0, .int .i64 a0_1, .slice A0_2 l0_2.length c0_2, .int .i64 a0_3, .slice A0_4 l0_4.length c0_4] 25 (0, 0)) (by (with_reducible repeat (first | refine blk_drewN ?_ _ | refine blk_drew ?_ | refine blk_alloc ?_ _)); exact BK900.out)) : gb900 ≠ gb923)); have n11_ := Aside0.mk ((by rw [hg]; exact Nat.ne_of_gt (blk_lt (g := gb900) (o := .cells #[.string a0_0, .int .i64 a0_1, .slice A0_2 l0_2.length c0_2, .int .i64 a0_3, .slice A0_4 l0_4.length c0_4] 25 (0, 0)) (by (with_reducible repeat (first | refine blk_drewN ?_ _ | refine blk_drew ?_ | refine blk_alloc ?_ _)); exact BK900.out)) : gb923 ≠ gb900)); clear HO906; clear HO910; clear HO913; clear HO918; clear HO922; clear BK900; clear HB; have HO906 := n0_; have HO910 := n1_; have HO913 := n2_; have HO918 := n3_; have HO922 := n4_; have BK900 := n5_; have HB := n6_; have BK923 := n7_; have GW923 := n8_; have GE923 := n9_; have NB900_923 := n10_; have NB923_900 := n11_; clear n0_ n1_ n2_ n3_ n4_ n5_ n6_ n7_ n8_ n9_ n10_ n11_; clear hb hbox hg; have hnb122 := NB923_900.out; have hnc122 := NB900_923.out; have hcz123_0 : w121.cell? ⟨gb923, 0, none⟩ = some (.string (⟨#[]⟩ : ByteArray)) := (blk_cell BK923.out 0).trans rfl; have hcz123_1 : w121.cell? ⟨gb923, 1, none⟩ = some (.int .i64 0) := (blk_cell BK923.out 1).trans rfl; have hcz123_2 : w121.cell? ⟨gb923, 2, none⟩ = some (.slice none 0 0) := (blk_cell BK923.out 2).trans rfl; have hcz123_3 : w121.cell? ⟨gb923, 3, none⟩ = some (.int .i64 0) := (blk_cell BK923.out 3).trans rfl; have hcz123_4 : w121.cell? ⟨gb923, 4, none⟩ = some (.slice none 0 0) := (blk_cell BK923.out 4).trans rfl; have hfz123_0 := blk_frozen BK923.out 0; have hfz123_1 := blk_frozen BK923.out 1; have hfz123_2 := blk_frozen BK923.out 2; have hfz123_3 := blk_frozen BK923.out 3; have hfz123_4 := blk_frozen BK923.out 4; obtain ⟨Ao124, co124, eo124⟩ := Kd.R_slice HO918.out; subst eo124; obtain ⟨Ao125, co125, eo125⟩ := Kd.R_slice HO922.out; subst eo125) | ((with_reducible refine gate_callee (f := 18) rfl ?_); refine goesL_ (some 26) rfl rfl Try.func18 (by kernel_rfl) rfl #[.agg #[.string t914, .int .i64 t915, .slice Ao124 t916.length co124, .int .i64 t919, .slice Ao125 t920.length co125], .int .i64 a1] rfl (by (try simp only [List.map_toArray, List.map_cons, List.map_nil]); first | done | rfl | (simp only [List.length_drop, List.length_take]; rfl)) ?_; (with_reducible refine (impl_NextBlocks.calls t914 t915 _ _ t916 t919 _ _ t920 a1 t924 _ ?side1 ?side2 ?side3 ?side4 A11.out).mono ?_); (case side1 => refine (Kd.R_reads' (e := 2) (base := w.heap.size) (ok := fun k_ => ((True ∧ some k_ ≠ (.slice Ao116 t904.length co116 : Value).ownBlock) ∧ some k_ ≠ (v912 : Value).ownBlock)) (n := t916.length) (c := co124) ?_).2.2; exact (by (with_reducible repeat (first | apply Kd.R_alloc | apply Kd.R_drewN | apply Kd.R_drew)); exact (Kd.R_mono (Kd.R_far (p := ⟨gb923, 4, none⟩) (Kd.R_far (p := ⟨gb923, 3, none⟩) (Kd.R_far (p := ⟨gb923, 2, none⟩) (Kd.R_far (p := ⟨gb923, 1, none⟩) (Kd.R_far (p := ⟨gb923, 0, none⟩) (Kd.R_types HO918.out BK923.out (by decide)) (fun _ hk => hk.2) (.string t914)) (fun _ hk => hk.2) (.int .i64 t915)) (fun _ hk => hk.2) (.slice Ao124 t916.length co124)) (fun _ hk => hk.2) (.int .i64 t919)) (fun _ hk => hk.2) (.slice Ao125 t920.length co125)) (fun _ h_ => h_.1)))); (case side2 => exact (Kd.R_reads' HO918.out).2.1); (case side3 => refine (Kd.R_reads' (e := 62) (base := w.heap.size) (ok := fun k_ => (((some k_ ≠ (.slice Ao124 t916.length co124 : Value).ownBlock ∧ some k_ ≠ (.slice Ao116 t904.length co116 : Value).ownBlock) ∧ some k_ ≠ (.slice Ao117 t908.length co117 : Value).ownBlock) ∧ some k_ ≠ (v912 : Value).ownBlock)) (n := t920.length) (c := co125) ?_).2.2; exact (by (with_reducible repeat (first | apply Kd.R_alloc | apply Kd.R_drewN | apply Kd.R_drew)); exact (Kd.R_mono (Kd.R_far (p := ⟨gb923, 4, none⟩) (Kd.R_far (p := ⟨gb923, 3, none⟩) (Kd.R_far (p := ⟨gb923, 2, none⟩) (Kd.R_far (p := ⟨gb923, 1, none⟩) (Kd.R_far (p := ⟨gb923, 0, none⟩) (Kd.R_types HO922.out BK923.out (by decide)) (fun _ hk => hk.2) (.string t914)) (fun _ hk => hk.2) (.int .i64 t915)) (fun _ hk => hk.2) (.slice Ao124 t916.length co124)) (fun _ hk => hk.2) (.int .i64 t919)) (fun _ hk => hk.2) (.slice Ao125 t920.length co125)) (fun _ h_ => h_.1)))); (case side4 => exact (Kd.R_reads' HO922.out).2.1); rintro e w126 ⟨v925, rfl, ho0, hb⟩; refine ⟨_, rfl, ?_⟩; have n0_ := Aside0.mk (Kd.R_elder' (by (with_reducible repeat (first | apply Kd.R_alloc | apply Kd.R_drewN | apply Kd.R_drew)); exact (Kd.R_mono (Kd.R_far (p := ⟨gb923, 4, none⟩) (Kd.R_far (p := ⟨gb923, 3, none⟩) (Kd.R_far (p := ⟨gb923, 2, none⟩) (Kd.R_far (p := ⟨gb923, 1, none⟩) (Kd.R_far (p := ⟨gb923, 0, none⟩) (Kd.R_types HO906.out BK923.out (by decide)) (fun _ hk => hk.2) (.string t914)) (fun _ hk => hk.2) (.int .i64 t915)) (fun _ hk => hk.2) (.slice Ao124 t916.length co124)) (fun _ hk => hk.2) (.int .i64 t919)) (fun _ hk => hk.2) (.slice Ao125 t920.length co125)) (fun _ h_ => h_.1))) (Kd.R_base ho0) hb); have n1_ := Aside0.mk (Kd.R_elder' (by (with_reducible repeat (first | apply Kd.R_alloc | apply Kd.R_drewN | apply Kd.R_drew)); exact (Kd.R_mono (Kd.R_far (p := ⟨gb923, 4, none⟩) (Kd.R_far (p := ⟨gb923, 3, none⟩) (Kd.R_far (p := ⟨gb923, 2, none⟩) (Kd.R_far (p := ⟨gb923, 1, none⟩) (Kd.R_far (p := ⟨gb923, 0, none⟩) (Kd.R_types HO910.out BK923.out (by decide)) (fun _ hk => hk.2) (.string t914)) (fun _ hk => hk.2) (.int .i64 t915)) (fun _ hk => hk.2) (.slice Ao124 t916.length co124)) (fun _ hk => hk.2) (.int .i64 t919)) (fun _ hk => hk.2) (.slice Ao125 t920.length co125)) (fun _ h_ => h_.1))) (Kd.R_base ho0) hb); have n2_ := Aside0.mk (Kd.R_elder' (by (with_reducible repeat (first | apply Kd.R_alloc | apply Kd.R_drewN | apply Kd.R_drew)); exact (Kd.R_mono (Kd.R_far (p := ⟨gb923, 4, none⟩) (Kd.R_far (p := ⟨gb923, 3, none⟩) (Kd.R_far (p := ⟨gb923, 2, none⟩) (Kd.R_far (p := ⟨gb923, 1, none⟩) (Kd.R_far (p := ⟨gb923, 0, none⟩) (Kd.R_types HO913.out BK923.out (by decide)) (fun _ hk => hk.2) (.string t914)) (fun _ hk => hk.2) (.int .i64 t915)) (fun _ hk => hk.2) (.slice Ao124 t916.length co124)) (fun _ hk => hk.2) (.int .i64 t919)) (fun _ hk => hk.2) (.slice Ao125 t920.length co125)) (fun _ h_ => h_.1))) (Kd.R_base ho0) hb); have n3_ := Aside0.mk (Kd.R_elder' (by (with_reducible repeat (first | apply Kd.R_alloc | apply Kd.R_drewN | apply Kd.R_drew)); exact (Kd.R_mono (Kd.R_far (p := ⟨gb923, 4, none⟩) (Kd.R_far (p := ⟨gb923, 3, none⟩) (Kd.R_far (p := ⟨gb923, 2, none⟩) (Kd.R_far (p := ⟨gb923, 1, none⟩) (Kd.R_far (p := ⟨gb923, 0, none⟩) (Kd.R_types HO918.out BK923.out (by decide)) (fun _ hk => hk.2) (.string t914)) (fun _ hk => hk.2) (.int .i64 t915)) (fun _ hk => hk.2) (.slice Ao124 t916.length co124)) (fun _ hk => hk.2) (.int .i64 t919)) (fun _ hk => hk.2) (.slice Ao125 t920.length co125)) (fun _ h_ => h_.1))) (Kd.R_base ho0) hb); have n4_ := Aside0.mk (Kd.R_elder' (by (with_reducible repeat (first | apply Kd.R_alloc | apply Kd.R_drewN | apply Kd.R_drew)); exact (Kd.R_mono (Kd.R_far (p := ⟨gb923, 4, none⟩) (Kd.R_far (p := ⟨gb923, 3, none⟩) (Kd.R_far (p := ⟨gb923, 2, none⟩) (Kd.R_far (p := ⟨gb923, 1, none⟩) (Kd.R_far (p := ⟨gb923, 0, none⟩) (Kd.R_types HO922.out BK923.out (by decide)) (fun _ hk => hk.2) (.string t914)) (fun _ hk => hk.2) (.int .i64 t915)) (fun _ hk => hk.2) (.slice Ao124 t916.length co124)) (fun _ hk => hk.2) (.int .i64 t919)) (fun _ hk => hk.2) (.slice Ao125 t920.length co125)) (fun _ h_ => h_.1))) (Kd.R_base ho0) hb); have n5_ := Aside0.mk (Kd.R_lower (Kd.R_new' (Kd.R_new' (Kd.R_new' ho0 (Kd.R_lt (by (with_reducible repeat (first | apply Kd.R_alloc | apply Kd.R_drewN | apply Kd.R_drew)); exact (Kd.R_mono (Kd.R_far (p := ⟨gb923, 4, none⟩) (Kd.R_far (p := ⟨gb923, 3, none⟩) (Kd.R_far (p := ⟨gb923, 2, none⟩) (Kd.R_far (p := ⟨gb923, 1, none⟩) (Kd.R_far (p := ⟨gb923, 0, none⟩) (Kd.R_types HO906.out BK923.out (by decide)) (fun _ hk => hk.2) (.string t914)) (fun _ hk => hk.2) (.int .i64 t915)) (fun _ hk => hk.2) (.slice Ao124 t916.length co124)) (fun _ hk => hk.2) (.int .i64 t919)) (fun _ hk => hk.2) (.slice Ao125 t920.length co125)) (fun _ h_ => h_.1))))) (Kd.R_lt (by (with_reducible repeat (first | apply Kd.R_alloc | apply Kd.R_drewN | apply Kd.R_drew)); exact (Kd.R_mono (Kd.R_far (p := ⟨gb923, 4, none⟩) (Kd.R_far (p := ⟨gb923, 3, none⟩) (Kd.R_far (p := ⟨gb923, 2, none⟩) (Kd.R_far (p := ⟨gb923, 1, none⟩) (Kd.R_far (p := ⟨gb923, 0, none⟩) (Kd.R_types HO913.out BK923.out (by decide)) (fun _ hk => hk.2) (.string t914)) (fun _ hk => hk.2) (.int .i64 t915)) (fun _ hk => hk.2) (.slice Ao124 t916.length co124)) (fun _ hk => hk.2) (.int .i64 t919)) (fun _ hk => hk.2) (.slice Ao125 t920.length co125)) (fun _ h_ => h_.1))))) (Kd.R_lt (by (with_reducible repeat (first | apply Kd.R_alloc | apply Kd.R_drewN | apply Kd.R_drew)); exact (Kd.R_mono (Kd.R_far (p := ⟨gb923, 4, none⟩) (Kd.R_far (p := ⟨gb923, 3, none⟩) (Kd.R_far (p := ⟨gb923, 2, none⟩) (Kd.R_far (p := ⟨gb923, 1, none⟩) (Kd.R_far (p := ⟨gb923, 0, none⟩) (Kd.R_types HO918.out BK923.out (by decide)) (fun _ hk => hk.2) (.string t914)) (fun _ hk => hk.2) (.int .i64 t915)) (fun _ hk => hk.2) (.slice Ao124 t916.length co124)) (fun _ hk => hk.2) (.int .i64 t919)) (fun _ hk => hk.2) (.slice Ao125 t920.length co125)) (fun _ h_ => h_.1))))) (below_size (by repeat (first | (with_reducible first | exact HB.out | apply below_alloc | apply pw_below_drewN | apply below_drew1 | refine below_set ?_ GE900.out | refine below_set ?_ GE923.out) | exact HB.out)))); have n6_ := Aside0.mk (blk_below (g := gb900) (o := .cells #[.string a0_0, .int .i64 a0_1, .slice A0_2 l0_2.length c0_2, .int .i64 a0_3, .slice A0_4 l0_4.length c0_4] 25 (0, 0)) (by (with_reducible repeat (first | refine blk_drewN ?_ _ | refine blk_drew ?_ | refine blk_alloc ?_ _)); refine blk_far ?_ NB900_923.out _; (with_reducible repeat (first | refine blk_drewN ?_ _ | refine blk_drew ?_ | refine blk_alloc ?_ _)); refine blk_far ?_ NB900_923.out _; (with_reducible repeat (first | refine blk_drewN ?_ _ | refine blk_drew ?_ | refine blk_alloc ?_ _)); refine blk_far ?_ NB900_923.out _; (with_reducible repeat (first | refine blk_drewN ?_ _ | refine blk_drew ?_ | refine blk_alloc ?_ _)); refine blk_far ?_ NB900_923.out _; (with_reducible repeat (first | refine blk_drewN ?_ _ | refine blk_drew ?_ | refine blk_alloc ?_ _)); refine blk_far ?_ NB900_923.out _; (with_reducible repeat (first | refine blk_drewN ?_ _ | refine blk_drew ?_ | refine blk_alloc ?_ _)); exact BK900.out) hb); have n7_ := Aside0.mk (blk_below (g := gb923) (o := .cells #[.string t914, .int .i64 t915, .slice Ao124 t916.length co124, .int .i64 t919, .slice Ao125 t920.length co125] 30 (0, 0)) (by (with_reducible repeat (first | refine blk_drewN ?_ _ | refine blk_drew ?_ | refine blk_alloc ?_ _)); refine blk_put (cs := #[.string t914, .int .i64 t915, .slice Ao124 t916.length co124, .int .i64 t919, .slice none 0 0]) ?_ 4 _ rfl; (with_reducible repeat (first | refine blk_drewN ?_ _ | refine blk_drew ?_ | refine blk_alloc ?_ _)); refine blk_put (cs := #[.string t914, .int .i64 t915, .slice Ao124 t916.length co124, .int .i64 0, .slice none 0 0]) ?_ 3 _ rfl; (with_reducible repeat (first | refine blk_drewN ?_ _ | refine blk_drew ?_ | refine blk_alloc ?_ _)); refine blk_put (cs := #[.string t914, .int .i64 t915, .slice none 0 0, .int .i64 0, .slice none 0 0]) ?_ 2 _ rfl; (with_reducible repeat (first | refine blk_drewN ?_ _ | refine blk_drew ?_ | refine blk_alloc ?_ _)); refine blk_put (cs := #[.string t914, .int .i64 0, .slice none 0 0, .int .i64 0, .slice none 0 0]) ?_ 1 _ rfl; (with_reducible repeat (first | refine blk_drewN ?_ _ | refine blk_drew ?_ | refine blk_alloc ?_ _)); refine blk_put (cs := #[.string (⟨#[]⟩ : ByteArray), .int .i64 0, .slice none 0 0, .int .i64 0, .slice none 0 0]) ?_ 0 _ rfl; (with_reducible repeat (first | refine blk_drewN ?_ _ | refine blk_drew ?_ | refine blk_alloc ?_ _)); exact BK923.out) hb); have n8_ := Aside0.mk (below_step (by repeat (first | (with_reducible first | exact HB.out | apply below_alloc | apply pw_below_drewN | apply below_drew1 | refine below_set ?_ GE900.out | refine below_set ?_ GE923.out) | exact HB.out)) hb); clear HO906; clear HO910; clear HO913; clear HO918; clear HO922; clear BK900; clear BK923; clear HB; have HO906 := n0_; have HO910 := n1_; have HO913 := n2_; have HO918 := n3_; have HO922 := n4_; have HO926 := n5_; have BK900 := n6_; have BK923 := n7_; have HB := n8_; clear n0_ n1_ n2_ n3_ n4_ n5_ n6_ n7_ n8_; (try clear hb); (try clear hb2); (try clear hk); (try clear hi); (try clear ho0); obtain ⟨Ao127, co127, eo127⟩ := Kd.R_slice HO926.out; subst eo127; obtain ⟨Ao128, co128, eo128⟩ := Kd.R_slice HO913.out; subst eo128) | ((with_reducible refine gate_callee (f := 19) rfl ?_); refine goesL_ (some 29) rfl rfl Try.func19 (by kernel_rfl) rfl #[.slice Ao127 t924.length co127, .slice Ao128 t911.length co128] rfl (by (try simp only [List.map_toArray, List.map_cons, List.map_nil]); first | done | rfl | (simp only [List.length_drop, List.length_take]; rfl)) ?_; (with_reducible refine (laws_eqInt64S.calls k _ _ t924 _ _ t911 false _ ?side1 ?side2 ?side3 ?side4 A12.out).mono ?_); (case side1 => repeat (first | exact (Kd.R_reads' HO926.out).2.2 | (with_reducible refine Kd.C_alloc ?_ _) | (with_reducible refine Kd.C_drewN ?_ _) | (with_reducible refine Kd.C_drew ?_))); (case side2 => exact (Kd.R_reads' HO926.out).2.1); (case side3 => repeat (first | exact (Kd.R_reads' HO913.out).2.2 | (with_reducible refine Kd.C_alloc ?_ _) | (with_reducible refine Kd.C_drewN ?_ _) | (with_reducible refine Kd.C_drew ?_))); (case side4 => exact (Kd.R_reads' HO913.out).2.1); rintro e w' ⟨rfl, ⟨nd, rfl⟩⟩; refine ⟨_, rfl, ?_⟩))
      go_ret
      exact ⟨by first | rfl | (simp [errW_none, errW_some] <;> rfl) | (simp [*, errW_none, errW_some] <;> rfl), by repeat (first | (with_reducible first | exact HB.out | apply below_alloc | apply pw_below_drewN | apply below_drew1 | refine below_set ?_ GE900.out | refine below_set ?_ GE923.out) | exact HB.out)⟩

end Go.Proofs.Ytoedcnhgobbnfaa.All

/- What reads as data of a type can be read as a value of its kind. -/
namespace Go.Proofs.Ytoedcnhgobbnfaa.All
open Go.RowKit Go.Proofs.YtoedcnhgobbnfaaW.PrintWords Go.Proofs.YtoedcnhgobbnfaaW.PrintLast Go.Proofs.YtoedcnhgobbnfaaW.PrintMore
set_option linter.unusedVariables false
set_option linter.unusedSimpArgs false
structure Rdb {α : Type} (d : Kd α) (P : Program) (t : TypeId) (ok : α → Prop) : Prop where
  sz : P.cellsOf t = d.sz
  rd : ∀ {H : Type} {enc : TypeId × Value → H} {w : World} {base : Nat} {sp : Nat → Bool} {held : Bool} {fuel : Nat} {cs : List Value} {x : DataW H × List MemPlace}, DataW.trod enc P w base sp held fuel t cs = some x → ∃ a, d.K w a cs ∧ ok a
theorem Rdb.int {P : Program} {t : TypeId} {k : IntKind} (ht : P.underlying t = some (.int k)) (hs : P.cellsOf t = 1) : Rdb (Kd.int k) P t (fun a => (Lit.int k a).wf = true) :=
  ⟨hs, fun h => by obtain ⟨n, rfl, _, hw⟩ := DataW.trod_int ht h; exact ⟨n, rfl, hw⟩⟩
theorem Rdb.bool {P : Program} {t : TypeId} (ht : P.underlying t = some .bool) (hs : P.cellsOf t = 1) : Rdb Kd.bool P t (fun _ => True) :=
  ⟨hs, fun h => by obtain ⟨b, rfl, _⟩ := DataW.trod_bool ht h; exact ⟨b, rfl, trivial⟩⟩
theorem Rdb.string {P : Program} {t : TypeId} (ht : P.underlying t = some .string) (hs : P.cellsOf t = 1) : Rdb Kd.string P t (fun s => s.size ≤ 9223372036854775807) :=
  ⟨hs, fun h => by obtain ⟨s, rfl, _, hm⟩ := DataW.trod_string ht h; exact ⟨s, rfl, hm⟩⟩
theorem rdb_list {α : Type} {P : Nat → α → Prop} : ∀ n : Nat, (∀ j, j < n → ∃ x, P j x) → ∃ l : List α, l.length = n ∧ ∀ (j : Nat) (x : α), l[j]? = some x → P j x
  | 0, _ => ⟨[], rfl, fun j x h => by simp at h⟩
  | n + 1, h => by
    obtain ⟨l, hl, hp⟩ := rdb_list n (fun j hj => h j (by omega))
    obtain ⟨x, hx⟩ := h n (by omega)
    refine ⟨l ++ [x], by simp [hl], fun j y hy => ?_⟩
    by_cases hj : j < n
    · rw [List.getElem?_append_left (by omega)] at hy
      exact hp j y hy
    · have hlt := (List.getElem?_eq_some_iff.1 hy).1
      simp [hl] at hlt
      have : j = n := by omega
      subst this
      rw [List.getElem?_append_right (by omega)] at hy
      simp [hl] at hy
      subst hy
      exact hx
theorem Rdb.slice {α : Type} {d : Kd α} {P : Program} {t e : TypeId} {ok : α → Prop} (ht : P.underlying t = some (.slice e)) (hs : P.cellsOf t = 1) (h : Rdb d P e ok) : Rdb (Kd.slice e d) P t (fun xs => xs.length ≤ 9223372036854775807 ∧ ∀ x ∈ xs, ok x) := by
  refine ⟨hs, fun {H enc w base sp held fuel cs x} hx => ?_⟩
  rcases Deep.open_slice ht hx with ⟨rfl, _⟩ | ⟨a, len, cap, m, n, D, Pl, rfl, hb, hl, hm, hmm, _, hel⟩
  · exact ⟨[], ⟨none, 0, rfl, Nat.le_refl _, rfl, by simp, fun h0 => by simp at h0⟩, by simp, fun x hx => by simp at hx⟩
  · have hmax : len ≤ 9223372036854775807 := Nat.le_trans hl hm
    have hlm : len ≤ m := by rw [hmm]; split <;> omega
    obtain ⟨xs, hlen, hxs⟩ := rdb_list (P := fun j (x : α) => ok x ∧ ∃ c, c.length = d.sz ∧ d.K w x c ∧ ∀ (i : Nat) (u : Value), c[i]? = some u → w.cell? (a.add (j * d.sz + i)) = some u) len (fun j hj => by
      obtain ⟨cs', hc, htr⟩ := hel j (by omega)
      obtain ⟨x, hK, hok⟩ := h.rd htr
      obtain ⟨_, hcl, hcc⟩ := World.cells?_some hc
      rw [h.sz] at hcl hcc
      refine ⟨x, hok, cs', hcl, hK, fun i u hu => ?_⟩
      have hi := (List.getElem?_eq_some_iff.1 hu).1
      have := hcc i (by omega)
      rw [Addr.add_add] at this
      exact this.trans hu)
    refine ⟨xs, ⟨some a, cap, by rw [hlen], by omega, rfl, by omega, fun _ => ⟨a, rfl, fun j p hj => (hxs j p hj).2⟩⟩, by omega, fun x hx => ?_⟩
    obtain ⟨j, hj⟩ := List.getElem?_of_mem hx
    exact (hxs j x hj).1
/-- The fields of a struct (types and places) from cell 'off' on. -/
structure RdbFs {α : Type} (d : Kd α) (P : Program) (fs : List (TypeId × Nat)) (off : Nat) (ok : α → Prop) : Prop where
  rd : ∀ {H : Type} {enc : TypeId × Value → H} {w : World} {base : Nat} {sp : Nat → Bool} {held : Bool} {n : Nat} {cs : List Value}, cs.length = off + d.sz →
    (∀ f ∈ fs, ∃ x, DataW.trod enc P w base sp held n f.1 ((cs.drop f.2).take (P.cellsOf f.1)) = some x) → ∃ a, d.K w a (cs.drop off) ∧ ok a
theorem RdbFs.one {α : Type} {d : Kd α} {P : Program} {t : TypeId} {off : Nat} {ok : α → Prop} (h : Rdb d P t ok) : RdbFs d P [(t, off)] off ok := by
  refine ⟨fun {H enc w base sp held n cs} hl hf => ?_⟩
  obtain ⟨x, hx⟩ := hf (t, off) (by simp)
  simp only at hx
  rw [h.sz, List.take_of_length_le (by rw [List.length_drop]; omega)] at hx
  exact h.rd hx
theorem RdbFs.cons {α β : Type} {a : Kd α} {b : Kd β} {P : Program} {t : TypeId} {fs : List (TypeId × Nat)} {off off' : Nat} {ok : α → Prop} {ok' : β → Prop} (ho : off + a.sz = off') (h : Rdb a P t ok) (hs : RdbFs b P fs off' ok') : RdbFs (Kd.pair a b) P ((t, off) :: fs) off (fun x => ok x.1 ∧ ok' x.2) := by
  subst ho
  refine ⟨fun {H enc w base sp held n cs} hl hf => ?_⟩
  have hl' : cs.length = off + a.sz + b.sz := by rw [hl]; show off + (a.sz + b.sz) = _; omega
  obtain ⟨x, hx⟩ := hf (t, off) (by simp)
  simp only at hx
  rw [h.sz] at hx
  obtain ⟨y, hy, oky⟩ := h.rd hx
  obtain ⟨z, hz, okz⟩ := hs.rd hl' (fun g hg => hf g (by simp [hg]))
  refine ⟨(y, z), ⟨(cs.drop off).take a.sz, cs.drop (off + a.sz), ?_, hy, hz⟩, oky, okz⟩
  rw [← List.drop_drop, List.take_append_drop]
theorem Rdb.struct {α : Type} {d : Kd α} {P : Program} {t : TypeId} {fs : Array Field} {ok : α → Prop} (ht : P.underlying t = some (.struct fs)) (hs : P.cellsOf t = d.sz) (tos : List (TypeId × Nat)) (htos : fs.toList.map (fun f => (f.type, f.offset)) = tos) (h : RdbFs d P tos 0 ok) : Rdb d P t ok := by
  subst htos
  refine ⟨hs, fun hx => ?_⟩
  obtain ⟨xs, n, rfl, rfl, hl, hxl, hf⟩ := DataW.trod_struct ht hx
  have := h.rd (n := n) (by rw [hl, hs, Nat.zero_add]) (fun f hfm => by
    obtain ⟨f', hf', rfl⟩ := List.mem_map.1 hfm
    obtain ⟨i, hi⟩ := List.getElem?_of_mem hf'
    rw [Array.getElem?_toList] at hi
    have h1 := hf i f' hi
    have hlt : i < xs.length := by rw [hxl]; exact (Array.getElem?_eq_some_iff.1 hi).1
    exact ⟨xs[i], by rw [h1, List.getElem?_eq_getElem hlt]⟩)
  simpa using this
theorem Rdb.iso {α β : Type} {d : Kd α} {P : Program} {t : TypeId} {ok : α → Prop} {f : β → α} (h : Rdb d P t ok) (g : α → β) (hg : ∀ y, f (g y) = y) : Rdb (Kd.iso d f) P t (fun x => ok (f x)) :=
  ⟨h.sz, fun hx => by
    obtain ⟨a, hK, hok⟩ := h.rd hx
    refine ⟨g a, ?_, by rw [hg]; exact hok⟩
    show d.K _ (f (g a)) _
    rw [hg]
    exact hK⟩
theorem Rdb.imp {α : Type} {d : Kd α} {P : Program} {t : TypeId} {ok ok' : α → Prop} (h : Rdb d P t ok) (hi : ∀ a, ok a → ok' a) : Rdb d P t ok' :=
  ⟨h.sz, fun hx => by obtain ⟨a, hK, hok⟩ := h.rd hx; exact ⟨a, hK, hi a hok⟩⟩
end Go.Proofs.Ytoedcnhgobbnfaa.All

/- How the laws' arguments read. Printed by gen_row.py. -/
namespace Go.Proofs.Ytoedcnhgobbnfaa.All
open Go.RowKit Go.Proofs.YtoedcnhgobbnfaaW.PrintWords
set_option linter.unusedVariables false
def ok158 (x : S158) : Prop := (Lit.int .i64 x.f0).wf = true ∧ (Lit.int .i64 x.f1).wf = true ∧ (Lit.int .i64 x.f2).wf = true ∧ (Lit.int .u64 x.f3).wf = true
set_option maxRecDepth 100000 in
theorem rdb158 : Rdb k158 Try.prog 158 ok158 := Rdb.iso (f := fun x : S158 => (x.f0, x.f1, x.f2, x.f3)) (Rdb.struct Try.underlying158 (by kernel_rfl) [(2, 0), (2, 1), (2, 2), (73, 3)] rfl (RdbFs.cons rfl (Rdb.int Try.underlying2 (by kernel_rfl)) (RdbFs.cons rfl (Rdb.int Try.underlying2 (by kernel_rfl)) (RdbFs.cons rfl (Rdb.int Try.underlying2 (by kernel_rfl)) (RdbFs.one (Rdb.int Try.underlying73 (by kernel_rfl))))))) (fun y => (⟨y.1, y.2.1, y.2.2.1, y.2.2.2⟩ : S158)) (fun _ => rfl)
def ok140 (x : S140) : Prop := (Lit.int .i64 x.f0).wf = true ∧ (Lit.int .i64 x.f1).wf = true ∧ (Lit.int .i64 x.f2).wf = true ∧ (Lit.int .i64 x.f3).wf = true ∧ (Lit.int .i64 x.f4).wf = true ∧ (Lit.int .i64 x.f5).wf = true ∧ (x.f6.length ≤ 9223372036854775807 ∧ ∀ y ∈ x.f6, ok158 y) ∧ (x.f7.length ≤ 9223372036854775807 ∧ ∀ y ∈ x.f7, (Lit.int .i64 y).wf = true) ∧ (x.f8.length ≤ 9223372036854775807 ∧ ∀ y ∈ x.f8, (Lit.int .u64 y).wf = true)
set_option maxRecDepth 100000 in
theorem rdb140 : Rdb k140 Try.prog 140 ok140 := Rdb.iso (f := fun x : S140 => (x.f0, x.f1, x.f2, x.f3, x.f4, x.f5, x.f6, x.f7, x.f8)) (Rdb.struct Try.underlying140 (by kernel_rfl) [(2, 0), (2, 1), (2, 2), (2, 3), (2, 4), (2, 5), (138, 6), (22, 7), (64, 8)] rfl (RdbFs.cons rfl (Rdb.int Try.underlying2 (by kernel_rfl)) (RdbFs.cons rfl (Rdb.int Try.underlying2 (by kernel_rfl)) (RdbFs.cons rfl (Rdb.int Try.underlying2 (by kernel_rfl)) (RdbFs.cons rfl (Rdb.int Try.underlying2 (by kernel_rfl)) (RdbFs.cons rfl (Rdb.int Try.underlying2 (by kernel_rfl)) (RdbFs.cons rfl (Rdb.int Try.underlying2 (by kernel_rfl)) (RdbFs.cons rfl (Rdb.slice Try.underlying138 (by kernel_rfl) rdb158) (RdbFs.cons rfl (Rdb.slice Try.underlying22 (by kernel_rfl) (Rdb.int Try.underlying2 (by kernel_rfl))) (RdbFs.one (Rdb.slice Try.underlying64 (by kernel_rfl) (Rdb.int Try.underlying73 (by kernel_rfl))))))))))))) (fun y => (⟨y.1, y.2.1, y.2.2.1, y.2.2.2.1, y.2.2.2.2.1, y.2.2.2.2.2.1, y.2.2.2.2.2.2.1, y.2.2.2.2.2.2.2.1, y.2.2.2.2.2.2.2.2⟩ : S140)) (fun _ => rfl)
def ok96 (x : S96) : Prop := (x.f0.length ≤ 9223372036854775807 ∧ ∀ y ∈ x.f0, ok140 y)
set_option maxRecDepth 100000 in
theorem rdb96 : Rdb k96 Try.prog 96 ok96 := Rdb.iso (f := fun x : S96 => x.f0) (Rdb.struct Try.underlying96 (by kernel_rfl) [(94, 0)] rfl (RdbFs.one (Rdb.slice Try.underlying94 (by kernel_rfl) rdb140))) (fun y => (⟨y⟩ : S96)) (fun _ => rfl)
set_option maxRecDepth 100000 in
theorem rdbTop25 : Rdb (Kd.pair Kd.string (Kd.pair (Kd.int .i64) (Kd.pair (Kd.slice 2 (Kd.int .i64)) (Kd.pair (Kd.int .i64) (Kd.slice 96 k96))))) Try.prog 25 (fun x => x.1.size ≤ 9223372036854775807 ∧ (Lit.int .i64 x.2.1).wf = true ∧ (x.2.2.1.length ≤ 9223372036854775807 ∧ ∀ y ∈ x.2.2.1, (Lit.int .i64 y).wf = true) ∧ (Lit.int .i64 x.2.2.2.1).wf = true ∧ (x.2.2.2.2.length ≤ 9223372036854775807 ∧ ∀ y ∈ x.2.2.2.2, ok96 y)) := Rdb.struct Try.underlying25 (by kernel_rfl) [(9, 0), (2, 1), (22, 2), (2, 3), (23, 4)] rfl (RdbFs.cons rfl (Rdb.string Try.underlying9 (by kernel_rfl)) (RdbFs.cons rfl (Rdb.int Try.underlying2 (by kernel_rfl)) (RdbFs.cons rfl (Rdb.slice Try.underlying22 (by kernel_rfl) (Rdb.int Try.underlying2 (by kernel_rfl))) (RdbFs.cons rfl (Rdb.int Try.underlying2 (by kernel_rfl)) (RdbFs.one (Rdb.slice Try.underlying23 (by kernel_rfl) rdb96))))))
end Go.Proofs.Ytoedcnhgobbnfaa.All

/- Plain laws of the printed functions: eventually (Ev), step by step; loops over a list. -/
namespace Go.Proofs.Ytoedcnhgobbnfaa.All
open Go.RowKit Go.Proofs.YtoedcnhgobbnfaaW.PrintWords Go.Proofs.YtoedcnhgobbnfaaW.PrintLast Go.Proofs.YtoedcnhgobbnfaaW.PrintMore
set_option linter.unusedVariables false
set_option linter.unusedSimpArgs false
theorem Ev.succ {α : Type} {g : Nat → Option α} {r : α} (h : Ev (fun k => g (k + 1)) r) : Ev g r := by
  obtain ⟨K, hK⟩ := h
  refine ⟨K + 1, fun k hk => ?_⟩
  obtain ⟨m, rfl⟩ : ∃ m, k = m + 1 := ⟨k - 1, by omega⟩
  exact hK m (by omega)
theorem Ev.pos {α : Type} {c : Prop} [Decidable c] {g h : Nat → Option α} {r : α} (hc : c) (k : Ev g r) : Ev (fun n => if c then g n else h n) r := Ev.congr (fun n => if_pos hc) k
theorem Ev.neg {α : Type} {c : Prop} [Decidable c] {g h : Nat → Option α} {r : α} (hc : ¬ c) (k : Ev h r) : Ev (fun n => if c then g n else h n) r := Ev.congr (fun n => if_neg hc) k
theorem Ev.some_bind {α β : Type} {a : α} {f : Nat → α → Option β} {r : β} (k : Ev (fun n => f n a) r) : Ev (fun n => (some a).bind (f n)) r := k
theorem Ev.eq_bind {α β : Type} {o : Option α} {a : α} {f : Nat → α → Option β} {r : β} (h : o = some a) (k : Ev (fun n => f n a) r) : Ev (fun n => o.bind (f n)) r := by subst h; exact k
theorem Ev.some {α : Type} {a r : α} (h : a = r) : Ev (fun _ => some a) r := h ▸ Ev.now a
theorem Ev.of_eq {α : Type} {o : Option α} {r : α} (h : o = .some r) : Ev (fun _ => o) r := ⟨0, fun _ _ => h⟩
theorem wrap64_id {x : Int} (h1 : -9223372036854775808 ≤ x) (h2 : x ≤ 9223372036854775807) : wrap64 x = x := by unfold wrap64; omega
theorem wrap64_nat {i : Nat} (h : i < 9223372036854775807) : wrap64 ((i : Int) + 1) = ((i + 1 : Nat) : Int) := by rw [wrap64_id (by omega) (by omega)]; rfl
theorem getD_eq {α : Type} {xs : List α} {i : Nat} (h : i < xs.length) (z : α) : xs.getD i z = xs[i] := by rw [List.getD_eq_getElem?_getD, List.getElem?_eq_getElem h]; rfl
/-- A loop that fills a list of the same length. -/
theorem to_gen {α β : Type} (f : α → β) (z : β) (za : α) (xs : List α) (g : Nat → List β → Int → Option (List β))
    (hstep : ∀ (i : Nat) (out : List β) (r : List β), i < xs.length → out.length = xs.length → Ev (fun k => g k (out.set i (f (xs.getD i za))) ((i + 1 : Nat) : Int)) r → Ev (fun k => g k out (i : Int)) r)
    (hend : ∀ out : List β, out.length = xs.length → Ev (fun k => g k out (xs.length : Int)) out) : Ev (fun k => g k (List.replicate xs.length z) 0) (xs.map f) := by
  have key : ∀ d i : Nat, i + d = xs.length → Ev (fun k => g k ((xs.map f).take i ++ List.replicate (xs.length - i) z) (i : Int)) (xs.map f) := by
    intro d
    induction d with
    | zero =>
      intro i hi
      obtain rfl : i = xs.length := by omega
      rw [Nat.sub_self, List.replicate_zero, List.append_nil, List.take_of_length_le (by simp)]
      exact hend _ (by simp)
    | succ d ih =>
      intro i hi
      have h1 := ih (i + 1) (by omega)
      refine hstep i _ _ (by omega) (by simp; omega) ?_
      have e : ((xs.map f).take i ++ List.replicate (xs.length - i) z).set i (f (xs.getD i za)) = (xs.map f).take (i + 1) ++ List.replicate (xs.length - (i + 1)) z := by
        have hl : ((xs.map f).take i).length = i := by simp; omega
        rw [List.set_append_right _ _ (by omega), hl, Nat.sub_self]
        obtain ⟨m, hm⟩ : ∃ m, xs.length - i = m + 1 := ⟨xs.length - i - 1, by omega⟩
        rw [hm, List.replicate_succ, List.set_cons_zero, List.take_succ_eq_append_getElem (by simp; omega), show xs.length - (i + 1) = m by omega, List.append_assoc]
        congr 1
        simp [List.getElem?_eq_getElem (show i < xs.length by omega)]
      rw [e]
      exact h1
  have h0 := key xs.length 0 (by omega)
  simpa using h0
/-- A loop whose end is r, whatever happens on the way. -/
theorem for_gen {ρ : Type} (r : ρ) (n : Nat) (g : Nat → Int → Option ρ) (hstep : ∀ i : Nat, i < n → Ev (fun k => g k ((i + 1 : Nat) : Int)) r → Ev (fun k => g k (i : Int)) r) (hend : Ev (fun k => g k (n : Int)) r) : Ev (fun k => g k 0) r := by
  have key : ∀ d i : Nat, i + d = n → Ev (fun k => g k (i : Int)) r := by
    intro d
    induction d with
    | zero => intro i hi; obtain rfl : i = n := by omega
              exact hend
    | succ d ih => intro i hi; exact hstep i (by omega) (ih (i + 1) (by omega))
  exact key n 0 (by omega)
/-- A loop that says yes at each step. -/
theorem all_gen (n : Nat) (g : Nat → Int → Option Bool) (hstep : ∀ i : Nat, i < n → Ev (fun k => g k ((i + 1 : Nat) : Int)) true → Ev (fun k => g k (i : Int)) true) (hend : Ev (fun k => g k (n : Int)) true) : Ev (fun k => g k 0) true := for_gen true n g hstep hend
/-- A loop that writes each element anew, by its number. -/
theorem mk_gen {β ρ : Type} (f : Nat → β) (xs : List β) (fin : List β → ρ) (g : Nat → List β → Int → Option ρ)
    (hstep : ∀ (i : Nat) (out : List β) (r : ρ), i < xs.length → out.length = xs.length → Ev (fun k => g k (out.set i (f i)) ((i + 1 : Nat) : Int)) r → Ev (fun k => g k out (i : Int)) r)
    (hend : ∀ out : List β, out.length = xs.length → Ev (fun k => g k out (xs.length : Int)) (fin out)) : Ev (fun k => g k xs 0) (fin ((List.range xs.length).map f)) := by
  have key : ∀ d i : Nat, i + d = xs.length → Ev (fun k => g k ((List.range i).map f ++ xs.drop i) (i : Int)) (fin ((List.range xs.length).map f)) := by
    intro d
    induction d with
    | zero =>
      intro i hi
      obtain rfl : i = xs.length := by omega
      rw [List.drop_length, List.append_nil]
      exact hend _ (by simp)
    | succ d ih =>
      intro i hi
      have h1 := ih (i + 1) (by omega)
      refine hstep i _ _ (by omega) (by simp; omega) ?_
      have e : ((List.range i).map f ++ xs.drop i).set i (f i) = (List.range (i + 1)).map f ++ xs.drop (i + 1) := by
        have hl : ((List.range i).map f).length = i := by simp
        rw [List.set_append_right _ _ (by omega), hl, Nat.sub_self, List.drop_eq_getElem_cons (show i < xs.length by omega), List.set_cons_zero, List.range_succ, List.map_append, List.append_assoc]
        rfl
      rw [e]
      exact h1
  have h0 := key xs.length 0 (by omega)
  simpa using h0
/-- A loop that takes sizes off; below 0 it ends with -1. -/
theorem sz_gen {α : Type} (s : α → Nat) (za : α) (xs : List α) (g : Nat → Int → Int → Option Int)
    (hstep : ∀ (i : Nat) (a r : Int), i < xs.length → 0 ≤ a → a ≤ 1048576 → (if (s (xs.getD i za) : Int) ≤ a then Ev (fun k => g k (a - s (xs.getD i za)) ((i + 1 : Nat) : Int)) r else r = -1) → Ev (fun k => g k a (i : Int)) r)
    (hend : ∀ a : Int, Ev (fun k => g k a (xs.length : Int)) a) (a : Int) (h0 : 0 ≤ a) (h1 : a ≤ 1048576) : Ev (fun k => g k a 0) (if ((xs.map s).sum : Int) ≤ a then a - (xs.map s).sum else -1) := by
  have key : ∀ d i : Nat, i + d = xs.length → ∀ a : Int, 0 ≤ a → a ≤ 1048576 → Ev (fun k => g k a (i : Int)) (if ((((xs.drop i).map s).sum : Nat) : Int) ≤ a then a - (((xs.drop i).map s).sum : Nat) else -1) := by
    intro d
    induction d with
    | zero =>
      intro i hi a h0 h1
      obtain rfl : i = xs.length := by omega
      rw [List.drop_length]
      simp [h0]
      exact hend a
    | succ d ih =>
      intro i hi a h0 h1
      have hlt : i < xs.length := by omega
      refine hstep i a _ hlt h0 h1 ?_
      rw [List.drop_eq_getElem_cons hlt, List.map_cons, List.sum_cons, getD_eq hlt]
      split
      · rename_i hc
        have h2 := ih (i + 1) (by omega) (a - (s xs[i] : Nat)) (by omega) (by omega)
        have e : (if ((((xs.drop (i + 1)).map s).sum : Nat) : Int) ≤ a - (s xs[i] : Nat) then a - (s xs[i] : Nat) - (((xs.drop (i + 1)).map s).sum : Nat) else -1) = (if ((s xs[i] + ((xs.drop (i + 1)).map s).sum : Nat) : Int) ≤ a then a - (s xs[i] + ((xs.drop (i + 1)).map s).sum : Nat) else -1) := by
          split <;> split <;> omega
        rw [← e]
        exact h2
      · rename_i hc
        rw [if_neg (by omega)]
  have h2 := key xs.length 0 (by omega) a h0 h1
  simpa using h2
theorem sum_getD_le {α : Type} (s : α → Nat) (z : α) : ∀ (xs : List α) (i : Nat), i < xs.length → s (xs.getD i z) ≤ (xs.map s).sum
  | x :: xs, 0, _ => by simp
  | x :: xs, i + 1, h => by
    have := sum_getD_le s z xs i (by simpa using h)
    simp only [List.getD_cons_succ, List.map_cons, List.sum_cons] at this ⊢
    omega
end Go.Proofs.Ytoedcnhgobbnfaa.All

/- Plain laws of szFunc, toFunc, eqFunc over the laws' functions. -/
namespace Go.Proofs.Ytoedcnhgobbnfaa.All
open Go.RowKit Go.Proofs.YtoedcnhgobbnfaaW.PrintWords Go.Proofs.YtoedcnhgobbnfaaW.PrintLast Go.Proofs.YtoedcnhgobbnfaaW.PrintMore
set_option linter.unusedVariables false
set_option linter.unusedSimpArgs false
def iOperand (x : S158) : S75 := ⟨x.f0, x.f1, x.f2, x.f3⟩
def iInstr (x : S140) : S66 := ⟨x.f0, x.f1, x.f2, x.f3, x.f4, x.f5, x.f6.map iOperand, x.f7, x.f8⟩
def iBlock (x : S96) : S62 := ⟨x.f0.map iInstr⟩
def sInstr (x : S140) : Nat := x.f6.length + x.f7.length + x.f8.length
def sInstrS (xs : List S140) : Nat := xs.length + (xs.map sInstr).sum
def sBlock (x : S96) : Nat := sInstrS x.f0
def sBlockS (xs : List S96) : Nat := xs.length + (xs.map sBlock).sum
/-- What is known of lengths: each list's own is a machine number. -/
def lInstr (x : S140) : Prop := x.f6.length ≤ 9223372036854775807 ∧ x.f7.length ≤ 9223372036854775807 ∧ x.f8.length ≤ 9223372036854775807
def lInstrS (xs : List S140) : Prop := xs.length ≤ 9223372036854775807 ∧ ∀ x ∈ xs, lInstr x
def lBlockS (xs : List S96) : Prop := xs.length ≤ 9223372036854775807 ∧ ∀ x ∈ xs, lInstrS x.f0
theorem szInt64S_f (l : List Int) (a : Int) (h0 : 0 ≤ a) (h1 : a ≤ 1048576) (hl : l.length ≤ 9223372036854775807) : laws_szInt64S.f l a = some (if (l.length : Int) ≤ a then a - l.length else -1) := by
  unfold laws_szInt64S.f; rw [wrap64_id (by omega) (by omega)]
  by_cases h : (l.length : Int) ≤ a
  · rw [if_neg (by omega), if_pos h]
  · rw [if_pos (by omega), if_neg h]
theorem szUint64S_f (l : List Int) (a : Int) (h0 : 0 ≤ a) (h1 : a ≤ 1048576) (hl : l.length ≤ 9223372036854775807) : laws_szUint64S.f l a = some (if (l.length : Int) ≤ a then a - l.length else -1) := by
  unfold laws_szUint64S.f; rw [wrap64_id (by omega) (by omega)]
  by_cases h : (l.length : Int) ≤ a
  · rw [if_neg (by omega), if_pos h]
  · rw [if_pos (by omega), if_neg h]
theorem szOperandS_f (l : List S158) (a : Int) (h0 : 0 ≤ a) (h1 : a ≤ 1048576) (hl : l.length ≤ 9223372036854775807) : laws_szOperandS.f l a = some (if (l.length : Int) ≤ a then a - l.length else -1) := by
  unfold laws_szOperandS.f; rw [wrap64_id (by omega) (by omega)]
  by_cases h : (l.length : Int) ≤ a
  · rw [if_neg (by omega), if_pos h]
  · rw [if_pos (by omega), if_neg h]
theorem szInstr_f (x : S140) (a : Int) (h0 : 0 ≤ a) (h1 : a ≤ 1048576) (hx : lInstr x) : laws_szInstr.f x.f0 x.f1 x.f2 x.f3 x.f4 x.f5 x.f6 x.f7 x.f8 a = some (if (sInstr x : Int) ≤ a then a - sInstr x else -1) := by
  obtain ⟨l6, l7, l8⟩ := hx
  unfold laws_szInstr.f sInstr
  rw [szOperandS_f _ _ h0 h1 l6]; simp only [Option.bind_some]
  by_cases c6 : (x.f6.length : Int) ≤ a
  · rw [if_pos c6, if_neg (by omega), szInt64S_f _ _ (by omega) (by omega) l7]; simp only [Option.bind_some]
    by_cases c7 : (x.f7.length : Int) ≤ a - x.f6.length
    · rw [if_pos c7, if_neg (by omega), szUint64S_f _ _ (by omega) (by omega) l8]; simp only [Option.bind_some]
      by_cases c8 : (x.f8.length : Int) ≤ a - x.f6.length - x.f7.length
      · rw [if_pos c8, if_neg (by omega), if_pos (by omega)]; congr 1; omega
      · rw [if_neg c8, if_pos (by omega), if_neg (by omega)]
    · rw [if_neg c7, if_pos (by omega), if_neg (by omega)]
  · rw [if_neg c6, if_pos (by omega), if_neg (by omega)]
theorem szInstrS_f (xs : List S140) (a : Int) (h0 : 0 ≤ a) (h1 : a ≤ 1048576) (hx : lInstrS xs) : Ev (fun k => laws_szInstrS.f k xs a) (if (sInstrS xs : Int) ≤ a then a - sInstrS xs else -1) := by
  obtain ⟨hl, hx⟩ := hx
  unfold laws_szInstrS.f
  rw [wrap64_id (by omega) (by omega)]
  by_cases c : (xs.length : Int) ≤ a
  · refine Ev.neg (by omega) ?_
    have h := sz_gen sInstr z140 xs (fun k a i => laws_szInstrS.l0 k xs a i) (fun i a r hi h0 h1 h => by
      refine Ev.succ ?_
      simp only [laws_szInstrS.l0]
      refine Ev.pos (by omega) (Ev.pos (by omega) ?_)
      have hm : lInstr (rd_T140 xs i) := hx _ (by simp only [rd_T140, Int.toNat_natCast]; rw [getD_eq hi]; exact List.getElem_mem hi)
      refine Ev.eq_bind (szInstr_f _ a h0 h1 hm) ?_
      have e : rd_T140 xs i = xs.getD i z140 := by simp [rd_T140]
      rw [e]
      split at h
      · rename_i hc
        rw [if_pos hc, wrap64_nat (by omega)]
        exact Ev.neg (by omega) h
      · rename_i hc
        rw [if_neg hc]
        exact Ev.pos (by omega) (Ev.some h.symm)) (fun a => by
      refine Ev.succ ?_
      simp only [laws_szInstrS.l0]
      exact Ev.neg (by omega) (Ev.now _)) (a - xs.length) (by omega) (by omega)
    have e : (if ((xs.map sInstr).sum : Int) ≤ a - xs.length then a - xs.length - (xs.map sInstr).sum else -1) = (if (sInstrS xs : Int) ≤ a then a - sInstrS xs else -1) := by unfold sInstrS; split <;> split <;> omega
    rw [← e]
    exact h
  · rw [if_neg (by unfold sInstrS; omega)]
    exact Ev.pos (by omega) (Ev.now _)
theorem szBlockS_f (xs : List S96) (a : Int) (h0 : 0 ≤ a) (h1 : a ≤ 1048576) (hx : lBlockS xs) : Ev (fun k => laws_szBlockS.f k xs a) (if (sBlockS xs : Int) ≤ a then a - sBlockS xs else -1) := by
  obtain ⟨hl, hx⟩ := hx
  unfold laws_szBlockS.f
  rw [wrap64_id (by omega) (by omega)]
  by_cases c : (xs.length : Int) ≤ a
  · refine Ev.neg (by omega) ?_
    have h := sz_gen sBlock z96 xs (fun k a i => laws_szBlockS.l0 k xs a i) (fun i a r hi h0 h1 h => by
      refine Ev.succ ?_
      simp only [laws_szBlockS.l0]
      refine Ev.pos (by omega) (Ev.pos (by omega) ?_)
      have hm : lInstrS (rd_T96 xs i).f0 := hx _ (by simp only [rd_T96, Int.toNat_natCast]; rw [getD_eq hi]; exact List.getElem_mem hi)
      have e : rd_T96 xs i = xs.getD i z96 := by simp [rd_T96]
      rw [e] at hm ⊢
      have h2 := szInstrS_f _ a h0 h1 hm
      unfold laws_szBlock.f
      split at h
      · rename_i hc
        rw [if_pos (show (sInstrS (xs.getD i z96).f0 : Int) ≤ a from hc)] at h2
        refine Ev.bind (Ev.bind h2 (Ev.neg (by unfold sBlock at hc; omega) (Ev.now _))) ?_
        rw [wrap64_nat (by omega)]
        exact Ev.neg (by unfold sBlock at hc; omega) h
      · rename_i hc
        rw [if_neg (show ¬ (sInstrS (xs.getD i z96).f0 : Int) ≤ a from hc)] at h2
        refine Ev.bind (Ev.bind h2 (Ev.pos (by omega) (Ev.now _))) ?_
        exact Ev.pos (by omega) (Ev.some h.symm)) (fun a => by
      refine Ev.succ ?_
      simp only [laws_szBlockS.l0]
      exact Ev.neg (by omega) (Ev.now _)) (a - xs.length) (by omega) (by omega)
    have e : (if ((xs.map sBlock).sum : Int) ≤ a - xs.length then a - xs.length - (xs.map sBlock).sum else -1) = (if (sBlockS xs : Int) ≤ a then a - sBlockS xs else -1) := by unfold sBlockS; split <;> split <;> omega
    rw [← e]
    exact h
  · rw [if_neg (by unfold sBlockS; omega)]
    exact Ev.pos (by omega) (Ev.now _)
theorem szFunc_f (n : ByteArray) (b : Int) (ps : List Int) (c : Int) (bs : List S96) (hn : n.size ≤ 9223372036854775807) (hp : ps.length ≤ 9223372036854775807) (hb : lBlockS bs) :
    ∃ r, Ev (fun k => laws_szFunc.f k n b ps c bs 1048576) r ∧ (r < 0 ∨ n.size + ps.length + sBlockS bs ≤ 1048576) := by
  unfold laws_szFunc.f
  rw [wrap64_id (by omega) (by omega)]
  by_cases c1 : (n.size : Int) ≤ 1048576
  · by_cases c2 : (ps.length : Int) ≤ 1048576 - n.size
    · by_cases c3 : (sBlockS bs : Int) ≤ 1048576 - n.size - ps.length
      · refine ⟨1048576 - n.size - ps.length - sBlockS bs, Ev.neg (by omega) ?_, .inr (by omega)⟩
        refine Ev.eq_bind (szInt64S_f _ _ (by omega) (by omega) hp) ?_
        rw [if_pos c2]
        refine Ev.neg (by omega) ?_
        have h := szBlockS_f bs (1048576 - n.size - ps.length) (by omega) (by omega) hb
        rw [if_pos c3] at h
        exact Ev.bind h (Ev.neg (by omega) (Ev.now _))
      · refine ⟨-1, Ev.neg (by omega) ?_, .inl (by omega)⟩
        refine Ev.eq_bind (szInt64S_f _ _ (by omega) (by omega) hp) ?_
        rw [if_pos c2]
        refine Ev.neg (by omega) ?_
        have h := szBlockS_f bs (1048576 - n.size - ps.length) (by omega) (by omega) hb
        rw [if_neg c3] at h
        exact Ev.bind h (Ev.pos (by omega) (Ev.now _))
    · refine ⟨-1, Ev.neg (by omega) ?_, .inl (by omega)⟩
      refine Ev.eq_bind (szInt64S_f _ _ (by omega) (by omega) hp) ?_
      rw [if_neg c2]
      exact Ev.pos (by omega) (Ev.now _)
  · exact ⟨-1, Ev.pos (by omega) (Ev.now _), .inl (by omega)⟩

/-! ### to -/
theorem toInt64S_f (l : List Int) (hl : l.length ≤ 1048576) : Ev (fun k => laws_toInt64S.f k l) l := by
  unfold laws_toInt64S.f
  refine Ev.pos (by omega) (Ev.pos (by omega) ?_)
  have h := to_gen (fun x : Int => x) 0 0 l (fun k out i => laws_toInt64S.l0 k l out i) (fun i out r hi ho h => by
    refine Ev.succ ?_
    simp only [laws_toInt64S.l0]
    refine Ev.pos (by omega) (Ev.pos (by omega) (Ev.pos (by omega) ?_))
    rw [wrap64_nat (by omega)]
    simpa [rd] using h) (fun out _ => by
    refine Ev.succ ?_
    simp only [laws_toInt64S.l0]
    exact Ev.neg (by omega) (Ev.now _))
  simpa using h
theorem toUint64S_f (l : List Int) (hl : l.length ≤ 1048576) : Ev (fun k => laws_toUint64S.f k l) l := by
  unfold laws_toUint64S.f
  refine Ev.pos (by omega) (Ev.pos (by omega) ?_)
  have h := to_gen (fun x : Int => x) 0 0 l (fun k out i => laws_toUint64S.l0 k l out i) (fun i out r hi ho h => by
    refine Ev.succ ?_
    simp only [laws_toUint64S.l0]
    refine Ev.pos (by omega) (Ev.pos (by omega) (Ev.pos (by omega) ?_))
    rw [wrap64_nat (by omega)]
    simpa [rd] using h) (fun out _ => by
    refine Ev.succ ?_
    simp only [laws_toUint64S.l0]
    exact Ev.neg (by omega) (Ev.now _))
  simpa using h
theorem toOperandS_f (l : List S158) (hl : l.length ≤ 1048576) : Ev (fun k => laws_toOperandS.f k l) (l.map iOperand) := by
  unfold laws_toOperandS.f
  refine Ev.pos (by omega) (Ev.pos (by omega) ?_)
  have h := to_gen iOperand z75 z158 l (fun k out i => laws_toOperandS.l0 k l out i) (fun i out r hi ho h => by
    refine Ev.succ ?_
    simp only [laws_toOperandS.l0]
    refine Ev.pos (by omega) (Ev.pos (by omega) (Ev.eq_bind (by unfold laws_toOperand.f; rfl) (Ev.pos (by omega) ?_)))
    rw [wrap64_nat (by omega)]
    simpa [rd_T158, iOperand] using h) (fun out _ => by
    refine Ev.succ ?_
    simp only [laws_toOperandS.l0]
    exact Ev.neg (by omega) (Ev.now _))
  simpa using h
theorem toInstrS_f (l : List S140) (hl : sInstrS l ≤ 1048576) : Ev (fun k => laws_toInstrS.f k l) (l.map iInstr) := by
  unfold laws_toInstrS.f
  have hl1 : l.length ≤ 1048576 := by unfold sInstrS at hl; omega
  refine Ev.pos (by omega) (Ev.pos (by omega) ?_)
  have h := to_gen iInstr z66 z140 l (fun k out i => laws_toInstrS.l0 k l out i) (fun i out r hi ho h => by
    refine Ev.succ ?_
    simp only [laws_toInstrS.l0]
    have hs := sum_getD_le sInstr z140 l i hi
    have e : rd_T140 l i = l.getD i z140 := by simp [rd_T140]
    rw [e]
    have hz : sInstr (l.getD i z140) = (l.getD i z140).f6.length + (l.getD i z140).f7.length + (l.getD i z140).f8.length := rfl
    unfold sInstrS at hl
    refine Ev.pos (by omega) (Ev.pos (by omega) (Ev.bind (a := ((l.getD i z140).f0, (l.getD i z140).f1, (l.getD i z140).f2, (l.getD i z140).f3, (l.getD i z140).f4, (l.getD i z140).f5, (l.getD i z140).f6.map iOperand, (l.getD i z140).f7, (l.getD i z140).f8)) ?_ (Ev.pos (by omega) ?_)))
    · unfold laws_toInstr.f
      exact Ev.bind (toOperandS_f _ (by omega)) (Ev.bind (toInt64S_f _ (by omega)) (Ev.bind (toUint64S_f _ (by omega)) (Ev.now _)))
    · rw [wrap64_nat (by omega)]
      exact h) (fun out _ => by
    refine Ev.succ ?_
    simp only [laws_toInstrS.l0]
    exact Ev.neg (by omega) (Ev.now _))
  simpa using h
theorem toBlockS_f (l : List S96) (hl : sBlockS l ≤ 1048576) : Ev (fun k => laws_toBlockS.f k l) (l.map iBlock) := by
  unfold laws_toBlockS.f
  have hl1 : l.length ≤ 1048576 := by unfold sBlockS at hl; omega
  refine Ev.pos (by omega) (Ev.pos (by omega) ?_)
  have h := to_gen iBlock z62 z96 l (fun k out i => laws_toBlockS.l0 k l out i) (fun i out r hi ho h => by
    refine Ev.succ ?_
    simp only [laws_toBlockS.l0]
    have hs := sum_getD_le sBlock z96 l i hi
    have e : rd_T96 l i = l.getD i z96 := by simp [rd_T96]
    rw [e]
    have hz : sBlock (l.getD i z96) = sInstrS (l.getD i z96).f0 := rfl
    unfold sBlockS at hl
    refine Ev.pos (by omega) (Ev.pos (by omega) (Ev.bind (a := (l.getD i z96).f0.map iInstr) ?_ (Ev.pos (by omega) ?_)))
    · unfold laws_toBlock.f
      exact Ev.bind (toInstrS_f _ (by omega)) (Ev.now _)
    · rw [wrap64_nat (by omega)]
      exact h) (fun out _ => by
    refine Ev.succ ?_
    simp only [laws_toBlockS.l0]
    exact Ev.neg (by omega) (Ev.now _))
  simpa using h
theorem toFunc_f (n : ByteArray) (b : Int) (ps : List Int) (c : Int) (bs : List S96) (h : n.size + ps.length + sBlockS bs ≤ 1048576) : Ev (fun k => laws_toFunc.f k n b ps c bs) (n, b, ps, c, bs.map iBlock) := by
  unfold laws_toFunc.f
  exact Ev.bind (toInt64S_f _ (by omega)) (Ev.bind (toBlockS_f _ (by omega)) (Ev.now _))

/-! ### eq, of one value with itself -/
theorem eqInt64S_f (l : List Int) (hl : l.length ≤ 9223372036854775806) : Ev (fun k => laws_eqInt64S.f k l l) true := by
  unfold laws_eqInt64S.f
  refine Ev.pos rfl (all_gen l.length (fun k i => laws_eqInt64S.l0 k l l i) (fun i hi h => ?_) ?_)
  · refine Ev.succ ?_
    simp only [laws_eqInt64S.l0]
    rw [wrap64_nat (by omega)]
    exact Ev.pos (by omega) (Ev.pos (by omega) (Ev.pos (by omega) (Ev.pos trivial h)))
  · refine Ev.succ ?_
    simp only [laws_eqInt64S.l0]
    exact Ev.neg (by omega) (Ev.now _)
theorem eqUint64S_f (l : List Int) (hl : l.length ≤ 9223372036854775806) : Ev (fun k => laws_eqUint64S.f k l l) true := by
  unfold laws_eqUint64S.f
  refine Ev.pos rfl (all_gen l.length (fun k i => laws_eqUint64S.l0 k l l i) (fun i hi h => ?_) ?_)
  · refine Ev.succ ?_
    simp only [laws_eqUint64S.l0]
    rw [wrap64_nat (by omega)]
    exact Ev.pos (by omega) (Ev.pos (by omega) (Ev.pos (by omega) (Ev.pos trivial h)))
  · refine Ev.succ ?_
    simp only [laws_eqUint64S.l0]
    exact Ev.neg (by omega) (Ev.now _)
theorem eqOperandS_f (l : List S75) (hl : l.length ≤ 9223372036854775806) : Ev (fun k => laws_eqOperandS.f k l l) true := by
  unfold laws_eqOperandS.f
  refine Ev.pos rfl (all_gen l.length (fun k i => laws_eqOperandS.l0 k l l i) (fun i hi h => ?_) ?_)
  · refine Ev.succ ?_
    simp only [laws_eqOperandS.l0]
    rw [wrap64_nat (by omega)]
    exact Ev.pos (by omega) (Ev.pos (by omega) (Ev.pos (by omega) (Ev.eq_bind (a := true) (by simp [laws_eqOperand.f]) (Ev.pos rfl h))))
  · refine Ev.succ ?_
    simp only [laws_eqOperandS.l0]
    exact Ev.neg (by omega) (Ev.now _)
def bInstr (x : S66) : Prop := x.f6.length ≤ 1048576 ∧ x.f7.length ≤ 1048576 ∧ x.f8.length ≤ 1048576
def bBlock (x : S62) : Prop := x.f0.length ≤ 1048576 ∧ ∀ y ∈ x.f0, bInstr y
theorem eqInstr_f (x : S66) (h : bInstr x) : Ev (fun k => laws_eqInstr.f k x.f0 x.f1 x.f2 x.f3 x.f4 x.f5 x.f6 x.f7 x.f8 x.f0 x.f1 x.f2 x.f3 x.f4 x.f5 x.f6 x.f7 x.f8) true := by
  obtain ⟨h6, h7, h8⟩ := h
  unfold laws_eqInstr.f
  exact Ev.pos rfl (Ev.pos rfl (Ev.pos rfl (Ev.pos rfl (Ev.pos rfl (Ev.pos rfl (Ev.bind (eqOperandS_f _ (by omega)) (Ev.pos rfl (Ev.bind (eqInt64S_f _ (by omega)) (Ev.pos rfl (Ev.bind (eqUint64S_f _ (by omega)) (Ev.pos rfl (Ev.now _))))))))))))
theorem eqInstrS_f (l : List S66) (hl : l.length ≤ 1048576) (hb : ∀ y ∈ l, bInstr y) : Ev (fun k => laws_eqInstrS.f k l l) true := by
  unfold laws_eqInstrS.f
  refine Ev.pos rfl (all_gen l.length (fun k i => laws_eqInstrS.l0 k l l i) (fun i hi h => ?_) ?_)
  · refine Ev.succ ?_
    simp only [laws_eqInstrS.l0]
    rw [wrap64_nat (by omega)]
    have hm : bInstr (rd_T66 l i) := hb _ (by simp only [rd_T66, Int.toNat_natCast]; rw [getD_eq hi]; exact List.getElem_mem hi)
    exact Ev.pos (by omega) (Ev.pos (by omega) (Ev.pos (by omega) (Ev.bind (eqInstr_f _ hm) (Ev.pos rfl h))))
  · refine Ev.succ ?_
    simp only [laws_eqInstrS.l0]
    exact Ev.neg (by omega) (Ev.now _)
theorem eqBlockS_f (l : List S62) (hl : l.length ≤ 1048576) (hb : ∀ y ∈ l, bBlock y) : Ev (fun k => laws_eqBlockS.f k l l) true := by
  unfold laws_eqBlockS.f
  refine Ev.pos rfl (all_gen l.length (fun k i => laws_eqBlockS.l0 k l l i) (fun i hi h => ?_) ?_)
  · refine Ev.succ ?_
    simp only [laws_eqBlockS.l0]
    rw [wrap64_nat (by omega)]
    have hm : bBlock (rd_T62 l i) := hb _ (by simp only [rd_T62, Int.toNat_natCast]; rw [getD_eq hi]; exact List.getElem_mem hi)
    refine Ev.pos (by omega) (Ev.pos (by omega) (Ev.pos (by omega) (Ev.bind (a := true) ?_ (Ev.pos rfl h))))
    unfold laws_eqBlock.f
    exact Ev.bind (eqInstrS_f _ hm.1 hm.2) (Ev.pos rfl (Ev.now _))
  · refine Ev.succ ?_
    simp only [laws_eqBlockS.l0]
    exact Ev.neg (by omega) (Ev.now _)
theorem eqFunc_f (n : ByteArray) (b : Int) (ps : List Int) (c : Int) (bs : List S62) (hp : ps.length ≤ 1048576) (hl : bs.length ≤ 1048576) (hb : ∀ y ∈ bs, bBlock y) : Ev (fun k => laws_eqFunc.f k n b ps c bs n b ps c bs) true := by
  unfold laws_eqFunc.f
  exact Ev.pos rfl (Ev.pos rfl (Ev.bind (eqInt64S_f _ (by omega)) (Ev.pos rfl (Ev.pos rfl (Ev.bind (eqBlockS_f _ hl hb) (Ev.pos rfl (Ev.now _)))))))
theorem bBlock_of (bs : List S96) (h : sBlockS bs ≤ 1048576) : ∀ y ∈ bs.map iBlock, bBlock y := by
  intro y hy
  obtain ⟨x, hx, rfl⟩ := List.mem_map.1 hy
  obtain ⟨i, hi, rfl⟩ := List.getElem_of_mem hx
  have h1 := sum_getD_le sBlock z96 bs i hi
  rw [getD_eq hi] at h1
  have hz : sBlock bs[i] = bs[i].f0.length + (bs[i].f0.map sInstr).sum := rfl
  unfold sBlockS at h
  refine ⟨by show (bs[i].f0.map iInstr).length ≤ _; rw [List.length_map]; omega, fun z hz2 => ?_⟩
  obtain ⟨u, hu, rfl⟩ := List.mem_map.1 (show z ∈ bs[i].f0.map iInstr from hz2)
  obtain ⟨j, hj, rfl⟩ := List.getElem_of_mem hu
  have h2 := sum_getD_le sInstr z140 bs[i].f0 j hj
  rw [getD_eq hj] at h2
  have hz3 : sInstr bs[i].f0[j] = bs[i].f0[j].f6.length + bs[i].f0[j].f7.length + bs[i].f0[j].f8.length := rfl
  refine ⟨?_, ?_, ?_⟩
  · show (bs[i].f0[j].f6.map iOperand).length ≤ _; rw [List.length_map]; omega
  · show bs[i].f0[j].f7.length ≤ _; omega
  · show bs[i].f0[j].f8.length ≤ _; omega
end Go.Proofs.Ytoedcnhgobbnfaa.All

/- What reads as data has machine lengths. -/
namespace Go.Proofs.Ytoedcnhgobbnfaa.All
open Go.RowKit Go.Proofs.YtoedcnhgobbnfaaW.PrintWords Go.Proofs.YtoedcnhgobbnfaaW.PrintLast Go.Proofs.YtoedcnhgobbnfaaW.PrintMore
set_option linter.unusedVariables false
set_option linter.unusedSimpArgs false
theorem lBlockS_ok {l : List S96} (h : l.length ≤ 9223372036854775807 ∧ ∀ y ∈ l, ok96 y) : lBlockS l := by
  refine ⟨h.1, fun b hb => ?_⟩
  have h1 := h.2 b hb
  unfold ok96 at h1
  refine ⟨h1.1, fun x hx => ?_⟩
  have h2 := h1.2 x hx
  unfold ok140 at h2
  obtain ⟨_, _, _, _, _, _, h6, h7, h8⟩ := h2
  exact ⟨h6.1, h7.1, h8.1⟩
end Go.Proofs.Ytoedcnhgobbnfaa.All

/- Plain laws: a result's own cells marked, and found marked. -/
namespace Go.Proofs.Ytoedcnhgobbnfaa.All
open Go.RowKit Go.Proofs.YtoedcnhgobbnfaaW.PrintWords Go.Proofs.YtoedcnhgobbnfaaW.PrintLast Go.Proofs.YtoedcnhgobbnfaaW.PrintMore
set_option linter.unusedVariables false
set_option linter.unusedSimpArgs false
def marks (n : Nat) : List Int := (List.range n).map fun (j : Nat) => (1 : Int) + (j : Int)
theorem marks_length (n : Nat) : (marks n).length = n := by simp [marks]
theorem marks_at (n i : Nat) (h : i < n) : rd (marks n) i = 1 + i := by
  simp [rd, marks, List.getElem?_range, h]
theorem markInt64S_f (l : List Int) (hl : l.length ≤ 1000000000000) : Ev (fun k => laws_markInt64S.f k l 1) ((1 : Int) + (l.length : Nat), marks l.length) := by
  unfold laws_markInt64S.f marks
  refine mk_gen (fun (j : Nat) => (1 : Int) + (j : Int)) l (fun out => ((1 : Int) + (l.length : Nat), out)) (fun k out i => laws_markInt64S.l0 k out (1 + i) i) (fun i out r hi ho h => ?_) (fun out ho => ?_)
  · refine Ev.succ ?_
    simp only [laws_markInt64S.l0]
    refine Ev.pos (by omega) (Ev.pos (by omega) ?_)
    rw [wrap64_nat (by omega), wrap64_id (by omega) (by omega)]
    have e : (1 : Int) + ((i + 1 : Nat) : Int) = 1 + (i : Int) + 1 := by omega
    rw [e] at h
    simpa using h
  · refine Ev.succ ?_
    simp only [laws_markInt64S.l0]
    exact Ev.neg (by omega) (Ev.now _)
theorem heldInt64S_f (n : Nat) (hl : n ≤ 1000000000000) : Ev (fun k => laws_heldInt64S.f k (marks n) 1) ((1 : Int) + (n : Nat)) := by
  unfold laws_heldInt64S.f
  refine for_gen ((1 : Int) + (n : Nat)) n (fun k i => laws_heldInt64S.l0 k (marks n) (1 + i) i) (fun i hi h => ?_) ?_
  · refine Ev.succ ?_
    simp only [laws_heldInt64S.l0]
    rw [marks_at n i hi]
    refine Ev.pos (by rw [marks_length]; omega) (Ev.pos (by omega) (Ev.pos rfl ?_))
    rw [wrap64_nat (by omega), wrap64_id (by omega) (by omega)]
    have e : (1 : Int) + ((i + 1 : Nat) : Int) = 1 + (i : Int) + 1 := by omega
    rw [e] at h
    exact h
  · refine Ev.succ ?_
    simp only [laws_heldInt64S.l0]
    exact Ev.neg (by rw [marks_length]; omega) (Ev.now _)
end Go.Proofs.Ytoedcnhgobbnfaa.All

/- How many cells the laws mark. -/
namespace Go.Proofs.Ytoedcnhgobbnfaa.All
open Go.RowKit Go.Proofs.YtoedcnhgobbnfaaW.PrintWords Go.Proofs.YtoedcnhgobbnfaaW.PrintLast Go.Proofs.YtoedcnhgobbnfaaW.PrintMore
set_option linter.unusedVariables false
set_option linter.unusedSimpArgs false
def nB (bs : List S62) : Nat := (bs.map fun b => b.f0.length).sum
theorem cnt_of_s (bs : List S96) : nB (bs.map iBlock) ≤ sBlockS bs ∧ cntL_Block (bs.map iBlock) ≤ 10 * sBlockS bs := by
  have hI : ∀ xs : List S140, cntL_Instr (xs.map iInstr) ≤ 10 * sInstrS xs := by
    intro xs
    unfold cntL_Instr sInstrS
    induction xs with
    | nil => simp
    | cons x xs ih =>
      have h1 : cnt_Instr (iInstr x) = 6 + 4 * x.f6.length + x.f7.length + x.f8.length := by
        unfold cnt_Instr iInstr cntL_int64 cntL_uint64 cntL_Operand
        have h2 : ∀ l : List S158, ((l.map iOperand).map cnt_Operand).sum = 4 * l.length := by
          intro l
          induction l with
          | nil => rfl
          | cons a l ih => simp only [List.map_cons, List.sum_cons, ih, List.length_cons]; have : cnt_Operand (iOperand a) = 4 := rfl; omega
        simp only [h2]
      have h3 : sInstr x = x.f6.length + x.f7.length + x.f8.length := rfl
      simp only [List.map_cons, List.sum_cons, List.length_cons] at ih ⊢
      omega
  unfold nB cntL_Block sBlockS
  induction bs with
  | nil => simp
  | cons x xs ih =>
    have h1 := hI x.f0
    have h2 : cnt_Block (iBlock x) = cntL_Instr (x.f0.map iInstr) := rfl
    have h3 : sBlock x = sInstrS x.f0 := rfl
    have h4 : (iBlock x).f0.length = x.f0.length := by simp [iBlock]
    have h5 : x.f0.length ≤ sInstrS x.f0 := by unfold sInstrS; omega
    simp only [List.map_cons, List.sum_cons, List.length_cons] at ih ⊢
    omega
end Go.Proofs.Ytoedcnhgobbnfaa.All
